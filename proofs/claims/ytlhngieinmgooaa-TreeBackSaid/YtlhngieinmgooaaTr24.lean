/-
  The document's Build: the walk. A part of the proof: see the head of the text that ends in 'Law'.
-/
import Derived.Test.YtlhngieinmgooaaTrPB
import Derived.Test.YtlhngieinmgooaaTr21
namespace Go.Proofs.Ytlhngieinmgooaa
open Go.RowKit
set_option linter.unusedVariables false
set_option linter.unusedSimpArgs false
set_option maxRecDepth 100000
attribute [local go_sem] Oper.semAt_some

theorem u64T : SliceT Try.prog 60 44 (.int .u64 0) 1 8 := ⟨Try.underlying60, by kernel_rfl, rfl, by decide⟩
theorem strT : SliceT Try.prog 28 9 (.string ⟨#[]⟩) 1 16 := ⟨Try.underlying28, by kernel_rfl, rfl, by decide⟩
/-- Texts and numbers, in two rows of one's own. -/
structure RbI (W0 W : World) (A : Option Addr) (c : Nat) (B : Option Addr) (d n : Nat) (ls : List (List UInt8)) (ms : List Nat) : Prop where
  ol : W.ownsRow W0.heap.size 9 1 (.slice A n c) n (ls.map SV)
  om : W.ownsRow W0.heap.size 44 1 (.slice B n d) n (ms.map u64V)
  ll : ls.length = n
  ml : ms.length = n
  bel : Below W0.heap.size W0 W
theorem RbI.below {W0 W W' : World} {A B : Option Addr} {c d n : Nat} {ls : List (List UInt8)} {ms : List Nat} (h : RbI W0 W A c B d n ls ms) (hb : Below W.heap.size W W') : RbI W0 W' A c B d n ls ms :=
  ⟨own_below h.ol hb, own_below h.om hb, h.ll, h.ml, past h.bel hb⟩
theorem leafC_j (l : List Pa) (j : Nat) (h : j < (leafC l).length) : (leavesL l).take (j + 1) = (leavesL l).take j ++ [pageP (leafL (leafC l)[j])] ∧ ((leafC l).map leastP).take (j + 1) = ((leafC l).map leastP).take j ++ [leastP (leafC l)[j]] := by
  have h1 : j < (leavesL l).length := by unfold leavesL; rw [List.length_map]; exact h
  have h2 : j < ((leafC l).map leastP).length := by rw [List.length_map]; exact h
  rw [List.take_succ_eq_append_getElem h1, List.take_succ_eq_append_getElem h2, List.getElem_map]
  refine ⟨?_, rfl⟩
  congr 2
  exact List.getElem_map _
set_option maxHeartbeats 16000000 in
theorem rbuild_any (A : Option Addr) (n c : Nat) (l : List Pa) (w : World) (hr : Row w A (l.flatMap paC)) (hn : l.length = n) (hs : n ≤ 700) (hok : ∀ p ∈ l, p.ok) :
    Calls Try.prog 8 #[.slice A n c] w fun e w' => Below w.heap.size w w' ∧ ∃ A' m c', e = .returned (.slice A' m c') ∧ (buildP l).length = m ∧ w'.ownsRow w.heap.size 9 1 (.slice A' m c') m ((buildP l).map SV) := by
  have HR := hid hr
  have HN := hid hn
  have HOK := hid hok
  obtain ⟨C, hC⟩ : ∃ C, (leafC l).length = C := ⟨_, rfl⟩
  have HCL := hid hC
  have hcn : C = aboveN n 7 := by rw [← hC, leafC_len, hn]
  have hc1 : 1 ≤ C := by rw [hcn]; exact aboveN_pos _ _
  have hc2 : C ≤ 101 := by rw [hcn]; unfold aboveN; split <;> omega
  have hc3 : ∀ j, 0 < j → j < C → 7 * j < n := fun j h1 h2 => by rw [hcn] at h2; unfold aboveN at h2; split at h2 <;> omega
  have hc4 : n ≤ 7 * C := by rw [hcn]; unfold aboveN; split <;> omega
  have HC3 := hid hc3
  have hll : (leavesL l).length = C := by unfold leavesL; rw [List.length_map, hC]
  have HLL := hid hll
  have I0 : Hid (RbI w w none 0 none 0 0 ((leavesL l).take 0) (((leafC l).map leastP).take 0)) := hid ⟨World.ownsRow_nil _ _ _ _, World.ownsRow_nil _ _ _ _, rfl, rfl, Below.refl _ _⟩
  clear hr hn hok hC hcn hc3 hll
  go_enter Try.func8, Try.ntmps8
  go_wp2_with fail
  go_loopw [3, 4, 5] (fun v3 v4 v5 wr => ∃ (j i : Nat) (A1 : Option Addr) (c1 : Nat) (B1 : Option Addr) (d1 : Nat), j ≤ C ∧ Hid (i = 7 * j) ∧ v3 = .slice A1 j c1 ∧ v4 = .slice B1 j d1 ∧ v5 = .int .i64 (i : Int) ∧ Hid (RbI w wr A1 c1 B1 d1 j ((leavesL l).take j) (((leafC l).map leastP).take j))) (fun v3 v4 v5 wr => 7 * C - (intOf v5).toNat)
  case atStart => exact ⟨0, 0, none, 0, none, 0, Nat.zero_le _, hid rfl, rfl, rfl, rfl, I0⟩
  case round =>
    clear I0
    obtain ⟨j, i, A1, c1, B1, d1, hj, Hij, rfl, rfl, rfl, HI⟩ := hrel
    rename World => wr
    by_cases hlt : j < C
    · have hi7 : i ≤ 700 := by have := Hij.out; omega
      have hin : i ≤ n := by
        have := Hij.out
        rcases Nat.eq_zero_or_pos j with h | h
        · omega
        · have := HC3.out j h hlt; omega
      go_upto_region 4 with fail
      go_cut [23] (fun t wx => t = .bool true ∧ wr = wx)
      case first =>
        by_cases h0 : j = 0
        · have hi0 : i = 0 := by have := Hij.out; omega
          clear Hij hin
          subst hi0
          go_wp2_with fail
          go_meet
          exact ⟨rfl, rfl⟩
        · have e0 : ((i : Int) == 0) = false := ne_f (b := 0) (by have := Hij.out; omega)
          have e0n : (i == 0) = false := ne_n (by have := Hij.out; omega)
          have hlt2 : i < n := by have := HC3.out j (by omega) hlt; have := Hij.out; omega
          have e1 := lt_t hlt2
          have e1n := lt_nt hlt2
          go_wp2_with fail
          go_meet
          exact ⟨rfl, rfl⟩
      case rest =>
        obtain ⟨rfl, rfl⟩ := hcut
        obtain ⟨r, hri⟩ : ∃ r, n - i = r := ⟨_, rfl⟩
        have hrI : (n : Int) - (i : Int) = (r : Int) := by omega
        have HRI := hid hri
        clear hri
        go_upto_if 31 with fail
        obtain ⟨q, hq⟩ : ∃ q, (if 7 < r then 7 else r) = q := ⟨_, rfl⟩
        go_cut [6] (fun s6 wx => s6 = .int .i64 (q : Int) ∧ wr = wx)
        case first =>
          by_cases h7 : 7 < r
          · rw [if_pos h7] at hq
            have g7 : decide ((7 : Int) < (r : Int)) = true := by rw [decide_eq_true_iff]; omega
            have g7n : decide (7 < r) = true := by simpa using h7
            subst hq
            go_wp2_with fail
            go_meet
            exact ⟨rfl, rfl⟩
          · rw [if_neg h7] at hq
            have g7 : decide ((7 : Int) < (r : Int)) = false := by rw [decide_eq_false_iff_not]; omega
            have g7n : decide (7 < r) = false := by rw [decide_eq_false_iff_not]; exact h7
            subst hq
            go_wp2_with fail
            go_meet
            exact ⟨rfl, rfl⟩
        case rest =>
        obtain ⟨rfl, rfl⟩ := hcut
        have hjc : j < (leafC l).length := by rw [HCL.out]; exact hlt
        obtain ⟨cs, hcs⟩ : ∃ cs, (leafC l)[j] = cs := ⟨_, rfl⟩
        have HCS : Hid (∃ h : j < (leafC l).length, (leafC l)[j]'h = cs) := hid ⟨hjc, hcs⟩
        have HCG : Hid (cs = (l.drop i).take 7) := hid (by rw [← hcs, leafC_get l j hjc, Hij.out])
        have HQ : Hid (cs.length = q) := hid (by
          rw [HCG.out, List.length_take, List.length_drop, HN.out, HRI.out, ← hq]
          split <;> omega)
        have hq7 : q ≤ 7 := by rw [← hq]; split <;> omega
        have hqr : i + q ≤ n := by
          have := HRI.out
          rw [← hq]
          split <;> omega
        clear hq hjc hcs
        have HO1 := oct_one wr 5 q (by omega)
        have hcv := strP 1 HO1
        have HB1 := hid ((Below.refl wr.heap.size wr).alloc (Nat.le_refl _) (.cells #[.int .u8 (q : Int)] 5))
        have hys : (str [UInt8.ofNat q]).size = 1 := rfl
        have hya : ({ data := #[1] } : ByteArray) ++ str [UInt8.ofNat q] = str [1, UInt8.ofNat q] := str_append [1] [UInt8.ofNat q]
        obtain ⟨y, hy⟩ : ∃ y, str [UInt8.ofNat q] = y := ⟨_, rfl⟩
        rw [hy] at hcv hys hya
        have HYA := hid hya
        clear HO1 hy hya
        go_upto_region 10 with fail
        go_wp2_with fail
        have HYB : Hid (Value.string ({ data := #[1] } ++ y) = .string (str ([1, UInt8.ofNat q] ++ (cs.take 0).flatMap Pa.o))) := hid (by rw [HYA.out]; rfl)
        obtain ⟨W1, hW1⟩ : ∃ W1, wr.alloc (.cells #[.int .u8 (q : Int)] 5) = W1 := ⟨_, rfl⟩
        rw [hW1] at HB1
        rw [hW1]
        clear hW1 hcv HYA
        have hiq : (i : Int) + (q : Int) = ((i + q : Nat) : Int) := by omega
        obtain ⟨iq, hiqn⟩ : ∃ iq, i + q = iq := ⟨_, rfl⟩
        rw [hiqn] at hiq hqr
        have HIQ := hid hiqn
        clear hiqn
        go_loopw [7, 8] (fun v7 v8 wq => ∃ (t k nb : Nat) (x : List UInt8), t ≤ q ∧ nb = 2 + t * 16 ∧ Hid (k = i + t) ∧ k ≤ iq ∧ v7 = .string (str x) ∧ v8 = .int .i64 (k : Int) ∧ Hid (x.length = nb) ∧ Hid (x = [1, UInt8.ofNat q] ++ (cs.take t).flatMap Pa.o) ∧ Hid (Below W1.heap.size W1 wq)) (fun v7 v8 wq => iq - (intOf v8).toNat)
        case atStart => exact ⟨0, i, 2, _, Nat.zero_le _, rfl, hid rfl, by have := HIQ.out; omega, HYB.out, rfl, hid rfl, hid rfl, hid (Below.refl _ _)⟩
        case round =>
          clear HYB
          obtain ⟨t, k, nb, x, ht, hnb, HK, hkq, rfl, rfl, HXL, HX, HBQ⟩ := hrel
          rename World => wq
          have hxs : (str x).size = nb := HXL.out
          by_cases hlt2 : k < iq
          · have e1 := lt_t hlt2
            have e1n := lt_nt hlt2
            have k0 : (0 : Int) ≤ (k : Int) := by omega
            have hkn : k < n := by omega
            have k1 : (k : Int) < (n : Int) := by omega
            have k2 : (k : Int).toNat = k := by omega
            have hkl : k < l.length := by rw [HN.out]; exact hkn
            obtain ⟨b, off, rfl, hc⟩ := pa_at HR.out hkl
            have hbw : Below w.heap.size w wq := past (past HI.out.bel HB1.out) HBQ.out
            have x0 := cells_keep hbw (hc k hkl).1
            have x1 := cells_keep hbw (hc k hkl).2
            obtain ⟨p, hp⟩ : ∃ p, l[k]'hkl = p := ⟨_, rfl⟩
            obtain ⟨hpk, hpv⟩ : p.ok := HOK.out p (hp ▸ List.getElem_mem hkl)
            rw [hp] at x0 x1
            have htq : t < cs.length := by have := HIQ.out; have := HK.out; rw [HQ.out]; omega
            have htd : t < ((l.drop i).take 7).length := by rw [← HCG.out]; exact htq
            have HST : Hid ((cs.take (t + 1)).flatMap Pa.o = (cs.take t).flatMap Pa.o ++ p.o) := hid (by
              have hct : cs[t]'htq = p := by
                rw [← hp]
                simp only [HCG.out, List.getElem_take, List.getElem_drop, HK.out]
              rw [List.take_succ_eq_append_getElem htq, List.flatMap_append, hct]
              simp)
            have HNB := hid hnb
            have hnb2 : nb ≤ 120 := by rw [HQ.out] at htq; omega
            have h0 : (wq.cell? ⟨b, off + k * 2, none⟩ = some (.int .u64 (p.key : Int)) ∧ wq.cell? ⟨b, off + k * 2 + 1, none⟩ = some (.int .u64 (p.val : Int))) ∧ Hid (Below wq.heap.size wq wq) := ⟨⟨x0, x1⟩, hid (Below.refl _ _)⟩
            have HSK := hid (fun (U V : World) (h : (U.cell? ⟨b, off + k * 2, none⟩ = some (.int .u64 (p.key : Int)) ∧ U.cell? ⟨b, off + k * 2 + 1, none⟩ = some (.int .u64 (p.val : Int))) ∧ Hid (Below wq.heap.size wq U)) (hb : Below U.heap.size U V) =>
              (show (V.cell? ⟨b, off + k * 2, none⟩ = some (.int .u64 (p.key : Int)) ∧ V.cell? ⟨b, off + k * 2 + 1, none⟩ = some (.int .u64 (p.val : Int))) ∧ Hid (Below wq.heap.size wq V) from ⟨⟨cells_keep hb h.1.1, cells_keep hb h.1.2⟩, hid (past h.2.out hb)⟩))
            obtain ⟨x2, hx2⟩ : ∃ x2, x ++ p.o = x2 := ⟨_, rfl⟩
            have HX2 := hid hx2
            have hs8a : (str (putL p.key 8)).size = 8 := by rw [str_size, putL_length]
            have hs8b : (str (putL p.val 8)).size = 8 := by rw [str_size, putL_length]
            clear hc hkl hbw hp htq htd hnb hx2
            clear x0 x1
            go_upto_region 13 with fail
            have h0' : (wq.drew.cell? ⟨b, off + k * 2, none⟩ = some (.int .u64 (p.key : Int)) ∧ wq.drew.cell? ⟨b, off + k * 2 + 1, none⟩ = some (.int .u64 (p.val : Int))) ∧ Hid (Below wq.heap.size wq wq.drew) := HSK.out _ _ h0 (bq (Below.refl _ _) 1)
            clear h0
            have hov : ¬ 9223372036854775807 < nb + 16 := by omega
            have HE : Hid (.string (str x ++ (str (putL p.key 8) ++ str (putL p.val 8))) = Value.string (str x2)) := hid (by rw [← HX2.out]; unfold Pa.o; rw [← str_append, ← str_append])
            refine wp_region_noPanic ?_
            refine wp_region_held_drew (S := (fun W => (W.cell? ⟨b, off + k * 2, none⟩ = some (.int .u64 (p.key : Int)) ∧ W.cell? ⟨b, off + k * 2 + 1, none⟩ = some (.int .u64 (p.val : Int))) ∧ Hid (Below wq.heap.size wq W))) (by kernel_rfl) (by first | assumption | trivial) (fun hHeld => ?_)
            refine wpAnyH_take (i := 0) (v := ?_) rfl (by kernel_rfl) (by kernel_rfl) (by kernel_rfl) (fun _ _ _ h => h) (Or.inl ⟨by kernel_rfl, ?_⟩) (by first | assumption | trivial) ?_
            rotate_left
            · (intro wS hSw; (try dsimp only at hSw); go_simp; try with_reducible rfl)
            (try simp only [List.append_eq, List.cons_append, List.nil_append, List.getElem_toArray, List.getElem_cons_succ, List.getElem_cons_zero, Act.put, List.setIfInBounds_toArray, List.set_cons_zero, List.set_cons_succ])
            refine wpAnyH_take (i := 1) (v := ?_) rfl (by kernel_rfl) (by kernel_rfl) (by kernel_rfl) (fun _ _ _ h => h) (Or.inl ⟨by kernel_rfl, ?_⟩) (by first | assumption | trivial) ?_
            rotate_left
            · (intro wS hSw; (try dsimp only at hSw); go_simp; try with_reducible rfl)
            (try simp only [List.append_eq, List.cons_append, List.nil_append, List.getElem_toArray, List.getElem_cons_succ, List.getElem_cons_zero, Act.put, List.setIfInBounds_toArray, List.set_cons_zero, List.set_cons_succ])
            refine wpAnyH_take (i := 2) (v := ?_) rfl (by kernel_rfl) (by kernel_rfl) (by kernel_rfl) (fun _ _ _ h => h) (Or.inl ⟨by kernel_rfl, ?_⟩) (by first | assumption | trivial) ?_
            rotate_left
            · (intro wS hSw; (try dsimp only at hSw); go_simp; try with_reducible rfl)
            (try simp only [List.append_eq, List.cons_append, List.nil_append, List.getElem_toArray, List.getElem_cons_succ, List.getElem_cons_zero, Act.put, List.setIfInBounds_toArray, List.set_cons_zero, List.set_cons_succ])
            refine wpAnyH_take (i := 3) (v := ?_) rfl (by kernel_rfl) (by kernel_rfl) (by kernel_rfl) (fun _ _ _ h => h) (Or.inl ⟨by kernel_rfl, ?_⟩) (by first | assumption | trivial) ?_
            rotate_left
            · (intro wS hSw; (try dsimp only at hSw); go_simp; try with_reducible rfl)
            (try simp only [List.append_eq, List.cons_append, List.nil_append, List.getElem_toArray, List.getElem_cons_succ, List.getElem_cons_zero, Act.put, List.setIfInBounds_toArray, List.set_cons_zero, List.set_cons_succ])
            refine wpAnyH_take (i := 4) (v := ?_) rfl (by kernel_rfl) (by kernel_rfl) (by kernel_rfl) (fun _ _ _ h => h) (Or.inl ⟨by kernel_rfl, ?_⟩) (by first | assumption | trivial) ?_
            rotate_left
            · (intro wS hSw; (try dsimp only at hSw); go_simp; try with_reducible rfl)
            (try simp only [List.append_eq, List.cons_append, List.nil_append, List.getElem_toArray, List.getElem_cons_succ, List.getElem_cons_zero, Act.put, List.setIfInBounds_toArray, List.set_cons_zero, List.set_cons_succ])
            refine wpAnyH_take (i := 5) (v := ?_) rfl (by kernel_rfl) (by kernel_rfl) (by kernel_rfl) (fun _ _ _ h => h) (Or.inl ⟨by kernel_rfl, ?_⟩) (by first | assumption | trivial) ?_
            rotate_left
            · (intro wS hSw; (try dsimp only at hSw); go_simp; try with_reducible rfl)
            (try simp only [List.append_eq, List.cons_append, List.nil_append, List.getElem_toArray, List.getElem_cons_succ, List.getElem_cons_zero, Act.put, List.setIfInBounds_toArray, List.set_cons_zero, List.set_cons_succ])
            refine wpAnyH_take (i := 7) (v := ?_) rfl (by kernel_rfl) (by kernel_rfl) (by kernel_rfl) (fun _ _ _ h => h) (Or.inl ⟨by kernel_rfl, ?_⟩) (by first | assumption | trivial) ?_
            rotate_left
            · (intro wS hSw; (try dsimp only at hSw); go_simp; try with_reducible rfl)
            (try simp only [List.append_eq, List.cons_append, List.nil_append, List.getElem_toArray, List.getElem_cons_succ, List.getElem_cons_zero, Act.put, List.setIfInBounds_toArray, List.set_cons_zero, List.set_cons_succ])
            refine wpAnyH_take (i := 8) (v := ?_) rfl (by kernel_rfl) (by kernel_rfl) (by kernel_rfl) (fun _ _ _ h => h) (Or.inl ⟨by kernel_rfl, ?_⟩) (by first | assumption | trivial) ?_
            rotate_left
            · (intro wS hSw; (try dsimp only at hSw); go_simp; try with_reducible rfl)
            (try simp only [List.append_eq, List.cons_append, List.nil_append, List.getElem_toArray, List.getElem_cons_succ, List.getElem_cons_zero, Act.put, List.setIfInBounds_toArray, List.set_cons_zero, List.set_cons_succ])
            refine wpAnyH_take (i := 9) (v := ?_) rfl (by kernel_rfl) (by kernel_rfl) (by kernel_rfl) (fun _ _ _ h => h) (Or.inl ⟨by kernel_rfl, ?_⟩) (by first | assumption | trivial) ?_
            rotate_left
            · (intro wS hSw; (try dsimp only at hSw); go_simp; try with_reducible rfl)
            (try simp only [List.append_eq, List.cons_append, List.nil_append, List.getElem_toArray, List.getElem_cons_succ, List.getElem_cons_zero, Act.put, List.setIfInBounds_toArray, List.set_cons_zero, List.set_cons_succ])
            refine wpAnyH_take (i := 10) (v := ?_) rfl (by kernel_rfl) (by kernel_rfl) (by kernel_rfl) (fun _ _ _ h => h) (Or.inl ⟨by kernel_rfl, ?_⟩) (by first | assumption | trivial) ?_
            rotate_left
            · (intro wS hSw; (try dsimp only at hSw); go_simp; try with_reducible rfl)
            (try simp only [List.append_eq, List.cons_append, List.nil_append, List.getElem_toArray, List.getElem_cons_succ, List.getElem_cons_zero, Act.put, List.setIfInBounds_toArray, List.set_cons_zero, List.set_cons_succ])
            refine wpAnyH_take (i := 11) (v := ?_) rfl (by kernel_rfl) (by kernel_rfl) (by kernel_rfl) (fun _ _ _ h => h) (Or.inl ⟨by kernel_rfl, ?_⟩) (by first | assumption | trivial) ?_
            rotate_left
            · (intro wS hSw; (try dsimp only at hSw); go_simp; try with_reducible rfl)
            (try simp only [List.append_eq, List.cons_append, List.nil_append, List.getElem_toArray, List.getElem_cons_succ, List.getElem_cons_zero, Act.put, List.setIfInBounds_toArray, List.set_cons_zero, List.set_cons_succ])
            refine wpAnyH_ready (rs := [6]) (by kernel_rfl) (by simp) ?_
            refine AllReadyH.cons rfl (fun K hK => ?_) AllReadyH.nil
            go_simp
            (go_at_call 23; (with_reducible refine (key8_any p.key _ hpk).mono ?_); rintro e w5 ⟨rfl, b8⟩; have hS8 := HSK.out _ _ hHeld b8; clear b8 hHeld)
            go_wp2_with fail
            refine hK.out _ _ (by first | assumption | trivial) (fun hHeld => ?_)
            clear hK K
            (try simp only [List.append_eq, List.cons_append, List.nil_append, List.getElem_toArray, List.getElem_cons_succ, List.getElem_cons_zero, Act.put, List.setIfInBounds_toArray, List.set_cons_zero, List.set_cons_succ])
            refine wpAnyH_ready (rs := [12]) (by kernel_rfl) (by simp) ?_
            refine AllReadyH.cons rfl (fun K hK => ?_) AllReadyH.nil
            go_simp
            (go_at_call 23; (with_reducible refine (key8_any p.val _ hpv).mono ?_); rintro e w6 ⟨rfl, b8⟩; have hS8 := HSK.out _ _ hHeld b8; clear b8 hHeld)
            go_wp2_with fail
            refine hK.out _ _ (by first | assumption | trivial) (fun hHeld => ?_)
            clear hK K
            (try simp only [List.append_eq, List.cons_append, List.nil_append, List.getElem_toArray, List.getElem_cons_succ, List.getElem_cons_zero, Act.put, List.setIfInBounds_toArray, List.set_cons_zero, List.set_cons_succ])
            refine wpAnyH_take (i := 13) (v := ?_) rfl (by kernel_rfl) (by kernel_rfl) (by kernel_rfl) (fun _ _ _ h => h) (Or.inl ⟨by kernel_rfl, ?_⟩) (by first | assumption | trivial) ?_
            rotate_left
            · (intro wS hSw; (try dsimp only at hSw); go_simp; try with_reducible rfl)
            (try simp only [List.append_eq, List.cons_append, List.nil_append, List.getElem_toArray, List.getElem_cons_succ, List.getElem_cons_zero, Act.put, List.setIfInBounds_toArray, List.set_cons_zero, List.set_cons_succ])
            refine wpAnyH_take (i := 14) (v := ?_) rfl (by kernel_rfl) (by kernel_rfl) (by kernel_rfl) (fun _ _ _ h => h) (Or.inl ⟨by kernel_rfl, ?_⟩) (by first | assumption | trivial) ?_
            rotate_left
            · (intro wS hSw; (try dsimp only at hSw); go_simp; try with_reducible rfl)
            (try simp only [List.append_eq, List.cons_append, List.nil_append, List.getElem_toArray, List.getElem_cons_succ, List.getElem_cons_zero, Act.put, List.setIfInBounds_toArray, List.set_cons_zero, List.set_cons_succ])
            refine wpAnyH_take (i := 15) (v := ?_) rfl (by kernel_rfl) (by kernel_rfl) (by kernel_rfl) (fun _ _ _ h => h) (Or.inl ⟨by kernel_rfl, ?_⟩) (by first | assumption | trivial) ?_
            rotate_left
            · (intro wS hSw; (try dsimp only at hSw); go_simp; try with_reducible rfl)
            (try simp only [List.append_eq, List.cons_append, List.nil_append, List.getElem_toArray, List.getElem_cons_succ, List.getElem_cons_zero, Act.put, List.setIfInBounds_toArray, List.set_cons_zero, List.set_cons_succ])
            refine wpAnyH_done (by kernel_rfl) ?_ _
            refine NoPanic.normal ?_
            rw [HE.out]
            have HBX := hHeld.2
            clear hHeld
            go_wp2_with fail
            go_roundw
            case rel => exact ⟨t + 1, k + 1, nb + 16, x2, by have := HK.out; have := HIQ.out; omega, by have := HNB.out; omega, hid (by rw [HK.out]; omega), by omega, rfl, by go_num, hid (by rw [← HX2.out, List.length_append, HXL.out, Pa.o_len]), hid (by rw [← HX2.out, HX.out, HST.out, List.append_assoc]), hid (past HBQ.out HBX.out)⟩
            case measure => simp [intOf]; omega
          · have e1 := lt_f hlt2
            have e1n := lt_nf hlt2
            have htq : t = q := by have := HK.out; have := HIQ.out; omega
            have HLF : Hid (x = leafL cs) := hid (by
              rw [HX.out, List.take_of_length_le (by rw [HQ.out]; omega)]
              unfold leafL
              rw [HQ.out])
            have hx124 : x.length ≤ 124 := by rw [HXL.out]; omega
            have HPG := hid (fun W : World => rpage_any x W hx124)
            clear hx124 HX
            clear htq hnb
            go_upto_if 61 with fail
            go_cut [9] (fun s9 wx => s9 = .int .u64 (leastP cs : Int) ∧ wq = wx)
            case first =>
              by_cases hq0 : q = 0
              · have hcs : cs = [] := List.eq_nil_of_length_eq_zero (by rw [HQ.out, hq0])
                have HL0 : Hid (leastP cs = 0) := hid (by rw [hcs]; rfl)
                clear hcs HQ HCG HCS hiq HIQ
                subst hq0
                go_wp2_with fail
                go_meet
                exact ⟨by rw [HL0.out]; rfl, rfl⟩
              · have g2 : decide ((0 : Int) < (q : Int)) = true := by rw [decide_eq_true_iff]; omega
                have g2n : decide (0 < q) = true := by rw [decide_eq_true_iff]; omega
                have hin2 : i < n := by have := HIQ.out; omega
                have hil : i < l.length := by rw [HN.out]; exact hin2
                obtain ⟨b, off, rfl, hc⟩ := pa_at HR.out hil
                have hbw : Below w.heap.size w wq := past (past HI.out.bel HB1.out) HBQ.out
                have x0 := cells_keep hbw (hc i hil).1
                have hle : (l[i]'hil).key = leastP cs := by
                  have key : ∀ (ys : List Pa) (h : 0 < ys.length), (ys[0]'h).key = leastP (ys.take 7) := fun ys h => by
                    cases ys with
                    | nil => cases h
                    | cons p r => rfl
                  rw [HCG.out, ← key _ (by rw [List.length_drop]; omega), List.getElem_drop]
                  simp only [Nat.add_zero]
                rw [hle] at x0
                have i0 : (0 : Int) ≤ (i : Int) := by omega
                have i1 : (i : Int) < (n : Int) := by omega
                have i2 : (i : Int).toNat = i := by omega
                clear hc hil hbw hle
                go_wp2_with fail
                go_meet
                exact ⟨rfl, rfl⟩
            case rest =>
            obtain ⟨rfl, rfl⟩ := hcut
            have HW := hid ((HI.out.below HB1.out).below HBQ.out)
            have HXa := hid ((Below.refl wq.heap.size wq).alloc (Nat.le_refl _) (.cells #[.int .u64 (leastP cs : Int)] 44))
            go_wp2_with (first
              | (refine wpList_append_row _ rfl (.tmp 67) (.tmp 69) u64T rfl w.heap.size (.slice B1 j d1) j ((((leafC l).map leastP).take j).map u64V) rfl (own_below HW.out.om HXa.out) (some ⟨wq.heap.size, 0, none⟩) 1 1 [.int .u64 (leastP cs : Int)] rfl rfl (Row.of_block (heap_alloc_new wq (Obj.cells #[.int .u64 (leastP cs : Int)] 44))) (by simp [Value.oneCell']) (by simp only [maxLen]; omega) (by omega) (past HW.out.bel HXa.out).size ?_
                 intro B3 d3 w3 ho3 hg3 hh3
                 have HB3 := hid ((past HW.out.bel HXa.out).grown hg3 (past HW.out.bel HXa.out).size (own_base (own_below HW.out.om HXa.out)))
                 have HL3 := hid (own_grown (own_below HW.out.ol HXa.out) (own_below HW.out.om HXa.out) (by decide) hg3)
                 have HM3 := hid ho3
                 clear ho3 hg3 hh3)
              | (go_at_call 24; refine (HPG.out _).mono ?_; rintro e w4 ⟨rfl, b4⟩; have HB4 := hid b4; have HX4 := hid ((Below.refl w4.heap.size w4).alloc (Nat.le_refl _) (.cells #[.string (str (pageP x))] 9)); have HL4 := hid (own_below (own_below HL3.out b4) HX4.out); have HM4 := hid (own_below (own_below HM3.out b4) HX4.out); have HB5 := hid (past (past HB3.out b4) HX4.out); clear b4)
              | (refine wpList_append_row _ rfl (.tmp 71) (.tmp 74) strT rfl w.heap.size (.slice A1 j c1) j (((leavesL l).take j).map SV) rfl HL4.out (some ⟨w4.heap.size, 0, none⟩) 1 1 [.string (str (pageP x))] rfl rfl (Row.of_block (heap_alloc_new w4 (Obj.cells #[.string (str (pageP x))] 9))) (by simp [Value.oneCell']) (by simp only [maxLen]; omega) (by omega) HB5.out.size ?_
                 intro A6 c6 w6 ho6 hg6 hh6
                 have HFI : Hid (RbI w w6 A6 c6 B3 d3 (j + 1) ((leavesL l).take (j + 1)) (((leafC l).map leastP).take (j + 1))) := hid (by
                   obtain ⟨h1, h2⟩ := HCS.out
                   obtain ⟨g1, g2⟩ := leafC_j l j h1
                   rw [h2] at g1 g2
                   refine ⟨?_, ?_, ?_, ?_, HB5.out.grown hg6 HB5.out.size (own_base HL4.out)⟩
                   · rw [g1, ← HLF.out, List.map_append]; exact ho6
                   · rw [g2, List.map_append]; exact own_grown HM4.out HL4.out (by decide) hg6
                   · rw [List.length_take, HLL.out]; omega
                   · rw [List.length_take, List.length_map, HCL.out]; omega)
                 clear ho6 hg6 hh6))
            go_roundw
            case rel => exact ⟨j + 1, i + 7, A6, c6, B3, d3, by omega, hid (by rw [Hij.out]; omega), rfl, rfl, by go_num, HFI⟩
            case measure => have := Hij.out; simp [intOf]; omega
    · have hjC : j = C := by omega
      have hne : ((i : Int) == 0) = false := ne_f (b := 0) (by have := Hij.out; omega)
      have hneN : (i == 0) = false := ne_n (by have := Hij.out; omega)
      have e1 := lt_f (a := i) (b := n) (by have := Hij.out; omega)
      have e1n := lt_nf (a := i) (b := n) (by have := Hij.out; omega)
      have HW : Hid (RbI w wr A1 c1 B1 d1 C (leavesL l) ((leafC l).map leastP) ∧ BdI l (leavesL l) ((leafC l).map leastP) 0) := hid (by
        have h := HI.out
        rw [hjC, List.take_of_length_le (by rw [HLL.out]; exact Nat.le_refl _), List.take_of_length_le (by rw [List.length_map, HCL.out]; exact Nat.le_refl _)] at h
        exact ⟨h, BdI.start l HOK.out⟩)
      subst hjC
      clear HI HC3 HCL HLL
      clear Hij
      clear hc4
      clear hlt
      go_wp2_with fail
      go_loopw [3, 4, 10] (fun v3 v4 v10 wr => ∃ (m f : Nat) (A1 : Option Addr) (c1 : Nat) (B1 : Option Addr) (d1 : Nat) (ls : List (List UInt8)) (ms : List Nat), f ≤ m ∧ m + (m - f) ≤ 300 ∧ v3 = .slice A1 m c1 ∧ v4 = .slice B1 m d1 ∧ v10 = .int .i64 (f : Int) ∧ Hid (RbI w wr A1 c1 B1 d1 m ls ms ∧ BdI l ls ms f)) (fun v3 v4 v10 wr => sLen v3 - (intOf v10).toNat)
      case atStart => exact ⟨j, 0, A1, c1, B1, d1, _, _, Nat.zero_le _, by omega, rfl, rfl, rfl, HW⟩
      case round =>
        clear HW
        clear hne hneN e1 e1n hj
        obtain ⟨m, f, A1, c1, B1, d1, ls, ms, hfm, hm300, rfl, rfl, rfl, HI⟩ := hrel
        rename World => wr
        obtain ⟨k, hk⟩ : ∃ k, m - f = k := ⟨_, rfl⟩
        rw [hk] at hm300
        have hkI : (m : Int) - (f : Int) = (k : Int) := by omega
        have HKF := hid hk
        clear hk
        by_cases h1 : 1 < k
        · have g1 : decide ((1 : Int) < (k : Int)) = true := lt_t (a := 1) h1
          have g1n := lt_nt h1
          obtain ⟨X, hX⟩ : ∃ X, (k + 11) / 12 = X := ⟨_, rfl⟩
          have HXL : Hid ((chunks 12 (lvl ms f)).length = X) := hid (by
            rw [chunks_len 12 (by omega), lvl_len, HI.out.1.ml, HKF.out, ← hX]
            congr 1)
          have hX1 : X ≤ 26 ∧ 2 * X ≤ k ∧ 1 ≤ X := by omega
          have hX2 : ∀ j, j < X ↔ 12 * j < k := fun j => by omega
          have HX2 := hid hX2
          have HX1 := hid hX1
          have hm3 : m ≤ 300 := by omega
          clear hX hX1 hX2
          go_wp2_with fail
          have J0 : Hid (RbI w wr A1 c1 B1 d1 m ls ms ∧ RvI (lvl ms f) ls ms 0 ls ms) := hid ⟨HI.out.1, RvI.start _ _ _⟩
          go_loopw [3, 4, 12] (fun v3 v4 v12 wq => ∃ (j i s : Nat) (A2 : Option Addr) (c2 : Nat) (B2 : Option Addr) (d2 : Nat) (ls2 : List (List UInt8)) (ms2 : List Nat), j ≤ X ∧ Hid (i = f + 12 * j) ∧ Hid (s = m + j) ∧ s ≤ 330 ∧ i ≤ 900 ∧ m ≤ s ∧ v3 = .slice A2 s c2 ∧ v4 = .slice B2 s d2 ∧ v12 = .int .i64 (i : Int) ∧ Hid (RbI w wq A2 c2 B2 d2 s ls2 ms2 ∧ RvI (lvl ms f) ls ms j ls2 ms2)) (fun v3 v4 v12 wq => f + 12 * X - (intOf v12).toNat)
          case atStart => exact ⟨0, f, m, A1, c1, B1, d1, ls, ms, Nat.zero_le _, hid rfl, hid rfl, by omega, by omega, Nat.le_refl _, rfl, rfl, rfl, J0⟩
          case round =>
            clear J0
            obtain ⟨j, i, s, A2, c2, B2, d2, ls2, ms2, hj, Hij, Hsm, hs330, hi900, hms, rfl, rfl, rfl, HJ⟩ := hrel
            rename World => wq
            by_cases hlt : i < m
            · have e1 := lt_t hlt
              have e1n := lt_nt hlt
              have hjX : j < X := by rw [HX2.out]; have := Hij.out; have := HKF.out; omega
              obtain ⟨r, hri⟩ : ∃ r, m - i = r := ⟨_, rfl⟩
              have hrI : (m : Int) - (i : Int) = (r : Int) := by omega
              have HRI := hid hri
              clear hri
              go_upto_if 93 with fail
              obtain ⟨q, hq⟩ : ∃ q, (if 12 < r then 12 else r) = q := ⟨_, rfl⟩
              go_cut [13] (fun s6 wx => s6 = .int .i64 (q : Int) ∧ wq = wx)
              case first =>
                by_cases h7 : 12 < r
                · rw [if_pos h7] at hq
                  have g7 : decide ((12 : Int) < (r : Int)) = true := by rw [decide_eq_true_iff]; omega
                  have g7n : decide (12 < r) = true := by simpa using h7
                  subst hq
                  go_wp2_with fail
                  go_meet
                  exact ⟨rfl, rfl⟩
                · rw [if_neg h7] at hq
                  have g7 : decide ((12 : Int) < (r : Int)) = false := by rw [decide_eq_false_iff_not]; omega
                  have g7n : decide (12 < r) = false := by rw [decide_eq_false_iff_not]; exact h7
                  subst hq
                  go_wp2_with fail
                  go_meet
                  exact ⟨rfl, rfl⟩
              case rest =>
              obtain ⟨rfl, rfl⟩ := hcut
              have hjc : j < (chunks 12 (lvl ms f)).length := by rw [HXL.out]; exact hjX
              obtain ⟨cs, hcs⟩ : ∃ cs, (chunks 12 (lvl ms f))[j] = cs := ⟨_, rfl⟩
              have HCS : Hid (∃ h : j < (chunks 12 (lvl ms f)).length, (chunks 12 (lvl ms f))[j]'h = cs) := hid ⟨hjc, hcs⟩
              have hcg : cs = ((lvl ms f).drop (12 * j)).take 12 := by rw [← hcs, chunks_get 12 (by omega) j _ hjc]
              have hcl : cs.length = q := by
                rw [hcg, List.length_take, List.length_drop, lvl_len, HI.out.1.ml, ← hq]
                have := Hij.out
                have := HRI.out
                split <;> omega
              have HQ := hid hcl
              have hq12 : q ≤ 12 := by rw [← hq]; split <;> omega
              have hq0 : 0 < q := by have := HRI.out; rw [← hq]; split <;> omega
              have hqr : i + q ≤ m := by
                have := HRI.out
                rw [← hq]
                split <;> omega
              have HCT : Hid (∀ (t : Nat) (h1 : t < cs.length) (h2 : i + t < ms.length), cs[t]'h1 = ⟨ms[i + t]'h2, i + t⟩) := hid (fun t h1 h2 => by
                have e := Hij.out
                subst e
                have h3 : f + (12 * j + t) < ms.length := by omega
                have h4 := lvl_get ms f (12 * j + t) h3
                simp only [hcg, List.getElem_take, List.getElem_drop, h4, Nat.add_assoc])
              have HLC : Hid (∃ h : i < ms.length, leastK cs = ms[i]'h) := hid (by
                obtain ⟨h2, h3⟩ := leastK_lvl ms f j hjc
                rw [hcs] at h3
                have e := Hij.out
                subst e
                exact ⟨h2, h3⟩)
              have HM2 : Hid (∀ (t : Nat) (h : t < ms.length), ms2[t]? = some ms[t]) := hid (fun t h => by
                rw [HJ.out.2.le, List.getElem?_append_left h, List.getElem?_eq_getElem h])
              clear hq hjc hcs hcg hcl
              have HO1 := oct_one wq 5 q (by omega)
              have hcv := strP 1 HO1
              have HB1 := hid ((Below.refl wq.heap.size wq).alloc (Nat.le_refl _) (.cells #[.int .u8 (q : Int)] 5))
              have hys : (str [UInt8.ofNat q]).size = 1 := rfl
              have hya : ({ data := #[2] } : ByteArray) ++ str [UInt8.ofNat q] = str [2, UInt8.ofNat q] := str_append [2] [UInt8.ofNat q]
              obtain ⟨y, hy⟩ : ∃ y, str [UInt8.ofNat q] = y := ⟨_, rfl⟩
              rw [hy] at hcv hys hya
              have HYA := hid hya
              clear HO1 hy hya
              go_upto_region 29 with fail
              go_wp2_with fail
              have HYB : Hid (Value.string ({ data := #[2] } ++ y) = .string (str ([2, UInt8.ofNat q] ++ (cs.take 0).flatMap Kd.o))) := hid (by rw [HYA.out]; rfl)
              obtain ⟨W1, hW1⟩ : ∃ W1, wq.alloc (.cells #[.int .u8 (q : Int)] 5) = W1 := ⟨_, rfl⟩
              rw [hW1] at HB1
              rw [hW1]
              clear hW1 hcv HYA
              have hiq : (i : Int) + (q : Int) = ((i + q : Nat) : Int) := by omega
              obtain ⟨iq, hiqn⟩ : ∃ iq, i + q = iq := ⟨_, rfl⟩
              rw [hiqn] at hiq hqr
              have HIQ := hid hiqn
              clear hiqn
              go_loopw [14, 15] (fun v14 v15 wz => ∃ (t k nb : Nat) (x : List UInt8), t ≤ q ∧ nb = 2 + t * 10 ∧ Hid (k = i + t) ∧ k ≤ iq ∧ v14 = .string (str x) ∧ v15 = .int .i64 (k : Int) ∧ Hid (x.length = nb) ∧ Hid (x = [2, UInt8.ofNat q] ++ (cs.take t).flatMap Kd.o) ∧ Hid (Below W1.heap.size W1 wz)) (fun v14 v15 wz => iq - (intOf v15).toNat)
              case atStart => exact ⟨0, i, 2, _, Nat.zero_le _, rfl, hid rfl, by have := HIQ.out; omega, HYB.out, rfl, hid rfl, hid rfl, hid (Below.refl _ _)⟩
              case round =>
                clear HYB
                obtain ⟨t, k2, nb, x, ht, hnb, HK, hkq, rfl, rfl, HXX, HX, HBQ⟩ := hrel
                rename World => wz
                have hxs : (str x).size = nb := HXX.out
                by_cases hlt2 : k2 < iq
                · have e2 := lt_t hlt2
                  have e2n := lt_nt hlt2
                  have k0 : (0 : Int) ≤ (k2 : Int) := by omega
                  have hkn : k2 < s := by omega
                  have kn1 : (k2 : Int) < (s : Int) := by omega
                  have kn2 : (k2 : Int).toNat = k2 := by omega
                  have hkl : k2 < ms.length := by rw [HI.out.1.ml]; omega
                  have hrow := Row.of_own ((HJ.out.1.below HB1.out).below HBQ.out).om
                  obtain ⟨v, hv⟩ : ∃ v, ms[k2]'hkl = v := ⟨_, rfl⟩
                  have hm2 := HM2.out k2 hkl
                  rw [hv] at hm2
                  have hmv : (ms2.map u64V)[k2]? = some (.int .u64 (v : Int)) := by rw [List.getElem?_map, hm2]; rfl
                  obtain ⟨b, off, rfl, hc⟩ := hrow (by intro e; rw [e] at hmv; simp at hmv)
                  have x0 := hc k2 _ hmv
                  have hv64 : v < 18446744073709551616 := HI.out.2.ok v (hv ▸ List.getElem_mem hkl)
                  have htq : t < cs.length := by have := HIQ.out; have := HK.out; rw [HQ.out]; omega
                  have HST : Hid ((cs.take (t + 1)).flatMap Kd.o = (cs.take t).flatMap Kd.o ++ (putL v 8 ++ putL k2 2)) := hid (by
                    have e := HK.out
                    subst e
                    have hct := HCT.out t htq hkl
                    rw [hv] at hct
                    rw [List.take_succ_eq_append_getElem htq, List.flatMap_append, hct]
                    simp [Kd.o])
                  have HNB := hid hnb
                  have hnb2 : nb ≤ 140 := by rw [HQ.out] at htq; omega
                  have h0 : wz.cell? ⟨b, off + k2, none⟩ = some (.int .u64 (v : Int)) ∧ Hid (Below wz.heap.size wz wz) := ⟨x0, hid (Below.refl _ _)⟩
                  have HSK := hid (fun (U V : World) (h : U.cell? ⟨b, off + k2, none⟩ = some (.int .u64 (v : Int)) ∧ Hid (Below wz.heap.size wz U)) (hb : Below U.heap.size U V) =>
                    (show V.cell? ⟨b, off + k2, none⟩ = some (.int .u64 (v : Int)) ∧ Hid (Below wz.heap.size wz V) from ⟨cells_keep hb h.1, hid (past h.2.out hb)⟩))
                  obtain ⟨x2, hx2⟩ : ∃ x2, x ++ (putL v 8 ++ putL k2 2) = x2 := ⟨_, rfl⟩
                  have HX2 := hid hx2
                  have hs8a : (str (putL v 8)).size = 8 := by rw [str_size, putL_length]
                  have hs8b : (str (putL k2 2)).size = 2 := by rw [str_size, putL_length]
                  have hof := (fun W : World => show Calls Try.prog 25 #[.int .u64 (k2 : Int), .int .i64 2] W _ from of_any k2 2 W (by omega) (by omega) (by omega) (Nat.div_eq_of_lt (by omega)))
                  have HOF := hid hof
                  clear hc hkl hrow hv hm2 hmv htq hnb hx2 x0 hof
                  go_upto_region 32 with fail
                  have hov : ¬ 9223372036854775807 < nb + 10 := by omega
                  have HE : Hid (.string (str x ++ (str (putL v 8) ++ str (putL k2 2))) = Value.string (str x2)) := hid (by rw [← HX2.out, ← str_append, ← str_append])
                  have x0 := h0.1
                  clear h0 HSK
                  go_wp2_with (first
                    | (go_at_call 23; refine (key8_any v _ hv64).mono ?_; rintro e w5 ⟨rfl, b5⟩; have HB5 := hid b5; clear b5)
                    | (go_at_call 25; refine (HOF.out _).mono ?_; rintro e w6 ⟨rfl, b6⟩; have HBX := hid (past HB5.out b6); clear b6))
                  rw [HE.out]
                  go_roundw
                  case rel => exact ⟨t + 1, k2 + 1, nb + 10, x2, by have := HK.out; have := HIQ.out; omega, by have := HNB.out; omega, hid (by rw [HK.out]; omega), by omega, rfl, by go_num, hid (by rw [← HX2.out, List.length_append, HXX.out, List.length_append, putL_length, putL_length]), hid (by rw [← HX2.out, HX.out, HST.out, List.append_assoc]), hid (past HBQ.out HBX.out)⟩
                  case measure => simp [intOf]; omega
                · have e2 := lt_f hlt2
                  have e2n := lt_nf hlt2
                  have htq : t = q := by have := HK.out; have := HIQ.out; omega
                  have HLF : Hid (x = innerL cs) := hid (by
                    rw [HX.out, List.take_of_length_le (by rw [HQ.out]; omega)]
                    unfold innerL
                    rw [HQ.out])
                  have hx124 : x.length ≤ 124 := by rw [HXX.out]; omega
                  have HPG := hid (fun W : World => rpage_any x W hx124)
                  have hrow := Row.of_own ((HJ.out.1.below HB1.out).below HBQ.out).om
                  obtain ⟨mi, hmi⟩ : ∃ mi, leastK cs = mi := ⟨_, rfl⟩
                  have HMI := hid hmi
                  obtain ⟨him, hlc⟩ := HLC.out
                  have hm2 := HM2.out i him
                  rw [← hlc, hmi] at hm2
                  have hmv : (ms2.map u64V)[i]? = some (.int .u64 (mi : Int)) := by rw [List.getElem?_map, hm2]; rfl
                  obtain ⟨b, off, rfl, hc⟩ := hrow (by intro e; rw [e] at hmv; simp at hmv)
                  have x0 := hc i _ hmv
                  have i0 : (0 : Int) ≤ (i : Int) := by omega
                  have i1 : (i : Int) < (s : Int) := by omega
                  have i2 : (i : Int).toNat = i := by omega
                  have HW := hid ((HJ.out.1.below HB1.out).below HBQ.out)
                  have HXa := hid ((Below.refl wz.heap.size wz).alloc (Nat.le_refl _) (.cells #[.int .u64 (mi : Int)] 44))
                  clear hx124 HX hc hmv hm2 hlc him hrow hmi htq hnb
                  go_wp2_with (first
                    | (refine wpList_append_row _ rfl (.tmp 118) (.tmp 123) u64T rfl w.heap.size (.slice (some ⟨b, off, none⟩) s d2) s (ms2.map u64V) rfl (own_below HW.out.om HXa.out) (some ⟨wz.heap.size, 0, none⟩) 1 1 [.int .u64 (mi : Int)] rfl rfl (Row.of_block (heap_alloc_new wz (Obj.cells #[.int .u64 (mi : Int)] 44))) (by simp [Value.oneCell']) (by simp only [maxLen]; omega) (by omega) (past HW.out.bel HXa.out).size ?_
                       intro B3 d3 w3 ho3 hg3 hh3
                       have HB3 := hid ((past HW.out.bel HXa.out).grown hg3 (past HW.out.bel HXa.out).size (own_base (own_below HW.out.om HXa.out)))
                       have HL3 := hid (own_grown (own_below HW.out.ol HXa.out) (own_below HW.out.om HXa.out) (by decide) hg3)
                       have HM3 := hid ho3
                       clear ho3 hg3 hh3)
                    | (go_at_call 24; refine (HPG.out _).mono ?_; rintro e w4 ⟨rfl, b4⟩; have HB4 := hid b4; have HX4 := hid ((Below.refl w4.heap.size w4).alloc (Nat.le_refl _) (.cells #[.string (str (pageP x))] 9)); have HL4 := hid (own_below (own_below HL3.out b4) HX4.out); have HM4 := hid (own_below (own_below HM3.out b4) HX4.out); have HB5 := hid (past (past HB3.out b4) HX4.out); clear b4)
                    | (refine wpList_append_row _ rfl (.tmp 125) (.tmp 128) strT rfl w.heap.size (.slice A2 s c2) s (ls2.map SV) rfl HL4.out (some ⟨w4.heap.size, 0, none⟩) 1 1 [.string (str (pageP x))] rfl rfl (Row.of_block (heap_alloc_new w4 (Obj.cells #[.string (str (pageP x))] 9))) (by simp [Value.oneCell']) (by simp only [maxLen]; omega) (by omega) HB5.out.size ?_
                       intro A6 c6 w6 ho6 hg6 hh6
                       have HFI : Hid (RbI w w6 A6 c6 B3 d3 (s + 1) (ls2 ++ [pageP x]) (ms2 ++ [mi]) ∧ RvI (lvl ms f) ls ms (j + 1) (ls2 ++ [pageP x]) (ms2 ++ [mi])) := hid (by
                         obtain ⟨h1, h2⟩ := HCS.out
                         have hn := HJ.out.2.next h1
                         rw [h2, ← HLF.out, HMI.out] at hn
                         refine ⟨⟨?_, ?_, ?_, ?_, HB5.out.grown hg6 HB5.out.size (own_base HL4.out)⟩, hn⟩
                         · rw [List.map_append]; exact ho6
                         · rw [List.map_append]; exact own_grown HM4.out HL4.out (by decide) hg6
                         · rw [List.length_append, HJ.out.1.ll]; rfl
                         · rw [List.length_append, HJ.out.1.ml]; rfl)
                       clear ho6 hg6 hh6))
                  go_roundw
                  case rel => exact ⟨j + 1, i + 12, s + 1, A6, c6, B3, d3, _, _, by omega, hid (by rw [Hij.out]; omega), hid (by rw [Hsm.out]; omega), by have := Hsm.out; have := HX1.out; omega, by have := Hij.out; have := HX1.out; omega, by omega, rfl, rfl, by go_num, HFI⟩
                  case measure => have := Hij.out; simp [intOf]; omega
            · have e1 := lt_f hlt
              have e1n := lt_nf hlt
              have hjX : j = X := by
                rcases Nat.lt_or_ge j X with h | h
                · have := (HX2.out j).1 h; have := Hij.out; have := HKF.out; omega
                · omega
              have HNX : Hid (BdI l ls2 ms2 m) := hid (by
                have := HI.out.2.step (by rw [HI.out.1.ll, HKF.out]; exact h1) HJ.out.2 (by rw [HXL.out]; exact hjX)
                rw [HI.out.1.ll] at this
                exact this)
              go_wp2_with fail
              go_roundw
              case rel => exact ⟨s, m, A2, c2, B2, d2, ls2, ms2, hms, by have := Hsm.out; have := HX1.out; have := HKF.out; omega, rfl, rfl, rfl, hid ⟨HJ.out.1, HNX.out⟩⟩
              case measure => have := Hsm.out; have := HX1.out; have := HKF.out; simp [intOf, sLen]; omega
        · have g1 : decide ((1 : Int) < (k : Int)) = false := lt_f (a := 1) h1
          have g1n := lt_nf h1
          have HBD : Hid (buildP l = ls) := hid (HI.out.2.done (by rw [HI.out.1.ll, HKF.out]; omega))
          go_wp2_with fail
          go_ret
          exact ⟨HI.out.1.bel, A1, m, c1, rfl, by rw [HBD.out]; exact HI.out.1.ll, by rw [HBD.out]; exact HI.out.1.ol⟩
end Go.Proofs.Ytlhngieinmgooaa
