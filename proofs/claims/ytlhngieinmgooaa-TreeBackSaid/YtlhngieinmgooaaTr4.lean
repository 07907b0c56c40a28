/-
  The lowest level of pages: the walk. A part of the proof: see the head of the text that ends in 'Law'.
-/
import Derived.Test.YtlhngieinmgooaaTr3
namespace Go.Proofs.Ytlhngieinmgooaa
open Go.RowKit
set_option linter.unusedVariables false
set_option linter.unusedSimpArgs false
set_option maxRecDepth 100000
attribute [local go_sem] Oper.semAt_some

theorem row_drop {w : World} {b off : Nat} {xs : List Value} (h : Row w (some ⟨b, off, none⟩) xs) (k : Nat) : Row w (some ⟨b, off + k, none⟩) (xs.drop k) := fun hn => by
  obtain ⟨b2, off2, hA, hc⟩ := h (by intro e; subst e; simp at hn)
  injection hA with hA
  injection hA with h1 h2
  subst h1 h2
  refine ⟨b, off + k, rfl, fun j v hv => ?_⟩
  rw [List.getElem?_drop] at hv
  have := hc (k + j) v hv
  rwa [← Nat.add_assoc] at this
theorem LfI.step {w wr w5 : World} {l : List Pa} {i : Nat} {A : Option Addr} {c : Nat} {B : Option Addr} {d : Nat} {vs : List Value} {A' : Option Addr} {n' c' : Nat} (h : LfI w wr l i A c B d vs A' n' c') (hi : i < (leafC l).length) (q : Nat) (hq : ((leafC l)[i]'hi).length = q) {A3 : Option Addr} (h3 : (if c' = q then A' else A'.map (fun x => x.add (q * 2))) = A3)
    {A5 : Option Addr} {c5 : Nat} {B5 : Option Addr} {d5 : Nat} {vs5 : List Value} (ho : OutI w.heap.size w5 A5 (i + 1) c5 vs5 ((leavesL l).take (i + 1))) (hk : w5.ownsRow w.heap.size 57 2 (.slice B5 (i + 1) d5) (i + 1) ((kidsP 0 ((leafC l).take (i + 1))).flatMap kdC)) (hb : Below w.heap.size w w5) :
    LfI w w5 l (i + 1) A5 c5 B5 d5 vs5 A3 (n' - q) (c' - q) := by
  have hcg := leafC_get l i hi
  have hql : q = ((l.drop (7 * i)).take 7).length := by rw [← hcg, hq]
  rw [List.length_take, List.length_drop] at hql
  have hlen := h.len
  have hcap := h.cap
  refine ⟨ho, hk, hb, ?_, by omega, by omega⟩
  rcases Nat.lt_or_ge n' 7 with hn | hn
  · have e : l.drop (7 * (i + 1)) = [] := List.drop_of_length_le (by omega)
    rw [e]
    exact Row.nil _ _
  · have e : l.drop (7 * (i + 1)) = (l.drop (7 * i)).drop q := by rw [List.drop_drop]; congr 1; omega
    rw [e]
    by_cases hc : c' = q
    · have e2 : (l.drop (7 * i)).drop q = [] := List.drop_of_length_le (by rw [List.length_drop]; omega)
      rw [e2]
      exact Row.nil _ _
    · rw [if_neg hc] at h3
      have hr := h.rst
      have hpos : 0 < (l.drop (7 * i)).length := by rw [List.length_drop]; omega
      obtain ⟨b, off, rfl, -⟩ := pa_at hr hpos
      rw [Option.map_some, Addr.add_mid] at h3
      rw [← h3]
      have hd : ((l.drop (7 * i)).drop q).flatMap paC = ((l.drop (7 * i)).flatMap paC).drop (q * 2) := by
        conv => rhs; rw [← List.take_append_drop q (l.drop (7 * i)), List.flatMap_append]
        have hl2 : (((l.drop (7 * i)).take q).flatMap paC).length = q * 2 := by rw [paC_len, List.length_take, Nat.min_eq_left (by rw [List.length_drop]; omega)]
        rw [← hl2, List.drop_left]
      rw [hd]
      exact row_drop hr (q * 2)
set_option maxHeartbeats 8000000 in
theorem leaves_any (A : Option Addr) (n c : Nat) (l : List Pa) (w : World) (hr : Row w A (l.flatMap paC)) (hn : l.length = n) (hnc : n ≤ c) (hl : n ≤ 700) (hok : ∀ p ∈ l, p.ok) :
    Calls Try.prog 19 #[.slice A n c] w fun e w' => ∃ A' m c' B d vs, e = .returned (.tuple #[.slice A' m c', .slice B m d]) ∧ m = (leafC l).length ∧ OutI w.heap.size w' A' m c' vs (leavesL l) ∧ w'.ownsRow w.heap.size 57 2 (.slice B m d) m ((kidsP 0 (leafC l)).flatMap kdC) ∧ Below w.heap.size w w' := by
  have HN := hid hn
  have HOK := hid hok
  have H7 := hid (fun X => above7_any n X (by omega))
  have hcl := leafC_len l
  rw [hn] at hcl
  obtain ⟨k, hk⟩ : ∃ k, aboveN n 7 = k := ⟨_, rfl⟩
  rw [hk] at H7 hcl
  have HCL := hid hcl
  have hk2 : k ≤ 100 := by rw [← hk]; unfold aboveN; split <;> omega
  have I0 : Hid (LfI w w l 0 none 0 none 0 [] A n c) := hid ⟨OutI.nil _ _, World.ownsRow_nil _ _ _ _, Below.refl _ _, by rw [Nat.mul_zero, List.drop_zero]; exact hr, by rw [Nat.mul_zero, hn]; rfl, hnc⟩
  clear hr hn hok hnc hcl hk
  go_enter Try.func19, Try.ntmps19
  go_wp2_with (go_at_call 26; refine (H7.out _).mono ?_; rintro e w1 ⟨rfl, rfl⟩)
  go_loopw [0, 4, 5, 14] (fun v0 v4 v5 v14 wr => ∃ (i : Nat) (A1 : Option Addr) (c1 : Nat) (B : Option Addr) (d : Nat) (vs : List Value) (A' : Option Addr) (n' c' : Nat), i ≤ k ∧ v0 = .slice A' n' c' ∧ v4 = .slice A1 i c1 ∧ v5 = .slice B i d ∧ v14 = .int .i64 (i : Int) ∧ Hid (LfI w wr l i A1 c1 B d vs A' n' c')) (fun v0 v4 v5 v14 wr => k - (intOf v14).toNat)
  case atStart => exact ⟨0, none, 0, none, 0, [], A, n, c, Nat.zero_le _, rfl, rfl, rfl, rfl, I0⟩
  case round =>
    clear I0
    obtain ⟨i, A1, c1, B, d, vs, A', n', c', hi, rfl, rfl, rfl, rfl, HI⟩ := hrel
    rename World => wr
    by_cases hlt : i < k
    · have d1 := lt_t hlt
      have d1' := lt_nt hlt
      have hil : i < (leafC l).length := by rw [HCL.out]; exact hlt
      have hcg := leafC_get l i hil
      obtain ⟨cs, hcs⟩ : ∃ cs, (leafC l)[i]'hil = cs := ⟨_, rfl⟩
      rw [hcs] at hcg
      obtain ⟨q, hq⟩ : ∃ q, cs.length = q := ⟨_, rfl⟩
      have hn7 : n' ≤ 700 := by rw [HI.out.len, HN.out]; omega
      have hqn : q = if n' < 7 then n' else 7 := by
        rw [← hq, hcg, List.length_take, List.length_drop, HI.out.len]
        split <;> omega
      have hq7 : q ≤ 7 := by rw [hqn]; split <;> omega
      have hqn2 : q ≤ n' := by rw [hqn]; split <;> omega
      have hmin : (if (7 : Int) < (n' : Int) then (7 : Int) else (n' : Int)) = (q : Int) := by rw [hqn]; split <;> split <;> omega
      have hq0 : (0 : Int) ≤ (q : Int) := by omega
      have hq1 : (q : Int) ≤ 7 := by omega
      have HQ := hid hq
      have HCG := hid hcg
      have HCS : Hid (∃ h : i < (leafC l).length, (leafC l)[i]'h = cs) := hid ⟨hil, hcs⟩
      clear hcs hq hcg hil
      have hqc : (q : Int) ≤ (c' : Int) := by have := HI.out.cap; omega
      have hqt : (q : Int).toNat = q := by omega
      clear hqn
      go_upto_region 7 with fail
      clear hmin
      obtain ⟨W0, hW0⟩ : ∃ W0, wr.alloc (.cells #[.int .u8 1, .int .u8 (q : Int)] 5) = W0 := ⟨_, rfl⟩
      have hB0 : Below wr.heap.size wr W0 := by rw [← hW0]; exact (Below.refl _ wr).alloc (Nat.le_refl _) _
      have hO0 : W0.ownsRow wr.heap.size 5 1 (.slice (some ⟨wr.heap.size, 0, none⟩) 2 2) 2 (([1, UInt8.ofNat q] : List UInt8).map B8) := by
        have h := own_new wr wr.heap.size 5 1 2 [.int .u8 1, .int .u8 (q : Int)] (Nat.le_refl _) rfl (by decide)
        rw [show ([Value.int .u8 1, .int .u8 (q : Int)] : List Value).toArray = #[.int .u8 1, .int .u8 (q : Int)] from rfl, hW0] at h
        have e : (([1, UInt8.ofNat q] : List UInt8).map B8) = [.int .u8 1, .int .u8 (q : Int)] := by
          show [B8 1, B8 (UInt8.ofNat q)] = _
          unfold B8
          rw [UInt8.toNat_ofNat_of_lt' (show q < 256 by omega)]
          rfl
        rw [e]
        exact h
      have HB0 := hid hB0
      have HO0 := hid hO0
      rw [hW0]
      clear hW0 hB0 hO0
      go_wp2_with fail
      go_loopw [7, 26] (fun v7 v26 wq => ∃ (j nb : Nat) (Ab : Option Addr) (cb : Nat), j ≤ q ∧ nb = 2 + j * 16 ∧ v7 = .slice Ab nb cb ∧ v26 = .int .i64 (j : Int) ∧ Hid (wq.ownsRow wr.heap.size 5 1 (.slice Ab nb cb) nb (([1, UInt8.ofNat q] ++ (cs.take j).flatMap Pa.o).map B8)) ∧ Hid (Below wr.heap.size wr wq)) (fun v7 v26 wq => q - (intOf v26).toNat)
      case atStart => exact ⟨0, 2, _, 2, Nat.zero_le _, rfl, rfl, rfl, HO0, HB0⟩
      case round =>
        clear HO0 HB0
        obtain ⟨j, nb, Ab, cb, hj, hnb, rfl, rfl, HOB, HBB⟩ := hrel
        rename World => wq
        by_cases hlt2 : j < q
        · have g1 := lt_t hlt2
          have g1' := lt_nt hlt2
          have j0 : (0 : Int) ≤ (j : Int) := by omega
          have j1 : (j : Int) < (q : Int) := by omega
          have j3 : (j : Int).toNat = j := by omega
          have hjc : j < cs.length := by rw [HQ.out]; exact hlt2
          have hjd : j < (l.drop (7 * i)).length := by
            have h := congrArg List.length HCG.out
            rw [List.length_take] at h
            omega
          obtain ⟨b, off, rfl, hc⟩ := pa_at HI.out.rst hjd
          have hp2 : (l.drop (7 * i))[j]'hjd = cs[j]'hjc := by simp only [HCG.out, List.getElem_take]
          obtain ⟨p, hp⟩ : ∃ p, cs[j]'hjc = p := ⟨_, rfl⟩
          have hpo : p.ok := by
            apply HOK.out
            have h1 : p ∈ cs := hp ▸ List.getElem_mem hjc
            rw [HCG.out] at h1
            exact List.mem_of_mem_drop (List.mem_of_mem_take h1)
          have x0 := cells_keep HBB.out (cells_keep HI.out.bel (hc j hjd).1)
          have x1 := cells_keep HBB.out (cells_keep HI.out.bel (hc j hjd).2)
          rw [hp2, hp] at x0 x1
          have hst : (cs.take (j + 1)).flatMap Pa.o = (cs.take j).flatMap Pa.o ++ putsL [p.key, p.val] 8 := by
            rw [List.take_succ_eq_append_getElem hjc, List.flatMap_append, hp]
            congr 1
          have HST := hid hst
          have hnb2 : nb ≤ 200 := by omega
          have HNB := hid hnb
          have HNU := hid (fun (X : World) (gn : Nat) (h1 : X.ownsRow wr.heap.size 5 1 (.slice Ab nb cb) nb (([1, UInt8.ofNat q] ++ (cs.take j).flatMap Pa.o).map B8)) (h2 : OwnE X gn 44 [.int .u64 (p.key : Int), .int .u64 (p.val : Int)]) (h3 : wr.heap.size ≤ X.heap.size) =>
            number_any 8 8 rfl (by omega) (by omega) wr.heap.size Ab nb cb ([1, UInt8.ofNat q] ++ (cs.take j).flatMap Pa.o) gn 2 2 [p.key, p.val] X h1 h2 rfl (fun v hv => by
              rcases List.mem_cons.1 hv with rfl | hv
              · exact ⟨hpo.1, Nat.div_eq_of_lt (by have := hpo.1; omega)⟩
              · rw [List.mem_singleton] at hv
                subst hv
                exact ⟨hpo.2, Nat.div_eq_of_lt (by have := hpo.2; omega)⟩) h3 (by omega) (by omega))
          clear hc hjd hp2 hp hst hjc hnb hpo
          go_upto_region 10 with fail
          obtain ⟨W1, hW1⟩ : ∃ W1, wq.alloc (.cells #[.int .u64 (p.key : Int), .int .u64 (p.val : Int)] 48) = W1 := ⟨_, rfl⟩
          have hE1 : OwnE W1 wq.heap.size 48 [.int .u64 (p.key : Int), .int .u64 (p.val : Int)] := by rw [← hW1]; exact OwnE.new_ wq _ _
          have hB1 : Below wq.heap.size wq W1 := by rw [← hW1]; exact (Below.refl _ wq).alloc (Nat.le_refl _) _
          have y0 := hE1.cell (j := 0) rfl
          have y1 := hE1.cell (j := 1) rfl
          obtain ⟨W2, hW2⟩ : ∃ W2, W1.alloc (.cells #[.int .u64 (p.key : Int), .int .u64 (p.val : Int)] 44) = W2 := ⟨_, rfl⟩
          have hE2 : OwnE W2 W1.heap.size 44 [.int .u64 (p.key : Int), .int .u64 (p.val : Int)] := by rw [← hW2]; exact OwnE.new_ W1 _ _
          have hB2 : Below W1.heap.size W1 W2 := by rw [← hW2]; exact (Below.refl _ W1).alloc (Nat.le_refl _) _
          have HO2 := hid (own_below (own_below HOB.out hB1) hB2)
          have HE2 := hid hE2
          have HB2 := hid (past (past HBB.out hB1) hB2)
          have HSZ := hid HB2.out.size
          rw [hW1]
          clear hW1 hE1 hB1 hE2 hB2 x0 x1
          go_wp2_with (go_at_call 21; refine (HNU.out W2 _ HO2.out HE2.out HSZ.out).mono ?_; rintro e w5 ⟨A5, c5, rfl, ho5, -, hb5⟩; have HO5 := hid ho5; have HB5 : Hid (Below wr.heap.size wr w5) := hid (HB2.out.trans hb5); clear ho5 hb5)
          go_roundw
          case rel => exact ⟨j + 1, nb + 2 * 8, A5, c5, by omega, by rw [HNB.out]; omega, rfl, by go_num, hid (by rw [HST.out, ← List.append_assoc]; exact HO5.out), HB5⟩
          case measure => simp [intOf]; omega
        · have g1 := lt_f hlt2
          have g1' := lt_nf hlt2
          have hjq : j = q := by omega
          have hbl : [1, UInt8.ofNat q] ++ (cs.take j).flatMap Pa.o = leafL cs := by
            unfold leafL
            rw [HQ.out, List.take_of_length_le (by rw [HQ.out]; omega)]
          have hob := HOB.out
          rw [hbl] at hob
          have HOL := hid hob
          have hnb2 : nb ≤ 124 := by omega
          clear hbl hob HOB hnb
          subst hjq
          go_upto_if 39 with fail
          go_cut [10] (fun s10 wx => s10 = .int .u64 (leastP cs : Int) ∧ wq = wx)
          case first =>
            by_cases hj0 : j = 0
            · have hcs : cs = [] := List.eq_nil_of_length_eq_zero (by rw [HQ.out, hj0])
              have HL0 : Hid (leastP cs = 0) := hid (by rw [hcs]; rfl)
              clear hcs HQ HCG HCS HOL HI
              subst hj0
              go_wp2_with fail
              go_meet
              exact ⟨by rw [HL0.out]; rfl, rfl⟩
            · have g2 : decide ((0 : Int) < (j : Int)) = true := by rw [decide_eq_true_iff]; omega
              have g2' : decide (0 < j) = true := by rw [decide_eq_true_iff]; omega
              have hjd : 0 < (l.drop (7 * i)).length := by
                have h := congrArg List.length HCG.out
                rw [List.length_take, HQ.out] at h
                omega
              obtain ⟨b, off, rfl, hc⟩ := pa_at HI.out.rst hjd
              have x0 := cells_keep HBB.out (cells_keep HI.out.bel (hc 0 hjd).1)
              rw [Nat.zero_mul, Nat.add_zero] at x0
              have hle : ((l.drop (7 * i))[0]'hjd).key = leastP cs := by
                have key : ∀ (ys : List Pa) (h : 0 < ys.length), (ys[0]'h).key = leastP (ys.take 7) := fun ys h => by
                  cases ys with
                  | nil => cases h
                  | cons p r => rfl
                rw [HCG.out]
                exact key _ hjd
              rw [hle] at x0
              have hn0 : (0 : Int) < (n' : Int) := by omega
              have hn0' : 0 < n' := by omega
              clear hle hc hjd HQ HCG HCS HOL HI
              go_wp2_with fail
              go_meet
              exact ⟨rfl, rfl⟩
          case rest =>
          obtain ⟨rfl, rfl⟩ := hcut
          have hvi : i ≤ 100 := by omega
          have HK4 := hid (own_below HI.out.kid HBB.out)
          have HU4 := hid (HI.out.out.below HBB.out)
          have hlc : leastP cs < 18446744073709551616 := by
            have : ∀ p ∈ cs, p.ok := fun p hp => by
              apply HOK.out
              rw [HCG.out] at hp
              exact List.mem_of_mem_drop (List.mem_of_mem_take hp)
            cases cs with
            | nil => decide
            | cons p r => exact (this p (List.mem_cons_self ..)).1
          have HBW := hid (past HI.out.bel HBB.out)
          have HX := hid ((Below.refl _ wq).alloc (Nat.le_refl _) (.cells #[.int .u64 (leastP cs : Int), .int .i64 (i : Int)] 57))
          clear hlc
          go_wp2_with (
             refine wpList_append_row _ rfl (.tmp 44) (.tmp 49) kdT rfl w.heap.size (.slice B i d) i ((kidsP 0 ((leafC l).take i)).flatMap kdC) rfl (own_below HK4.out HX.out) (some ⟨wq.heap.size, 0, none⟩) 1 1 [.int .u64 (leastP cs : Int), .int .i64 (i : Int)] rfl rfl (Row.of_block (heap_alloc_new wq (Obj.cells #[.int .u64 (leastP cs : Int), .int .i64 (i : Int)] 57))) (by simp [Value.oneCell']) (by simp only [maxLen]; omega) (by omega) (Nat.le_trans HBW.out.size HX.out.size) ?_
             intro B2 d2 w3 ho2 hg2 hh2
             have HB3 := hid ((past HBW.out HX.out).grown hg2 (Nat.le_trans HBW.out.size HX.out.size) (own_base HK4.out))
             have HU3 := hid ((HU4.out.below HX.out).grown (own_below HK4.out HX.out) (by decide) (by decide) hg2)
             have HL3 := hid (own_grown (own_below HOL.out HX.out) (own_below HK4.out HX.out) (by decide) hg2)
             have HK3 := hid ho2
             clear ho2 hg2 hh2)
          have HPG := hid (fun X (hX : Below w3.heap.size w3 X) => page_any Ab nb cb (leafL cs) X ⟨by have := HL3.out.1; simpa using this, (Row.of_own HL3.out).below hX⟩ (by omega))
          have hqd : (j : Int) ≤ (n' : Int) := by omega
          obtain ⟨A3, hA3⟩ : ∃ A3, (if c' = j then A' else A'.map (fun x => x.add (j * 2))) = A3 := ⟨_, rfl⟩
          refine wp_region_noPanic ?_
          refine wp_region_held_drew (S := (fun W => True)) (by kernel_rfl) (by first | assumption | trivial) (fun hHeld => ?_)
          refine wpAnyH_take (i := 0) (v := ?_) rfl (by kernel_rfl) (by kernel_rfl) (by kernel_rfl) (fun _ _ _ h => h) (Or.inl ⟨by kernel_rfl, ?_⟩) (by first | assumption | trivial) ?_
          rotate_left
          · (intro wS hSw; (try dsimp only at hSw); go_simp; try with_reducible rfl)
          (try simp only [List.append_eq, List.cons_append, List.nil_append, List.getElem_toArray, List.getElem_cons_succ, List.getElem_cons_zero, Act.put, List.setIfInBounds_toArray, List.set_cons_zero, List.set_cons_succ])
          refine wpAnyH_take (i := 1) (v := ?_) rfl (by kernel_rfl) (by kernel_rfl) (by kernel_rfl) (fun _ _ _ h => h) (Or.inl ⟨by kernel_rfl, ?_⟩) (by first | assumption | trivial) ?_
          rotate_left
          · (intro wS hSw; (try dsimp only at hSw); go_simp; try with_reducible rfl)
          (try simp only [List.append_eq, List.cons_append, List.nil_append, List.getElem_toArray, List.getElem_cons_succ, List.getElem_cons_zero, Act.put, List.setIfInBounds_toArray, List.set_cons_zero, List.set_cons_succ])
          refine wpAnyH_take (i := 5) (v := ?_) rfl (by kernel_rfl) (by kernel_rfl) (by kernel_rfl) (fun _ _ _ h => h) (Or.inl ⟨by kernel_rfl, ?_⟩) (by first | assumption | trivial) ?_
          rotate_left
          · (intro wS hSw; (try dsimp only at hSw); go_simp; try with_reducible rfl)
          (try simp only [List.append_eq, List.cons_append, List.nil_append, List.getElem_toArray, List.getElem_cons_succ, List.getElem_cons_zero, Act.put, List.setIfInBounds_toArray, List.set_cons_zero, List.set_cons_succ])
          refine wpAnyH_take (i := 6) (v := ?_) rfl (by kernel_rfl) (by kernel_rfl) (by kernel_rfl) (fun _ _ _ h => h) (Or.inl ⟨by kernel_rfl, ?_⟩) (by first | assumption | trivial) ?_
          rotate_left
          · (intro wS hSw; (try dsimp only at hSw); go_simp; try with_reducible rfl)
          (try simp only [List.append_eq, List.cons_append, List.nil_append, List.getElem_toArray, List.getElem_cons_succ, List.getElem_cons_zero, Act.put, List.setIfInBounds_toArray, List.set_cons_zero, List.set_cons_succ])
          refine wpAnyH_take (i := 7) (v := ?_) rfl (by kernel_rfl) (by kernel_rfl) (by kernel_rfl) (fun _ _ _ h => h) (Or.inl ⟨by kernel_rfl, ?_⟩) (by first | assumption | trivial) ?_
          rotate_left
          · (intro wS hSw; (try dsimp only at hSw); go_simp; try with_reducible rfl)
          (try simp only [List.append_eq, List.cons_append, List.nil_append, List.getElem_toArray, List.getElem_cons_succ, List.getElem_cons_zero, Act.put, List.setIfInBounds_toArray, List.set_cons_zero, List.set_cons_succ])
          refine wpAnyH_ready (rs := [2]) (by kernel_rfl) (by simp) ?_
          refine AllReadyH.cons rfl (fun K hK => ?_) AllReadyH.nil
          go_simp
          (go_at_call 22; refine (HPG.out _ (bq (Below.refl _ w3) 1)).mono ?_; rintro e w4 ⟨g, rfl, hE, hg, b4⟩; have HE4 := hid hE; have HG4 := hid hg; have HB4 : Hid (Below w3.heap.size w3 w4) := hid (past (bq (Below.refl _ w3) 1) b4); clear hE hg b4)
          go_wp2_with fail
          refine hK.out _ _ (by first | assumption | trivial) (fun hHeld => ?_)
          clear hK K
          (try simp only [List.append_eq, List.cons_append, List.nil_append, List.getElem_toArray, List.getElem_cons_succ, List.getElem_cons_zero, Act.put, List.setIfInBounds_toArray, List.set_cons_zero, List.set_cons_succ])
          refine wpAnyH_ready (rs := [3]) (by kernel_rfl) (by simp) ?_
          refine AllReadyH.cons rfl (fun K hK => ?_) AllReadyH.nil
          go_simp
          skip
          go_wp2_with fail
          refine hK.out _ _ (by first | assumption | trivial) (fun hHeld => ?_)
          clear hK K
          (try simp only [List.append_eq, List.cons_append, List.nil_append, List.getElem_toArray, List.getElem_cons_succ, List.getElem_cons_zero, Act.put, List.setIfInBounds_toArray, List.set_cons_zero, List.set_cons_succ])
          have HB5 : Hid (Below w3.heap.size w3 (w4.alloc (.cells #[.slice (some ⟨g, 0, none⟩) 128 128] 34))) := hid (past HB4.out ((Below.refl _ w4).alloc (Nat.le_refl _) _))
          refine wpAnyH_ready (rs := [4]) (by kernel_rfl) (by simp) ?_
          refine AllReadyH.cons rfl (fun K hK => ?_) AllReadyH.nil
          rw [if_pos (by kernel_rfl)]
          (refine wp_append_row _ (.tmp 51) (.tmp 54) pgsT rfl w.heap.size (.slice A1 i c1) i vs rfl (own_below HU3.out.own HB5.out) (some ⟨w4.heap.size, 0, none⟩) 1 1 [.slice (some ⟨g, 0, none⟩) 128 128] rfl rfl (Row.of_block (heap_alloc_new w4 (.cells #[.slice (some ⟨g, 0, none⟩) 128 128] 34))) (by simp [Value.oneCell']) (by simp only [maxLen]; omega) (by omega) (Nat.le_trans HB3.out.size HB5.out.size) ?_; intro A5 c5 w5 ho5 hg5 hh5; have HO5 := hid ho5; have HG5 := hid hg5; clear ho5 hg5 hh5)
          refine hK.out _ _ (by first | assumption | trivial) (fun hHeld => ?_)
          clear hK K
          (try simp only [List.append_eq, List.cons_append, List.nil_append, List.getElem_toArray, List.getElem_cons_succ, List.getElem_cons_zero, Act.put, List.setIfInBounds_toArray, List.set_cons_zero, List.set_cons_succ])
          refine wpAnyH_take (i := 8) (v := ?_) rfl (by kernel_rfl) (by kernel_rfl) (by kernel_rfl) (fun _ _ _ h => h) (Or.inl ⟨by kernel_rfl, ?_⟩) (by first | assumption | trivial) ?_
          rotate_left
          · (intro wS hSw; (try dsimp only at hSw); go_simp; try with_reducible rfl)
          (try simp only [List.append_eq, List.cons_append, List.nil_append, List.getElem_toArray, List.getElem_cons_succ, List.getElem_cons_zero, Act.put, List.setIfInBounds_toArray, List.set_cons_zero, List.set_cons_succ])
          refine wpAnyH_take (i := 9) (v := ?_) rfl (by kernel_rfl) (by kernel_rfl) (by kernel_rfl) (fun _ _ _ h => h) (Or.inl ⟨by kernel_rfl, ?_⟩) (by first | assumption | trivial) ?_
          rotate_left
          · (intro wS hSw; (try dsimp only at hSw); go_simp; try with_reducible rfl)
          (try simp only [List.append_eq, List.cons_append, List.nil_append, List.getElem_toArray, List.getElem_cons_succ, List.getElem_cons_zero, Act.put, List.setIfInBounds_toArray, List.set_cons_zero, List.set_cons_succ])
          refine wpAnyH_done (by kernel_rfl) ?_ _
          refine NoPanic.normal ?_
          have HFI : Hid (LfI w w5 l (i + 1) A5 c5 B2 d2 (vs ++ [.slice (some ⟨g, 0, none⟩) 128 128]) A3 (n' - j) (c' - j)) := hid (by
            obtain ⟨hil, hcs⟩ := HCS.out
            have hal : Below w4.heap.size w4 (w4.alloc (.cells #[.slice (some ⟨g, 0, none⟩) 128 128] 34)) := (Below.refl _ w4).alloc (Nat.le_refl _) _
            have hpl : (pageP (leafL cs)).length = 128 := pageP_len _ (by rw [leafL_len, HQ.out]; omega)
            have hgb : w.heap.size ≤ g := Nat.le_trans HB3.out.size HG4.out
            have hpg : PgOwn (w4.alloc (.cells #[.slice (some ⟨g, 0, none⟩) 128 128] 34)) w.heap.size (.slice (some ⟨g, 0, none⟩) 128 128) (pageP (leafL cs)) := ⟨g, rfl, HE4.out.below hal, hgb, hpl⟩
            have hou := ((HU3.out.below HB4.out).below hal).put hpg HO5.out HG5.out
            have hkk := own_grown (own_below HK3.out HB5.out) (own_below HU3.out.own HB5.out) (by decide) HG5.out
            refine HI.out.step hil j (by rw [hcs]; exact HQ.out) hA3 ?_ ?_ ?_
            · rw [leaves_take l i hil, hcs]; exact hou
            · rw [kidsP_take _ _ hil, hcs, List.flatMap_append]; exact hkk
            · exact (past HB3.out HB5.out).grown HG5.out (Nat.le_trans HB3.out.size HB5.out.size) (own_base HU3.out.own))
          clear hHeld
          go_wp2_with fail
          go_roundw
          case rel => exact ⟨i + 1, A5, c5, B2, d2, _, A3, n' - j, c' - j, by omega, rfl, rfl, rfl, by go_num, HFI⟩
          case measure => simp [intOf]; omega
    · have d1 := lt_f hlt
      have d1' := lt_nf hlt
      have hik : i = k := by omega
      have HFI : Hid (k = (leafC l).length ∧ OutI w.heap.size wr A1 k c1 vs (leavesL l) ∧ wr.ownsRow w.heap.size 57 2 (.slice B k d) k ((kidsP 0 (leafC l)).flatMap kdC) ∧ Below w.heap.size w wr) := hid (by
        subst hik
        have h1 := HI.out.out
        have h2 := HI.out.kid
        rw [List.take_of_length_le (by unfold leavesL; rw [List.length_map, HCL.out]; exact Nat.le_refl _)] at h1
        rw [List.take_of_length_le (by rw [HCL.out]; exact Nat.le_refl _)] at h2
        exact ⟨HCL.out.symm, h1, h2, HI.out.bel⟩)
      clear HI
      subst hik
      go_wp2_with fail
      go_ret2
      exact ⟨A1, i, c1, B, d, vs, rfl, HFI.out.1, HFI.out.2.1, HFI.out.2.2.1, HFI.out.2.2.2⟩
end Go.Proofs.Ytlhngieinmgooaa
