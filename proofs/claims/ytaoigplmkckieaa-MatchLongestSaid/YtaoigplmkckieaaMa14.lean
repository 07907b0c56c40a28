/-
  The tokens of octets, as the program finds them. A part of the proof: see the head of the text that ends in 'Law'.
-/
import Derived.Test.YtaoigplmkckieaaMa13
namespace Go.Proofs.Ytaoigplmkckieaa
open Go.RowKit
set_option linter.unusedVariables false

/-- The finder and the row of tokens, both made by the call. -/
structure FkI (w wr : World) (A : Option Addr) (n c : Nat) (l : List UInt8) (A' : Option Addr) (c' : Nat) (ts : List Tok) (R : Nat → Prop) (u : Nat) : Prop where
  fnd : Fnd w wr (w.heap.size + 1) w.heap.size A n c R u u l
  dis : ∀ g, (Value.slice A' ts.length c').ownBlock = some g → ¬ Mine (w.heap.size + 1) w.heap.size R g
  tk : TkI w wr A' c' ts
theorem FkI.kept {w wr w2 : World} {A A' : Option Addr} {n c c' u p : Nat} {l : List UInt8} {ts : List Tok} {R : Nat → Prop} (h : FkI w wr A n c l A' c' ts R u) (hK : KeepI w wr w2 (w.heap.size + 1) w.heap.size A n c p p R l) : ∃ R', FkI w w2 A n c l A' c' ts R' p := by
  obtain ⟨R', F, hR, hO⟩ := hK
  refine ⟨R', F, ?_, ⟨own_same h.tk.own (fun g hg => hO.block g (h.tk.own.lt g hg).2 (h.dis g hg)), F.bel⟩⟩
  rintro g hg (e | e | e)
  · exact h.dis g hg (Or.inl e)
  · exact h.dis g hg (Or.inr (Or.inl e))
  · rcases hR g e with e | e
    · exact h.dis g hg (Or.inr (Or.inr e))
    · have := (h.tk.own.lt g hg).2
      omega
theorem FkI.app {w wr w3 : World} {A A' A2 : Option Addr} {n c c' c2 u : Nat} {l : List UInt8} {ts : List Tok} {R : Nat → Prop} {t : Tok} (o : Obj) (h : FkI w wr A n c l A' c' ts R u)
    (ho : w3.ownsRow w.heap.size 50 3 (.slice A2 (ts.length + 1) c2) (ts.length + 1) (rowOf ts ++ Tok.cells t)) (hg : (wr.alloc o).grownBy w3 (Value.slice A' ts.length c').ownBlock)
    (hl : Value.ownBlock (.slice A2 (ts.length + 1) c2) = (Value.slice A' ts.length c').ownBlock ∨ Value.ownBlock (.slice A2 (ts.length + 1) c2) = some (wr.alloc o).heap.size) : FkI w w3 A n c l A2 c2 (ts ++ [t]) R u := by
  have h1 : Only (fun g => (Value.slice A' ts.length c').ownBlock = some g) wr w3 :=
    (Only.of_below (T := fun g => (Value.slice A' ts.length c').ownBlock = some g) ((Below.refl _ wr).alloc (Nat.le_refl _) o)).trans (Only.of_grown hg (fun g hg => hg)) (fun g hg => Or.inl hg)
  refine ⟨h.fnd.only h1 (fun g hg => ⟨own_base h.tk.own g hg, h.dis g hg⟩), ?_, TkI.app o h.tk ho hg⟩
  intro g hg2
  have hg3 : Value.ownBlock (.slice A2 (ts.length + 1) c2) = some g := by
    rw [List.length_append] at hg2
    exact hg2
  rcases hl with e | e
  · exact h.dis g (e ▸ hg3)
  · rw [e] at hg3
    injection hg3 with hg3
    have k1 := h.fnd.cells.lt
    have k2 := h.fnd.grp.lt
    rw [World.size_alloc] at hg3
    rintro (e | e | e)
    · omega
    · omega
    · have := h.fnd.hl g e
      omega
set_option maxHeartbeats 4000000 in
theorem mFind_any (w : World) (n c : Nat) (A : Option Addr) (l : List UInt8) (ho : Oct w A n l) (hnc : n ≤ c) (hcx : c ≤ maxLen) (hn : n ≤ 65536) :
    Calls Try.prog 9 #[.slice A n c] w (FindPost w (toks l 0) 0) := by
  have hl := ho.1
  have hcm : c ≤ 9223372036854775807 := by have h := hcx; unfold maxLen at h; omega
  have d0 : decide ((65536 : Int) < n) = false := by simp; omega
  have d0' : decide (65536 < n) = false := by simp; omega
  have HO := hid ho
  have hmm := @run_makeMap Try.prog
  have HF := hid (Fnd.made w A n c l)
  clear ho
  go_enter Try.func9, Try.ntmps9
  go_wp2
  go_loopw [5, 6] (fun o a wr => ∃ (k : Nat) (ts : List Tok) (A' : Option Addr) (c' : Nat) (R : Nat → Prop) (u : Nat), k ≤ n ∧ u ≤ k ∧ a = .int .i64 (k : Int) ∧ o = .slice A' ts.length c' ∧ ts.length ≤ k ∧ Hid (toks l 0 = ts ++ toks l k) ∧ Hid (FkI w wr A n c l A' c' ts R u)) (fun o a wr => n - (intOf a).toNat)
  case atStart => exact ⟨0, [], none, 0, fun _ => False, 0, by omega, by omega, rfl, rfl, by simp, hid rfl, hid ⟨HF.out, (fun g hg => by cases hg), ⟨World.ownsRow_nil _ _ _ _, HF.out.bel⟩⟩⟩
  case round =>
    obtain ⟨k, ts, A', c', R, u, hk, huk, rfl, rfl, htk, hT, hI⟩ := hrel
    by_cases hlt : k < n
    · have d1 : decide (k < n) = true := by simpa using hlt
      have hs := best_le l k (by omega)
      have hst := stepAt_pos l k
      have hT2 := hT.out
      rw [toks_in (show k < l.length by omega)] at hT2
      by_cases h0 : (bestF l k).1 = 0
      · have e0 : (((bestF l k).1 : Int) == 0) = true := by simp; omega
        have e0' : ((bestF l k).1 == 0) = true := by simp; omega
        have hO := HO.out.below hI.out.tk.bel
        obtain ⟨b, off, rfl, hc⟩ := hO.at_ (by omega)
        obtain ⟨x, hx⟩ : ∃ x, l[k]'(by omega) = x := ⟨_, rfl⟩
        have hP : ∀ W, Below w.heap.size w W → W.cell? ⟨b, off + k, none⟩ = some (.int .u8 (x.toNat : Int)) := fun W hW => by
          obtain ⟨b', off', e, hc'⟩ := (HO.out.below hW).at_ (by omega)
          cases e
          rw [hc' k (by omega), hx]
        have HP := hid hP
        have hta : tokAt l k = ⟨x, 0, 0⟩ := by
          unfold tokAt
          rw [if_pos h0, List.getD_eq_getElem?_getD, List.getElem?_eq_getElem (by omega), hx]
          rfl
        have hsa : stepAt l k = 1 := by unfold stepAt; rw [if_pos h0]
        rw [hta, hsa] at hT2
        have HT2 := hid hT2
        clear hO hc hx hT2 hta hsa hs hst h0 hP
        go_wp2_with (first
          | (
            go_at_call 18
            (with_reducible refine (best_any hI.out.fnd HO.out hnc hcx hn k hlt huk).mono ?_)
            rintro e w2 ⟨rfl, hK⟩
            obtain ⟨R2, hR2⟩ := hI.out.kept hK
            have hI2 := hid hR2
            have p0 := HP.out w2 hI2.out.tk.bel
            have hs2 := hI2.out.tk.bel.size
            clear hK hR2)
          | (
            at_builtin
            refine wpList_append_row _ rfl (.tmp 28) (.tmp 34) sliceTok rfl w.heap.size (.slice A' ts.length c') ts.length (rowOf ts) rfl (own_below hI2.out.tk.own ((Below.refl _ w2).alloc (Nat.le_refl _) _)) (some ⟨w2.heap.size, 0, none⟩) 1 1 [.int .u8 (x.toNat : Int), .int .i64 0, .int .i64 0] rfl rfl (Row.of_block (heap_alloc_new w2 (Obj.cells #[.int .u8 (x.toNat : Int), .int .i64 0, .int .i64 0] 50))) (by simp [Value.oneCell']) (by unfold maxLen; omega) (by omega) (by simp; omega) ?_
            intro A3 c3 w3 hown3 hg3 hl3
            have hI3 := hid (FkI.app (t := ⟨x, 0, 0⟩) _ hI2.out hown3 hg3 hl3)
            clear hown3 hg3 hl3))
        go_roundw
        case rel => exact ⟨k + 1, ts ++ [⟨x, 0, 0⟩], A3, c3, _, k, by omega, by omega, by go_num, by simp, by simp; omega, hid (by rw [HT2.out, List.append_assoc]; rfl), hI3⟩
        case measure => simp [intOf]; omega
      · have e0 : (((bestF l k).1 : Int) == 0) = false := by simp; omega
        have e0' : ((bestF l k).1 == 0) = false := by simp; omega
        have hta : tokAt l k = ⟨0, (bestF l k).1, (bestF l k).2⟩ := by unfold tokAt; rw [if_neg h0]
        have hsa : stepAt l k = (bestF l k).1 := by unfold stepAt; rw [if_neg h0]
        rw [hsa] at hs hst
        rw [hta, hsa] at hT2
        have hrb := best_any hI.out.fnd HO.out hnc hcx hn k hlt huk
        obtain ⟨⟨bm, bd⟩, hbm⟩ : ∃ m, bestF l k = m := ⟨_, rfl⟩
        rw [hbm] at hT2 hs hst e0 e0' hrb
        have HT2 := hid hT2
        have HRB := hid hrb
        clear hT2 hta hsa h0 hbm hrb
        dsimp only at hs hst e0 e0'
        go_wp2_with (first
          | (
            go_at_call 18
            (with_reducible refine HRB.out.mono ?_)
            rintro e w2 ⟨rfl, hK⟩
            obtain ⟨R2, hR2⟩ := hI.out.kept hK
            have hI2 := hid hR2
            have hs2 := hI2.out.tk.bel.size
            clear hK hR2)
          | (
            at_builtin
            refine wpList_append_row _ rfl (.tmp 38) (.tmp 42) sliceTok rfl w.heap.size (.slice A' ts.length c') ts.length (rowOf ts) rfl (own_below hI2.out.tk.own ((Below.refl _ w2).alloc (Nat.le_refl _) _)) (some ⟨w2.heap.size, 0, none⟩) 1 1 [.int .u8 0, .int .i64 (bm : Int), .int .i64 (bd : Int)] rfl rfl (Row.of_block (heap_alloc_new w2 (Obj.cells #[.int .u8 0, .int .i64 (bm : Int), .int .i64 (bd : Int)] 50))) (by simp [Value.oneCell']) (by unfold maxLen; omega) (by omega) (by simp; omega) ?_
            intro A3 c3 w3 hown3 hg3 hl3
            have hI3 := hid (FkI.app (t := ⟨0, bm, bd⟩) _ hI2.out hown3 hg3 hl3)
            clear hown3 hg3 hl3))
        go_roundw
        case rel => exact ⟨k + bm, ts ++ [⟨0, bm, bd⟩], A3, c3, _, k, by omega, by omega, by go_num, by simp, by simp; omega, hid (by rw [HT2.out, List.append_assoc]; rfl), hI3⟩
        case measure => simp [intOf]; omega
    · have d1 : decide (k < n) = false := by simpa using hlt
      have hT2 := hT.out
      rw [toks_out (show ¬ k < l.length by omega), List.append_nil] at hT2
      have HT2 := hid hT2
      clear hT2
      go_wp2
      go_ret2
      rw [HT2.out]
      have hcc := own_cap hI.out.tk.own
      exact ⟨A', c', rfl, hI.out.tk.row, hcc.1, hcc.2, hI.out.tk.bel⟩
theorem mFind_big (w : World) (n c : Nat) (A : Option Addr) (hn : 65536 < n) :
    Calls Try.prog 9 #[.slice A n c] w fun e w' => e = .returned (.tuple #[.slice none 0 0, .int .i64 5]) ∧ Below w.heap.size w w' := by
  have d0 : decide ((65536 : Int) < n) = true := by simp; omega
  have d0' : decide (65536 < n) = true := by simp; omega
  go_enter Try.func9, Try.ntmps9
  go_wp2
  go_ret2
  exact ⟨rfl, Below.refl _ _⟩
end Go.Proofs.Ytaoigplmkckieaa
