/-
  The walk of the document's Take. A part of the proof: see the head of the text that ends in 'Law'.
-/
import Derived.Test.YtccdgfacdohknaaSp11
import Derived.Test.YtccdgfacdohknaaSpPlain3
namespace Go.Proofs.Ytccdgfacdohknaa
open Go.RowKit
set_option linter.unusedVariables false

/-- The pages that are taken. -/
def takeL (l : List Bool) (k : Nat) : List Nat := (freeL l l.length).take k
theorem freeL_pre (l : List Bool) (j : Nat) : ∀ n, j ≤ n → (freeL l n).take (freeL l j).length = freeL l j
  | 0, h => by
    obtain rfl : j = 0 := by omega
    rfl
  | n + 1, h => by
    by_cases hj : j = n + 1
    · subst hj
      rw [List.take_length]
    · have ih := freeL_pre l j n (by omega)
      rw [freeL_succ]
      split
      · exact ih
      · have hlen : (freeL l j).length ≤ (freeL l n).length := by
          have h1 := congrArg List.length ih
          rw [List.length_take] at h1
          omega
        rw [List.take_append_of_le_length hlen, ih]
theorem takeL_at (l : List Bool) (k j : Nat) (hj : j ≤ l.length) (h : (freeL l j).length = k) : takeL l k = freeL l j := by
  unfold takeL
  rw [← h]
  exact freeL_pre l j _ hj
theorem takeL_all (l : List Bool) (k : Nat) (h : (freeL l l.length).length ≤ k) : takeL l k = freeL l l.length := List.take_of_length_le h
def I8 (j : Nat) : Value := .int .i64 (j : Int)
theorem one_nat (l : List Nat) : ∀ u ∈ l.map I8, u.oneCell' = true := by
  intro u hu
  obtain ⟨x, _, rfl⟩ := List.mem_map.1 hu
  rfl
theorem irow_nat {w : World} {A : Option Addr} {n : Nat} {q : List Nat} (hl : q.length = n) (h : Row w A (q.map I8)) : IRow w A n (q.map Int.ofNat) := by
  refine ⟨by simpa using hl, ?_⟩
  rw [List.map_map]
  exact h
theorem int_beq (m k : Nat) : ((m : Int) == (k : Int)) = (m == k) := by
  rw [Bool.eq_iff_iff, beq_iff_eq, beq_iff_eq]
  omega
def TkPost (w : World) (l : List Bool) (k : Nat) (e : Ending) (w' : World) : Prop :=
  ∃ A1 c1 A2 c2, e = .returned (.tuple #[.slice A1 l.length c1, .slice A2 (takeL l k).length c2, .bool ((takeL l k).length == k)]) ∧ BRow w' A1 l.length (markF l (takeL l k)) ∧ IRow w' A2 (takeL l k).length ((takeL l k).map Int.ofNat) ∧ Below w.heap.size w w'
structure TkI (w0 wr : World) (l : List Bool) (j m : Nat) (A1 A2 : Option Addr) (c2 : Nat) : Prop where
  out : OwnS wr w0.heap.size A1 l.length 4 ((markF l (freeL l j)).map Value.bool)
  p : wr.ownsRow w0.heap.size 3 1 (.slice A2 m c2) m ((freeL l j).map I8)
  m : m = (freeL l j).length
  b : Below w0.heap.size w0 wr

set_option maxHeartbeats 4000000 in
theorem refTake_any (l : List Bool) (A : Option Addr) (n c k : Nat) (w : World) (ho : BRow w A n l) (hn : n ≤ 100000) :
    Calls Try.prog 14 #[.slice A n c, .int .i64 k] w (TkPost w l k) := by
  have o1 := hid (ho.alloc (Obj.cells #[] 4))
  obtain rfl : l.length = n := ho.1
  clear ho
  generalize hT : TkPost w l k = R
  have HT := hid hT
  clear hT
  go_enter Try.func14, Try.ntmps14
  go_wp2_with (
    at_builtin
    refine wpList_append_row _ rfl (.tmp 10) (.tmp 11) boolsT rfl w.heap.size (.slice (some ⟨w.heap.size, 0, none⟩) 0 0) 0 [] rfl (World.ownsRow_lit w #[] 0 (Nat.le_refl _) (Nat.zero_le _) rfl) A l.length c (l.map Value.bool) rfl (by rw [List.length_map, Nat.mul_one]) o1.out.2 (one_bool _) (by simp only [maxLen]; omega) (by omega) (by simp) ?_
    intro A1 c1 w1 hown1 hgr1 hat1
    have b1 : Below w.heap.size w w1 := ((Below.refl _ w).alloc (Nat.le_refl _) _).grown hgr1 (by simp) (fun k hk => by simp [Value.ownBlock] at hk; omega)
    simp only [Nat.zero_add, List.nil_append] at hown1
    have B1 := hid b1
    have OS := hid (OwnS.of_own hown1)
    clear hgr1 hat1 hown1 b1)
  go_loopw [8, 9] (fun p i wr => ∃ (j m : Nat) (A2 : Option Addr) (c2 : Nat), j ≤ l.length ∧ m ≤ k ∧ i = .int .i64 j ∧ p = .slice A2 m c2 ∧ Hid (TkI w wr l j m A1 A2 c2)) (fun p i wr => l.length - (intOf i).toNat)
  case atStart => exact ⟨0, 0, none, 0, by omega, by omega, rfl, rfl, hid ⟨OS.out, World.ownsRow_nil _ _ _ _, rfl, B1.out⟩⟩
  case round =>
    obtain ⟨j, m, A2, c2, hj, hm, rfl, rfl, hI⟩ := hrel
    clear OS B1 o1
    have hmj : m ≤ j := by rw [hI.out.m]; exact freeL_len l j
    by_cases hlt : j < l.length
    · have d0 : decide (j < l.length) = true := by simpa using hlt
      by_cases hmk : m < k
      · have d1 : decide (m < k) = true := by simpa using hmk
        obtain ⟨g, rfl, hg, og⟩ := hI.out.out (by omega)
        obtain ⟨bx, hbx⟩ : ∃ bx, Hid (l[j] = bx) := ⟨_, hid rfl⟩
        have hgd : l.getD j false = bx := by rw [List.getD_eq_getElem?_getD, List.getElem?_eq_getElem hlt]; exact hbx.out
        have HGD := hid hgd
        have hmark : (markF l (freeL l j))[j]? = some bx := by
          have h1 := markF_getD j (freeL l j) l (fun i hi => by have := (freeL_lt l j i hi).1; omega)
          have h2 : decide (j ∈ freeL l j) = false := by
            apply decide_eq_false
            intro h
            have := (freeL_lt l j j h).1
            omega
          rw [h2, Bool.or_false, hgd, List.getD_eq_getElem?_getD, List.getElem?_eq_getElem (by rw [markF_length]; exact hlt), Option.getD_some] at h1
          rw [List.getElem?_eq_getElem (by rw [markF_length]; exact hlt), h1]
        have x0 : wr.cell? ⟨g, j, none⟩ = some (.bool bx) := og.cell (by rw [List.getElem?_map, hmark]; rfl)
        have x1 := og.frozen j
        have OG := hid og
        clear og hmark hgd
        cases bx with
        | true =>
          go_wp2
          go_roundw
          case rel =>
            have hf : freeL l (j + 1) = freeL l j := by rw [freeL_succ, HGD.out]; rfl
            exact ⟨j + 1, m, A2, c2, by omega, hm, by go_num, rfl, hid ⟨by rw [hf]; exact hI.out.out, by rw [hf]; exact hI.out.p, by rw [hf]; exact hI.out.m, hI.out.b⟩⟩
          case measure => simp [intOf]; omega
        | false =>
          go_wp2_with (
            at_builtin
            refine wpList_append_row _ rfl (.tmp 33) (.tmp 35) intsT rfl w.heap.size (.slice A2 m c2) m ((freeL l j).map I8) rfl (own_alloc (own_off hI.out.p (own_ne hI.out.p OG.out (by decide)) _) _) (some ⟨wr.heap.size, 0, none⟩) 1 1 [.int .i64 j] rfl rfl (row_box _ _ (by simp)) (by simp [Value.oneCell']) (by simp only [maxLen]; omega) (by omega) (by have := hI.out.b.size; simp; omega) ?_
            intro A3 c3 w3 hown3 hgr3 hat3
            have OG3 := hid (((OG.out.set j (.bool true)).alloc (Obj.cells #[.int .i64 j] 3)).grown hgr3 (own_ne hI.out.p OG.out (by decide)))
            have B3 := hid (((hI.out.b.setCell (p := ⟨g, j, none⟩) hg (.bool true)).alloc (by have := hI.out.b.size; simp; omega) (Obj.cells #[.int .i64 j] 3)).grown hgr3 (by have := hI.out.b.size; simp; omega) (own_base hI.out.p))
            have P3 := hid hown3
            clear hown3 hgr3 hat3)
          go_roundw
          case rel =>
            have hf : freeL l (j + 1) = freeL l j ++ [j] := by rw [freeL_succ, HGD.out]; rfl
            refine ⟨j + 1, m + 1, A3, c3, by omega, by omega, by go_num, rfl, hid ⟨?_, ?_, ?_, B3.out⟩⟩
            · rw [hf, markF_snoc, List.map_set]
              exact fun _ => ⟨g, rfl, hg, OG3.out⟩
            · rw [hf, List.map_append]
              exact P3.out
            · rw [hf, List.length_append, ← hI.out.m]
              rfl
          case measure => simp [intOf]; omega
      · have d1 : decide (m < k) = false := by simpa using hmk
        have hmk2 : m = k := by omega
        have ht := hid (takeL_at l k j hj (by rw [← hI.out.m]; exact hmk2))
        have HMK := hid hmk
        clear hmk hmk2
        go_wp2
        go_ret3
        rw [← HT.out]
        refine ⟨A1, c1, A2, c2, ?_, by rw [ht.out]; exact hI.out.out.brow (markF_length _ _), ?_, hI.out.b⟩
        · rw [ht.out, ← hI.out.m]
          simp [int_beq]
        · rw [ht.out, ← hI.out.m]
          exact irow_nat hI.out.m.symm (Row.of_own hI.out.p)
    · have d0 : decide (j < l.length) = false := by simpa using hlt
      have hjl : j = l.length := by omega
      have ht := hid (takeL_all l k (by rw [← hjl, ← hI.out.m]; exact hm))
      have HJ := hid hjl
      clear hjl
      go_wp2
      go_ret3
      rw [← HT.out]
      have hfe : freeL l l.length = freeL l j := by rw [HJ.out]
      refine ⟨A1, c1, A2, c2, ?_, by rw [ht.out, hfe]; exact hI.out.out.brow (markF_length _ _), ?_, hI.out.b⟩
      · rw [ht.out, hfe, ← hI.out.m]
        simp [int_beq]
      · rw [ht.out, hfe, ← hI.out.m]
        exact irow_nat hI.out.m.symm (Row.of_own hI.out.p)
end Go.Proofs.Ytccdgfacdohknaa
