/-
  The walk of the document's Turn. A part of the proof: see the head of the text that ends in 'Law'.
-/
import Derived.Test.YtccdgfacdohknaaSp9
namespace Go.Proofs.Ytccdgfacdohknaa
open Go.RowKit
set_option linter.unusedVariables false

/-- A slice of n flags at A reads as l. -/
def BRow (w : World) (A : Option Addr) (n : Nat) (l : List Bool) : Prop := l.length = n ∧ Row w A (l.map Value.bool)
theorem BRow.below {w w' : World} {A : Option Addr} {n : Nat} {xs : List Bool} (h : BRow w A n xs) (hb : Below w.heap.size w w') : BRow w' A n xs := ⟨h.1, h.2.below hb⟩
theorem BRow.alloc {w : World} {A : Option Addr} {n : Nat} {xs : List Bool} (h : BRow w A n xs) (o : Obj) : BRow (w.alloc o) A n xs := ⟨h.1, h.2.alloc o⟩
theorem BRow.nil (w : World) (A : Option Addr) : BRow w A 0 [] := ⟨rfl, Row.nil _ _⟩
theorem BRow.at_ {w : World} {A : Option Addr} {n : Nat} {xs : List Bool} (h : BRow w A n xs) (hn : 0 < n) :
    ∃ b off, A = some ⟨b, off, none⟩ ∧ ∀ j (hj : j < xs.length), w.cell? ⟨b, off + j, none⟩ = some (.bool xs[j]) := by
  obtain ⟨b, off, hA, hc⟩ := h.2 (by have := h.1; intro e; simp at e; subst e; simp at this; omega)
  exact ⟨b, off, hA, fun j hj => hc j _ (by simp [hj])⟩
theorem one_bool (l : List Bool) : ∀ u ∈ l.map Value.bool, u.oneCell' = true := by
  intro u hu
  obtain ⟨x, _, rfl⟩ := List.mem_map.1 hu
  rfl
theorem one_int (l : List Int) : ∀ u ∈ l.map (Value.int .i64), u.oneCell' = true := by
  intro u hu
  obtain ⟨x, _, rfl⟩ := List.mem_map.1 hu
  rfl
theorem OwnS.brow {w : World} {base n : Nat} {A : Option Addr} {T : TypeId} {l : List Bool} (h : OwnS w base A n T (l.map Value.bool)) (hl : l.length = n) : BRow w A n l := by
  refine ⟨hl, fun hne => ?_⟩
  obtain ⟨g, rfl, _, ho⟩ := h (by have : (l.map Value.bool).length ≠ 0 := by intro e; exact hne (List.eq_nil_of_length_eq_zero e)
                                  rw [List.length_map] at this; omega)
  exact ho.row hne

/-- What hands back flags and an error's number comes to. -/
def FlPost (w : World) (r : List Bool × Nat) (e : Ending) (w' : World) : Prop :=
  ∃ A' c', e = .returned (.tuple #[.slice A' r.1.length c', .int .i64 r.2]) ∧ BRow w' A' r.1.length r.1 ∧ Below w.heap.size w w'
theorem FlPost.none_ {w w' : World} (e : Nat) (hb : Below w.heap.size w w') : FlPost w ([], e) (.returned (.tuple #[.slice none 0 0, .int .i64 e])) w' := ⟨none, 0, rfl, BRow.nil _ _, hb⟩

set_option maxHeartbeats 4000000 in
theorem refTurn_any (l : List Bool) (A : Option Addr) (n c : Nat) (w : World) (B : Option Addr) (nb cb : Nat) (ps : List Int) (used : Bool) (e : Nat) (ho : BRow w A n l) (hn : n ≤ 100000) (hB : IRow w B nb ps) (hnb : nb ≤ 100000) :
    Calls Try.prog 17 #[.slice A n c, .slice B nb cb, .bool used, .int .i64 e] w (FlPost w (turnF l ps used e)) := by
  have o1 := hid (ho.alloc (Obj.cells #[] 4))
  have HL := hid ho.1
  have HP := hid hB.1
  have HR := hid hB
  clear ho hB
  generalize hT : turnF l ps used e = tf
  have HT := hid hT
  clear hT
  go_enter Try.func17, Try.ntmps17
  go_wp2_with (
    at_builtin
    refine wpList_append_row _ rfl (.tmp 12) (.tmp 13) boolsT rfl w.heap.size (.slice (some ⟨w.heap.size, 0, none⟩) 0 0) 0 [] rfl (World.ownsRow_lit w #[] 0 (Nat.le_refl _) (Nat.zero_le _) rfl) A n c (l.map Value.bool) rfl (by rw [List.length_map, HL.out, Nat.mul_one]) o1.out.2 (one_bool _) (by simp only [maxLen]; omega) (by omega) (by simp) ?_
    intro A1 c1 w1 hown1 hgr1 hat1
    have b1 : Below w.heap.size w w1 := ((Below.refl _ w).alloc (Nat.le_refl _) _).grown hgr1 (by simp) (fun k hk => by simp [Value.ownBlock] at hk; omega)
    simp only [Nat.zero_add, List.nil_append] at hown1
    have B1 := hid b1
    have OS := hid (OwnS.of_own hown1)
    clear hgr1 hat1 hown1 b1)
  go_loopw [11] (fun i wr => ∃ (k : Nat) (lk : List Bool), k ≤ nb ∧ i = .int .i64 k ∧ Hid (tf = turnF lk (ps.drop k) used e ∧ OwnS wr w.heap.size A1 n 4 (lk.map Value.bool) ∧ lk.length = n ∧ Below w.heap.size w wr)) (fun i wr => nb - (intOf i).toNat)
  case atStart => exact ⟨0, l, by omega, rfl, hid ⟨HT.out.symm, OS.out, HL.out, B1.out⟩⟩
  case round =>
    obtain ⟨k, lk, hk, rfl, hI⟩ := hrel
    clear OS B1 o1
    by_cases hlt : k < nb
    · have hkp : k < ps.length := by rw [HP.out]; exact hlt
      have hd := hid (List.drop_eq_getElem_cons hkp)
      obtain ⟨b, off, rfl, hc⟩ := HR.out.at_ (by omega)
      have hck := cells_keep hI.out.2.2.2 (hc k (by rw [HP.out]; exact hlt))
      clear hc
      generalize ps[k] = p at hd hck
      by_cases hr : p < 0 ∨ (n : Int) ≤ p
      · have ht : tf = ([], 4) := by rw [hI.out.1, hd.out, turnF_cons, if_pos (by rw [hI.out.2.2.1]; exact hr)]
        have HTT := hid ht
        clear ht
        by_cases h0 : p < 0
        · have d0 : decide (p < 0) = true := by simpa using h0
          go_wp2
          go_ret2
          rw [HTT.out]
          exact FlPost.none_ 4 hI.out.2.2.2
        · have d0 : decide (p < 0) = false := by simpa using h0
          have d1 : decide ((n : Int) ≤ p) = true := by simp; omega
          clear hr
          go_wp2
          go_ret2
          rw [HTT.out]
          exact FlPost.none_ 4 hI.out.2.2.2
      · obtain ⟨q, rfl⟩ : ∃ q : Nat, p = q := ⟨p.toNat, by omega⟩
        have hqn : q < n := by omega
        have d0 : decide ((q : Int) < 0) = false := by simp
        have d1 : decide ((n : Int) ≤ q) = false := by simp; omega
        have hq0 : (0 : Int) ≤ q := by omega
        have hq1 : (q : Int) < n := by omega
        have hr' := hid hr
        clear hr
        obtain ⟨g, rfl, hg, og⟩ := hI.out.2.1 (by omega)
        obtain ⟨bx, hbx⟩ : ∃ bx, Hid (lk[q]? = some bx) := ⟨lk[q]'(by rw [hI.out.2.2.1]; exact hqn), hid (List.getElem?_eq_getElem _)⟩
        have x0 : wr.cell? ⟨g, q, none⟩ = some (.bool bx) := og.cell (by rw [List.getElem?_map, hbx.out]; rfl)
        have x1 := og.frozen q
        have OG := hid og
        clear og
        by_cases hu : bx = used
        · subst hu
          go_wp2
          go_roundw
          case rel =>
            have hst := OG.out.set q (.bool (!bx))
            rw [← List.map_set] at hst
            refine ⟨k + 1, lk.set q (!bx), by omega, by go_num, hid ⟨?_, fun _ => ⟨g, rfl, hg, hst⟩, by rw [List.length_set]; exact hI.out.2.2.1, hI.out.2.2.2.setCell hg _⟩⟩
            rw [hI.out.1, hd.out, turnF_cons, if_neg (by rw [hI.out.2.2.1]; exact hr'.out), Int.toNat_natCast, List.getD_eq_getElem?_getD, hbx.out, Option.getD_some, if_neg (by simp)]
          case measure => simp [intOf]; omega
        · have ht : tf = ([], e) := by rw [hI.out.1, hd.out, turnF_cons, if_neg (by rw [hI.out.2.2.1]; exact hr'.out), Int.toNat_natCast, List.getD_eq_getElem?_getD, hbx.out, Option.getD_some, if_pos (by simpa using hu)]
          have HTT := hid ht
          have hu2 : (!(bx == used)) = true := by simpa using hu
          have hu3 : (bx == used) = false := by simpa using hu
          have hu4 : (bx != used) = true := by simpa using hu
          clear ht
          go_wp2
          go_ret2
          rw [HTT.out]
          exact FlPost.none_ e hI.out.2.2.2
    · have hkn := hid (show k = nb by omega)
      go_wp2
      go_ret2
      have ht : tf = (lk, 0) := by rw [hI.out.1, List.drop_of_length_le (by rw [HP.out, hkn.out]; exact Nat.le_refl _)]; rfl
      rw [ht]
      exact ⟨A1, c1, by rw [hI.out.2.2.1]; rfl, by simp only [hI.out.2.2.1]; exact hI.out.2.1.brow hI.out.2.2.1, hI.out.2.2.2⟩
end Go.Proofs.Ytccdgfacdohknaa
