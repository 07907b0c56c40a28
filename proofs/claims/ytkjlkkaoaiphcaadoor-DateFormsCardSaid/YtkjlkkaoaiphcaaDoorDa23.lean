/-
  The numbers at a text's places: the program's walk. A part of the proof: see the head of the text that ends in 'Law'.
-/
import Derived.Test.YtkjlkkaoaiphcaaDoorDaPlain4
import Derived.Test.YtkjlkkaoaiphcaaDoorDa17
namespace Go.Proofs.YtkjlkkaoaiphcaaDoor
open Go.RowKit Go.Shelf
set_option linter.unusedVariables false
attribute [local go_sem] Oper.semAt_some

theorem intT : SliceT Tryd.prog 69 3 (.int .i64 0) 1 8 := ⟨Tryd.underlying69, by kernel_rfl, rfl, by decide⟩
def fldV : List Value := [.int .i64 0, .int .i64 2, .int .i64 7, .int .i64 4, .int .i64 12, .int .i64 2, .int .i64 15, .int .i64 2, .int .i64 18, .int .i64 2, .int .i64 22, .int .i64 2, .int .i64 24, .int .i64 2]
def oksT (t : List UInt8) (n : Nat) : Prop := ∀ k, k < n → numOk (pcT t k) = true
def valsT (t : List UInt8) (n : Nat) : List Value := (List.range n).map (fun k => .int .i64 (numV (pcT t k) : Int))
theorem valsT_succ (t : List UInt8) (n : Nat) : valsT t (n + 1) = valsT t n ++ [.int .i64 (numV (pcT t n) : Int)] := by
  unfold valsT
  rw [List.range_succ, List.map_append]
  rfl
theorem valsT_len (t : List UInt8) (n : Nat) : (valsT t n).length = n := by unfold valsT; simp
theorem fld_facts (k : Nat) (hk : k < 7) : fldV[k * 2]? = some (.int .i64 (fA k : Int)) ∧ fldV[k * 2 + 1]? = some (.int .i64 (fN k : Int)) ∧ fA k + fN k ≤ 26 ∧ fN k ≤ 4 := by
  obtain rfl | rfl | rfl | rfl | rfl | rfl | rfl : k = 0 ∨ k = 1 ∨ k = 2 ∨ k = 3 ∨ k = 4 ∨ k = 5 ∨ k = 6 := by omega
  all_goals exact ⟨rfl, rfl, by decide, by decide⟩
theorem row_new2 (wr : World) (o : Obj) (v : Value) (T : TypeId) : Row ((wr.alloc o).alloc (.cells #[v] T)) (some ⟨wr.heap.size + 1, 0, none⟩) [v] := by
  have h := Row.of_block (heap_alloc_new (wr.alloc o) (Obj.cells #[v] T))
  rw [World.size_alloc] at h
  exact h
set_option maxHeartbeats 4000000 in
theorem fields_any (t : List UInt8) (g0 : Nat) (w : World) (hg : OwnC w g0 72 fldV) (ht : t.length = 26) :
    Calls Tryd.prog 34 #[.string (str t), .slice (some ⟨g0, 0, none⟩) 7 7] w fun e w' =>
      (oksT t 7 ∧ ∃ g c, e = .returned (.tuple #[.slice (some ⟨g, 0, none⟩) 7 c, .bool true]) ∧ w'.ownsRow w.heap.size 3 1 (.slice (some ⟨g, 0, none⟩) 7 c) 7 (valsT t 7) ∧ Below w.heap.size w w') ∨
      (¬ oksT t 7 ∧ e = .returned (.tuple #[.slice none 0 0, .bool false]) ∧ Below w.heap.size w w') := by
  have hsz : (str t).size = 26 := ht
  have HG := hid hg
  clear hg ht
  go_enter Tryd.func34, Tryd.ntmps34
  go_wp2
  go_loopw [6, 8, 9, 10, 13] (fun p bx v ok i wr => ∃ (k n : Nat) (A : Option Addr) (d : Nat), k ≤ 7 ∧ i = .int .i64 (k : Int) ∧ n = k ∧ p = .slice A n d ∧ Hid (oksT t k ∧ wr.ownsRow w.heap.size 3 1 (.slice A n d) n (valsT t k) ∧ Below w.heap.size w wr)) (fun p bx v ok i wr => 7 - (intOf i).toNat)
  case atStart => exact ⟨0, 0, none, 0, by omega, rfl, rfl, rfl, hid ⟨fun k h => absurd h (by omega), World.ownsRow_nil _ _ _ _, Below.refl _ _⟩⟩
  case round =>
    obtain ⟨k, n, A, d, hk, rfl, hnk, rfl, hI⟩ := hrel
    have HNK := hid hnk
    have hn7 : n ≤ 7 := by omega
    clear hnk
    by_cases hlt : k < 7
    · have d1 : decide ((k : Int) < 7) = true := by simp; omega
      have d1' : decide (k < 7) = true := by simpa using hlt
      obtain ⟨f1, f2, f3, f4⟩ := fld_facts k hlt
      obtain ⟨a, ha⟩ : ∃ a, fA k = a := ⟨_, rfl⟩
      obtain ⟨b, hb⟩ : ∃ b, fN k = b := ⟨_, rfl⟩
      rw [ha, hb] at f3
      rw [ha] at f1
      rw [hb] at f2 f4
      have c0 : wr.cell? ⟨g0, k * 2, none⟩ = some (.int .i64 (a : Int)) := cells_keep hI.out.2.2 (HG.out.cell f1)
      have c1 : wr.cell? ⟨g0, k * 2 + 1, none⟩ = some (.int .i64 (b : Int)) := cells_keep hI.out.2.2 (HG.out.cell f2)
      have hex : (str t).extract a (a + b) = str (pcT t k) := by
        rw [str_extract, Nat.add_sub_cancel_left]
        unfold pcT
        rw [ha, hb]
      have hpl : (pcT t k).length ≤ 4 := by
        unfold pcT
        rw [hb, List.length_take]
        omega
      have e0 : (0 : Int) ≤ (a : Int) := by omega
      have e1 : (a : Int) ≤ (a : Int) + (b : Int) := by omega
      have e2 : (a : Int) + (b : Int) ≤ 26 := by omega
      have e3 : ((a : Int) + (b : Int)).toNat = a + b := by omega
      have e4 : IntKind.i64.wrap ((a : Int) + (b : Int)) = (a : Int) + (b : Int) := by rw [IntKind.wrap_i64]; omega
      have e5 : a + b ≤ 26 := f3
      have e6 : (0 : Int) ≤ (a : Int) + (b : Int) := by omega
      have e7 : (0 : Int) ≤ (k : Int) := by omega
      have e8 : (k : Int) < 7 := by omega
      have e9 : (k : Int).toNat = k := by omega
      have hno := fun w => number_any (pcT t k) w (by omega)
      cases hok : numOk (pcT t k) with
      | false =>
        have hno2 : ∀ w, Calls Tryd.prog 53 #[.string (str (pcT t k))] w fun e w' => ∃ X : Int, e = .returned (.tuple #[.int .i64 X, .bool false]) ∧ w = w' := fun w => (hno w).mono fun e w' ⟨X, he, _, hw⟩ => ⟨X, by rw [he, hok], hw⟩
        have HNO := hid hno2
        have HBAD := hid (show ¬ oksT t 7 from fun h => by have := h k hlt; rw [hok] at this; cases this)
        clear hno hno2 hok ha hb f1 f2 f3 f4 hpl
        go_wp2_with (go_at_call 53; (with_reducible refine (HNO.out _).mono ?_); rintro e w2 ⟨X, rfl, rfl⟩)
        go_ret2
        exact .inr ⟨HBAD.out, rfl, hI.out.2.2.alloc (hI.out.2.2.size) _⟩
      | true =>
        have hno2 : ∀ w, Calls Tryd.prog 53 #[.string (str (pcT t k))] w fun e w' => e = .returned (.tuple #[.int .i64 (numV (pcT t k) : Int), .bool true]) ∧ w = w' := fun w => (hno w).mono fun e w' ⟨X, he, hX, hw⟩ => ⟨by rw [he, hok, hX hok (by omega)], hw⟩
        obtain ⟨V, hV⟩ : ∃ V, numV (pcT t k) = V := ⟨_, rfl⟩
        rw [hV] at hno2
        have HNO := hid hno2
        have HOK := hid (show oksT t (k + 1) from fun j hj => by
          rcases Nat.lt_or_ge j k with h | h
          · exact hI.out.1 j h
          · rw [show j = k by omega]; exact hok)
        have HVS := hid (show valsT t (k + 1) = valsT t k ++ [.int .i64 (V : Int)] by rw [valsT_succ, hV])
        clear hno hno2 hok ha hb f1 f2 f3 f4 hpl hV
        go_wp2_with (first
          | (go_at_call 53; (with_reducible refine (HNO.out _).mono ?_); rintro e w2 ⟨rfl, rfl⟩)
          | (at_builtin
             refine wpList_append_row _ rfl (.tmp 32) (.tmp 34) intT rfl w.heap.size (.slice A n d) n (valsT t k) rfl (own_alloc (own_alloc hI.out.2.1 _) _) (some ⟨wr.heap.size + 1, 0, none⟩) 1 1 [.int .i64 (V : Int)] rfl rfl (row_new2 _ _ _ _) (by simp [Value.oneCell']) (by simp only [maxLen]; omega) (by omega) (by have := hI.out.2.2.size; simp; omega) ?_
             intro A3 c3 w3 hown3 hgr3 hat3
             have B3 := hid (((hI.out.2.2.alloc hI.out.2.2.size (Obj.cells #[.int .i64 (a : Int), .int .i64 (b : Int)] 72)).alloc (by have := hI.out.2.2.size; simp; omega) (Obj.cells #[.int .i64 (V : Int)] 3)).grown hgr3 (by have := hI.out.2.2.size; simp; omega) (own_base hI.out.2.1))
             have P3 := hid hown3
             clear hown3 hgr3 hat3))
        go_roundw
        case rel =>
          refine ⟨k + 1, n + 1, A3, c3, by omega, by go_num, by rw [HNK.out], rfl, hid ⟨HOK.out, ?_, B3.out⟩⟩
          rw [HVS.out]
          exact P3.out
        case measure => simp [intOf]; omega
    · have d1 : decide ((k : Int) < 7) = false := by simp; omega
      have d1' : decide (k < 7) = false := by simpa using hlt
      obtain rfl : k = 7 := by omega
      obtain rfl : n = 7 := HNK.out
      obtain ⟨g, c, hv⟩ := ownsRow_succ hI.out.2.1
      injection hv with hA _ hd
      subst hA hd
      go_wp2
      go_ret2
      exact .inl ⟨hI.out.1, g, d, rfl, hI.out.2.1, hI.out.2.2⟩
end Go.Proofs.YtkjlkkaoaiphcaaDoor
