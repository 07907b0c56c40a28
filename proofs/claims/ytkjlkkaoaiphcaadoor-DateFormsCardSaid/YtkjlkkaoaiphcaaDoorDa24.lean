/-
  The date of a text: the program's walk. A part of the proof: see the head of the text that ends in 'Law'.
-/
import Derived.Test.YtkjlkkaoaiphcaaDoorDa23
namespace Go.Proofs.YtkjlkkaoaiphcaaDoor
open Go.RowKit Go.Shelf
set_option linter.unusedVariables false
attribute [local go_sem] Oper.semAt_some

theorem chS (l : List UInt8) (i : Nat) (h : i < (str l).size) : (((str l)[i]'h).toNat : Int) = (chN l i : Int) := by
  unfold chN
  rw [List.getD_eq_getElem?_getD, List.getElem?_eq_getElem (show i < l.length from h), Option.getD_some]
  rfl
theorem fields_ok (l : List UInt8) (h : digsB l) (g0 : Nat) (w : World) (hg : OwnC w g0 72 fldV) (ht : (zeroL l).length = 26) :
    Calls Tryd.prog 34 #[.string (str (zeroL l)), .slice (some ⟨g0, 0, none⟩) 7 7] w fun e w' => ∃ g c, e = .returned (.tuple #[.slice (some ⟨g, 0, none⟩) 7 c, .bool true]) ∧
      w'.cell? ⟨g, 0, none⟩ = some (.int .i64 (fvL l 0 : Int)) ∧ w'.cell? ⟨g, 1, none⟩ = some (.int .i64 (fvL l 1 : Int)) ∧ w'.cell? ⟨g, 2, none⟩ = some (.int .i64 (fvL l 2 : Int)) ∧ w'.cell? ⟨g, 3, none⟩ = some (.int .i64 (fvL l 3 : Int)) ∧ w'.cell? ⟨g, 4, none⟩ = some (.int .i64 (fvL l 4 : Int)) ∧ w'.cell? ⟨g, 5, none⟩ = some (.int .i64 (fvL l 5 : Int)) ∧ w'.cell? ⟨g, 6, none⟩ = some (.int .i64 (fvL l 6 : Int)) ∧ w.heap.size ≤ g ∧ Below w.heap.size w w' :=
  (fields_any (zeroL l) g0 w hg ht).mono fun e w' hq => by
    rcases hq with ⟨_, g, c, he, hr, hb⟩ | ⟨hn, _⟩
    · exact ⟨g, c, he, hr.cellAt 0 (by decide), hr.cellAt 1 (by decide), hr.cellAt 2 (by decide), hr.cellAt 3 (by decide), hr.cellAt 4 (by decide), hr.cellAt 5 (by decide), hr.cellAt 6 (by decide), own_base hr g rfl, hb⟩
    · exact absurd h hn
theorem fields_bad (l : List UInt8) (h : ¬ digsB l) (g0 : Nat) (w : World) (hg : OwnC w g0 72 fldV) (ht : (zeroL l).length = 26) :
    Calls Tryd.prog 34 #[.string (str (zeroL l)), .slice (some ⟨g0, 0, none⟩) 7 7] w fun e w' => e = .returned (.tuple #[.slice none 0 0, .bool false]) ∧ Below w.heap.size w w' :=
  (fields_any (zeroL l) g0 w hg ht).mono fun e w' hq => by
    rcases hq with ⟨ho, _⟩ | ⟨_, he, hb⟩
    · exact absurd ho h
    · exact ⟨he, hb⟩
theorem zeroL_len {l : List UInt8} (h : l.length = 26) : (zeroL l).length = 26 := by
  unfold zeroL
  split
  · rw [List.length_cons, List.length_drop]; omega
  · exact h
theorem parse_bad3 {l : List UInt8} (h : ¬ (formB l ∧ digsB l ∧ monP l ≠ 0)) : parseF l = ((0, 0), 3) := by unfold parseF; rw [if_neg h]
theorem parse_bad4 {l : List UInt8} (h : formB l ∧ digsB l ∧ monP l ≠ 0) (h2 : ¬ clkB l) : parseF l = ((0, 0), 4) := by unfold parseF; rw [if_pos h, if_neg h2]
theorem parse_good {l : List UInt8} (h : formB l ∧ digsB l ∧ monP l ≠ 0) (h2 : clkB l) : parseF l = ((secF l, zoneF l), 0) := by unfold parseF; rw [if_pos h, if_pos h2]
def PP (w : World) (s z : Int) (n : Nat) (e : Ending) (w' : World) : Prop := e = .returned (.tuple #[.agg #[.int .i64 s, .int .i64 z], .int .i64 (n : Int)]) ∧ Below w.heap.size w w'
theorem ps_res {tmps : Array Value} {w : World} {g : Nat} {s z : Int} {u : Value} {T : TypeId} {fr : Nat × Nat} (hg : w.heap[g]? = some (.cells #[.int .i64 s, .int .i64 z] T fr)) (hp : tmps.getD 2 undef = .pointer (some ⟨g, 0, none⟩)) (hu : tmps.getD 3 undef = u) :
    (results Tryd.f17 tmps).run Tryd.prog w = .ok (.tuple #[.agg #[.int .i64 s, .int .i64 z], u]) w := by
  rw [results_cell_tmp Tryd.results17, hp, hu]
  simp [asAddr, run_loadVar_row w g T 37 #[.int .i64 s, .int .i64 z] fr _ hg Tryd.underlying37 rfl (by kernel_rfl)]
set_option maxRecDepth 100000 in
set_option maxHeartbeats 4000000 in
theorem parse_form_no (l : List UInt8) (w : World) (hl : l.length ≤ 100000) (h : ¬ formB l) : Calls Tryd.prog 17 #[.string (str l)] w (PP w 0 0 3) := by
  have hsz : (str l).size ≤ 100000 := hl
  unfold formB at h
  by_cases c0 : l.length = 26
  · have hs26 : (str l).size = 26 := c0
    have b2 := chS l 2 (by omega)
    have b6 := chS l 6 (by omega)
    have b11 := chS l 11 (by omega)
    have b14 := chS l 14 (by omega)
    have b17 := chS l 17 (by omega)
    have b20 := chS l 20 (by omega)
    have b21 := chS l 21 (by omega)
    by_cases c2 : chN l 2 = 45
    · rw [c2] at b2
      by_cases c6 : chN l 6 = 45
      · rw [c6] at b6
        by_cases c11 : chN l 11 = 32
        · rw [c11] at b11
          by_cases c14 : chN l 14 = 58
          · rw [c14] at b14
            by_cases c17 : chN l 17 = 58
            · rw [c17] at b17
              by_cases c20 : chN l 20 = 32
              · rw [c20] at b20
                have c21 : ¬ chN l 21 = 43 ∧ ¬ chN l 21 = 45 := ⟨fun e => h ⟨c0, c2, c6, c11, c14, c17, c20, .inl e⟩, fun e => h ⟨c0, c2, c6, c11, c14, c17, c20, .inr e⟩⟩
                have n1 : ¬ (((str l)[21]'(by omega)).toNat : Int) = 43 := by rw [b21]; omega
                have n2 : ¬ (((str l)[21]'(by omega)).toNat : Int) = 45 := by rw [b21]; omega
                have m1 : ((((str l)[21]'(by omega)).toNat : Int) != 43) = true := by rw [bne_iff_ne]; exact n1
                have m2 : ((((str l)[21]'(by omega)).toNat : Int) != 45) = true := by rw [bne_iff_ne]; exact n2
                clear h c0 c2 c6 c11 c14 c17 c20 c21 b21 hl hsz
                simp only [Int.cast_ofNat_Int] at b2 b6 b11 b14 b17 b20
                go_enter Tryd.func17, Tryd.ntmps17
                go_wp2_with fail
                exact bodyPost_ret (ps_res (heap_alloc_new w _) rfl rfl) rfl ⟨rfl, (Below.refl _ _).alloc (Nat.le_refl _) _⟩
              · have n20 : ¬ (((str l)[20]'(by omega)).toNat : Int) = 32 := by rw [b20]; omega
                have m20 : ((((str l)[20]'(by omega)).toNat : Int) != 32) = true := by rw [bne_iff_ne]; exact n20
                clear h c0 hl hsz c2 c6 c11 c14 c17 c20 b20 b21
                simp only [Int.cast_ofNat_Int] at b2 b6 b11 b14 b17
                go_enter Tryd.func17, Tryd.ntmps17
                go_wp2_with fail
                exact bodyPost_ret (ps_res (heap_alloc_new w _) rfl rfl) rfl ⟨rfl, (Below.refl _ _).alloc (Nat.le_refl _) _⟩
            · have n17 : ¬ (((str l)[17]'(by omega)).toNat : Int) = 58 := by rw [b17]; omega
              have m17 : ((((str l)[17]'(by omega)).toNat : Int) != 58) = true := by rw [bne_iff_ne]; exact n17
              clear h c0 hl hsz c2 c6 c11 c14 c17 b17 b20 b21
              simp only [Int.cast_ofNat_Int] at b2 b6 b11 b14
              go_enter Tryd.func17, Tryd.ntmps17
              go_wp2_with fail
              exact bodyPost_ret (ps_res (heap_alloc_new w _) rfl rfl) rfl ⟨rfl, (Below.refl _ _).alloc (Nat.le_refl _) _⟩
          · have n14 : ¬ (((str l)[14]'(by omega)).toNat : Int) = 58 := by rw [b14]; omega
            have m14 : ((((str l)[14]'(by omega)).toNat : Int) != 58) = true := by rw [bne_iff_ne]; exact n14
            clear h c0 hl hsz c2 c6 c11 c14 b14 b17 b20 b21
            simp only [Int.cast_ofNat_Int] at b2 b6 b11
            go_enter Tryd.func17, Tryd.ntmps17
            go_wp2_with fail
            exact bodyPost_ret (ps_res (heap_alloc_new w _) rfl rfl) rfl ⟨rfl, (Below.refl _ _).alloc (Nat.le_refl _) _⟩
        · have n11 : ¬ (((str l)[11]'(by omega)).toNat : Int) = 32 := by rw [b11]; omega
          have m11 : ((((str l)[11]'(by omega)).toNat : Int) != 32) = true := by rw [bne_iff_ne]; exact n11
          clear h c0 hl hsz c2 c6 c11 b11 b14 b17 b20 b21
          simp only [Int.cast_ofNat_Int] at b2 b6
          go_enter Tryd.func17, Tryd.ntmps17
          go_wp2_with fail
          exact bodyPost_ret (ps_res (heap_alloc_new w _) rfl rfl) rfl ⟨rfl, (Below.refl _ _).alloc (Nat.le_refl _) _⟩
      · have n6 : ¬ (((str l)[6]'(by omega)).toNat : Int) = 45 := by rw [b6]; omega
        have m6 : ((((str l)[6]'(by omega)).toNat : Int) != 45) = true := by rw [bne_iff_ne]; exact n6
        clear h c0 hl hsz c2 c6 b6 b11 b14 b17 b20 b21
        simp only [Int.cast_ofNat_Int] at b2
        go_enter Tryd.func17, Tryd.ntmps17
        go_wp2_with fail
        exact bodyPost_ret (ps_res (heap_alloc_new w _) rfl rfl) rfl ⟨rfl, (Below.refl _ _).alloc (Nat.le_refl _) _⟩
    · have n2 : ¬ (((str l)[2]'(by omega)).toNat : Int) = 45 := by rw [b2]; omega
      have m2 : ((((str l)[2]'(by omega)).toNat : Int) != 45) = true := by rw [bne_iff_ne]; exact n2
      clear h c0 hl hsz  c2 b2 b6 b11 b14 b17 b20 b21
      go_enter Tryd.func17, Tryd.ntmps17
      go_wp2_with fail
      exact bodyPost_ret (ps_res (heap_alloc_new w _) rfl rfl) rfl ⟨rfl, (Below.refl _ _).alloc (Nat.le_refl _) _⟩
  · have n0 : (((str l).size : Int) != 26) = true := by rw [bne_iff_ne]; intro e; exact c0 (by rw [str_size] at e; omega)
    have n0' : ((str l).size != 26) = true := by rw [bne_iff_ne]; exact c0
    have n0'' : ¬ (str l).size = 26 := c0
    clear h c0 hl hsz
    go_enter Tryd.func17, Tryd.ntmps17
    go_wp2_with fail
    exact bodyPost_ret (ps_res (heap_alloc_new w _) rfl rfl) rfl ⟨rfl, (Below.refl _ _).alloc (Nat.le_refl _) _⟩
end Go.Proofs.YtkjlkkaoaiphcaaDoor
