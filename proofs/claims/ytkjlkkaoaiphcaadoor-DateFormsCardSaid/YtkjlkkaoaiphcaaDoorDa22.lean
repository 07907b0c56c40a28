/-
  The law DateTexts: its walk. A part of the proof: see the head of the text that ends in 'Law'.
-/
import Derived.Test.YtkjlkkaoaiphcaaDoorDa20
import Derived.Test.YtkjlkkaoaiphcaaDoorDa21
namespace Go.Proofs.YtkjlkkaoaiphcaaDoor
open Go.RowKit Go.Shelf
set_option linter.unusedVariables false
attribute [local go_sem] Oper.semAt_some

theorem few_any (l : List UInt8) (w : World) (hl : l.length ≤ maxLen) :
    Calls Tryd.prog 13 #[.string (str l)] w fun e w' => e = .returned (.string (str (l.take 200))) ∧ w = w' := by
  have hsz : (str l).size ≤ maxLen := hl
  by_cases h : 200 < (str l).size
  · have d1 : decide (200 < (str l).size) = true := by simpa using h
    have d1' : decide ((200 : Int) < ((str l).size : Int)) = true := by simp; omega
    have hx : (str l).extract 0 200 = str (l.take 200) := by rw [str_extract]; simp
    have h2 : (200 : Int) ≤ ((str l).size : Int) := by omega
    have h3 : 200 ≤ (str l).size := by omega
    clear hl hsz
    go_enter Tryd.func13, Tryd.ntmps13
    go_wp2
    go_ret
    exact ⟨rfl, rfl⟩
  · have d1 : decide (200 < (str l).size) = false := by simpa using h
    have d1' : decide ((200 : Int) < ((str l).size : Int)) = false := by simp; omega
    have hx : l.take 200 = l := List.take_of_length_le (by rw [str_size] at h; omega)
    rw [hx]
    clear hl hsz h hx
    go_enter Tryd.func13, Tryd.ntmps13
    go_wp2
    go_ret
    exact ⟨rfl, rfl⟩
set_option maxRecDepth 100000 in
set_option maxHeartbeats 2000000 in
theorem walkDateTexts (l : List UInt8) (m : Int) (w : World) (hl : l.length ≤ maxLen) (hT : Lib.Utf8Tabs 0 1 w) (hm : w.cell? ⟨2, 0, none⟩ = some (.int .i64 m)) :
    Calls Tryd.prog 7 #[.string (str l)] w fun e w' => e = .returned (.bool true) ∧ Below w.heap.size w w' := by
  have HT := hid hT
  have B := hid (Below.refl w.heap.size w)
  have HF := hid (few_any l w hl)
  obtain ⟨q, hq⟩ : ∃ q, l.take 200 = q := ⟨_, rfl⟩
  have hql : q.length ≤ 100000 := by rw [← hq, List.length_take]; omega
  rw [hq] at HF
  have P1 := hid (fun w h => pday_any q hql m w h)
  have P2 := hid (fun w => rpday_any q hql w)
  have P3 := hid (fun w h => mail_any q hql w h)
  have P4 := hid (fun w => rmail_any q w hql)
  obtain ⟨a, b, h1⟩ : ∃ a b, pdayF q = (a, b) := ⟨_, _, rfl⟩
  obtain ⟨c, d, h2⟩ : ∃ c d, mailF q = (c, d) := ⟨_, _, rfl⟩
  rw [h1] at P1 P2
  rw [h2] at P3 P4
  dsimp only at P1 P2 P3 P4
  have HMM := hid hm
  clear hT hq hql h1 h2 hl hm
  go_enter Tryd.func7, Tryd.ntmps7
  go_wp2_with (first
    | (go_at_call 13; (with_reducible refine HF.out.mono ?_); rintro e w1 ⟨rfl, rfl⟩)
    | (go_at_call 21; (with_reducible refine (P1.out _ HMM.out).mono ?_); rintro e w1 ⟨rfl, b1⟩; have B := hid (next B.out b1); clear b1)
    | (go_at_call 22; (with_reducible refine (P2.out _).mono ?_); rintro e w2 ⟨rfl, b1⟩; have B := hid (next B.out b1); clear b1)
    | (go_at_call 23; (with_reducible refine (P3.out _ (tabs_keep HT.out B.out)).mono ?_); rintro e w3 ⟨rfl, b1⟩; have B := hid (next B.out b1); clear b1)
    | (go_at_call 24; (with_reducible refine (P4.out _).mono ?_); rintro e w4 ⟨rfl, b1⟩; have B := hid (next B.out b1); clear b1)
    | (go_at_call 12; (with_reducible refine (awake_any _ (tabs_keep HT.out B.out)).mono ?_); rintro e w5 ⟨rfl, b5⟩; have B := hid (next B.out b5); clear b5))
  go_ret
  exact ⟨rfl, B.out⟩
end Go.Proofs.YtkjlkkaoaiphcaaDoor
