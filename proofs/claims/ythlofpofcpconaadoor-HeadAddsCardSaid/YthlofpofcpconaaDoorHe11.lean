/-
  Line feeds counted. A part of the proof: see the head of the text that ends in 'Law'.
-/
import Derived.Test.YthlofpofcpconaaDoorHe10
import Derived.Lib.SmallJoins
namespace Go.Proofs.YthlofpofcpconaaDoor
open Go.RowKit Go.Shelf
set_option linter.unusedVariables false
attribute [local go_sem] Oper.semAt_some

/-- How many line feeds there are. -/
def feedsL (l : List UInt8) : Nat := l.count 10
theorem count_any (A : Option Addr) (n c : Nat) (l : List UInt8) (g d : Nat) (w : World) (ho : Oct w A n l) (hA : A = none → c = 0) (hg : w.cell? ⟨g, 0, none⟩ = some (.int .u8 10)) :
    Calls Tryd.prog 41 #[.slice A n c, .slice (some ⟨g, 0, none⟩) 1 d] w fun e w' => e = .returned (.int .i64 (feedsL l : Int)) ∧ w = w' := by
  cases A with
  | none =>
    have hn : n = 0 := by
      rcases Nat.eq_zero_or_pos n with h | h
      · exact h
      · obtain ⟨b, off, h1, -⟩ := ho.at_ h; cases h1
    subst hn
    rw [hA rfl]
    have hl : l = [] := List.eq_nil_of_length_eq_zero ho.1
    subst hl
    exact (Tryd.bytes_Count_one_nil g 0 d 10 w hg).mono fun e w' ⟨h1, h2⟩ => ⟨h1, h2.symm⟩
  | some a =>
    refine (Tryd.bytes_Count_one_at a n c g 0 d (l.map fun x => (x.toNat : Int)) 10 w (by rw [List.length_map, ho.1]) (fun i hi => ?_) hg).mono fun e w' ⟨h1, h2⟩ => ⟨?_, h2.symm⟩
    · obtain ⟨b, off, h1, h2⟩ := ho.at_ (by omega)
      injection h1 with h1
      have hl : i < l.length := by rw [ho.1]; exact hi
      rw [h1, Addr.add_mid, h2 i hl, List.getD_eq_getElem?_getD, List.getElem?_map, List.getElem?_eq_getElem hl]
      rfl
    · rw [h1, bytesOf_map]
      rfl
set_option maxRecDepth 100000 in
set_option maxHeartbeats 1000000 in
theorem lines_count (A : Option Addr) (n c : Nat) (l : List UInt8) (w : World) (ho : Oct w A n l) (hA : A = none → c = 0) (hl : n ≤ 100000) :
    Calls Tryd.prog 24 #[.slice A n c] w fun e w' => e = .returned (.int .i64 (feedsL l : Int)) ∧ Below w.heap.size w w' := by
  have HO := hid ho
  have HA := hid hA
  have HB := hid ((Below.refl _ w).alloc (Nat.le_refl _) (.cells #[.int .u8 10] 5 (1, 2)))
  have kc : (convert 22 22 (.slice (some ⟨w.heap.size, 0, none⟩) 1 1)).run Tryd.prog (w.alloc (.cells #[.int .u8 10] 5)) = .ok (.slice (some ⟨w.heap.size, 0, none⟩) 1 1) (w.alloc (.cells #[.int .u8 10] 5 (1, 2))) := Go.Joins.run_convert_bytes_const_at w 22 5 #[.int .u8 10] 1 1 w.heap.size rfl Tryd.underlying22 Tryd.underlying5
  have hg : (w.alloc (.cells #[.int .u8 10] 5 (1, 2))).cell? ⟨w.heap.size, 0, none⟩ = some (.int .u8 10) := by
    rw [World.cell?_alloc_mark]
    rfl
  have HC := hid (fun d => count_any A n c l w.heap.size d _ (HO.out.below HB.out) HA.out hg)
  clear ho hA
  go_enter Tryd.func24, Tryd.ntmps24
  go_wp2_with (go_at_call 41; refine (HC.out _).mono ?_; rintro e w1 ⟨rfl, rfl⟩)
  go_ret
  exact ⟨rfl, HB.out⟩
end Go.Proofs.YthlofpofcpconaaDoor
