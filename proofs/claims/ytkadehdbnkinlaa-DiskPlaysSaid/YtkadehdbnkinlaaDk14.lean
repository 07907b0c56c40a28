/-
  A cut. A part of the proof: see the head of the text that ends in 'Law'.
-/
import Derived.Test.YtkadehdbnkinlaaDk13
namespace Go.Proofs.Ytkadehdbnkinlaa
open Go.RowKit
set_option linter.unusedVariables false
attribute [local go_sem] Oper.semAt_some

def boolV (b : Bool) : Value := .bool b
theorem cut1_any (bx : Nat) (KA : Option Addr) (kn kc : Nat) (ks : List Bool) (k : Nat) (w : World) (hb : w.cell? ⟨bx, 0, none⟩ = some (.slice KA kn kc)) (hn : kn = ks.length) (hr : Row w KA (ks.map boolV)) :
    Calls Try.prog 33 #[.int .i64 (k : Int), .pointer (some ⟨bx, 0, none⟩)] w fun e w' => e = .returned (.bool (ks.getD k false)) ∧ w = w' := by
  by_cases h : k < kn
  · have d1 : decide (k < kn) = true := by simpa using h
    have d1' : decide ((k : Int) < (kn : Int)) = true := by simp; omega
    have hk : k < ks.length := by omega
    obtain ⟨b, off, rfl, hc⟩ := hr (by intro e; have := congrArg List.length e; rw [List.length_map] at this; simp at this; rw [this] at hk; simp at hk)
    have x0 := hc k _ (by rw [List.getElem?_map, List.getElem?_eq_getElem hk]; rfl)
    have e : ks.getD k false = ks[k] := by rw [List.getD_eq_getElem?_getD, List.getElem?_eq_getElem hk, Option.getD_some]
    obtain ⟨v, hv⟩ : ∃ v, ks[k] = v := ⟨_, rfl⟩
    rw [e, hv]
    rw [hv] at x0
    unfold boolV at x0
    have i0 : (0 : Int) ≤ (k : Int) := by omega
    have i1 : (k : Int) < (kn : Int) := by omega
    have i2 : (k : Int).toNat = k := by omega
    clear hc hr e hv hn hk
    go_enter Try.func33, Try.ntmps33
    go_wp2
    go_ret
    exact ⟨rfl, rfl⟩
  · have d1 : decide (k < kn) = false := by simpa using h
    have d1' : decide ((k : Int) < (kn : Int)) = false := by simp; omega
    have e : ks.getD k false = false := by rw [List.getD_eq_getElem?_getD, List.getElem?_eq_none (by omega), Option.getD_none]
    rw [e]
    clear hr e hn h
    go_enter Try.func33, Try.ntmps33
    go_wp2
    go_ret
    exact ⟨rfl, rfl⟩
theorem row_only {T : Nat → Prop} {W w' : World} {A : Option Addr} {xs : List Value} (h : Row W A xs) (hO : Only T W w') (hA : ∀ a, A = some a → ¬ T a.block) : Row w' A xs := fun hx => by
  obtain ⟨b, off, rfl, hc⟩ := h hx
  refine ⟨b, off, rfl, fun j v hv => ?_⟩
  have h1 := hc j v hv
  have := hO.block b (World.block_lt_of_cell? W _ h1) (hA _ rfl)
  simp only [World.cell?, this] at h1 ⊢
  exact h1
set_option maxHeartbeats 1000000 in
theorem cut_any {W : World} {b0 d hb : Nat} {V : Value} {D : Dsk} (h : DkAt W b0 d hb V D) (hw : D.waits.length ≤ 100000) (KA : Option Addr) (kn kc : Nat) (ks : List Bool) (hn : kn = ks.length) (hr : Row W KA (ks.map boolV)) (hA : ∀ a, KA = some a → ¬ Mine d hb V a.block) :
    Calls Try.prog 12 #[.pointer (some ⟨d, 0, none⟩), .slice KA kn kc] W fun e w' => e = .returned (.tuple #[]) ∧
      DkAt w' b0 d hb (.slice none 0 0) { D with has := doneK (fun k => ks.getD k false) D.waits D.has D.waits.length, waits := [], off := true } ∧ Only (Mine d hb V) W w' := by
  have hk1 := h.below ((Below.refl _ W).alloc (Nat.le_refl _) (.cells #[.slice KA kn kc] 23))
  have hbox := (OwnC.new_ W #[.slice KA kn kc] 23).cell (j := 0) rfl
  have hlt := Mine.lt h
  have HDN := hid (done_cut (bx := W.heap.size) hk1 hw (fun k => ks.getD k false) (fun w => w.cell? ⟨W.heap.size, 0, none⟩ = some (.slice KA kn kc) ∧ Row w KA (ks.map boolV)) ⟨hbox, hr.alloc _⟩
    (fun w w' ⟨k1, k2⟩ hO => ⟨by
      have h1 := hO.block W.heap.size (World.block_lt_of_cell? w _ k1) (fun hm => by have := (hlt _ hm).2; omega)
      simp only [World.cell?, h1] at k1 ⊢
      exact k1, row_only k2 hO hA⟩)
    (fun k w ⟨k1, k2⟩ => cut1_any W.heap.size KA kn kc ks k w k1 hn k2))
  clear h hk1 hbox hlt hr hA hn
  go_enter Try.func12, Try.ntmps12
  go_wp2_with (go_at_call 29; (refine HDN.out.mono ?_); rintro e w2 ⟨rfl, h1, h2⟩; have H1 := hid h1; have H2 := hid h2; have x3 := h1.cells.cell (j := 3) rfl; have f3 := h1.cells.frozen 3; clear h1 h2)
  go_end0
  exact ⟨rfl, H1.out.off_set true, ((Only.of_below (T := Mine d hb V) ((Below.refl _ W).alloc (Nat.le_refl _) _)).trans H2.out (fun g h => .inl h)).trans (Only.of_set (T := Mine d hb V) _ ⟨d, 3, none⟩ _ (.inl rfl)) (fun g h => .inl h)⟩
end Go.Proofs.Ytkadehdbnkinlaa
