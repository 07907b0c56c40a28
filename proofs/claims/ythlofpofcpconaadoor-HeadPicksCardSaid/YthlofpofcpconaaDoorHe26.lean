/-
  HeadPicks: the walk. A part of the proof: see the head of the text that ends in 'Law'.
-/
import Derived.Test.YthlofpofcpconaaDoorHe24
namespace Go.Proofs.YthlofpofcpconaaDoor
open Go.RowKit Go.Shelf
set_option linter.unusedVariables false
set_option linter.unusedSimpArgs false
attribute [local go_sem] Oper.semAt_some

set_option maxRecDepth 100000 in
set_option maxHeartbeats 8000000 in
theorem walkHeadPicks (A : Option Addr) (n c : Nat) (l : List UInt8) (A2 : Option Addr) (n2 c2 : Nat) (ns : List (List UInt8)) (no : Bool) (w : World) (ho : Oct w A n l) (hn : n ≤ c) (hc : c ≤ maxLen)
    (hr : Row w A2 (ns.map SV)) (hn2 : ns.length = n2) (hnc2 : n2 ≤ c2) (hc2 : c2 ≤ maxLen) (hs : ∀ s ∈ ns, s.length ≤ maxLen) :
    Calls Tryd.prog 4 #[.slice A n c, .slice A2 n2 c2, .bool no] w fun e w' => e = .returned (.bool true) ∧ Below w.heap.size w w' := by
  have HFW := hid (few17_any A n c w hn (Nat.le_trans hn hc))
  have HO0 := hid ho
  have HNC := hid hn
  have HNM := hid (names_any A2 n2 c2 ns w hr hn2 hnc2 (Nat.le_trans hnc2 hc2) hs)
  have hq := namesL_len ns
  obtain ⟨nm, hnm⟩ : ∃ nm, namesL ns = nm := ⟨_, rfl⟩
  rw [hnm] at HNM hq
  have HQ := hid hq
  clear ho hn hc hr hn2 hnc2 hc2 hs hnm hq
  go_enter Tryd.func4, Tryd.ntmps4
  go_upto_region 2 with (first
    | (go_at_call 8; refine HFW.out.mono ?_; rintro e w1 ⟨⟨k, rfl, hk, hkn⟩, rfl⟩)
    | (go_at_call 9; refine HNM.out.mono ?_; rintro e w2 ⟨⟨B, m, d, rfl, ho2⟩, b2⟩; have HOW := hid ho2; have HB2 := hid b2; clear ho2 b2))
  obtain ⟨lb, hlb⟩ : ∃ lb, l.take k = lb := ⟨_, rfl⟩
  have HO : Hid (Oct w A k lb) := hid (by rw [← hlb]; exact HO0.out.take k hkn)
  have HLB : Hid (lb.length ≤ 100000) := hid (by have := HO.out.1; omega)
  have hkc : k ≤ 100000 := by omega
  have hml : nm.length = m := by have := HOW.out.1; simpa using this
  have HML := hid hml
  have HMM : Hid (m ≤ 100000) := hid (by rw [← hml]; exact Nat.le_trans HQ.out.1 (by decide))
  have HRN : Hid (∀ X, Below w2.heap.size w2 X → Row X B (nm.map SV)) := hid (fun X hX => (Row.of_own HOW.out).below hX)
  have HSS : Hid (∀ s ∈ nm, s.length ≤ 100000) := hid (fun s hs => Nat.le_trans (HQ.out.2 s hs) (by decide))
  have HPK := hid (fun X (hX : Below w2.heap.size w2 X) => pick_any A k c lb B m d nm no X (HO.out.below (past HB2.out hX)) (Nat.le_trans hkn HNC.out) hkc (HRN.out X hX) HML.out HMM.out HSS.out)
  have HRP := hid (fun X (hX : Below w2.heap.size w2 X) => rpick_any lb B m d nm no X HLB.out (HRN.out X hX) HML.out HMM.out HSS.out)
  obtain ⟨pk, hpk⟩ : ∃ pk, pickL lb nm no = pk := ⟨_, rfl⟩
  rw [hpk] at HPK HRP
  have kcv : ∀ W, Oct W A k lb → (convert 22 9 (.slice A k c)).run Tryd.prog W = .ok (.string (str lb)) W := fun W h => run_string_oct c h Tryd.underlying22 Tryd.underlying5 Tryd.underlying9
  have q0 : (str pk == str pk) = true := str_self _
  have hS : Oct w2.drew A k lb ∧ Hid (Below w2.heap.size w2 w2.drew) := ⟨(HO.out.below HB2.out).drew, hid (bq (Below.refl _ w2) 1)⟩
  clear HFW HNM hlb hml HOW hpk
  refine wp_region_noPanic ?_
  refine wp_region_held_drew (S := (fun W => Oct W A k lb ∧ Hid (Below w2.heap.size w2 W))) (by kernel_rfl) (by first | assumption | trivial) (fun hHeld => ?_)
  refine wpAnyH_take (i := 0) (v := ?_) rfl (by kernel_rfl) (by kernel_rfl) (by kernel_rfl) (fun _ _ _ h => h) (Or.inl ⟨by kernel_rfl, ?_⟩) (by first | assumption | trivial) ?_
  rotate_left
  · (intro wS hSw; (try dsimp only at hSw); go_simp; try with_reducible rfl)
  (try simp only [List.append_eq, List.cons_append, List.nil_append, List.getElem_toArray, List.getElem_cons_succ, List.getElem_cons_zero, Act.put, List.setIfInBounds_toArray, List.set_cons_zero, List.set_cons_succ])
  refine wpAnyH_take (i := 1) (v := ?_) rfl (by kernel_rfl) (by kernel_rfl) (by kernel_rfl) (fun _ _ _ h => h) (Or.inl ⟨by kernel_rfl, ?_⟩) (by first | assumption | trivial) ?_
  rotate_left
  · (intro wS hSw; (try dsimp only at hSw); go_simp; try with_reducible rfl)
  (try simp only [List.append_eq, List.cons_append, List.nil_append, List.getElem_toArray, List.getElem_cons_succ, List.getElem_cons_zero, Act.put, List.setIfInBounds_toArray, List.set_cons_zero, List.set_cons_succ])
  refine wpAnyH_take (i := 2) (v := ?_) rfl (by kernel_rfl) (by kernel_rfl) (by kernel_rfl) (fun _ _ _ h => h) (Or.inl ⟨by kernel_rfl, ?_⟩) (by first | assumption | trivial) ?_
  rotate_left
  · (intro wS hSw; (try dsimp only at hSw); go_simp; try with_reducible rfl)
  (try simp only [List.append_eq, List.cons_append, List.nil_append, List.getElem_toArray, List.getElem_cons_succ, List.getElem_cons_zero, Act.put, List.setIfInBounds_toArray, List.set_cons_zero, List.set_cons_succ])
  refine wpAnyH_take (i := 5) (v := ?_) rfl (by kernel_rfl) (by kernel_rfl) (by kernel_rfl) (fun _ _ _ h => h) (Or.inl ⟨by kernel_rfl, ?_⟩) (by first | assumption | trivial) ?_
  rotate_left
  · (intro wS hSw; (try dsimp only at hSw); go_simp; try with_reducible rfl)
  (try simp only [List.append_eq, List.cons_append, List.nil_append, List.getElem_toArray, List.getElem_cons_succ, List.getElem_cons_zero, Act.put, List.setIfInBounds_toArray, List.set_cons_zero, List.set_cons_succ])
  refine wpAnyH_take (i := 6) (v := ?_) rfl (by kernel_rfl) (by kernel_rfl) (by kernel_rfl) (fun _ _ _ h => h) (Or.inl ⟨by kernel_rfl, ?_⟩) (by first | assumption | trivial) ?_
  rotate_left
  · (intro wS hSw; (try dsimp only at hSw); go_simp; try with_reducible rfl)
  (try simp only [List.append_eq, List.cons_append, List.nil_append, List.getElem_toArray, List.getElem_cons_succ, List.getElem_cons_zero, Act.put, List.setIfInBounds_toArray, List.set_cons_zero, List.set_cons_succ])
  refine wpAnyH_take (i := 7) (v := ?_) rfl (by kernel_rfl) (by kernel_rfl) (by kernel_rfl) (fun _ _ _ h => h) (Or.inl ⟨by kernel_rfl, ?_⟩) (by first | assumption | trivial) ?_
  rotate_left
  · (intro wS hSw; (try dsimp only at hSw); go_simp; try with_reducible rfl)
  (try simp only [List.append_eq, List.cons_append, List.nil_append, List.getElem_toArray, List.getElem_cons_succ, List.getElem_cons_zero, Act.put, List.setIfInBounds_toArray, List.set_cons_zero, List.set_cons_succ])
  refine wpAnyH_take (i := 8) (v := ?_) rfl (by kernel_rfl) (by kernel_rfl) (by kernel_rfl) (fun _ _ _ h => h) (Or.inl ⟨by kernel_rfl, ?_⟩) (by first | assumption | trivial) ?_
  rotate_left
  · (intro wS hSw; (try dsimp only at hSw); go_simp; try with_reducible rfl)
  (try simp only [List.append_eq, List.cons_append, List.nil_append, List.getElem_toArray, List.getElem_cons_succ, List.getElem_cons_zero, Act.put, List.setIfInBounds_toArray, List.set_cons_zero, List.set_cons_succ])
  refine wpAnyH_ready (rs := [3]) (by kernel_rfl) (by simp) ?_
  refine AllReadyH.cons rfl (fun K hK => ?_) AllReadyH.nil
  go_simp
  (go_at_call 15; refine (HPK.out _ hHeld.2.out).mono ?_; rintro e w4 ⟨A4, k4, c4, rfl, -, h4, b⟩; have hS4 : Oct w4 A k lb ∧ Hid (Below w2.heap.size w2 w4) := ⟨hHeld.1.below b, hid (past hHeld.2.out b)⟩; have HO4 := hid h4; clear b hHeld h4)
  go_wp2_with fail
  refine hK.out _ _ (by first | assumption | trivial) (fun hHeld => ?_)
  clear hK K
  (try simp only [List.append_eq, List.cons_append, List.nil_append, List.getElem_toArray, List.getElem_cons_succ, List.getElem_cons_zero, Act.put, List.setIfInBounds_toArray, List.set_cons_zero, List.set_cons_succ])
  refine wpAnyH_ready (rs := [4, 9]) (by kernel_rfl) (by simp) ?_
  refine AllReadyH.cons rfl (fun K hK => ?_) (AllReadyH.cons rfl (fun K hK => ?_) AllReadyH.nil)
  · have kc4 : (convert 22 9 (.slice A4 k4 c4)).run Tryd.prog w4 = .ok (.string (str pk)) w4 := run_string_oct c4 HO4.out Tryd.underlying22 Tryd.underlying5 Tryd.underlying9
    go_simp
    refine hK.out _ _ (by first | assumption | trivial) (fun hHeld => ?_)
    clear hK K
    (try simp only [List.append_eq, List.cons_append, List.nil_append, List.getElem_toArray, List.getElem_cons_succ, List.getElem_cons_zero, Act.put, List.setIfInBounds_toArray, List.set_cons_zero, List.set_cons_succ])
    refine wpAnyH_ready (rs := [9]) (by kernel_rfl) (by simp) ?_
    refine AllReadyH.cons rfl (fun K hK => ?_) AllReadyH.nil
    go_simp
    (go_at_call 16; refine (HRP.out _ hHeld.2.out).mono ?_; rintro e w5 ⟨rfl, b⟩; have hS5 : Oct w5 A k lb ∧ Hid (Below w2.heap.size w2 w5) := ⟨hHeld.1.below b, hid (past hHeld.2.out b)⟩; clear b hHeld)
    go_wp2_with fail
    refine hK.out _ _ (by first | assumption | trivial) (fun hHeld => ?_)
    clear hK K
    (try simp only [List.append_eq, List.cons_append, List.nil_append, List.getElem_toArray, List.getElem_cons_succ, List.getElem_cons_zero, Act.put, List.setIfInBounds_toArray, List.set_cons_zero, List.set_cons_succ])
    refine wpAnyH_take (i := 10) (v := ?_) rfl (by kernel_rfl) (by kernel_rfl) (by kernel_rfl) (fun _ _ _ h => h) (Or.inl ⟨by kernel_rfl, ?_⟩) (by first | assumption | trivial) ?_
    rotate_left
    · (intro wS hSw; (try dsimp only at hSw); go_simp; try with_reducible rfl)
    (try simp only [List.append_eq, List.cons_append, List.nil_append, List.getElem_toArray, List.getElem_cons_succ, List.getElem_cons_zero, Act.put, List.setIfInBounds_toArray, List.set_cons_zero, List.set_cons_succ])
    refine wpAnyH_take (i := 11) (v := ?_) rfl (by kernel_rfl) (by kernel_rfl) (by kernel_rfl) (fun _ _ _ h => h) (Or.inl ⟨by kernel_rfl, ?_⟩) (by first | assumption | trivial) ?_
    rotate_left
    · (intro wS hSw; (try dsimp only at hSw); go_simp; try with_reducible rfl)
    (try simp only [List.append_eq, List.cons_append, List.nil_append, List.getElem_toArray, List.getElem_cons_succ, List.getElem_cons_zero, Act.put, List.setIfInBounds_toArray, List.set_cons_zero, List.set_cons_succ])
    refine wpAnyH_ready (rs := [12]) (by kernel_rfl) (by simp) ?_
    refine AllReadyH.cons rfl (fun K hK => ?_) AllReadyH.nil
    go_simp
    (go_at_call 14; refine (awake_any _).mono ?_; rintro e w7 ⟨rfl, b⟩; have hS7 : Oct w7 A k lb ∧ Hid (Below w2.heap.size w2 w7) := ⟨hHeld.1.below b, hid (past hHeld.2.out b)⟩; clear b hHeld)
    go_wp2_with fail
    refine hK.out _ _ (by first | assumption | trivial) (fun hHeld => ?_)
    clear hK K
    (try simp only [List.append_eq, List.cons_append, List.nil_append, List.getElem_toArray, List.getElem_cons_succ, List.getElem_cons_zero, Act.put, List.setIfInBounds_toArray, List.set_cons_zero, List.set_cons_succ])
    refine wpAnyH_take (i := 13) (v := ?_) rfl (by kernel_rfl) (by kernel_rfl) (by kernel_rfl) (fun _ _ _ h => h) (Or.inl ⟨by kernel_rfl, ?_⟩) (by first | assumption | trivial) ?_
    rotate_left
    · (intro wS hSw; (try dsimp only at hSw); go_simp; try with_reducible rfl)
    (try simp only [List.append_eq, List.cons_append, List.nil_append, List.getElem_toArray, List.getElem_cons_succ, List.getElem_cons_zero, Act.put, List.setIfInBounds_toArray, List.set_cons_zero, List.set_cons_succ])
    refine wpAnyH_take (i := 14) (v := ?_) rfl (by kernel_rfl) (by kernel_rfl) (by kernel_rfl) (fun _ _ _ h => h) (Or.inl ⟨by kernel_rfl, ?_⟩) (by first | assumption | trivial) ?_
    rotate_left
    · (intro wS hSw; (try dsimp only at hSw); go_simp; try with_reducible rfl)
    (try simp only [List.append_eq, List.cons_append, List.nil_append, List.getElem_toArray, List.getElem_cons_succ, List.getElem_cons_zero, Act.put, List.setIfInBounds_toArray, List.set_cons_zero, List.set_cons_succ])
    refine wpAnyH_done (by kernel_rfl) ?_ _
    refine NoPanic.normal ?_
    have HBE := hid (past HB2.out hHeld.2.out)
    go_wp2_with fail
    go_ret
    exact ⟨rfl, HBE.out⟩
  · go_simp
    (go_at_call 16; refine (HRP.out _ hHeld.2.out).mono ?_; rintro e w5 ⟨rfl, b⟩; have hS5 : Oct w5 A k lb ∧ Hid (Below w2.heap.size w2 w5) := ⟨hHeld.1.below b, hid (past hHeld.2.out b)⟩; have HO5 := hid (HO4.out.below b); clear b hHeld)
    go_wp2_with fail
    refine hK.out _ _ (by first | assumption | trivial) (fun hHeld => ?_)
    clear hK K
    (try simp only [List.append_eq, List.cons_append, List.nil_append, List.getElem_toArray, List.getElem_cons_succ, List.getElem_cons_zero, Act.put, List.setIfInBounds_toArray, List.set_cons_zero, List.set_cons_succ])
    have kc4 : (convert 22 9 (.slice A4 k4 c4)).run Tryd.prog w5 = .ok (.string (str pk)) w5 := run_string_oct c4 HO5.out Tryd.underlying22 Tryd.underlying5 Tryd.underlying9
    refine wpAnyH_ready (rs := [4]) (by kernel_rfl) (by simp) ?_
    refine AllReadyH.cons rfl (fun K hK => ?_) AllReadyH.nil
    go_simp
    skip
    go_wp2_with fail
    refine hK.out _ _ (by first | assumption | trivial) (fun hHeld => ?_)
    clear hK K
    (try simp only [List.append_eq, List.cons_append, List.nil_append, List.getElem_toArray, List.getElem_cons_succ, List.getElem_cons_zero, Act.put, List.setIfInBounds_toArray, List.set_cons_zero, List.set_cons_succ])
    refine wpAnyH_take (i := 10) (v := ?_) rfl (by kernel_rfl) (by kernel_rfl) (by kernel_rfl) (fun _ _ _ h => h) (Or.inl ⟨by kernel_rfl, ?_⟩) (by first | assumption | trivial) ?_
    rotate_left
    · (intro wS hSw; (try dsimp only at hSw); go_simp; try with_reducible rfl)
    (try simp only [List.append_eq, List.cons_append, List.nil_append, List.getElem_toArray, List.getElem_cons_succ, List.getElem_cons_zero, Act.put, List.setIfInBounds_toArray, List.set_cons_zero, List.set_cons_succ])
    refine wpAnyH_take (i := 11) (v := ?_) rfl (by kernel_rfl) (by kernel_rfl) (by kernel_rfl) (fun _ _ _ h => h) (Or.inl ⟨by kernel_rfl, ?_⟩) (by first | assumption | trivial) ?_
    rotate_left
    · (intro wS hSw; (try dsimp only at hSw); go_simp; try with_reducible rfl)
    (try simp only [List.append_eq, List.cons_append, List.nil_append, List.getElem_toArray, List.getElem_cons_succ, List.getElem_cons_zero, Act.put, List.setIfInBounds_toArray, List.set_cons_zero, List.set_cons_succ])
    refine wpAnyH_ready (rs := [12]) (by kernel_rfl) (by simp) ?_
    refine AllReadyH.cons rfl (fun K hK => ?_) AllReadyH.nil
    go_simp
    (go_at_call 14; refine (awake_any _).mono ?_; rintro e w7 ⟨rfl, b⟩; have hS7 : Oct w7 A k lb ∧ Hid (Below w2.heap.size w2 w7) := ⟨hHeld.1.below b, hid (past hHeld.2.out b)⟩; clear b hHeld)
    go_wp2_with fail
    refine hK.out _ _ (by first | assumption | trivial) (fun hHeld => ?_)
    clear hK K
    (try simp only [List.append_eq, List.cons_append, List.nil_append, List.getElem_toArray, List.getElem_cons_succ, List.getElem_cons_zero, Act.put, List.setIfInBounds_toArray, List.set_cons_zero, List.set_cons_succ])
    refine wpAnyH_take (i := 13) (v := ?_) rfl (by kernel_rfl) (by kernel_rfl) (by kernel_rfl) (fun _ _ _ h => h) (Or.inl ⟨by kernel_rfl, ?_⟩) (by first | assumption | trivial) ?_
    rotate_left
    · (intro wS hSw; (try dsimp only at hSw); go_simp; try with_reducible rfl)
    (try simp only [List.append_eq, List.cons_append, List.nil_append, List.getElem_toArray, List.getElem_cons_succ, List.getElem_cons_zero, Act.put, List.setIfInBounds_toArray, List.set_cons_zero, List.set_cons_succ])
    refine wpAnyH_take (i := 14) (v := ?_) rfl (by kernel_rfl) (by kernel_rfl) (by kernel_rfl) (fun _ _ _ h => h) (Or.inl ⟨by kernel_rfl, ?_⟩) (by first | assumption | trivial) ?_
    rotate_left
    · (intro wS hSw; (try dsimp only at hSw); go_simp; try with_reducible rfl)
    (try simp only [List.append_eq, List.cons_append, List.nil_append, List.getElem_toArray, List.getElem_cons_succ, List.getElem_cons_zero, Act.put, List.setIfInBounds_toArray, List.set_cons_zero, List.set_cons_succ])
    refine wpAnyH_done (by kernel_rfl) ?_ _
    refine NoPanic.normal ?_
    have HBE := hid (past HB2.out hHeld.2.out)
    go_wp2_with fail
    go_ret
    exact ⟨rfl, HBE.out⟩
end Go.Proofs.YthlofpofcpconaaDoor
