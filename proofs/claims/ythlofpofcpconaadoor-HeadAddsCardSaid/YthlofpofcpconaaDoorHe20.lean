/-
  The document's first field of a name; is a name one of some. A part of the proof: see the head of the text that ends in 'Law'.
-/
import Derived.Test.YthlofpofcpconaaDoorHe19
namespace Go.Proofs.YthlofpofcpconaaDoor
open Go.RowKit Go.Shelf
set_option linter.unusedVariables false
attribute [local go_sem] Oper.semAt_some

set_option maxRecDepth 100000 in
set_option maxHeartbeats 4000000 in
theorem rfind_any (l name : List UInt8) (w : World) (hl : l.length ≤ 100000) :
    Calls Tryd.prog 11 #[.string (str l), .string (str name)] w fun e w' => e = .returned (fdO (findF l name (fieldsL l))) ∧ Below w.heap.size w w' := by
  have HHL := hid hl
  have hkl := fields_len l
  have HFA := hid (rfields_any l w hl)
  go_enter Tryd.func11, Tryd.ntmps11
  go_wp2_with (go_at_call 21; refine HFA.out.mono ?_; rintro e w5 ⟨A5, k, c5, rfl, hk, hkc, ho5, b5⟩; have B5 := hid b5; have HR5 := hid (Row.of_own ho5); have HK := hid hk; clear b5 ho5 hk)
  have hkn : k ≤ 100000 := by have := HK.out; omega
  clear HFA hkl
  go_loopw [7] (fun i wr => ∃ j : Nat, j ≤ k ∧ i = .int .i64 (j : Int) ∧ Hid (findF l name ((fieldsL l).drop j) = findF l name (fieldsL l) ∧ Below w5.heap.size w5 wr)) (fun i wr => k - (intOf i).toNat)
  case atStart => exact ⟨0, by omega, rfl, hid ⟨by rw [List.drop_zero], Below.refl _ _⟩⟩
  case round =>
    obtain ⟨j, hj, rfl, HI⟩ := hrel
    by_cases hlt : j < k
    · have d1 : decide ((j : Int) < (k : Int)) = true := by simp; omega
      have d1' : decide (j < k) = true := by simpa using hlt
      have hkl : j < (fieldsL l).length := by rw [HK.out]; exact hlt
      obtain ⟨b, off, rfl, hc⟩ := fd_at HR5.out hkl
      have hst := findF_step l name (fieldsL l) j hkl
      rw [HI.out.1] at hst
      have hmem : (fieldsL l)[j]'hkl ∈ fieldsL l := List.getElem_mem hkl
      obtain ⟨f, hf⟩ : ∃ f, (fieldsL l)[j]'hkl = f := ⟨_, rfl⟩
      rw [hf] at hst hmem
      have HB1 := hid HI.out.2
      have p0 := cells_keep HB1.out (hc j hkl).1
      have HC : Hid (∀ X, Below w5.heap.size w5 X → X.cell? ⟨b, off + j * 4, none⟩ = some (.string (str f.nm)) ∧ X.cell? ⟨b, off + j * 4 + 1, none⟩ = some (.int .i64 (f.fr : Int)) ∧ X.cell? ⟨b, off + j * 4 + 2, none⟩ = some (.int .i64 (f.te : Int)) ∧ X.cell? ⟨b, off + j * 4 + 3, none⟩ = some (.int .i64 (f.at_ : Int))) := hid (fun X hX => by
        have h := hc j hkl
        rw [hf] at h
        exact ⟨cells_keep hX h.1, cells_keep hX h.2.1, cells_keep hX h.2.2.1, cells_keep hX h.2.2.2⟩)
      rw [hf] at p0
      have i0 : (0 : Int) ≤ (j : Int) := by omega
      have i1 : (j : Int) < (k : Int) := by omega
      have i2 : (j : Int).toNat = j := by omega
      have hb := field_bounds hmem
      have HAL := hid (fun X => alike_any f.nm name X (by omega))
      have HTX := hid (fun X => rtext_any l f X HHL.out hb.1 hb.2.1)
      obtain ⟨t, ht⟩ : ∃ t, alikeL f.nm name = t := ⟨_, rfl⟩
      rw [ht] at HAL hst
      have HST := hid hst
      clear hc hkl hf ht hst hb hmem
      cases t with
      | true =>
        have HF : Hid (findF l name (fieldsL l) = some (fdText l f)) := hid (by rw [HST.out, if_pos rfl])
        clear HST HI
        go_wp2_with (first
          | (go_at_call 13; refine (HAL.out _).mono ?_; rintro e w7 ⟨rfl, b7⟩; have HB7 := hid (past HB1.out b7); have k0 := (HC.out _ HB7.out).1; have k1 := (HC.out _ HB7.out).2.1; have k2 := (HC.out _ HB7.out).2.2.1; have k3 := (HC.out _ HB7.out).2.2.2; clear b7)
          | (go_at_call 23; refine (HTX.out _).mono ?_; rintro e w8 ⟨rfl, b8⟩; have HB8 := hid (past HB7.out b8); clear b8))
        go_ret2
        exact ⟨by rw [HF.out]; rfl, past B5.out HB8.out⟩
      | false =>
        have HF : Hid (findF l name ((fieldsL l).drop (j + 1)) = findF l name (fieldsL l)) := hid (by rw [HST.out, if_neg (by decide)])
        clear HST HI
        go_wp2_with (go_at_call 13; refine (HAL.out _).mono ?_; rintro e w7 ⟨rfl, b7⟩; have HB7 := hid (past HB1.out b7); clear b7)
        go_roundw
        case rel => exact ⟨j + 1, by omega, by go_num, hid ⟨HF.out, HB7.out⟩⟩
        case measure => simp [intOf]; omega
    · have d1 : decide ((j : Int) < (k : Int)) = false := by simp; omega
      have d1' : decide (j < k) = false := by simpa using hlt
      have HF : Hid (findF l name (fieldsL l) = none) := hid (by rw [← HI.out.1, List.drop_of_length_le (by rw [HK.out]; omega)]; rfl)
      have HB1 := hid (past B5.out HI.out.2)
      clear HI
      go_wp2_with fail
      go_ret2
      exact ⟨by rw [HF.out]; rfl, HB1.out⟩
theorem pick1_any (s nm : List UInt8) (g : Nat) (w : World) (hg : w.cell? ⟨g, 0, none⟩ = some (.string (str nm))) (hs : s.length ≤ 100000) :
    Calls Tryd.prog 30 #[.string (str s), .pointer (some ⟨g, 0, none⟩)] w fun e w' => e = .returned (.bool (alikeL s nm)) ∧ Below w.heap.size w w' := by
  have HA := hid (halike_any s nm w hs)
  go_enter Tryd.func30, Tryd.ntmps30
  go_wp2_with (go_at_call 12; refine HA.out.mono ?_; rintro e w7 ⟨rfl, b7⟩; have HB := hid b7; clear b7)
  go_ret
  exact ⟨rfl, HB.out⟩
/-- Is a name one of some? -/
def oneOf (ns : List (List UInt8)) (nm : List UInt8) : Bool := ns.any fun s => alikeL s nm
theorem oneOf_step (ns : List (List UInt8)) (nm : List UInt8) (k : Nat) (hk : k < ns.length) : oneOf (ns.drop k) nm = (alikeL ns[k] nm || oneOf (ns.drop (k + 1)) nm) := by
  unfold oneOf
  rw [List.drop_eq_getElem_cons hk, List.any_cons]
theorem sv_at {w : World} {A : Option Addr} {ns : List (List UInt8)} (h : Row w A (ns.map SV)) {k : Nat} (hk : k < ns.length) : ∃ b off, A = some ⟨b, off, none⟩ ∧ ∀ (j : Nat) (hj : j < ns.length), w.cell? ⟨b, off + j, none⟩ = some (.string (str (ns[j]'hj))) := by
  obtain ⟨b, off, hA, hc⟩ := h (by intro e; have := congrArg List.length e; simp at this; subst this; cases hk)
  exact ⟨b, off, hA, fun j hj => hc j _ (by rw [List.getElem?_map, List.getElem?_eq_getElem hj]; rfl)⟩
set_option maxRecDepth 100000 in
set_option maxHeartbeats 2000000 in
theorem indexFunc_any (A : Option Addr) (n c : Nat) (ns : List (List UInt8)) (nm : List UInt8) (g : Nat) (w : World) (hn : ns.length = n) (ha : Row w A (ns.map SV)) (hl : n ≤ 100000) (hs : ∀ s ∈ ns, s.length ≤ 100000) (hg : w.cell? ⟨g, 0, none⟩ = some (.string (str nm))) :
    Calls Tryd.prog 46 #[.slice A n c, .func (.func 30) #[] #[.pointer (some ⟨g, 0, none⟩)]] w fun e w' => (∃ k : Int, e = .returned (.int .i64 k) ∧ decide (0 ≤ k) = oneOf ns nm) ∧ Below w.heap.size w w' := by
  have HA := hid ha
  have HL := hid hn
  have HG := hid hg
  have HS := hid hs
  clear ha hn hg hs
  go_enter Tryd.func46, Tryd.ntmps46
  go_wp2_with fail
  go_loopw [8] (fun i wr => ∃ k : Nat, k ≤ n ∧ i = .int .i64 (k : Int) ∧ Hid (oneOf (ns.drop k) nm = oneOf ns nm ∧ Below w.heap.size w wr)) (fun i wr => n - (intOf i).toNat)
  case atStart => exact ⟨0, by omega, rfl, hid ⟨by rw [List.drop_zero], Below.refl _ _⟩⟩
  case round =>
    obtain ⟨k, hk, rfl, HI⟩ := hrel
    by_cases hlt : k < n
    · have d1 : decide ((k : Int) < (n : Int)) = true := by simp; omega
      have d1' : decide (k < n) = true := by simpa using hlt
      have hkl : k < ns.length := by rw [HL.out]; exact hlt
      obtain ⟨b, off, rfl, hc⟩ := sv_at HA.out hkl
      have hst := oneOf_step ns nm k hkl
      rw [HI.out.1] at hst
      have hsl := HS.out _ (List.getElem_mem hkl)
      obtain ⟨x, hx⟩ : ∃ x, ns[k]'hkl = x := ⟨_, rfl⟩
      have p0 := cells_keep HI.out.2 (hc k hkl)
      rw [hx] at p0 hst hsl
      have HP := hid (pick1_any x nm g wr (cells_keep HI.out.2 HG.out) hsl)
      obtain ⟨t, ht⟩ : ∃ t, alikeL x nm = t := ⟨_, rfl⟩
      rw [ht] at HP hst
      have HST := hid hst
      have i0 : (0 : Int) ≤ (k : Int) := by omega
      have i1 : (k : Int) < (n : Int) := by omega
      have i2 : (k : Int).toNat = k := by omega
      clear hc hkl hx ht hst hsl
      cases t with
      | true =>
        have HF : Hid (oneOf ns nm = true) := hid (by rw [HST.out]; rfl)
        have hk0 : decide ((0 : Int) ≤ (k : Int)) = true := by simp
        go_wp2_with (go_at_call 30; refine HP.out.mono ?_; rintro e w7 ⟨rfl, b7⟩; have HB7 := hid (past HI.out.2 b7); clear b7)
        go_ret
        exact ⟨⟨(k : Int), rfl, by rw [HF.out]; exact hk0⟩, HB7.out⟩
      | false =>
        have HF : Hid (oneOf (ns.drop (k + 1)) nm = oneOf ns nm) := hid (by rw [HST.out]; rfl)
        go_wp2_with (go_at_call 30; refine HP.out.mono ?_; rintro e w7 ⟨rfl, b7⟩; have HB7 := hid (past HI.out.2 b7); clear b7)
        go_roundw
        case rel => exact ⟨k + 1, by omega, by go_num, hid ⟨HF.out, HB7.out⟩⟩
        case measure => simp [intOf]; omega
    · have d1 : decide ((k : Int) < (n : Int)) = false := by simp; omega
      have d1' : decide (k < n) = false := by simpa using hlt
      have HF : Hid (oneOf ns nm = false) := hid (by rw [← HI.out.1, List.drop_of_length_le (by rw [HL.out]; omega)]; rfl)
      go_wp2_with fail
      go_ret
      exact ⟨⟨-1, rfl, by rw [HF.out]; rfl⟩, HI.out.2⟩
theorem containsFunc_any (A : Option Addr) (n c : Nat) (ns : List (List UInt8)) (nm : List UInt8) (g : Nat) (w : World) (hn : ns.length = n) (ha : Row w A (ns.map SV)) (hl : n ≤ 100000) (hs : ∀ s ∈ ns, s.length ≤ 100000) (hg : w.cell? ⟨g, 0, none⟩ = some (.string (str nm))) :
    Calls Tryd.prog 29 #[.slice A n c, .func (.func 30) #[] #[.pointer (some ⟨g, 0, none⟩)]] w fun e w' => e = .returned (.bool (oneOf ns nm)) ∧ Below w.heap.size w w' := by
  have HC := hid (indexFunc_any A n c ns nm g w hn ha hl hs hg)
  clear hn ha hs hg
  go_enter Tryd.func29, Tryd.ntmps29
  go_wp2_with (go_at_call 46; refine HC.out.mono ?_; rintro e w1 ⟨⟨k, rfl, hk⟩, hb⟩; have HB := hid hb; clear hb)
  go_ret
  exact ⟨rfl, HB.out⟩
end Go.Proofs.YthlofpofcpconaaDoor
