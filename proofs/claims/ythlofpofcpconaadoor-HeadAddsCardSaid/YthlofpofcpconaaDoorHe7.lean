/-
  The header's length: the document's walk. A part of the proof: see the head of the text that ends in 'Law'.
-/
import Derived.Test.YthlofpofcpconaaDoorHePlain4
import Derived.Test.YthlofpofcpconaaDoorHe6
namespace Go.Proofs.YthlofpofcpconaaDoor
open Go.RowKit Go.Shelf
set_option linter.unusedVariables false
attribute [local go_sem] Oper.semAt_some

/-- The k-th text of a row that the call made. -/
theorem text_at {w w' : World} {A : Option Addr} {m d : Nat} {T : TypeId} {b : Nat} {ls : List (List UInt8)} (ho : w.ownsRow b T 1 (.slice A m d) m (ls.map SV)) (hb : Below w.heap.size w w') (k : Nat) (hk : k < ls.length) (hm : ls.length = m) :
    ∃ g, A = some ⟨g, 0, none⟩ ∧ w'.cell? ⟨g, k, none⟩ = some (.string (str ls[k])) := by
  obtain ⟨g, rfl, hg, og⟩ := own_row ho (by omega)
  refine ⟨g, rfl, ?_⟩
  have : w.cell? ⟨g, k, none⟩ = some (.string (str ls[k])) := og.cell (by rw [List.getElem?_map, List.getElem?_eq_getElem hk]; rfl)
  exact cells_keep hb this
set_option maxRecDepth 100000 in
set_option maxHeartbeats 4000000 in
theorem rsplit_any (l : List UInt8) (w : World) (hl : l.length ≤ 100000) :
    Calls Tryd.prog 22 #[.string (str l)] w fun e w' => e = .returned (.int .i64 (splitL l : Int)) ∧ Below w.heap.size w w' := by
  have HL := hid hl
  have hml := cutL_len l
  have I0 : Hid (SpI l 0 0 ∧ splitL l = spG 0 ((cutL l).drop 0)) := hid ⟨SpI.start l, rfl⟩
  go_enter Tryd.func22, Tryd.ntmps22
  go_wp2_with (go_at_call 32; refine (rcut_any l _ HL.out).mono ?_; rintro e w1 ⟨A, m, d, rfl, hm, hmd, ho, hb⟩; have HO := hid ho; have HB := hid hb; clear ho hb)
  rw [hm] at hml
  have HM := hid hm
  clear hm
  go_loopw [3, 5] (fun v3 v5 wr => ∃ k a : Nat, k ≤ m ∧ v3 = .int .i64 (a : Int) ∧ v5 = .int .i64 (k : Int) ∧ Hid (SpI l k a ∧ splitL l = spG a ((cutL l).drop k)) ∧ w1 = wr) (fun v3 v5 wr => m - (intOf v5).toNat)
  case atStart => exact ⟨0, 0, Nat.zero_le _, rfl, rfl, I0, rfl⟩
  case round =>
    clear I0
    obtain ⟨k, a, hk2, rfl, rfl, HI, rfl⟩ := hrel
    have hal : a ≤ l.length := HI.out.1.le
    by_cases hlt : k < m
    · have d1 := lt_t hlt
      have d1' := lt_nt hlt
      have e0 : (0 : Int) ≤ (k : Int) := by omega
      have e1 : (k : Int) < (m : Int) := by omega
      have e3 : (k : Int).toNat = k := by omega
      have hkl : k < (cutL l).length := by rw [HM.out]; exact hlt
      obtain ⟨g, rfl, hc⟩ := text_at HO.out (Below.refl _ _) k hkl HM.out
      obtain ⟨x, hx⟩ : ∃ x, (cutL l)[k]'hkl = x := ⟨_, rfl⟩
      rw [hx] at hc
      have hst := HI.out.1.step hkl x hx
      have hxl : a + x.length ≤ l.length := hst.le
      obtain ⟨t, ht⟩ : ∃ t, emptyB x = t := ⟨_, rfl⟩
      have HE := hid (fun X => rempty_any x X)
      rw [ht] at HE
      obtain ⟨xn, hxn⟩ : ∃ xn, x.length = xn := ⟨_, rfl⟩
      have hsx : (str x).size = xn := hxn
      have HST := hid hst
      rw [hxn] at hxl HST
      have heq : splitL l = if t = true then a + xn else spG (a + xn) ((cutL l).drop (k + 1)) := by
        rw [HI.out.2, List.drop_eq_getElem_cons hkl, hx, spG, ht, hxn]
      clear HI hx hkl hst hxn
      cases t with
      | true =>
        have HF : Hid (splitL l = a + xn) := hid heq
        clear heq ht
        go_wp2_with (go_at_call 19; refine (HE.out _).mono ?_; rintro e w3 ⟨rfl, rfl⟩)
        go_ret
        exact ⟨by rw [HF.out]; go_num, HB.out⟩
      | false =>
        have HF : Hid (SpI l (k + 1) (a + xn) ∧ splitL l = spG (a + xn) ((cutL l).drop (k + 1))) := hid ⟨HST.out, heq⟩
        clear heq ht
        go_wp2_with (go_at_call 19; refine (HE.out _).mono ?_; rintro e w3 ⟨rfl, rfl⟩)
        go_roundw
        case rel => exact ⟨k + 1, a + xn, by omega, by go_num, by go_num, HF, trivial⟩
        case measure => simp [intOf]; omega
    · have hkm : k = m := by omega
      subst hkm
      have d1 := lt_f hlt
      have d1' := lt_nf hlt
      have HF : Hid (splitL l = a) := hid (by rw [HI.out.2, List.drop_of_length_le (by rw [HM.out]; exact Nat.le_refl _), spG])
      clear HI
      go_wp2_with fail
      go_ret
      exact ⟨by rw [HF.out]; rfl, HB.out⟩
end Go.Proofs.YthlofpofcpconaaDoor
