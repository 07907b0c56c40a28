/-
  The fields of some names, or of others: the document's walk. A part of the proof: see the head of the text that ends in 'Law'.
-/
import Derived.Test.YthlofpofcpconaaDoorHe21
namespace Go.Proofs.YthlofpofcpconaaDoor
open Go.RowKit Go.Shelf
set_option linter.unusedVariables false
set_option linter.unusedSimpArgs false
attribute [local go_sem] Oper.semAt_some

theorem endR_step (ls : List (List UInt8)) (k : Nat) (hk : k < ls.length) (x : List UInt8) (hx : ls[k] = x) : endR (ls.drop k) = if emptyB x = true then x else endR (ls.drop (k + 1)) := by
  rw [List.drop_eq_getElem_cons hk, hx, endR]
set_option maxRecDepth 100000 in
set_option maxHeartbeats 8000000 in
theorem rpick_any (l : List UInt8) (A2 : Option Addr) (n2 c2 : Nat) (ns : List (List UInt8)) (no : Bool) (w : World) (hl : l.length ≤ 100000)
    (h2 : Row w A2 (ns.map SV)) (hn2 : ns.length = n2) (hl2 : n2 ≤ 100000) (hs : ∀ s ∈ ns, s.length ≤ 100000) :
    Calls Tryd.prog 16 #[.string (str l), .slice A2 n2 c2, .bool no] w fun e w' => e = .returned (.string (str (pickL l ns no))) ∧ Below w.heap.size w w' := by
  have HHL := hid hl
  have HR2 := hid h2
  have HN2 := hid hn2
  have HS := hid hs
  have hkl := fields_len l
  have HFA := hid (rfields_any l w hl)
  clear h2 hn2 hs
  go_enter Tryd.func16, Tryd.ntmps16
  go_wp2_with (go_at_call 21; refine HFA.out.mono ?_; rintro e w5 ⟨A5, k, c5, rfl, hk, hkc, ho5, b5⟩; have B5 := hid b5; have HR5 := hid (Row.of_own ho5); have HK := hid hk; clear b5 ho5 hk)
  have hkn : k ≤ 100000 := by have := HK.out; omega
  have HR2 := hid (HR2.out.below B5.out)
  clear HFA hkl
  go_loopw [7, 9] (fun v7 i wr => ∃ (j m : Nat) (out : List UInt8), j ≤ k ∧ v7 = .string (str out) ∧ i = .int .i64 (j : Int) ∧ Hid (PkI l ns no j m out) ∧ Hid (Below w5.heap.size w5 wr)) (fun v7 i wr => k - (intOf i).toNat)
  case atStart => exact ⟨0, 0, [], by omega, rfl, rfl, hid ⟨by rw [List.drop_zero]; rfl, rfl, Nat.zero_le _⟩, hid (Below.refl _ _)⟩
  case round =>
    obtain ⟨j, m, out, hj, rfl, rfl, HI, HB1⟩ := hrel
    rename World => wo
    by_cases hlt : j < k
    · have d1 : decide ((j : Int) < (k : Int)) = true := by simp; omega
      have d1' : decide (j < k) = true := by simpa using hlt
      have hkl : j < (fieldsL l).length := by rw [HK.out]; exact hlt
      obtain ⟨b, off, rfl, hc⟩ := fd_at HR5.out hkl
      have hmem : (fieldsL l)[j]'hkl ∈ fieldsL l := List.getElem_mem hkl
      obtain ⟨f, hf⟩ : ∃ f, (fieldsL l)[j]'hkl = f := ⟨_, rfl⟩
      have hst := pickF_step l ns no (fieldsL l) j hkl f hf
      have hcj := hc j hkl
      rw [hf] at hcj hmem
      have HC : Hid (∀ X, Below w5.heap.size w5 X → X.cell? ⟨b, off + j * 4, none⟩ = some (.string (str f.nm)) ∧ X.cell? ⟨b, off + j * 4 + 1, none⟩ = some (.int .i64 (f.fr : Int)) ∧ X.cell? ⟨b, off + j * 4 + 2, none⟩ = some (.int .i64 (f.te : Int))) := hid (fun X hX => ⟨cells_keep hX hcj.1, cells_keep hX hcj.2.1, cells_keep hX hcj.2.2.1⟩)
      have i0 : (0 : Int) ≤ (j : Int) := by omega
      have i1 : (j : Int) < (k : Int) := by omega
      have i2 : (j : Int).toNat = j := by omega
      have hb := field_bounds hmem
      have hfo := (field_ok hmem).1.h1
      have hml := HI.out.le
      have hml2 := HI.out.len
      have hln := HHL.out
      have e1 : f.fr < f.te := by omega
      have hte : f.te ≤ 100000 := by omega
      have g0 : (0 : Int) ≤ (f.fr : Int) := by omega
      have g1 : (f.fr : Int) ≤ (f.te : Int) := by omega
      have hsl : (str l).size = l.length := rfl
      have g2 : (f.te : Int) ≤ ((str l).size : Int) := by omega
      have g3 : (f.fr : Int).toNat = f.fr := by omega
      have g4 : (f.te : Int).toNat = f.te := by omega
      have hll : (lineL l (f.fr, f.te)).length = f.te - f.fr := by unfold lineL; rw [List.length_take, List.length_drop]; dsimp only; omega
      have HLL := hid hll
      have hx : (str l).extract f.fr f.te = str (lineL l (f.fr, f.te)) := by rw [str_extract]; rfl
      have hz : str out ++ str (lineL l (f.fr, f.te)) = str (out ++ lineL l (f.fr, f.te)) := str_append _ _
      have hno : ¬ 9223372036854775807 < (str out).size + (str (lineL l (f.fr, f.te))).size := by
        have h1 : (str out).size = out.length := rfl
        have h2 : (str (lineL l (f.fr, f.te))).size = f.te - f.fr := hll
        omega
      obtain ⟨t, ht⟩ : ∃ t, oneOf ns f.nm = t := ⟨_, rfl⟩
      have HT := hid ht
      rw [ht] at hst
      have HST := hid hst
      clear hc hkl hf ht hst hb hmem hln hfo hcj hsl hll hml2
      go_wp2_with fail
      go_loopw [10, 11] (fun v10 v11 wr => ∃ (k2 : Nat) (q : Bool), k2 ≤ n2 ∧ v10 = .bool q ∧ v11 = .int .i64 (k2 : Int) ∧ Hid ((q || oneOf (ns.drop k2) f.nm) = t) ∧ Hid (Below wo.heap.size wo wr)) (fun v10 v11 wr => n2 - (intOf v11).toNat)
      case atStart => exact ⟨0, false, Nat.zero_le _, rfl, rfl, hid (by rw [List.drop_zero, HT.out]; rfl), hid (Below.refl _ _)⟩
      case round =>
        obtain ⟨k2, q, hk2, rfl, rfl, HQ, HB2⟩ := hrel
        by_cases hlt2 : k2 < n2
        · have d2 : decide ((k2 : Int) < (n2 : Int)) = true := by simp; omega
          have d2' : decide (k2 < n2) = true := by simpa using hlt2
          have hkl2 : k2 < ns.length := by rw [HN2.out]; exact hlt2
          obtain ⟨b2, off2, rfl, hc2⟩ := sv_at HR2.out hkl2
          have hst2 := oneOf_step ns f.nm k2 hkl2
          have hsl2 := HS.out _ (List.getElem_mem hkl2)
          obtain ⟨x, hx2⟩ : ∃ x, ns[k2]'hkl2 = x := ⟨_, rfl⟩
          have p0 := cells_keep HB2.out (cells_keep HB1.out (hc2 k2 hkl2))
          have p1 := (HC.out _ (past HB1.out HB2.out)).1
          rw [hx2] at p0 hst2 hsl2
          have j0 : (0 : Int) ≤ (k2 : Int) := by omega
          have j1 : (k2 : Int) < (n2 : Int) := by omega
          have j2 : (k2 : Int).toNat = k2 := by omega
          have HQ1 := HQ.out
          rw [hst2] at HQ1
          have HQQ := hid HQ1
          have HAL := hid (fun X => alike_any x f.nm X hsl2)
          have HB2' := hid HB2.out
          clear hc2 hkl2 hst2 hsl2 hx2 HQ1 HQ
          cases q with
          | true =>
            have HQ2 : Hid ((true || oneOf (ns.drop (k2 + 1)) f.nm) = t) := hid (by rw [← HQQ.out]; rfl)
            clear HQQ HAL
            go_upto_region 10 with fail
            refine wp_region_noPanic ?_
            refine wp_region_held_drew (S := (fun W => True)) (by kernel_rfl) (by first | assumption | trivial) (fun hHeld => ?_)
            refine wpAnyH_take (i := 0) (v := ?_) rfl (by kernel_rfl) (by kernel_rfl) (by kernel_rfl) (fun _ _ _ h => h) (Or.inl ⟨by kernel_rfl, ?_⟩) (by first | assumption | trivial) ?_
            rotate_left
            · (intro wS hSw; (try dsimp only at hSw); go_simp; try with_reducible rfl)
            (try simp only [List.append_eq, List.cons_append, List.nil_append, List.getElem_toArray, List.getElem_cons_succ, List.getElem_cons_zero, Act.put, List.setIfInBounds_toArray, List.set_cons_zero, List.set_cons_succ])
            refine wpAnyH_take (i := 1) (v := ?_) rfl (by kernel_rfl) (by kernel_rfl) (by kernel_rfl) (fun _ _ _ h => h) (Or.inl ⟨by kernel_rfl, ?_⟩) (by first | assumption | trivial) ?_
            rotate_left
            · (intro wS hSw; (try dsimp only at hSw); go_simp; try with_reducible rfl)
            (try simp only [List.append_eq, List.cons_append, List.nil_append, List.getElem_toArray, List.getElem_cons_succ, List.getElem_cons_zero, Act.put, List.setIfInBounds_toArray, List.set_cons_zero, List.set_cons_succ])
            refine wpAnyH_take (i := 2) (v := undef) rfl (by kernel_rfl) (by kernel_rfl) (by kernel_rfl) (fun _ _ _ h => h) (Or.inr ⟨by kernel_rfl, rfl⟩) (by first | assumption | trivial) ?_
            (try simp only [List.append_eq, List.cons_append, List.nil_append, List.getElem_toArray, List.getElem_cons_succ, List.getElem_cons_zero, Act.put, List.setIfInBounds_toArray, List.set_cons_zero, List.set_cons_succ])
            refine wpAnyH_take (i := 3) (v := undef) rfl (by kernel_rfl) (by kernel_rfl) (by kernel_rfl) (fun _ _ _ h => h) (Or.inr ⟨by kernel_rfl, rfl⟩) (by first | assumption | trivial) ?_
            (try simp only [List.append_eq, List.cons_append, List.nil_append, List.getElem_toArray, List.getElem_cons_succ, List.getElem_cons_zero, Act.put, List.setIfInBounds_toArray, List.set_cons_zero, List.set_cons_succ])
            refine wpAnyH_take (i := 4) (v := undef) rfl (by kernel_rfl) (by kernel_rfl) (by kernel_rfl) (fun _ _ _ h => h) (Or.inr ⟨by kernel_rfl, rfl⟩) (by first | assumption | trivial) ?_
            (try simp only [List.append_eq, List.cons_append, List.nil_append, List.getElem_toArray, List.getElem_cons_succ, List.getElem_cons_zero, Act.put, List.setIfInBounds_toArray, List.set_cons_zero, List.set_cons_succ])
            refine wpAnyH_take (i := 5) (v := undef) rfl (by kernel_rfl) (by kernel_rfl) (by kernel_rfl) (fun _ _ _ h => h) (Or.inr ⟨by kernel_rfl, rfl⟩) (by first | assumption | trivial) ?_
            (try simp only [List.append_eq, List.cons_append, List.nil_append, List.getElem_toArray, List.getElem_cons_succ, List.getElem_cons_zero, Act.put, List.setIfInBounds_toArray, List.set_cons_zero, List.set_cons_succ])
            refine wpAnyH_take (i := 6) (v := undef) rfl (by kernel_rfl) (by kernel_rfl) (by kernel_rfl) (fun _ _ _ h => h) (Or.inr ⟨by kernel_rfl, rfl⟩) (by first | assumption | trivial) ?_
            (try simp only [List.append_eq, List.cons_append, List.nil_append, List.getElem_toArray, List.getElem_cons_succ, List.getElem_cons_zero, Act.put, List.setIfInBounds_toArray, List.set_cons_zero, List.set_cons_succ])
            refine wpAnyH_take (i := 7) (v := undef) rfl (by kernel_rfl) (by kernel_rfl) (by kernel_rfl) (fun _ _ _ h => h) (Or.inr ⟨by kernel_rfl, rfl⟩) (by first | assumption | trivial) ?_
            (try simp only [List.append_eq, List.cons_append, List.nil_append, List.getElem_toArray, List.getElem_cons_succ, List.getElem_cons_zero, Act.put, List.setIfInBounds_toArray, List.set_cons_zero, List.set_cons_succ])
            refine wpAnyH_take (i := 8) (v := undef) rfl (by kernel_rfl) (by kernel_rfl) (by kernel_rfl) (fun _ _ _ h => h) (Or.inr ⟨by kernel_rfl, rfl⟩) (by first | assumption | trivial) ?_
            (try simp only [List.append_eq, List.cons_append, List.nil_append, List.getElem_toArray, List.getElem_cons_succ, List.getElem_cons_zero, Act.put, List.setIfInBounds_toArray, List.set_cons_zero, List.set_cons_succ])
            refine wpAnyH_take (i := 9) (v := undef) rfl (by kernel_rfl) (by kernel_rfl) (by kernel_rfl) (fun _ _ _ h => h) (Or.inr ⟨by kernel_rfl, rfl⟩) (by first | assumption | trivial) ?_
            (try simp only [List.append_eq, List.cons_append, List.nil_append, List.getElem_toArray, List.getElem_cons_succ, List.getElem_cons_zero, Act.put, List.setIfInBounds_toArray, List.set_cons_zero, List.set_cons_succ])
            refine wpAnyH_take (i := 10) (v := undef) rfl (by kernel_rfl) (by kernel_rfl) (by kernel_rfl) (fun _ _ _ h => h) (Or.inr ⟨by kernel_rfl, rfl⟩) (by first | assumption | trivial) ?_
            (try simp only [List.append_eq, List.cons_append, List.nil_append, List.getElem_toArray, List.getElem_cons_succ, List.getElem_cons_zero, Act.put, List.setIfInBounds_toArray, List.set_cons_zero, List.set_cons_succ])
            refine wpAnyH_take (i := 11) (v := undef) rfl (by kernel_rfl) (by kernel_rfl) (by kernel_rfl) (fun _ _ _ h => h) (Or.inr ⟨by kernel_rfl, rfl⟩) (by first | assumption | trivial) ?_
            (try simp only [List.append_eq, List.cons_append, List.nil_append, List.getElem_toArray, List.getElem_cons_succ, List.getElem_cons_zero, Act.put, List.setIfInBounds_toArray, List.set_cons_zero, List.set_cons_succ])
            refine wpAnyH_take (i := 12) (v := ?_) rfl (by kernel_rfl) (by kernel_rfl) (by kernel_rfl) (fun _ _ _ h => h) (Or.inl ⟨by kernel_rfl, ?_⟩) (by first | assumption | trivial) ?_
            rotate_left
            · (intro wS hSw; (try dsimp only at hSw); go_simp; try with_reducible rfl)
            (try simp only [List.append_eq, List.cons_append, List.nil_append, List.getElem_toArray, List.getElem_cons_succ, List.getElem_cons_zero, Act.put, List.setIfInBounds_toArray, List.set_cons_zero, List.set_cons_succ])
            refine wpAnyH_take (i := 13) (v := ?_) rfl (by kernel_rfl) (by kernel_rfl) (by kernel_rfl) (fun _ _ _ h => h) (Or.inl ⟨by kernel_rfl, ?_⟩) (by first | assumption | trivial) ?_
            rotate_left
            · (intro wS hSw; (try dsimp only at hSw); go_simp; try with_reducible rfl)
            (try simp only [List.append_eq, List.cons_append, List.nil_append, List.getElem_toArray, List.getElem_cons_succ, List.getElem_cons_zero, Act.put, List.setIfInBounds_toArray, List.set_cons_zero, List.set_cons_succ])
            refine wpAnyH_done (by kernel_rfl) ?_ _
            refine NoPanic.normal ?_
            have HB3 := hid (bq HB2'.out 1)
            go_wp2_with fail
            go_roundw
            case rel => exact ⟨k2 + 1, true, by omega, rfl, by go_num, HQ2, HB3⟩
            case measure => simp [intOf]; omega
          | false =>
            obtain ⟨u, hu⟩ : ∃ u, alikeL x f.nm = u := ⟨_, rfl⟩
            rw [hu] at HAL HQQ
            have HQ2 : Hid ((u || oneOf (ns.drop (k2 + 1)) f.nm) = t) := hid (by rw [← HQQ.out]; rfl)
            clear HQQ hu
            go_upto_region 10 with fail
            rename World => wq
            have hS : (wq.drew.cell? ⟨b2, off2 + k2, none⟩ = some (.string (str x)) ∧ wq.drew.cell? ⟨b, off + j * 4, none⟩ = some (.string (str f.nm))) ∧ Hid (Below wq.heap.size wq wq.drew) := ⟨⟨p0, p1⟩, hid (bq (Below.refl _ wq) 1)⟩
            refine wp_region_noPanic ?_
            refine wp_region_held_drew (S := (fun W => (W.cell? ⟨b2, off2 + k2, none⟩ = some (.string (str x)) ∧ W.cell? ⟨b, off + j * 4, none⟩ = some (.string (str f.nm))) ∧ Hid (Below wq.heap.size wq W))) (by kernel_rfl) (by first | assumption | trivial) (fun hHeld => ?_)
            refine wpAnyH_take (i := 0) (v := ?_) rfl (by kernel_rfl) (by kernel_rfl) (by kernel_rfl) (fun _ _ _ h => h) (Or.inl ⟨by kernel_rfl, ?_⟩) (by first | assumption | trivial) ?_
            rotate_left
            · (intro wS hSw; (try dsimp only at hSw); go_simp; try with_reducible rfl)
            (try simp only [List.append_eq, List.cons_append, List.nil_append, List.getElem_toArray, List.getElem_cons_succ, List.getElem_cons_zero, Act.put, List.setIfInBounds_toArray, List.set_cons_zero, List.set_cons_succ])
            refine wpAnyH_take (i := 1) (v := ?_) rfl (by kernel_rfl) (by kernel_rfl) (by kernel_rfl) (fun _ _ _ h => h) (Or.inl ⟨by kernel_rfl, ?_⟩) (by first | assumption | trivial) ?_
            rotate_left
            · (intro wS hSw; (try dsimp only at hSw); go_simp; try with_reducible rfl)
            (try simp only [List.append_eq, List.cons_append, List.nil_append, List.getElem_toArray, List.getElem_cons_succ, List.getElem_cons_zero, Act.put, List.setIfInBounds_toArray, List.set_cons_zero, List.set_cons_succ])
            refine wpAnyH_take (i := 2) (v := ?_) rfl (by kernel_rfl) (by kernel_rfl) (by kernel_rfl) (fun _ _ _ h => h) (Or.inl ⟨by kernel_rfl, ?_⟩) (by first | assumption | trivial) ?_
            rotate_left
            · (intro wS hSw; (try dsimp only at hSw); go_simp; try with_reducible rfl)
            (try simp only [List.append_eq, List.cons_append, List.nil_append, List.getElem_toArray, List.getElem_cons_succ, List.getElem_cons_zero, Act.put, List.setIfInBounds_toArray, List.set_cons_zero, List.set_cons_succ])
            refine wpAnyH_take (i := 3) (v := ?_) rfl (by kernel_rfl) (by kernel_rfl) (by kernel_rfl) (fun _ _ _ h => h) (Or.inl ⟨by kernel_rfl, ?_⟩) (by first | assumption | trivial) ?_
            rotate_left
            · (intro wS hSw; (try dsimp only at hSw); go_simp; try with_reducible rfl)
            (try simp only [List.append_eq, List.cons_append, List.nil_append, List.getElem_toArray, List.getElem_cons_succ, List.getElem_cons_zero, Act.put, List.setIfInBounds_toArray, List.set_cons_zero, List.set_cons_succ])
            refine wpAnyH_take (i := 4) (v := ?_) rfl (by kernel_rfl) (by kernel_rfl) (by kernel_rfl) (fun _ _ _ h => h) (Or.inl ⟨by kernel_rfl, ?_⟩) (by first | assumption | trivial) ?_
            rotate_left
            · (intro wS hSw; (try dsimp only at hSw); go_simp; try with_reducible rfl)
            (try simp only [List.append_eq, List.cons_append, List.nil_append, List.getElem_toArray, List.getElem_cons_succ, List.getElem_cons_zero, Act.put, List.setIfInBounds_toArray, List.set_cons_zero, List.set_cons_succ])
            refine wpAnyH_take (i := 5) (v := ?_) rfl (by kernel_rfl) (by kernel_rfl) (by kernel_rfl) (fun _ _ _ h => h) (Or.inl ⟨by kernel_rfl, ?_⟩) (by first | assumption | trivial) ?_
            rotate_left
            · (intro wS hSw; (try dsimp only at hSw); go_simp; try with_reducible rfl)
            (try simp only [List.append_eq, List.cons_append, List.nil_append, List.getElem_toArray, List.getElem_cons_succ, List.getElem_cons_zero, Act.put, List.setIfInBounds_toArray, List.set_cons_zero, List.set_cons_succ])
            refine wpAnyH_take (i := 6) (v := ?_) rfl (by kernel_rfl) (by kernel_rfl) (by kernel_rfl) (fun _ _ _ h => h) (Or.inl ⟨by kernel_rfl, ?_⟩) (by first | assumption | trivial) ?_
            rotate_left
            · (intro wS hSw; (try dsimp only at hSw); go_simp; try with_reducible rfl)
            (try simp only [List.append_eq, List.cons_append, List.nil_append, List.getElem_toArray, List.getElem_cons_succ, List.getElem_cons_zero, Act.put, List.setIfInBounds_toArray, List.set_cons_zero, List.set_cons_succ])
            refine wpAnyH_take (i := 7) (v := ?_) rfl (by kernel_rfl) (by kernel_rfl) (by kernel_rfl) (fun _ _ _ h => h) (Or.inl ⟨by kernel_rfl, ?_⟩) (by first | assumption | trivial) ?_
            rotate_left
            · (intro wS hSw; (try dsimp only at hSw); go_simp; try with_reducible rfl)
            (try simp only [List.append_eq, List.cons_append, List.nil_append, List.getElem_toArray, List.getElem_cons_succ, List.getElem_cons_zero, Act.put, List.setIfInBounds_toArray, List.set_cons_zero, List.set_cons_succ])
            refine wpAnyH_take (i := 8) (v := ?_) rfl (by kernel_rfl) (by kernel_rfl) (by kernel_rfl) (fun _ _ _ h => h) (Or.inl ⟨by kernel_rfl, ?_⟩) (by first | assumption | trivial) ?_
            rotate_left
            · (intro wS hSw; (try dsimp only at hSw); go_simp; try with_reducible rfl)
            (try simp only [List.append_eq, List.cons_append, List.nil_append, List.getElem_toArray, List.getElem_cons_succ, List.getElem_cons_zero, Act.put, List.setIfInBounds_toArray, List.set_cons_zero, List.set_cons_succ])
            refine wpAnyH_take (i := 9) (v := ?_) rfl (by kernel_rfl) (by kernel_rfl) (by kernel_rfl) (fun _ _ _ h => h) (Or.inl ⟨by kernel_rfl, ?_⟩) (by first | assumption | trivial) ?_
            rotate_left
            · (intro wS hSw; (try dsimp only at hSw); go_simp; try with_reducible rfl)
            (try simp only [List.append_eq, List.cons_append, List.nil_append, List.getElem_toArray, List.getElem_cons_succ, List.getElem_cons_zero, Act.put, List.setIfInBounds_toArray, List.set_cons_zero, List.set_cons_succ])
            refine wpAnyH_take (i := 10) (v := ?_) rfl (by kernel_rfl) (by kernel_rfl) (by kernel_rfl) (fun _ _ _ h => h) (Or.inl ⟨by kernel_rfl, ?_⟩) (by first | assumption | trivial) ?_
            rotate_left
            · (intro wS hSw; (try dsimp only at hSw); go_simp; try with_reducible rfl)
            (try simp only [List.append_eq, List.cons_append, List.nil_append, List.getElem_toArray, List.getElem_cons_succ, List.getElem_cons_zero, Act.put, List.setIfInBounds_toArray, List.set_cons_zero, List.set_cons_succ])
            refine wpAnyH_ready (rs := [11]) (by kernel_rfl) (by simp) ?_
            refine AllReadyH.cons rfl (fun K hK => ?_) AllReadyH.nil
            go_simp
            (go_at_call 13; refine (HAL.out _).mono ?_; rintro e w7 ⟨rfl, b7⟩; have hS7 : (w7.cell? ⟨b2, off2 + k2, none⟩ = some (.string (str x)) ∧ w7.cell? ⟨b, off + j * 4, none⟩ = some (.string (str f.nm))) ∧ Hid (Below wq.heap.size wq w7) := ⟨⟨cells_keep b7 hHeld.1.1, cells_keep b7 hHeld.1.2⟩, hid (past hHeld.2.out b7)⟩; clear b7 hHeld)
            go_wp2_with fail
            refine hK.out _ _ (by first | assumption | trivial) (fun hHeld => ?_)
            clear hK K
            (try simp only [List.append_eq, List.cons_append, List.nil_append, List.getElem_toArray, List.getElem_cons_succ, List.getElem_cons_zero, Act.put, List.setIfInBounds_toArray, List.set_cons_zero, List.set_cons_succ])
            refine wpAnyH_take (i := 12) (v := ?_) rfl (by kernel_rfl) (by kernel_rfl) (by kernel_rfl) (fun _ _ _ h => h) (Or.inl ⟨by kernel_rfl, ?_⟩) (by first | assumption | trivial) ?_
            rotate_left
            · (intro wS hSw; (try dsimp only at hSw); go_simp; try with_reducible rfl)
            (try simp only [List.append_eq, List.cons_append, List.nil_append, List.getElem_toArray, List.getElem_cons_succ, List.getElem_cons_zero, Act.put, List.setIfInBounds_toArray, List.set_cons_zero, List.set_cons_succ])
            refine wpAnyH_take (i := 13) (v := ?_) rfl (by kernel_rfl) (by kernel_rfl) (by kernel_rfl) (fun _ _ _ h => h) (Or.inl ⟨by kernel_rfl, ?_⟩) (by first | assumption | trivial) ?_
            rotate_left
            · (intro wS hSw; (try dsimp only at hSw); go_simp; try with_reducible rfl)
            (try simp only [List.append_eq, List.cons_append, List.nil_append, List.getElem_toArray, List.getElem_cons_succ, List.getElem_cons_zero, Act.put, List.setIfInBounds_toArray, List.set_cons_zero, List.set_cons_succ])
            refine wpAnyH_done (by kernel_rfl) ?_ _
            refine NoPanic.normal ?_
            have HB3 := hid (past HB2'.out hHeld.2.out)
            clear hHeld hS7 hS p0 p1
            go_wp2_with fail
            go_roundw
            case rel => exact ⟨k2 + 1, u, by omega, rfl, by go_num, HQ2, HB3⟩
            case measure => simp [intOf]; omega
        · have d2 : decide ((k2 : Int) < (n2 : Int)) = false := by simp; omega
          have d2' : decide (k2 < n2) = false := by simpa using hlt2
          have hqt : q = t := by
            have := HQ.out
            rw [List.drop_of_length_le (by rw [HN2.out]; omega)] at this
            simpa [oneOf] using this
          subst hqt
          have HB4 := hid (past HB1.out HB2.out)
          have p1 := (HC.out _ HB4.out).2.1
          have p2 := (HC.out _ HB4.out).2.2
          clear HQ HT
          cases no with
          | false =>
            cases q with
            | false =>
              have HF : Hid (PkI l ns false (j + 1) m out) := hid ⟨by rw [← HI.out.eq, HST.out, if_neg (by decide), List.nil_append], HI.out.len, Nat.le_trans hml (Nat.mul_le_mul_right _ (Nat.le_succ j))⟩
              clear HST HI
              go_wp2_with fail
              go_roundw
              case rel => exact ⟨j + 1, m, out, by omega, rfl, by go_num, HF, HB4⟩
              case measure => simp [intOf]; omega
            | true =>
              have HF : Hid (PkI l ns false (j + 1) (m + (f.te - f.fr)) (out ++ lineL l (f.fr, f.te))) := hid ⟨by rw [← HI.out.eq, HST.out, if_pos (by decide), List.append_assoc], by rw [List.length_append, HI.out.len, HLL.out], by omega⟩
              clear HST HI
              go_upto_region 12 with fail
              go_quiet (fail)
              have HB5 := hid (bq HB4.out 1)
              go_wp2_with fail
              go_roundw
              case rel => exact ⟨j + 1, m + (f.te - f.fr), out ++ lineL l (f.fr, f.te), by omega, rfl, by go_num, HF, hid (bq HB4.out _)⟩
              case measure => simp [intOf]; omega
          | true =>
            cases q with
            | false =>
              have HF : Hid (PkI l ns true (j + 1) (m + (f.te - f.fr)) (out ++ lineL l (f.fr, f.te))) := hid ⟨by rw [← HI.out.eq, HST.out, if_pos (by decide), List.append_assoc], by rw [List.length_append, HI.out.len, HLL.out], by omega⟩
              clear HST HI
              go_upto_region 12 with fail
              go_quiet (fail)
              have HB5 := hid (bq HB4.out 1)
              go_wp2_with fail
              go_roundw
              case rel => exact ⟨j + 1, m + (f.te - f.fr), out ++ lineL l (f.fr, f.te), by omega, rfl, by go_num, HF, hid (bq HB4.out _)⟩
              case measure => simp [intOf]; omega
            | true =>
              have HF : Hid (PkI l ns true (j + 1) m out) := hid ⟨by rw [← HI.out.eq, HST.out, if_neg (by decide), List.nil_append], HI.out.len, Nat.le_trans hml (Nat.mul_le_mul_right _ (Nat.le_succ j))⟩
              clear HST HI
              go_wp2_with fail
              go_roundw
              case rel => exact ⟨j + 1, m, out, by omega, rfl, by go_num, HF, HB4⟩
              case measure => simp [intOf]; omega
    · have d1 : decide ((j : Int) < (k : Int)) = false := by simp; omega
      have d1' : decide (j < k) = false := by simpa using hlt
      have HF : Hid (pickL l ns no = out ++ endR (cutL l)) := hid (by unfold pickL; rw [← HI.out.eq, List.drop_of_length_le (by rw [HK.out]; omega)]; unfold pickF; simp)
      have hml := HI.out.le
      have hml2 := HI.out.len
      have hjk : j = k := by omega
      have hol : out.length ≤ 10000000000 := by
        have h3 : j * 100000 ≤ 100000 * 100000 := Nat.mul_le_mul_right _ (by omega)
        omega
      have HCU := hid (rcut_any l wo HHL.out)
      clear HI hml hml2
      subst hjk
      go_wp2_with (go_at_call 32; refine HCU.out.mono ?_; rintro e w1 ⟨A, m1, d, rfl, hm, hmd, ho, hb⟩; have HOL := hid ho; have HB := hid hb; clear ho hb)
      have HM := hid hm
      have hml : m1 ≤ 100000 := by have h1 := cutL_len l; have h2 := HHL.out; omega
      clear hm HCU
      go_loopw [13] (fun v13 wr => ∃ (k3 : Nat), k3 ≤ m1 ∧ v13 = .int .i64 (k3 : Int) ∧ Hid (endR ((cutL l).drop k3) = endR (cutL l)) ∧ Hid (Below w1.heap.size w1 wr)) (fun v13 wr => m1 - (intOf v13).toNat)
      case atStart => exact ⟨0, Nat.zero_le _, rfl, hid (by rw [List.drop_zero]), hid (Below.refl _ _)⟩
      case round =>
        obtain ⟨k3, hk3, rfl, HE, HB3⟩ := hrel
        have HBF := hid (past B5.out (past HB1.out (past HB.out HB3.out)))
        by_cases hlt3 : k3 < m1
        · have d3 : decide ((k3 : Int) < (m1 : Int)) = true := by simp; omega
          have d3' : decide (k3 < m1) = true := by simpa using hlt3
          have e0 : (0 : Int) ≤ (k3 : Int) := by omega
          have e1 : (k3 : Int) < (m1 : Int) := by omega
          have e3 : (k3 : Int).toNat = k3 := by omega
          have hkl : k3 < (cutL l).length := by rw [HM.out]; exact hlt3
          obtain ⟨x, hx⟩ : ∃ x, (cutL l)[k3]'hkl = x := ⟨_, rfl⟩
          obtain ⟨g, rfl, hc⟩ := text_at HOL.out HB3.out k3 hkl HM.out
          rw [hx] at hc
          have hst := endR_step (cutL l) k3 hkl x hx
          rw [HE.out] at hst
          have HEM := hid (fun X => rempty_any x X)
          obtain ⟨t, ht⟩ : ∃ t, emptyB x = t := ⟨_, rfl⟩
          rw [ht] at HEM hst
          have HST := hid hst
          have hxl : x.length ≤ 100000 := Nat.le_trans (cutL_piece l x (hx ▸ List.getElem_mem hkl)) HHL.out
          clear hx hkl ht hst HE
          cases t with
          | true =>
            have HFF : Hid (pickL l ns no = out ++ x) := hid (by rw [HF.out, HST.out, if_pos rfl])
            have hz : str out ++ str x = str (out ++ x) := str_append _ _
            have hno : ¬ 9223372036854775807 < (str out).size + (str x).size := by
              have h1 : (str out).size = out.length := rfl
              have h2 : (str x).size = x.length := rfl
              omega
            clear HST HF
            go_wp2_with (go_at_call 19; refine (HEM.out _).mono ?_; rintro e w3 ⟨rfl, rfl⟩)
            go_ret
            exact ⟨by rw [HFF.out]; rfl, HBF.out⟩
          | false =>
            have HFF : Hid (endR ((cutL l).drop (k3 + 1)) = endR (cutL l)) := hid (by rw [HST.out, if_neg (by decide)])
            clear HST
            go_wp2_with (go_at_call 19; refine (HEM.out _).mono ?_; rintro e w3 ⟨rfl, rfl⟩)
            go_roundw
            case rel => exact ⟨k3 + 1, by omega, by go_num, HFF, HB3⟩
            case measure => simp [intOf]; omega
        · have d3 : decide ((k3 : Int) < (m1 : Int)) = false := by simp; omega
          have d3' : decide (k3 < m1) = false := by simpa using hlt3
          have HFF : Hid (pickL l ns no = out ++ [13, 10]) := hid (by rw [HF.out, ← HE.out, List.drop_of_length_le (by rw [HM.out]; omega)]; rfl)
          have hz : str out ++ (⟨#[13, 10]⟩ : ByteArray) = str (out ++ [13, 10]) := str_append out [13, 10]
          have hno : ¬ 9223372036854775807 < (str out).size + 2 := by
            have h1 : (str out).size = out.length := rfl
            omega
          clear HE HF
          go_wp2_with fail
          go_ret
          exact ⟨by rw [HFF.out]; rfl, HBF.out⟩
end Go.Proofs.YthlofpofcpconaaDoor
