/-
  The day that a letter tells: the document's walk. A part of the proof: see the head of the text that ends in 'Law'.
-/
import Derived.Test.YtkjlkkaoaiphcaaDoorDa17
namespace Go.Proofs.YtkjlkkaoaiphcaaDoor
open Go.RowKit Go.Shelf
set_option linter.unusedVariables false
set_option linter.unusedSimpArgs false
attribute [local go_sem] Oper.semAt_some

/-- The words ahead of a place, the one that goes on with them. -/
def opF (l : List UInt8) (k : Nat) : List (List UInt8) := (stF l k).1 ++ (match (stF l k).2 with | some s => [cutL l s k] | none => [])
def inF (l : List UInt8) (k : Nat) : Bool := (stF l k).2.isSome
theorem opF_blank {l : List UInt8} {k : Nat} (hb : blankB (l.getD k 0) = true) : opF l (k + 1) = opF l k ∧ inF l (k + 1) = false := by
  unfold opF inF
  obtain ⟨ws, c, h⟩ : ∃ ws c, stF l k = (ws, c) := ⟨_, _, rfl⟩
  cases c with
  | none => rw [stF_none h hb, h]; exact ⟨rfl, rfl⟩
  | some s => rw [stF_end h hb, h]; simp
theorem cutL_one {l : List UInt8} {s k : Nat} (hs : s ≤ k) (hk : k < l.length) : cutL l s (k + 1) = cutL l s k ++ [l[k]] := by
  unfold cutL
  rw [show k + 1 - s = (k - s) + 1 by omega, List.take_succ_eq_append_getElem (by rw [List.length_drop]; omega), List.getElem_drop]
  congr 3
  simp only [show s + (k - s) = k by omega]
theorem opF_new {l : List UInt8} {k : Nat} (hb : blankB (l.getD k 0) = false) (hi : inF l k = false) (hk : k < l.length) : opF l (k + 1) = opF l k ++ [[l[k]]] ∧ inF l (k + 1) = true := by
  unfold opF inF at *
  obtain ⟨ws, c, h⟩ : ∃ ws c, stF l k = (ws, c) := ⟨_, _, rfl⟩
  rw [h] at hi
  cases c with
  | some s => simp at hi
  | none =>
    rw [stF_on h hb, h]
    simp only [Option.getD_none, List.append_nil, Option.isSome_some, and_true]
    rw [cutL_one (Nat.le_refl k) hk]
    unfold cutL
    simp
theorem opF_on {l : List UInt8} {k : Nat} (hb : blankB (l.getD k 0) = false) (hi : inF l k = true) (hk : k < l.length) : inF l (k + 1) = true ∧ ∃ a y, opF l k = a ++ [y] ∧ opF l (k + 1) = a ++ [y ++ [l[k]]] ∧ y.length ≤ k := by
  unfold opF inF at *
  obtain ⟨ws, c, h⟩ : ∃ ws c, stF l k = (ws, c) := ⟨_, _, rfl⟩
  rw [h] at hi
  cases c with
  | none => simp at hi
  | some s =>
    have hs := stF_lt l k s (by rw [h])
    rw [stF_on h hb, h]
    refine ⟨rfl, ws, cutL l s k, rfl, ?_, ?_⟩
    · simp only [Option.getD_some]
      rw [cutL_one (by omega) hk]
    · unfold cutL
      rw [List.length_take]
      omega
theorem opF_end (l : List UInt8) : opF l l.length = wordsL l := by
  unfold opF wordsL
  cases h : (stF l l.length).2 with
  | none => rfl
  | some s =>
    have hs := stF_lt l l.length s h
    simp only
    unfold cutL
    rw [List.take_of_length_le (by rw [List.length_drop]; omega)]
theorem opF_len (l : List UInt8) (k : Nat) : (opF l k).length ≤ k + 1 := by
  have := stF_len l k
  unfold opF
  rw [List.length_append]
  split <;> simp <;> omega
theorem set_last (a : List (List UInt8)) (y z : List UInt8) : ((a ++ [y]).map SV).set a.length (SV z) = (a ++ [z]).map SV := by simp
theorem trimC_last {x : List UInt8} {p : Nat} (h : x.length = p + 1) : trimC x = if x[p] = 44 then x.take p else x := by
  have e : x = x.take p ++ [x[p]] := by
    have := List.take_succ_eq_append_getElem (l := x) (i := p) (by omega)
    rw [← this, List.take_of_length_le (by omega)]
  unfold trimC Lib.trimSuffix Lib.hasSuffix
  have h2 : List.isSuffixOf [44] x = decide (x[p] = 44) := by
    rw [Bool.eq_iff_iff, List.isSuffixOf_iff_suffix, decide_eq_true_eq]
    constructor
    · rintro ⟨t, ht⟩
      have h3 : t.length = p := by have := congrArg List.length ht; simp at this; omega
      have h4 : x[p] = (t ++ [44])[p]'(by simp; omega) := by simp only [ht]
      rw [h4, List.getElem_append_right (by omega)]
      simp [h3]
    · intro h3
      rw [h3] at e
      exact ⟨x.take p, e.symm⟩
  rw [h2]
  by_cases h5 : x[p] = 44
  · rw [if_pos (by simpa using h5), if_pos h5, h]; rfl
  · rw [if_neg (by simpa using h5), if_neg h5]
/-- The words, the first ones without their commas. -/
def trK (l : List UInt8) (k : Nat) : List (List UInt8) := ((wordsL l).take k).map trimC ++ (wordsL l).drop k
theorem trK_zero (l : List UInt8) : trK l 0 = wordsL l := by unfold trK; simp
theorem trK_end (l : List UInt8) : trK l (wordsL l).length = mwords l := by unfold trK mwords; simp
theorem trK_len (l : List UInt8) (k : Nat) : (trK l k).length = (wordsL l).length := by unfold trK; simp; omega
theorem trK_step {l : List UInt8} {k : Nat} (hk : k < (wordsL l).length) : (trK l k)[k]? = some ((wordsL l)[k]) ∧ (trK l k).set k (trimC ((wordsL l)[k])) = trK l (k + 1) := by
  have h1 : (((wordsL l).take k).map trimC).length = k := by simp; omega
  have h2 : (wordsL l).drop k = (wordsL l)[k] :: (wordsL l).drop (k + 1) := List.drop_eq_getElem_cons hk
  unfold trK
  rw [h2]
  constructor
  · rw [List.getElem?_append_right (by omega), h1, Nat.sub_self]; rfl
  · rw [List.set_append_right _ _ (by omega), h1, Nat.sub_self, List.set_cons_zero, List.take_succ_eq_append_getElem hk, List.map_append, List.append_assoc]
    rfl
theorem day_cut (i : Nat) (h : i < 7) : (⟨#[77, 111, 110, 84, 117, 101, 87, 101, 100, 84, 104, 117, 70, 114, 105, 83, 97, 116, 83, 117, 110]⟩ : ByteArray).extract (3 * i) (3 * i + 3) = str (DayL i) := by
  obtain rfl | rfl | rfl | rfl | rfl | rfl | rfl : i = 0 ∨ i = 1 ∨ i = 2 ∨ i = 3 ∨ i = 4 ∨ i = 5 ∨ i = 6 := by omega
  all_goals rfl
theorem day_alike {l : List UInt8} {i : Nat} (h : i < 7) : alikeL l (DayL i) = decide (l.map smallU = dayL i) := by
  unfold alikeL
  rw [day_small h, Bool.eq_iff_iff, beq_iff_eq, decide_eq_true_eq]
theorem row_tl {w : World} {g : Nat} {v : Value} {vs : List Value} (h : Row w (some ⟨g, 0, none⟩) (v :: vs)) : Row w (some ⟨g, 1, none⟩) vs := fun hx => by
  obtain ⟨b, off, e, hc⟩ := h (by simp)
  injection e with e
  injection e with e1 e2
  subst e1
  subst e2
  refine ⟨g, 1, rfl, fun j v hv => ?_⟩
  have := hc (j + 1) v (by simpa using hv)
  rw [show 1 + j = 0 + (j + 1) by omega]
  exact this
theorem row_at {w : World} {base n d : Nat} {A : Option Addr} {e : TypeId} {q : List (List UInt8)} (h : w.ownsRow base e 1 (.slice A n d) n (q.map SV)) : n = q.length := by
  have := h.1
  rw [List.length_map] at this
  omega
set_option maxRecDepth 100000 in
set_option maxHeartbeats 8000000 in
theorem rmail_any (l : List UInt8) (w : World) (hl : l.length ≤ 100000) :
    Calls Tryd.prog 24 #[.string (str l)] w fun e w' => e = .returned (.tuple #[.int .i64 (mailF l).1, .int .i64 ((mailF l).2 : Int)]) ∧ Below w.heap.size w w' := by
  have hsz : (str l).size ≤ 100000 := hl
  have HL : Hid ((str l).size = l.length) := hid rfl
  have HLL := hid hl
  clear hl
  go_enter Tryd.func24, Tryd.ntmps24
  go_upto_block 0 with fail
  go_cut [4, 5, 6] from 10 to 43 (fun p b i wr => ∃ (n : Nat) (A : Option Addr) (d : Nat) (bb : Bool) (j : Int), b = .bool bb ∧ i = .int .i64 j ∧ p = .slice A n d ∧ Hid (n = (wordsL l).length ∧ wr.ownsRow w.heap.size 9 1 (.slice A n d) n ((wordsL l).map SV) ∧ Below w.heap.size w wr))
  case first =>
    go_wp2_with fail
    go_loopw [4, 5, 6] (fun p b i wr => ∃ (k n : Nat) (A : Option Addr) (d : Nat) (bb : Bool), k ≤ (str l).size ∧ b = .bool bb ∧ i = .int .i64 k ∧ p = .slice A n d ∧ Hid (bb = inF l k ∧ n = (opF l k).length ∧ wr.ownsRow w.heap.size 9 1 (.slice A n d) n ((opF l k).map SV) ∧ Below w.heap.size w wr)) (fun p b i wr => (str l).size - (intOf i).toNat)
    case atStart => exact ⟨0, 0, none, 0, false, by omega, rfl, rfl, rfl, hid ⟨rfl, rfl, World.ownsRow_nil _ _ _ _, Below.refl _ _⟩⟩
    case round =>
      obtain ⟨k, n, A, d, bb, hk, rfl, rfl, rfl, hI⟩ := hrel
      have hn1 : n ≤ k + 1 := by
        rw [hI.out.2.1]
        exact opF_len l k
      by_cases hlt : k < (str l).size
      · have hd : decide (k < (str l).size) = true := by simpa using hlt
        have hll : k < l.length := by rwa [HL.out] at hlt
        obtain ⟨x, hx⟩ : ∃ x, ((str l)[k]'hlt) = x := ⟨_, rfl⟩
        have hgx : Hid (l[k] = x) := hid hx
        have hgd : Hid (l.getD k 0 = x) := hid (by rw [List.getD_eq_getElem?_getD, List.getElem?_eq_getElem hll, Option.getD_some, hgx.out])
        have hxl := x.toNat_lt
        have hw2 : IntKind.i64.wrap ((k : Int) + 1) = (k : Int) + 1 := by rw [IntKind.wrap_i64]; omega
        have hex : (str l).extract k (k + 1) = str [x] := by
          rw [str_extract, Nat.add_sub_cancel_left, List.drop_eq_getElem_cons hll, hgx.out]
          rfl
        have hw3 : ((k : Int) + 1).toNat = k + 1 := by omega
        have hk0 : (0 : Int) ≤ (k : Int) := by omega
        have hk1 : (k : Int) + 1 ≤ ((str l).size : Int) := by omega
        have hk2 : (k : Int) ≤ (k : Int) + 1 := by omega
        have hx1 : (str [x]).size = 1 := rfl
        go_upto_region 6 with fail
        go_cut [25] from 16 to 25 (fun q wx => ∃ bl : Bool, q = .bool bl ∧ wx = wr ∧ Hid (bl = blankB x))
        case first =>
          have HX := hid hx
          by_cases h32 : x.toNat = 32
          · have p3 : ((((str l)[k]'hlt).toNat : Int) = 32) := by rw [hx]; omega
            have HE := hid (show blankB x = true by unfold blankB; exact decide_eq_true (Or.inl h32))
            clear h32 hx
            go_wp2
            go_meet
            exact ⟨_, rfl, rfl, hid HE.out.symm⟩
          · have p3 : ¬ ((((str l)[k]'hlt).toNat : Int) = 32) := by rw [hx]; omega
            have HE := hid (show blankB x = decide (x.toNat = 9) by unfold blankB; rw [Bool.eq_iff_iff, decide_eq_true_eq, decide_eq_true_eq]; omega)
            have H3 := hid h32
            clear h32 hx
            go_wp2
            go_meet
            refine ⟨_, rfl, rfl, hid ?_⟩
            rw [HE.out, HX.out]
            have := H3.out
            rw [Bool.eq_iff_iff]
            simp
            omega
        case rest =>
        obtain ⟨bl, rfl, hwr, hbl⟩ := hcut
        subst hwr
        cases bl with
        | true =>
          have hb := hid (opF_blank (l := l) (k := k) (by rw [hgd.out]; exact hbl.out.symm))
          go_wp2
          go_roundw
          case rel => exact ⟨k + 1, n, A, d, false, by omega, rfl, by go_num, rfl, hid ⟨hb.out.2.symm, by rw [hb.out.1]; exact hI.out.2.1, by rw [hb.out.1]; exact hI.out.2.2.1, hI.out.2.2.2⟩⟩
          case measure => simp [intOf]; omega
        | false =>
          have hbf := hid (show blankB (l.getD k 0) = false by rw [hgd.out]; exact hbl.out.symm)
          go_upto_if 27 with fail
          go_cut [4] from 28 to 30 (fun p wx => ∃ (m : Nat) (A : Option Addr) (d : Nat), 1 ≤ m ∧ m ≤ k + 2 ∧ p = .slice A m d ∧ Hid (∃ a y, m = a.length + 1 ∧ wx.ownsRow w.heap.size 9 1 (.slice A m d) m ((a ++ [y]).map SV) ∧ opF l (k + 1) = a ++ [y ++ [x]] ∧ y.length ≤ k ∧ inF l (k + 1) = true ∧ Below w.heap.size w wx))
          case first =>
            cases bb with
            | true =>
              obtain ⟨hin, a, y, hq, hq2, hy⟩ := opF_on hbf.out hI.out.1.symm hll
              rw [hgx.out] at hq2
              have hn : n = a.length + 1 := by rw [hI.out.2.1, hq]; simp
              have hrow := hI.out.2.2.1
              rw [hq] at hrow
              have HFIN := hid (show ∃ a y, n = a.length + 1 ∧ wc.ownsRow w.heap.size 9 1 (.slice A n d) n ((a ++ [y]).map SV) ∧ opF l (k + 1) = a ++ [y ++ [x]] ∧ y.length ≤ k ∧ inF l (k + 1) = true ∧ Below w.heap.size w wc from ⟨a, y, hn, hrow, hq2, hy, hin, hI.out.2.2.2⟩)
              have hn1' : 1 ≤ n := by omega
              clear hq hq2 hy hin hrow hn
              go_wp2
              go_meet
              exact ⟨n, A, d, hn1', by omega, rfl, HFIN⟩
            | false =>
              obtain ⟨hq2, hin⟩ := opF_new hbf.out hI.out.1.symm hll
              rw [hgx.out] at hq2
              have HQ := hid hq2
              have HIN := hid hin
              clear hq2 hin
              go_wp2_with (
                at_builtin
                refine wpList_append_row _ rfl (.tmp 28) (.tmp 29) strT rfl w.heap.size (.slice A n d) n ((opF l k).map SV) rfl (own_alloc hI.out.2.2.1 _) (some ⟨wc.heap.size, 0, none⟩) 1 1 [.string ⟨#[]⟩] rfl rfl (row_box _ _ (by simp)) (by simp [Value.oneCell']) (by simp only [maxLen]; omega) (by omega) (by have := hI.out.2.2.2.size; simp; omega) ?_
                intro A3 c3 w3 hown3 hgr3 hat3
                have B3 := hid ((hI.out.2.2.2.alloc (by have := hI.out.2.2.2.size; simp; omega) (Obj.cells #[.string ⟨#[]⟩] 9)).grown hgr3 (by have := hI.out.2.2.2.size; simp; omega) (own_base hI.out.2.2.1))
                have P3 := hid hown3
                clear hown3 hgr3 hat3)
              go_meet
              refine ⟨n + 1, A3, c3, by omega, by omega, rfl, hid ⟨opF l k, [], by rw [hI.out.2.1], ?_, HQ.out, Nat.zero_le _, HIN.out, B3.out⟩⟩
              rw [List.map_append]
              exact P3.out
          case rest =>
          obtain ⟨m, A, d, hm1, hm2, rfl, hM⟩ := hcut
          obtain ⟨a, y, hm, hrow, hq2, hy, hin, hbel⟩ := hM.out
          obtain ⟨g, rfl, hg, og⟩ := own_row hrow hm1
          have hm1a : m - 1 = a.length := by omega
          have x0 : wc.cell? ⟨g, m - 1, none⟩ = some (.string (str y)) := og.cell (by rw [hm1a, List.getElem?_map, List.getElem?_append_right (Nat.le_refl _), Nat.sub_self]; rfl)
          have x1 := og.frozen (m - 1)
          have hyl : (str y).size ≤ 100000 := by rw [str_size]; omega
          have hno : ¬ 9223372036854775807 < (str y).size + 1 := by omega
          have hap : str y ++ str [x] = str (y ++ [x]) := str_append y [x]
          have hi0 : (0 : Int) ≤ (m : Int) - 1 := by omega
          have hi2 : (1 : Int) ≤ (m : Int) := by omega
          have hi3 : (m : Int) - 1 < m := by omega
          have hi1 : ((m : Int) - 1).toNat = m - 1 := by omega
          have hw1 : IntKind.i64.wrap ((m : Int) - 1) = (m : Int) - 1 := by rw [IntKind.wrap_i64]; omega
          have HST := hid (show wc.setCell ⟨g, m - 1, none⟩ (SV (y ++ [x])) |>.ownsRow w.heap.size 9 1 (.slice (some ⟨g, 0, none⟩) m d) m ((opF l (k + 1)).map SV) by
            have := (hrow.stored (m - 1) (SV (y ++ [x]))).1
            rw [hm1a, set_last, ← hq2, ← hm1a] at this
            exact this)
          have HLN := hid (show m = (opF l (k + 1)).length by rw [hq2]; simp; omega)
          have HIN := hid hin
          have HBE := hid (hbel.setCell (p := ⟨g, m - 1, none⟩) hg (SV (y ++ [x])))
          clear og hI hM hm hrow hq2 hy hin hbel hg hm1a hbf
          go_upto_region 11 with fail
          refine wp_region_noPanic ?_
          refine wp_region_held_drew (S := (fun W => True)) (by kernel_rfl) (by first | assumption | trivial) (fun hHeld => ?_)
          refine wpAnyH_take (i := 0) (v := ?_) rfl (by kernel_rfl) (by kernel_rfl) (by kernel_rfl) (fun _ _ _ h => h) (Or.inl ⟨by kernel_rfl, ?_⟩) (by first | assumption | trivial) ?_
          rotate_left
          · (intro wS hSw; (try dsimp only at hSw); go_simp; try with_reducible rfl)
          (try simp only [List.append_eq, List.cons_append, List.nil_append, List.getElem_toArray, List.getElem_cons_succ, List.getElem_cons_zero, Act.put, List.setIfInBounds_toArray, List.set_cons_zero, List.set_cons_succ])
          refine wpAnyH_take (i := 1) (v := ?_) rfl (by kernel_rfl) (by kernel_rfl) (by kernel_rfl) (fun _ _ _ h => h) (Or.inl ⟨by kernel_rfl, ?_⟩) (by first | assumption | trivial) ?_
          rotate_left
          · (intro wS hSw; (try dsimp only at hSw); go_simp; try with_reducible rfl)
          (try simp only [List.append_eq, List.cons_append, List.nil_append, List.getElem_toArray, List.getElem_cons_succ, List.getElem_cons_zero, Act.put, List.setIfInBounds_toArray, List.set_cons_zero, List.set_cons_succ])
          refine wpAnyH_take (i := 2) (v := ?_) rfl (by kernel_rfl) (by kernel_rfl) (by kernel_rfl) (fun _ _ _ h => h) (Or.inl ⟨by kernel_rfl, ?_⟩) (by first | assumption | trivial) ?_
          rotate_left
          · (intro wS hSw; (try dsimp only at hSw); go_simp; try with_reducible rfl)
          (try simp only [List.append_eq, List.cons_append, List.nil_append, List.getElem_toArray, List.getElem_cons_succ, List.getElem_cons_zero, Act.put, List.setIfInBounds_toArray, List.set_cons_zero, List.set_cons_succ])
          refine wpAnyH_take (i := 3) (v := ?_) rfl (by kernel_rfl) (by kernel_rfl) (by kernel_rfl) (fun _ _ _ h => h) (Or.inl ⟨by kernel_rfl, ?_⟩) (by first | assumption | trivial) ?_
          rotate_left
          · (intro wS hSw; (try dsimp only at hSw); go_simp; try with_reducible rfl)
          (try simp only [List.append_eq, List.cons_append, List.nil_append, List.getElem_toArray, List.getElem_cons_succ, List.getElem_cons_zero, Act.put, List.setIfInBounds_toArray, List.set_cons_zero, List.set_cons_succ])
          refine wpAnyH_take (i := 4) (v := ?_) rfl (by kernel_rfl) (by kernel_rfl) (by kernel_rfl) (fun _ _ _ h => h) (Or.inl ⟨by kernel_rfl, ?_⟩) (by first | assumption | trivial) ?_
          rotate_left
          · (intro wS hSw; (try dsimp only at hSw); go_simp; try with_reducible rfl)
          (try simp only [List.append_eq, List.cons_append, List.nil_append, List.getElem_toArray, List.getElem_cons_succ, List.getElem_cons_zero, Act.put, List.setIfInBounds_toArray, List.set_cons_zero, List.set_cons_succ])
          refine wpAnyH_take (i := 6) (v := ?_) rfl (by kernel_rfl) (by kernel_rfl) (by kernel_rfl) (fun _ _ _ h => h) (Or.inl ⟨by kernel_rfl, ?_⟩) (by first | assumption | trivial) ?_
          rotate_left
          · (intro wS hSw; (try dsimp only at hSw); go_simp; try with_reducible rfl)
          (try simp only [List.append_eq, List.cons_append, List.nil_append, List.getElem_toArray, List.getElem_cons_succ, List.getElem_cons_zero, Act.put, List.setIfInBounds_toArray, List.set_cons_zero, List.set_cons_succ])
          refine wpAnyH_take (i := 7) (v := ?_) rfl (by kernel_rfl) (by kernel_rfl) (by kernel_rfl) (fun _ _ _ h => h) (Or.inl ⟨by kernel_rfl, ?_⟩) (by first | assumption | trivial) ?_
          rotate_left
          · (intro wS hSw; (try dsimp only at hSw); go_simp; try with_reducible rfl)
          (try simp only [List.append_eq, List.cons_append, List.nil_append, List.getElem_toArray, List.getElem_cons_succ, List.getElem_cons_zero, Act.put, List.setIfInBounds_toArray, List.set_cons_zero, List.set_cons_succ])
          refine wpAnyH_take (i := 8) (v := ?_) rfl (by kernel_rfl) (by kernel_rfl) (by kernel_rfl) (fun _ _ _ h => h) (Or.inl ⟨by kernel_rfl, ?_⟩) (by first | assumption | trivial) ?_
          rotate_left
          · (intro wS hSw; (try dsimp only at hSw); go_simp; try with_reducible rfl)
          (try simp only [List.append_eq, List.cons_append, List.nil_append, List.getElem_toArray, List.getElem_cons_succ, List.getElem_cons_zero, Act.put, List.setIfInBounds_toArray, List.set_cons_zero, List.set_cons_succ])
          refine wpAnyH_take (i := 9) (v := ?_) rfl (by kernel_rfl) (by kernel_rfl) (by kernel_rfl) (fun _ _ _ h => h) (Or.inl ⟨by kernel_rfl, ?_⟩) (by first | assumption | trivial) ?_
          rotate_left
          · (intro wS hSw; (try dsimp only at hSw); go_simp; try with_reducible rfl)
          (try simp only [List.append_eq, List.cons_append, List.nil_append, List.getElem_toArray, List.getElem_cons_succ, List.getElem_cons_zero, Act.put, List.setIfInBounds_toArray, List.set_cons_zero, List.set_cons_succ])
          refine wpAnyH_take (i := 10) (v := ?_) rfl (by kernel_rfl) (by kernel_rfl) (by kernel_rfl) (fun _ _ _ h => h) (Or.inl ⟨by kernel_rfl, ?_⟩) (by first | assumption | trivial) ?_
          rotate_left
          · (intro wS hSw; (try dsimp only at hSw); go_simp; try with_reducible rfl)
          (try simp only [List.append_eq, List.cons_append, List.nil_append, List.getElem_toArray, List.getElem_cons_succ, List.getElem_cons_zero, Act.put, List.setIfInBounds_toArray, List.set_cons_zero, List.set_cons_succ])
          refine wpAnyH_ready (rs := [5]) (by kernel_rfl) (by simp) ?_
          refine AllReadyH.cons rfl (fun K hK => ?_) AllReadyH.nil
          go_simp
          skip
          go_wp2_with fail
          refine hK.out _ _ (by first | assumption | trivial) (fun hHeld => ?_)
          clear hK K
          (try simp only [List.append_eq, List.cons_append, List.nil_append, List.getElem_toArray, List.getElem_cons_succ, List.getElem_cons_zero, Act.put, List.setIfInBounds_toArray, List.set_cons_zero, List.set_cons_succ])
          refine wpAnyH_take (i := 11) (v := ?_) rfl (by kernel_rfl) (by kernel_rfl) (by kernel_rfl) (fun _ _ _ h => h) (Or.inl ⟨by kernel_rfl, ?_⟩) (by first | assumption | trivial) ?_
          rotate_left
          · (intro wS hSw; (try dsimp only at hSw); go_simp; try with_reducible rfl)
          (try simp only [List.append_eq, List.cons_append, List.nil_append, List.getElem_toArray, List.getElem_cons_succ, List.getElem_cons_zero, Act.put, List.setIfInBounds_toArray, List.set_cons_zero, List.set_cons_succ])
          refine wpAnyH_take (i := 12) (v := ?_) rfl (by kernel_rfl) (by kernel_rfl) (by kernel_rfl) (fun _ _ _ h => h) (Or.inl ⟨by kernel_rfl, ?_⟩) (by first | assumption | trivial) ?_
          rotate_left
          · (intro wS hSw; (try dsimp only at hSw); go_simp; try with_reducible rfl)
          (try simp only [List.append_eq, List.cons_append, List.nil_append, List.getElem_toArray, List.getElem_cons_succ, List.getElem_cons_zero, Act.put, List.setIfInBounds_toArray, List.set_cons_zero, List.set_cons_succ])
          refine wpAnyH_ready (rs := [13]) (by kernel_rfl) (by simp) ?_
          refine AllReadyH.cons rfl (fun K hK => ?_) AllReadyH.nil
          go_simp
          skip
          go_wp2_with fail
          refine hK.out _ _ (by first | assumption | trivial) (fun hHeld => ?_)
          clear hK K
          (try simp only [List.append_eq, List.cons_append, List.nil_append, List.getElem_toArray, List.getElem_cons_succ, List.getElem_cons_zero, Act.put, List.setIfInBounds_toArray, List.set_cons_zero, List.set_cons_succ])
          refine wpAnyH_done (by kernel_rfl) ?_ _
          refine NoPanic.normal ?_
          clear hw1 hw2 hw3
          go_wp2
          go_roundw
          case rel =>
            exact ⟨k + 1, m, some ⟨g, 0, none⟩, d, true, by omega, rfl, by go_num, rfl, hid ⟨HIN.out.symm, HLN.out, HST.out, bq HBE.out 1⟩⟩
          case measure => simp [intOf]; omega
      · have hd : decide (k < (str l).size) = false := by simpa using hlt
        have hkl : k = l.length := by rw [← HL.out]; omega
        have h1 := hI.out
        rw [hkl, opF_end] at h1
        have H1 := hid h1
        clear h1 hkl
        go_wp2
        go_meet
        exact ⟨n, A, d, bb, k, rfl, rfl, rfl, hid H1.out.2⟩
  case rest =>
  obtain ⟨n, A, d, bb, j, rfl, rfl, rfl, HW⟩ := hcut
  have hn : n ≤ 100001 := by
    have := words_len l
    rw [HW.out.1]
    have := HLL.out
    omega
  go_upto_block 2 with fail
  go_cut [7, 8] from 44 to 72 (fun i q wr => ∃ j : Int, i = .int .i64 j ∧ Hid (wr.ownsRow w.heap.size 9 1 (.slice A n d) n ((mwords l).map SV) ∧ Below w.heap.size w wr))
  case first =>
    go_wp2_with fail
    go_loopw [7, 8] (fun i q wr => ∃ k : Nat, k ≤ n ∧ i = .int .i64 (k : Int) ∧ Hid (wr.ownsRow w.heap.size 9 1 (.slice A n d) n ((trK l k).map SV) ∧ Below w.heap.size w wr)) (fun i q wr => n - (intOf i).toNat)
    case atStart => exact ⟨0, by omega, rfl, hid ⟨by rw [trK_zero]; exact HW.out.2.1, HW.out.2.2⟩⟩
    case round =>
      obtain ⟨k, hk, rfl, hI⟩ := hrel
      by_cases hlt : k < n
      · have hd : decide (k < n) = true := by simpa using hlt
        have hd' : decide ((k : Int) < (n : Int)) = true := by simp; omega
        have hkw : k < (wordsL l).length := by rw [← HW.out.1]; exact hlt
        obtain ⟨y, hy⟩ : ∃ y, (wordsL l)[k] = y := ⟨_, rfl⟩
        obtain ⟨t1, t2⟩ := trK_step hkw
        rw [hy] at t1 t2
        have hyw := words_all l y (by rw [← hy]; exact List.getElem_mem _)
        obtain ⟨p, hp⟩ : ∃ p, y.length = p + 1 := ⟨y.length - 1, by have : y.length ≠ 0 := fun e => hyw.2 (List.eq_nil_of_length_eq_zero e); omega⟩
        have hpl : p + 1 ≤ 100000 := by have := hyw.1; have := HLL.out; omega
        have hsy : (str y).size = p + 1 := hp
        have hlp : p < (str y).size := by omega
        have hrow := hI.out.1
        have hbel := hI.out.2
        obtain ⟨g, rfl, hg, og⟩ := own_row hrow (by omega)
        have x0 : wr.cell? ⟨g, k, none⟩ = some (.string (str y)) := og.cell (by rw [List.getElem?_map, t1]; rfl)
        have x1 := og.frozen k
        have hT := trimC_last hp
        have hgp : (str y)[p]'hlp = y[p]'(by omega) := rfl
        have hi0 : (0 : Int) ≤ (k : Int) := by omega
        have hi3 : (k : Int) < (n : Int) := by omega
        have hip : (p : Int) < (p : Int) + 1 := by omega
        have hip2 : p < p + 1 := by omega
        have hkt : (k : Int).toNat = k := by omega
        have hpt : (p : Int).toNat = p := by omega
        have hex : (str y).extract 0 p = str (y.take p) := by rw [str_extract]; simp
        have hp1 : (p : Int) ≤ (p : Int) + 1 := by omega
        have hw2 : IntKind.i64.wrap ((k : Int) + 1) = (k : Int) + 1 := by rw [IntKind.wrap_i64]; omega
        have HROW := hid hrow
        have HBEL := hid hbel
        have HG := hid hg
        by_cases h44 : y[p]'(by omega) = 44
        · have p3 : (((str y)[p]'hlp).toNat : Int) = 44 := by rw [hgp, h44]; rfl
          have p4 : ((((str y)[p]'hlp).toNat : Int) == 44) = true := by rw [hgp, h44]; rfl
          rw [if_pos h44] at hT
          rw [hT] at t2
          have HST := hid (show (wr.setCell ⟨g, k, none⟩ (SV (y.take p))).ownsRow w.heap.size 9 1 (.slice (some ⟨g, 0, none⟩) n d) n ((trK l (k + 1)).map SV) by
            have := (hrow.stored k (SV (y.take p))).1
            rw [← t2, List.map_set]
            exact this)
          have HBE := hid (hbel.setCell (p := ⟨g, k, none⟩) hg (SV (y.take p)))
          clear t1 t2 hT hgp h44 hI hy hyw hrow hbel og hg hkw
          go_wp2_with fail
          go_roundw
          case rel => exact ⟨k + 1, by omega, by go_num, hid ⟨HST.out, HBE.out⟩⟩
          case measure => simp [intOf]; omega
        · have p3 : ¬ (((str y)[p]'hlp).toNat : Int) = 44 := by
            rw [hgp]
            intro e
            exact h44 (UInt8.toNat_inj.1 (by rw [show (44 : UInt8).toNat = 44 by rfl]; omega))
          have p4 : ((((str y)[p]'hlp).toNat : Int) == 44) = false := by rw [beq_eq_false_iff_ne]; exact p3
          rw [if_neg h44] at hT
          rw [hT] at t2
          have HST := hid (show wr.ownsRow w.heap.size 9 1 (.slice (some ⟨g, 0, none⟩) n d) n ((trK l (k + 1)).map SV) by
            have e : (trK l k).set k y = trK l k := by
              refine List.ext_getElem? fun j => ?_
              rw [List.getElem?_set]
              split
              · rename_i e; subst e; split
                · exact t1.symm
                · rename_i h; rw [List.getElem?_eq_none (by omega)] at t1; cases t1
              · rfl
            rw [← t2, e]
            exact hrow)
          clear t1 t2 hT hgp h44 hI hy hyw hrow hbel og hg hkw
          go_wp2_with fail
          go_roundw
          case rel => exact ⟨k + 1, by omega, by go_num, hid ⟨HST.out, HBEL.out⟩⟩
          case measure => simp [intOf]; omega
      · have hd : decide (k < n) = false := by simpa using hlt
        have hd' : decide ((k : Int) < (n : Int)) = false := by simp; omega
        have hkn : k = n := by omega
        have h1 := hI.out
        rw [hkn, HW.out.1, trK_end, ← HW.out.1] at h1
        have H1 := hid h1
        clear h1 hkn
        go_wp2
        go_meet
        exact ⟨k, rfl, H1⟩
  case rest =>
  obtain ⟨j2, rfl, HM⟩ := hcut
  clear HW
  have hlen : Hid (∀ q ∈ mwords l, q.length ≤ 100000) := hid (fun q hq => by
    unfold mwords at hq
    obtain ⟨q', hq', rfl⟩ := List.mem_map.1 hq
    exact Nat.le_trans (trimC_len q') (Nat.le_trans (words_all l q' hq').1 HLL.out))
  go_upto_if 75 with fail
  go_cut [4, 9] from 76 to 91 (fun p i wx => ∃ (A : Option Addr) (n c : Nat), p = .slice A n c ∧ Hid (∃ ws : List (List UInt8), ws = noWeek (mwords l) ∧ n = ws.length ∧ Row wx A (ws.map SV)) ∧ Hid (Below w.heap.size w wx))
  case first =>
    cases hmw : mwords l with
    | nil =>
      have h0 : n = 0 := by have := row_at HM.out.1; rw [hmw] at this; exact this
      subst h0
      have HM0 := hid hmw
      clear hmw
      go_wp2_with fail
      go_meet
      exact ⟨A, 0, d, rfl, hid ⟨[], by rw [HM0.out]; rfl, rfl, Row.nil _ _⟩, hid HM.out.2⟩
    | cons x r =>
      have hn1 : n = r.length + 1 := by have := row_at HM.out.1; rw [hmw] at this; exact this
      subst hn1
      have hrow := HM.out.1
      rw [hmw] at hrow
      have hbel := HM.out.2
      have hR := Row.of_own hrow
      obtain ⟨g, c0, hv⟩ := ownsRow_succ hrow
      injection hv with hA _ hd
      subst hA hd
      have hcap : r.length + 1 ≤ d := by
        rcases hrow.2 with ⟨h0, _⟩ | ⟨g', cap, cur, h0, _, _, h1, _⟩
        · cases h0
        · cases h0; exact h1
      have x0 : wc.cell? ⟨g, 0, none⟩ = some (.string (str x)) := hrow.cellAt 0 (by omega)
      have hxl : x.length ≤ 100000 := hlen.out x (by rw [hmw]; exact List.mem_cons_self)
      have HR := hid hR
      have HMW := hid hmw
      have HAL := hid (fun k w => alike_any x (DayL k) w hxl)
      have HB0 := hid hbel
      clear hmw hrow hR hbel hxl HM
      have q0 : (0 : Int) < (r.length : Int) + 1 := by omega
      go_wp2_with fail
      go_loopw [4, 9] (fun p i wr => ∃ k : Nat, k ≤ 7 ∧ i = .int .i64 (k : Int) ∧ p = .slice (some ⟨g, 0, none⟩) (r.length + 1) d ∧ Hid (weekF x = weekGo x k (7 - k)) ∧ Hid (Below wc.heap.size wc wr)) (fun p i wr => 7 - (intOf i).toNat)
      case atStart => exact ⟨0, by omega, rfl, rfl, hid rfl, hid (Below.refl _ _)⟩
      case round =>
        obtain ⟨k, hk, rfl, rfl, hM, hB⟩ := hrel
        have x0 := cells_keep hB.out x0
        by_cases hlt : k < 7
        · have d1 : decide ((k : Int) < 7) = true := by simp; omega
          have d1' : decide (k < 7) = true := by simpa using hlt
          have hex := day_cut k hlt
          have hM2 := hM.out
          rw [weekGo_in hlt] at hM2
          have e0 : (0 : Int) ≤ 3 * (k : Int) := by omega
          have e1 : 3 * (k : Int) + 3 ≤ 21 := by omega
          have e2 : (3 * (k : Int)).toNat = 3 * k := by omega
          have e3 : (3 * (k : Int) + 3).toNat = 3 * k + 3 := by omega
          have e4 : 3 * k + 3 ≤ 21 := by omega
          have e5 : (0 : Int) ≤ 3 * (k : Int) + 3 := by omega
          have e6 : 3 * (k : Int) ≤ 3 * (k : Int) + 3 := by omega
          have w1 : IntKind.i64.wrap (3 * (k : Int)) = 3 * (k : Int) := by rw [IntKind.wrap_i64]; omega
          have w2 : IntKind.i64.wrap (3 * (k : Int) + 3) = 3 * (k : Int) + 3 := by rw [IntKind.wrap_i64]; omega
          have hal := HAL.out k
          rw [day_alike hlt] at hal
          obtain ⟨v, hv⟩ : ∃ v, decide (x.map smallU = dayL k) = v := ⟨_, rfl⟩
          rw [hv] at hal hM2
          have HA := hid hal
          have HM2 := hid hM2
          clear hal hM2 hM hv
          go_upto_region 22 with fail
          refine wp_region_noPanic ?_
          refine wp_region_held_drew (S := (fun W => W.cell? ⟨g, 0, none⟩ = some (.string (str x)))) (by kernel_rfl) (by first | assumption | trivial) (fun hHeld => ?_)
          refine wpAnyH_take (i := 0) (v := ?_) rfl (by kernel_rfl) (by kernel_rfl) (by kernel_rfl) (fun _ _ _ h => h) (Or.inl ⟨by kernel_rfl, ?_⟩) (by first | assumption | trivial) ?_
          rotate_left
          · (intro wS hSw; (try dsimp only at hSw); go_simp; try with_reducible rfl)
          (try simp only [List.append_eq, List.cons_append, List.nil_append, List.getElem_toArray, List.getElem_cons_succ, List.getElem_cons_zero, Act.put, List.setIfInBounds_toArray, List.set_cons_zero, List.set_cons_succ])
          refine wpAnyH_take (i := 1) (v := ?_) rfl (by kernel_rfl) (by kernel_rfl) (by kernel_rfl) (fun _ _ _ h => h) (Or.inl ⟨by kernel_rfl, ?_⟩) (by first | assumption | trivial) ?_
          rotate_left
          · (intro wS hSw; (try dsimp only at hSw); go_simp; try with_reducible rfl)
          (try simp only [List.append_eq, List.cons_append, List.nil_append, List.getElem_toArray, List.getElem_cons_succ, List.getElem_cons_zero, Act.put, List.setIfInBounds_toArray, List.set_cons_zero, List.set_cons_succ])
          refine wpAnyH_take (i := 2) (v := ?_) rfl (by kernel_rfl) (by kernel_rfl) (by kernel_rfl) (fun _ _ _ h => h) (Or.inl ⟨by kernel_rfl, ?_⟩) (by first | assumption | trivial) ?_
          rotate_left
          · (intro wS hSw; (try dsimp only at hSw); go_simp; try with_reducible rfl)
          (try simp only [List.append_eq, List.cons_append, List.nil_append, List.getElem_toArray, List.getElem_cons_succ, List.getElem_cons_zero, Act.put, List.setIfInBounds_toArray, List.set_cons_zero, List.set_cons_succ])
          refine wpAnyH_take (i := 3) (v := ?_) rfl (by kernel_rfl) (by kernel_rfl) (by kernel_rfl) (fun _ _ _ h => h) (Or.inl ⟨by kernel_rfl, ?_⟩) (by first | assumption | trivial) ?_
          rotate_left
          · (intro wS hSw; (try dsimp only at hSw); go_simp; try with_reducible rfl)
          (try simp only [List.append_eq, List.cons_append, List.nil_append, List.getElem_toArray, List.getElem_cons_succ, List.getElem_cons_zero, Act.put, List.setIfInBounds_toArray, List.set_cons_zero, List.set_cons_succ])
          refine wpAnyH_take (i := 4) (v := ?_) rfl (by kernel_rfl) (by kernel_rfl) (by kernel_rfl) (fun _ _ _ h => h) (Or.inl ⟨by kernel_rfl, ?_⟩) (by first | assumption | trivial) ?_
          rotate_left
          · (intro wS hSw; (try dsimp only at hSw); go_simp; try with_reducible rfl)
          (try simp only [List.append_eq, List.cons_append, List.nil_append, List.getElem_toArray, List.getElem_cons_succ, List.getElem_cons_zero, Act.put, List.setIfInBounds_toArray, List.set_cons_zero, List.set_cons_succ])
          refine wpAnyH_take (i := 5) (v := ?_) rfl (by kernel_rfl) (by kernel_rfl) (by kernel_rfl) (fun _ _ _ h => h) (Or.inl ⟨by kernel_rfl, ?_⟩) (by first | assumption | trivial) ?_
          rotate_left
          · (intro wS hSw; (try dsimp only at hSw); go_simp; try with_reducible rfl)
          (try simp only [List.append_eq, List.cons_append, List.nil_append, List.getElem_toArray, List.getElem_cons_succ, List.getElem_cons_zero, Act.put, List.setIfInBounds_toArray, List.set_cons_zero, List.set_cons_succ])
          refine wpAnyH_take (i := 6) (v := ?_) rfl (by kernel_rfl) (by kernel_rfl) (by kernel_rfl) (fun _ _ _ h => h) (Or.inl ⟨by kernel_rfl, ?_⟩) (by first | assumption | trivial) ?_
          rotate_left
          · (intro wS hSw; (try dsimp only at hSw); go_simp; try with_reducible rfl)
          (try simp only [List.append_eq, List.cons_append, List.nil_append, List.getElem_toArray, List.getElem_cons_succ, List.getElem_cons_zero, Act.put, List.setIfInBounds_toArray, List.set_cons_zero, List.set_cons_succ])
          refine wpAnyH_take (i := 7) (v := ?_) rfl (by kernel_rfl) (by kernel_rfl) (by kernel_rfl) (fun _ _ _ h => h) (Or.inl ⟨by kernel_rfl, ?_⟩) (by first | assumption | trivial) ?_
          rotate_left
          · (intro wS hSw; (try dsimp only at hSw); go_simp; try with_reducible rfl)
          (try simp only [List.append_eq, List.cons_append, List.nil_append, List.getElem_toArray, List.getElem_cons_succ, List.getElem_cons_zero, Act.put, List.setIfInBounds_toArray, List.set_cons_zero, List.set_cons_succ])
          refine wpAnyH_take (i := 8) (v := ?_) rfl (by kernel_rfl) (by kernel_rfl) (by kernel_rfl) (fun _ _ _ h => h) (Or.inl ⟨by kernel_rfl, ?_⟩) (by first | assumption | trivial) ?_
          rotate_left
          · (intro wS hSw; (try dsimp only at hSw); go_simp; try with_reducible rfl)
          (try simp only [List.append_eq, List.cons_append, List.nil_append, List.getElem_toArray, List.getElem_cons_succ, List.getElem_cons_zero, Act.put, List.setIfInBounds_toArray, List.set_cons_zero, List.set_cons_succ])
          refine wpAnyH_ready (rs := [9]) (by kernel_rfl) (by simp) ?_
          refine AllReadyH.cons rfl (fun K hK => ?_) AllReadyH.nil
          go_simp
          (go_at_call 47; refine (HA.out _).mono ?_; rintro e w5 ⟨rfl, b5⟩; have hS5 : w5.cell? ⟨g, 0, none⟩ = some (.string (str x)) := cells_keep b5 hHeld; have HB5 := hid b5; clear b5 hHeld)
          go_wp2_with fail
          refine hK.out _ _ (by first | assumption | trivial) (fun hHeld => ?_)
          clear hK K
          (try simp only [List.append_eq, List.cons_append, List.nil_append, List.getElem_toArray, List.getElem_cons_succ, List.getElem_cons_zero, Act.put, List.setIfInBounds_toArray, List.set_cons_zero, List.set_cons_succ])
          refine wpAnyH_done (by kernel_rfl) ?_ _
          refine NoPanic.normal ?_
          clear w1 w2
          have hB6 : Hid (Below wc.heap.size wc w5) := hid (next hB.out (show Below wr.heap.size wr w5 from ⟨HB5.out.os, HB5.out.tape, HB5.out.output, HB5.out.size, HB5.out.block⟩))
          cases v with
          | true =>
            have HWK := hid (show weekF x = true by rw [HM2.out]; rfl)
            have HRW := hid ((HR.out.below hB6.out))
            have q1 : (0 : Int) ≤ 1 := by omega
            have q2 : (1 : Int) ≤ (r.length : Int) + 1 := by omega
            have hr0 : Hid (d = 1 → r = []) := hid (fun e => List.eq_nil_of_length_eq_zero (by omega))
            by_cases hd1 : d = 1
            · subst hd1
              obtain rfl : r = [] := List.eq_nil_of_length_eq_zero (by omega)
              go_wp2_with fail
              go_meet
              refine ⟨_, _, _, rfl, hid ⟨_, rfl, ?_, ?_⟩, hid (next HB0.out hB6.out)⟩
              · rw [HMW.out]; simp only [noWeek]; rw [if_pos HWK.out]; rfl
              · rw [HMW.out]; simp only [noWeek]; rw [if_pos HWK.out]; exact Row.nil _ _
            · go_wp2_with fail
              go_meet
              refine ⟨_, _, _, rfl, hid ⟨_, rfl, ?_, ?_⟩, hid (next HB0.out hB6.out)⟩
              · rw [HMW.out]; simp only [noWeek]; rw [if_pos HWK.out]
              · rw [HMW.out]; simp only [noWeek]; rw [if_pos HWK.out]; exact row_tl HRW.out
          | false =>
            have HM3 := hid (show weekF x = weekGo x (k + 1) (7 - (k + 1)) by rw [HM2.out]; rfl)
            go_wp2_with fail
            go_roundw
            case rel => exact ⟨k + 1, by omega, by go_num, rfl, HM3, hB6⟩
            case measure => simp [intOf]; omega
        · have d1 : decide ((k : Int) < 7) = false := by simp; omega
          have d1' : decide (k < 7) = false := by simpa using hlt
          have HM2 := hid (show weekF x = false by rw [hM.out, show k = 7 by omega]; rfl)
          go_wp2_with fail
          go_meet
          refine ⟨_, _, _, rfl, hid ⟨_, rfl, ?_, ?_⟩, hid (next HB0.out hB.out)⟩
          · rw [HMW.out]; simp only [noWeek]; rw [if_neg (by rw [HM2.out]; decide)]; rfl
          · rw [HMW.out]; simp only [noWeek]; rw [if_neg (by rw [HM2.out]; decide)]
            exact HR.out.below hB.out
  case rest =>
  obtain ⟨A, n, c, rfl, HW, HBC⟩ := hcut
  by_cases h3 : n < 3
  · have d3 : decide (n < 3) = true := by simpa using h3
    have d3' : decide ((n : Int) < 3) = true := by simp; omega
    have hm : mailF l = (0, 3) := by
      obtain ⟨ws, hw, hn, _⟩ := HW.out
      unfold mailF
      rw [← hw]
      match ws, hn with
      | [], _ => rfl
      | [_], _ => rfl
      | [_, _], _ => rfl
      | _ :: _ :: _ :: _, hn => simp at hn; omega
    have HM := hid hm
    clear hm h3
    go_wp2_with fail
    go_ret2
    rw [HM.out]
    exact ⟨rfl, HBC.out⟩
  · have d3 : decide (n < 3) = false := by simpa using h3
    have d3' : decide ((n : Int) < 3) = false := by simp; omega
    obtain ⟨ws, hw, hn, hr⟩ := HW.out
    obtain ⟨x, y, z, r, rfl⟩ : ∃ x y z r, ws = x :: y :: z :: r := by
      match ws, hn with
      | [], hn => simp at hn; omega
      | [_], hn => simp at hn; omega
      | [_, _], hn => simp at hn; omega
      | x :: y :: z :: r, hn => exact ⟨x, y, z, r, rfl⟩
    have hm : mailF l = dayF x y z := by
      unfold mailF
      rw [← hw]
      rfl
    have hle : ∀ q ∈ x :: y :: z :: r, q.length ≤ 100000 := fun q hq => by
      rw [hw] at hq
      refine hlen.out q ?_
      unfold noWeek at hq
      split at hq
      · cases hq
      · rename_i e
        rw [e]
        split at hq
        · exact List.mem_cons_of_mem _ hq
        · exact hq
    obtain ⟨b, off, rfl, hcl⟩ := hr (by simp)
    have p0 := hcl 0 _ rfl
    have p1 := hcl 1 _ rfl
    have p2 := hcl 2 _ rfl
    rw [Nat.add_zero] at p0
    unfold SV at p0 p1 p2
    have hn' : n = r.length + 3 := by rw [hn]; rfl
    subst hn'
    have HM := hid hm
    have HDY := hid (fun w => rday_any x y z w (hle _ (by simp)) (hle _ (by simp)) (hle _ (by simp)))
    clear hm hle hcl hr hn hw h3 HW
    have i0 : (0 : Int) < (r.length : Int) + 3 := by omega
    have i1 : (1 : Int) < (r.length : Int) + 3 := by omega
    have i2 : (2 : Int) < (r.length : Int) + 3 := by omega
    go_upto_region 26 with fail
    refine wp_region_noPanic ?_
    refine wp_region_held_drew (S := (fun W => W.cell? ⟨b, off, none⟩ = some (.string (str x)) ∧ W.cell? ⟨b, off + 1, none⟩ = some (.string (str y)) ∧ W.cell? ⟨b, off + 2, none⟩ = some (.string (str z)))) (by kernel_rfl) (by first | assumption | trivial) (fun hHeld => ?_)
    refine wpAnyH_take (i := 0) (v := ?_) rfl (by kernel_rfl) (by kernel_rfl) (by kernel_rfl) (fun _ _ _ h => h) (Or.inl ⟨by kernel_rfl, ?_⟩) (by first | assumption | trivial) ?_
    rotate_left
    · (intro wS hSw; (try dsimp only at hSw); go_simp; try with_reducible rfl)
    (try simp only [List.append_eq, List.cons_append, List.nil_append, List.getElem_toArray, List.getElem_cons_succ, List.getElem_cons_zero, Act.put, List.setIfInBounds_toArray, List.set_cons_zero, List.set_cons_succ])
    refine wpAnyH_take (i := 1) (v := ?_) rfl (by kernel_rfl) (by kernel_rfl) (by kernel_rfl) (fun _ _ _ h => h) (Or.inl ⟨by kernel_rfl, ?_⟩) (by first | assumption | trivial) ?_
    rotate_left
    · (intro wS hSw; (try dsimp only at hSw); go_simp; try with_reducible rfl)
    (try simp only [List.append_eq, List.cons_append, List.nil_append, List.getElem_toArray, List.getElem_cons_succ, List.getElem_cons_zero, Act.put, List.setIfInBounds_toArray, List.set_cons_zero, List.set_cons_succ])
    refine wpAnyH_take (i := 2) (v := ?_) rfl (by kernel_rfl) (by kernel_rfl) (by kernel_rfl) (fun _ _ _ h => h) (Or.inl ⟨by kernel_rfl, ?_⟩) (by first | assumption | trivial) ?_
    rotate_left
    · (intro wS hSw; (try dsimp only at hSw); go_simp; try with_reducible rfl)
    (try simp only [List.append_eq, List.cons_append, List.nil_append, List.getElem_toArray, List.getElem_cons_succ, List.getElem_cons_zero, Act.put, List.setIfInBounds_toArray, List.set_cons_zero, List.set_cons_succ])
    refine wpAnyH_take (i := 3) (v := ?_) rfl (by kernel_rfl) (by kernel_rfl) (by kernel_rfl) (fun _ _ _ h => h) (Or.inl ⟨by kernel_rfl, ?_⟩) (by first | assumption | trivial) ?_
    rotate_left
    · (intro wS hSw; (try dsimp only at hSw); go_simp; try with_reducible rfl)
    (try simp only [List.append_eq, List.cons_append, List.nil_append, List.getElem_toArray, List.getElem_cons_succ, List.getElem_cons_zero, Act.put, List.setIfInBounds_toArray, List.set_cons_zero, List.set_cons_succ])
    refine wpAnyH_take (i := 4) (v := ?_) rfl (by kernel_rfl) (by kernel_rfl) (by kernel_rfl) (fun _ _ _ h => h) (Or.inl ⟨by kernel_rfl, ?_⟩) (by first | assumption | trivial) ?_
    rotate_left
    · (intro wS hSw; (try dsimp only at hSw); go_simp; try with_reducible rfl)
    (try simp only [List.append_eq, List.cons_append, List.nil_append, List.getElem_toArray, List.getElem_cons_succ, List.getElem_cons_zero, Act.put, List.setIfInBounds_toArray, List.set_cons_zero, List.set_cons_succ])
    refine wpAnyH_take (i := 5) (v := ?_) rfl (by kernel_rfl) (by kernel_rfl) (by kernel_rfl) (fun _ _ _ h => h) (Or.inl ⟨by kernel_rfl, ?_⟩) (by first | assumption | trivial) ?_
    rotate_left
    · (intro wS hSw; (try dsimp only at hSw); go_simp; try with_reducible rfl)
    (try simp only [List.append_eq, List.cons_append, List.nil_append, List.getElem_toArray, List.getElem_cons_succ, List.getElem_cons_zero, Act.put, List.setIfInBounds_toArray, List.set_cons_zero, List.set_cons_succ])
    refine wpAnyH_take (i := 6) (v := ?_) rfl (by kernel_rfl) (by kernel_rfl) (by kernel_rfl) (fun _ _ _ h => h) (Or.inl ⟨by kernel_rfl, ?_⟩) (by first | assumption | trivial) ?_
    rotate_left
    · (intro wS hSw; (try dsimp only at hSw); go_simp; try with_reducible rfl)
    (try simp only [List.append_eq, List.cons_append, List.nil_append, List.getElem_toArray, List.getElem_cons_succ, List.getElem_cons_zero, Act.put, List.setIfInBounds_toArray, List.set_cons_zero, List.set_cons_succ])
    refine wpAnyH_take (i := 7) (v := ?_) rfl (by kernel_rfl) (by kernel_rfl) (by kernel_rfl) (fun _ _ _ h => h) (Or.inl ⟨by kernel_rfl, ?_⟩) (by first | assumption | trivial) ?_
    rotate_left
    · (intro wS hSw; (try dsimp only at hSw); go_simp; try with_reducible rfl)
    (try simp only [List.append_eq, List.cons_append, List.nil_append, List.getElem_toArray, List.getElem_cons_succ, List.getElem_cons_zero, Act.put, List.setIfInBounds_toArray, List.set_cons_zero, List.set_cons_succ])
    refine wpAnyH_take (i := 8) (v := ?_) rfl (by kernel_rfl) (by kernel_rfl) (by kernel_rfl) (fun _ _ _ h => h) (Or.inl ⟨by kernel_rfl, ?_⟩) (by first | assumption | trivial) ?_
    rotate_left
    · (intro wS hSw; (try dsimp only at hSw); go_simp; try with_reducible rfl)
    (try simp only [List.append_eq, List.cons_append, List.nil_append, List.getElem_toArray, List.getElem_cons_succ, List.getElem_cons_zero, Act.put, List.setIfInBounds_toArray, List.set_cons_zero, List.set_cons_succ])
    refine wpAnyH_ready (rs := [9]) (by kernel_rfl) (by simp) ?_
    refine AllReadyH.cons rfl (fun K hK => ?_) AllReadyH.nil
    go_simp
    (go_at_call 42; refine (HDY.out _).mono ?_; rintro e w5 ⟨rfl, b5⟩; have hS5 : w5.cell? ⟨b, off, none⟩ = some (.string (str x)) ∧ w5.cell? ⟨b, off + 1, none⟩ = some (.string (str y)) ∧ w5.cell? ⟨b, off + 2, none⟩ = some (.string (str z)) := ⟨cells_keep b5 hHeld.1, cells_keep b5 hHeld.2.1, cells_keep b5 hHeld.2.2⟩; have HB5 := hid b5; clear b5 hHeld)
    go_wp2_with fail
    refine hK.out _ _ (by first | assumption | trivial) (fun hHeld => ?_)
    clear hK K
    (try simp only [List.append_eq, List.cons_append, List.nil_append, List.getElem_toArray, List.getElem_cons_succ, List.getElem_cons_zero, Act.put, List.setIfInBounds_toArray, List.set_cons_zero, List.set_cons_succ])
    refine wpAnyH_take (i := 10) (v := ?_) rfl (by kernel_rfl) (by kernel_rfl) (by kernel_rfl) (fun _ _ _ h => h) (Or.inl ⟨by kernel_rfl, ?_⟩) (by first | assumption | trivial) ?_
    rotate_left
    · (intro wS hSw; (try dsimp only at hSw); go_simp; try with_reducible rfl)
    (try simp only [List.append_eq, List.cons_append, List.nil_append, List.getElem_toArray, List.getElem_cons_succ, List.getElem_cons_zero, Act.put, List.setIfInBounds_toArray, List.set_cons_zero, List.set_cons_succ])
    refine wpAnyH_take (i := 11) (v := ?_) rfl (by kernel_rfl) (by kernel_rfl) (by kernel_rfl) (fun _ _ _ h => h) (Or.inl ⟨by kernel_rfl, ?_⟩) (by first | assumption | trivial) ?_
    rotate_left
    · (intro wS hSw; (try dsimp only at hSw); go_simp; try with_reducible rfl)
    (try simp only [List.append_eq, List.cons_append, List.nil_append, List.getElem_toArray, List.getElem_cons_succ, List.getElem_cons_zero, Act.put, List.setIfInBounds_toArray, List.set_cons_zero, List.set_cons_succ])
    refine wpAnyH_take (i := 12) (v := ?_) rfl (by kernel_rfl) (by kernel_rfl) (by kernel_rfl) (fun _ _ _ h => h) (Or.inl ⟨by kernel_rfl, ?_⟩) (by first | assumption | trivial) ?_
    rotate_left
    · (intro wS hSw; (try dsimp only at hSw); go_simp; try with_reducible rfl)
    (try simp only [List.append_eq, List.cons_append, List.nil_append, List.getElem_toArray, List.getElem_cons_succ, List.getElem_cons_zero, Act.put, List.setIfInBounds_toArray, List.set_cons_zero, List.set_cons_succ])
    refine wpAnyH_take (i := 13) (v := ?_) rfl (by kernel_rfl) (by kernel_rfl) (by kernel_rfl) (fun _ _ _ h => h) (Or.inl ⟨by kernel_rfl, ?_⟩) (by first | assumption | trivial) ?_
    rotate_left
    · (intro wS hSw; (try dsimp only at hSw); go_simp; try with_reducible rfl)
    (try simp only [List.append_eq, List.cons_append, List.nil_append, List.getElem_toArray, List.getElem_cons_succ, List.getElem_cons_zero, Act.put, List.setIfInBounds_toArray, List.set_cons_zero, List.set_cons_succ])
    refine wpAnyH_done (by kernel_rfl) ?_ _
    refine NoPanic.normal ?_
    go_wp2_with fail
    go_ret2
    rw [HM.out]
    exact ⟨rfl, next HBC.out (show Below wc.heap.size wc w5 from ⟨HB5.out.os, HB5.out.tape, HB5.out.output, HB5.out.size, HB5.out.block⟩)⟩
end Go.Proofs.YtkjlkkaoaiphcaaDoor
