/-
  A field's text: the document's walk. A part of the proof: see the head of the text that ends in 'Law'.
-/
import Derived.Test.YthlofpofcpconaaDoorHe8
import Derived.Test.YthlofpofcpconaaDoorHePlain6
namespace Go.Proofs.YthlofpofcpconaaDoor
open Go.RowKit Go.Shelf
set_option linter.unusedVariables false
attribute [local go_sem] Oper.semAt_some

def fdV (f : Fd) : Value := .agg #[.string (str f.nm), .int .i64 (f.fr : Int), .int .i64 (f.te : Int), .int .i64 (f.at_ : Int)]
/-- What is joined of the first lines. -/
def joinK (ls : List (List UInt8)) (k : Nat) : List UInt8 := ((ls.take k).map chop).flatten
theorem joinK_succ (ls : List (List UInt8)) (k : Nat) (hk : k < ls.length) : joinK ls (k + 1) = joinK ls k ++ chop ls[k] := by
  unfold joinK
  rw [List.take_succ_eq_append_getElem hk, List.map_append, List.flatten_append, List.map_cons, List.map_nil, List.flatten_cons, List.flatten_nil, List.append_nil]
theorem chop_no (y : List UInt8) (c : UInt8) (hc : c.toNat ≠ 10) : chop (y ++ [c]) = y ++ [c] := by
  unfold chop
  rw [List.getLast?_concat, if_neg]
  intro e
  injection e with e
  rw [e] at hc
  exact hc rfl
theorem chop_yes (y : List UInt8) (c : UInt8) (hc : c.toNat = 10) : chop (y ++ [c]) = if y.getLast? = some 13 then y.dropLast else y := by
  have h : c = 10 := UInt8.toNat_inj.1 hc
  unfold chop
  rw [List.getLast?_concat, h, if_pos rfl, List.dropLast_concat]
theorem chop_two (y : List UInt8) (d c : UInt8) (hc : c.toNat = 10) : chop (y ++ [d] ++ [c]) = if d.toNat = 13 then y else y ++ [d] := by
  rw [chop_yes _ c hc, List.getLast?_concat, List.dropLast_concat]
  by_cases h : d.toNat = 13
  · rw [if_pos h, if_pos (by rw [UInt8.toNat_inj.1 (show d.toNat = (13 : UInt8).toNat from h)])]
  · rw [if_neg h, if_neg]
    intro e
    injection e with e
    rw [e] at h
    exact h rfl
theorem joinK_len (ls : List (List UInt8)) (k : Nat) : (joinK ls k).length ≤ ls.flatten.length := by
  have hc : ∀ x : List UInt8, (chop x).length ≤ x.length := fun x => by
    unfold chop
    split
    · split <;> (simp only [List.length_dropLast]; omega)
    · exact Nat.le_refl _
  have h1 : ∀ ys : List (List UInt8), (ys.map chop).flatten.length ≤ ys.flatten.length := fun ys => by
    induction ys with
    | nil => exact Nat.le_refl _
    | cons y r ih =>
      have := hc y
      simp only [List.map_cons, List.flatten_cons, List.length_append]
      omega
  unfold joinK
  refine Nat.le_trans (h1 _) ?_
  conv => rhs; rw [← List.take_append_drop k ls, List.flatten_append, List.length_append]
  exact Nat.le_add_right _ _
set_option maxRecDepth 100000 in
set_option maxHeartbeats 8000000 in
theorem rtext_any (l : List UInt8) (f : Fd) (w : World) (hl : l.length ≤ 100000) (h1 : f.at_ ≤ f.te) (h2 : f.te ≤ l.length) :
    Calls Tryd.prog 23 #[.string (str l), .agg #[.string (str f.nm), .int .i64 (f.fr : Int), .int .i64 (f.te : Int), .int .i64 (f.at_ : Int)]] w fun e w' => e = .returned (.string (str (fdText l f))) ∧ Below w.heap.size w w' := by
  obtain ⟨nm, fr, te, at_⟩ := f
  dsimp only at h1 h2 ⊢
  obtain ⟨l3, hl3⟩ : ∃ l3, (l.drop at_).take (te - at_) = l3 := ⟨_, rfl⟩
  have HT : Hid (fdText l ⟨nm, fr, te, at_⟩ = trimB (joinK (cutL l3) (cutL l3).length)) := hid (by
    unfold fdText textL joinK
    dsimp only
    rw [hl3, List.take_length])
  have hx3 : (str l).extract at_ te = str l3 := by rw [str_extract, hl3]
  have hl3n : l3.length ≤ 100000 := by rw [← hl3, List.length_take, List.length_drop]; omega
  have HL3 := hid hl3n
  have a0 : (0 : Int) ≤ (at_ : Int) := by omega
  have a1 : (at_ : Int) ≤ (te : Int) := by omega
  have hsz : (str l).size = l.length := rfl
  have a2 : (te : Int) ≤ ((str l).size : Int) := by omega
  have a3 : (at_ : Int).toNat = at_ := by omega
  have a4 : (te : Int).toNat = te := by omega
  have HB0 := hid ((Below.refl _ w).alloc (Nat.le_refl _) (.cells #[.string (str nm), .int .i64 (fr : Int), .int .i64 (te : Int), .int .i64 (at_ : Int)] 39))
  clear hl3 hsz hl3n
  go_enter Tryd.func23, Tryd.ntmps23
  go_wp2_with (go_at_call 32; refine (rcut_any l3 _ HL3.out).mono ?_; rintro e w1 ⟨A, m, d, rfl, hm, hmd, ho, hb⟩; have HOL := hid ho; have HB := hid (past HB0.out hb); clear ho hb)
  have HM := hid hm
  have hml : m ≤ 100000 := by have h1 := cutL_len l3; have h2 := HL3.out; omega
  clear hm HB0 hx3
  go_loopw [5, 7] (fun v5 v7 wr => ∃ (k : Nat) (out : List UInt8), k ≤ m ∧ v5 = .string (str out) ∧ v7 = .int .i64 (k : Int) ∧ Hid (joinK (cutL l3) k = out) ∧ Hid (Below w1.heap.size w1 wr)) (fun v5 v7 wr => m - (intOf v7).toNat)
  case atStart => exact ⟨0, [], Nat.zero_le _, rfl, rfl, hid rfl, hid (Below.refl _ _)⟩
  case round =>
    obtain ⟨k, out, hk2, rfl, rfl, HI, HB3⟩ := hrel
    by_cases hlt : k < m
    · have d1 := lt_t hlt
      have d1' := lt_nt hlt
      have e0 : (0 : Int) ≤ (k : Int) := by omega
      have e1 : (k : Int) < (m : Int) := by omega
      have e3 : (k : Int).toNat = k := by omega
      have hkl : k < (cutL l3).length := by rw [HM.out]; exact hlt
      obtain ⟨x, hx⟩ : ∃ x, (cutL l3)[k]'hkl = x := ⟨_, rfl⟩
      obtain ⟨g, rfl, hc⟩ := text_at HOL.out HB3.out k hkl HM.out
      rw [hx] at hc
      have hxne : x ≠ [] := hx ▸ cutL_ne l3 _ (List.getElem_mem hkl)
      have hxl : x.length ≤ 100000 := Nat.le_trans (cutL_piece l3 x (hx ▸ List.getElem_mem hkl)) HL3.out
      have hol : out.length ≤ 100000 := by rw [← HI.out]; exact Nat.le_trans (joinK_len _ _) (by rw [cutL_flat]; exact HL3.out)
      have hJ := joinK_succ (cutL l3) k hkl
      rw [hx, HI.out] at hJ
      obtain ⟨y, c, hxy⟩ : ∃ y c, x = y ++ [c] := by
        rcases List.eq_nil_or_concat x with h | ⟨y, c, h⟩
        · exact absurd h hxne
        · exact ⟨y, c, by rw [h, List.concat_eq_append]⟩
      obtain ⟨p, hp⟩ : ∃ p, y.length = p := ⟨_, rfl⟩
      have hxs : (str x).size = p + 1 := by rw [hxy, str_size, List.length_append, hp]; rfl
      have hps : p < (str x).size := by omega
      have hgc : (str x)[p]'hps = c := by
        rw [str_get]
        subst hxy
        subst hp
        simp
      have hpl : p ≤ 100000 := by rw [hxy, List.length_append, hp] at hxl; simp at hxl; omega
      have p0 : (0 : Int) ≤ (p : Int) := by omega
      have p1 : (p : Int) < (p : Int) + 1 := by omega
      have p2' : (p : Int) ≤ (p : Int) + 1 := by omega
      have p3 : (p : Int).toNat = p := by omega
      have hex : (str x).extract 0 p = str y := by rw [hxy, str_extract, List.drop_zero, Nat.sub_zero, ← hp, List.take_left]
      have HJ := hid hJ
      have HXY := hid hxy
      have hxl2 : x.length = p + 1 := hxs
      clear hx hxne hkl hJ hxy hxl
      by_cases hc10 : c.toNat = 10
      · have q1 : ((c.toNat : Int) == 10) = true := by rw [hc10]; rfl
        have q1' : (c.toNat == 10) = true := by rw [hc10]; rfl
        have HJ2 : Hid (joinK (cutL l3) (k + 1) = out ++ if y.getLast? = some 13 then y.dropLast else y) := hid (by rw [HJ.out, HXY.out, chop_yes _ c hc10])
        have hys : (str y).size = p := hp
        clear HJ hc10
        rcases List.eq_nil_or_concat y with hy | ⟨z, dd, hy⟩
        · have hp0 : p = 0 := by rw [← hp, hy]; rfl
          subst hp0
          have HI2 : Hid (joinK (cutL l3) (k + 1) = out) := hid (by rw [HJ2.out, hy]; simp)
          clear HI hp hy HJ2 hxl2
          have hno : ¬ 9223372036854775807 < (str out).size + (str y).size := by have h2 : (str out).size = out.length := rfl; omega
          go_wp2_with fail
          go_roundw
          case rel => exact ⟨k + 1, out, by omega, rfl, by go_num, HI2, HB3⟩
          case measure => simp [intOf]; omega
        · rw [List.concat_eq_append] at hy
          obtain ⟨p2, hp2⟩ : ∃ p2, z.length = p2 := ⟨_, rfl⟩
          obtain rfl : p = p2 + 1 := by rw [← hp, hy, List.length_append, hp2]; rfl
          have hps2 : p2 < (str y).size := by omega
          have hgd : (str y)[p2]'hps2 = dd := by
            rw [str_get]
            subst hy
            subst hp2
            simp
          have hez : (str y).extract 0 p2 = str z := by rw [hy, str_extract, List.drop_zero, Nat.sub_zero, ← hp2, List.take_left]
          have t1 : decide ((1 : Int) < (p2 : Int) + 1 + 1) = true := by rw [decide_eq_true_iff]; omega
          have t2 : decide (1 < p2 + 1 + 1) = true := by rw [decide_eq_true_iff]; omega
          have q0 : (0 : Int) ≤ (p2 : Int) := by omega
          have q01 : (p2 : Int) < (p2 : Int) + 1 := by omega
          have q02 : (p2 : Int) ≤ (p2 : Int) + 1 := by omega
          have q03 : (p2 : Int).toNat = p2 := by omega
          have hzl2 : (str z).size = p2 := hp2
          by_cases hd13 : dd.toNat = 13
          · have q2 : ((dd.toNat : Int) == 13) = true := by rw [hd13]; rfl
            have q2' : (dd.toNat == 13) = true := by rw [hd13]; rfl
            have HI2 : Hid (joinK (cutL l3) (k + 1) = out ++ z) := hid (by
              rw [HJ2.out, hy, List.getLast?_concat, List.dropLast_concat, if_pos (by rw [UInt8.toNat_inj.1 (show dd.toNat = (13 : UInt8).toNat from hd13)])])
            clear hd13 HI hp hp2 hy HJ2 hxl2
            have hz : str out ++ str z = str (out ++ z) := str_append _ _
            have hno : ¬ 9223372036854775807 < (str out).size + (str z).size := by have h2 : (str out).size = out.length := rfl; omega
            go_wp2_with fail
            go_roundw
            case rel => exact ⟨k + 1, out ++ z, by omega, rfl, by go_num, HI2, HB3⟩
            case measure => simp [intOf]; omega
          · have q2 : ((dd.toNat : Int) == 13) = false := ne_f hd13
            have q2' := ne_n hd13
            have HI2 : Hid (joinK (cutL l3) (k + 1) = out ++ y) := hid (by
              rw [HJ2.out, if_neg]
              rw [hy, List.getLast?_concat]
              intro e
              injection e with e
              rw [e] at hd13
              exact hd13 rfl)
            clear hd13 HI hp hp2 hy HJ2 hxl2
            have hz : str out ++ str y = str (out ++ y) := str_append _ _
            have hno : ¬ 9223372036854775807 < (str out).size + (str y).size := by have h2 : (str out).size = out.length := rfl; omega
            go_wp2_with fail
            go_roundw
            case rel => exact ⟨k + 1, out ++ y, by omega, rfl, by go_num, HI2, HB3⟩
            case measure => simp [intOf]; omega
      · have q1 : ((c.toNat : Int) == 10) = false := ne_f hc10
        have q1' := ne_n hc10
        have HI2 : Hid (joinK (cutL l3) (k + 1) = out ++ x) := hid (by rw [HJ.out, HXY.out, chop_no _ c hc10])
        clear hc10 HI hp HJ hxl2
        have hz : str out ++ str x = str (out ++ x) := str_append _ _
        have hno : ¬ 9223372036854775807 < (str out).size + (str x).size := by have h2 : (str out).size = out.length := rfl; omega
        go_wp2_with fail
        go_roundw
        case rel => exact ⟨k + 1, out ++ x, by omega, rfl, by go_num, HI2, HB3⟩
        case measure => simp [intOf]; omega
    · have hkm : k = m := by omega
      subst hkm
      have d1 := lt_f hlt
      have d1' := lt_nf hlt
      have HTR := hid (fun X => rtrim17_any out X (by rw [← HI.out]; exact Nat.le_trans (joinK_len _ _) (by rw [cutL_flat]; exact HL3.out)))
      have HF : Hid (fdText l ⟨nm, fr, te, at_⟩ = trimB out) := hid (by rw [HT.out, HM.out, HI.out])
      clear HI HT
      go_wp2_with (go_at_call 40; refine (HTR.out _).mono ?_; rintro e w3 ⟨rfl, rfl⟩)
      go_ret
      exact ⟨by rw [HF.out]; rfl, past HB.out HB3.out⟩
end Go.Proofs.YthlofpofcpconaaDoor
