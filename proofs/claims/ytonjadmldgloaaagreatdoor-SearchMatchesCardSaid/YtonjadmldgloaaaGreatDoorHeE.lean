/-
  A field's text: the document's walk; Is a field one of some; a field's text: the program's walk; A field's text, asked; the first field of a name; The document's first field of a name; is a name one of some. A part of the proof: see the head of the text that ends in 'Law'.
-/
import Derived.Test.YtonjadmldgloaaaGreatDoorHePlain6
namespace Go.Proofs.YtonjadmldgloaaaGreatDoor.D17
section
open Go.RowKit Go.Shelf
set_option linter.unusedVariables false
set_option linter.unusedSimpArgs false
attribute [local go_sem] Oper.semAt_some
def fdV (f : Fd) : Value := .agg #[.string (str f.nm), .int .i64 (f.fr : Int), .int .i64 (f.te : Int), .int .i64 (f.at_ : Int)]
/-- What is joined of the first lines. -/
def joinK (ls : List (List UInt8)) (k : Nat) : List UInt8 := ((ls.take k).map chop).flatten
theorem joinK_succ (ls : List (List UInt8)) (k : Nat) (hk : k < ls.length) : joinK ls (k + 1) = joinK ls k ++ chop ls[k] := by
  unfold joinK
  rw [List.take_succ_eq_append_getElem hk, List.map_append, List.flatten_append, List.map_cons, List.map_nil, List.flatten_cons, List.flatten_nil, List.append_nil]
theorem chop_no (y : List UInt8) (c : UInt8) (hc : c.toNat ≠ 10) : chop (y ++ [c]) = y ++ [c] := by
  unfold chop
  rw [List.getLast?_concat, if_neg]
  intro e
  injection e with e
  rw [e] at hc
  exact hc rfl
theorem chop_yes (y : List UInt8) (c : UInt8) (hc : c.toNat = 10) : chop (y ++ [c]) = if y.getLast? = some 13 then y.dropLast else y := by
  have h : c = 10 := UInt8.toNat_inj.1 hc
  unfold chop
  rw [List.getLast?_concat, h, if_pos rfl, List.dropLast_concat]
theorem chop_two (y : List UInt8) (d c : UInt8) (hc : c.toNat = 10) : chop (y ++ [d] ++ [c]) = if d.toNat = 13 then y else y ++ [d] := by
  rw [chop_yes _ c hc, List.getLast?_concat, List.dropLast_concat]
  by_cases h : d.toNat = 13
  · rw [if_pos h, if_pos (by rw [UInt8.toNat_inj.1 (show d.toNat = (13 : UInt8).toNat from h)])]
  · rw [if_neg h, if_neg]
    intro e
    injection e with e
    rw [e] at h
    exact h rfl
theorem joinK_len (ls : List (List UInt8)) (k : Nat) : (joinK ls k).length ≤ ls.flatten.length := by
  have hc : ∀ x : List UInt8, (chop x).length ≤ x.length := fun x => by
    unfold chop
    split
    · split <;> (simp only [List.length_dropLast]; omega)
    · exact Nat.le_refl _
  have h1 : ∀ ys : List (List UInt8), (ys.map chop).flatten.length ≤ ys.flatten.length := fun ys => by
    induction ys with
    | nil => exact Nat.le_refl _
    | cons y r ih =>
      have := hc y
      simp only [List.map_cons, List.flatten_cons, List.length_append]
      omega
  unfold joinK
  refine Nat.le_trans (h1 _) ?_
  conv => rhs; rw [← List.take_append_drop k ls, List.flatten_append, List.length_append]
  exact Nat.le_add_right _ _
set_option maxRecDepth 100000 in
set_option maxHeartbeats 8000000 in
theorem rtext_any (l : List UInt8) (f : Fd) (w : World) (hl : l.length ≤ 100000) (h1 : f.at_ ≤ f.te) (h2 : f.te ≤ l.length) :
    Calls Tryz.prog 32 #[.string (str l), .agg #[.string (str f.nm), .int .i64 (f.fr : Int), .int .i64 (f.te : Int), .int .i64 (f.at_ : Int)]] w fun e w' => e = .returned (.string (str (fdText l f))) ∧ Below w.heap.size w w' := by
  obtain ⟨nm, fr, te, at_⟩ := f
  dsimp only at h1 h2 ⊢
  obtain ⟨l3, hl3⟩ : ∃ l3, (l.drop at_).take (te - at_) = l3 := ⟨_, rfl⟩
  have HT : Hid (fdText l ⟨nm, fr, te, at_⟩ = trimB (joinK (cutL l3) (cutL l3).length)) := hid (by
    unfold fdText textL joinK
    dsimp only
    rw [hl3, List.take_length])
  have hx3 : (str l).extract at_ te = str l3 := by rw [str_extract, hl3]
  have hl3n : l3.length ≤ 100000 := by rw [← hl3, List.length_take, List.length_drop]; omega
  have HL3 := hid hl3n
  have a0 : (0 : Int) ≤ (at_ : Int) := by omega
  have a1 : (at_ : Int) ≤ (te : Int) := by omega
  have hsz : (str l).size = l.length := rfl
  have a2 : (te : Int) ≤ ((str l).size : Int) := by omega
  have a3 : (at_ : Int).toNat = at_ := by omega
  have a4 : (te : Int).toNat = te := by omega
  have HB0 := hid ((Below.refl _ w).alloc (Nat.le_refl _) (.cells #[.string (str nm), .int .i64 (fr : Int), .int .i64 (te : Int), .int .i64 (at_ : Int)] 67))
  clear hl3 hsz hl3n
  go_enter Tryz.func32, Tryz.ntmps32
  go_wp2_with (go_at_call 55; refine (rcut_any l3 _ HL3.out).mono ?_; rintro e w1 ⟨A, m, d, rfl, hm, hmd, ho, hb⟩; have HOL := hid ho; have HB := hid (past HB0.out hb); clear ho hb)
  have HM := hid hm
  have hml : m ≤ 100000 := by have h1 := cutL_len l3; have h2 := HL3.out; omega
  clear hm HB0 hx3
  go_loopw [5, 7] (fun v5 v7 wr => ∃ (k : Nat) (out : List UInt8), k ≤ m ∧ v5 = .string (str out) ∧ v7 = .int .i64 (k : Int) ∧ Hid (joinK (cutL l3) k = out) ∧ Hid (Below w1.heap.size w1 wr)) (fun v5 v7 wr => m - (intOf v7).toNat)
  case atStart => exact ⟨0, [], Nat.zero_le _, rfl, rfl, hid rfl, hid (Below.refl _ _)⟩
  case round =>
    obtain ⟨k, out, hk2, rfl, rfl, HI, HB3⟩ := hrel
    by_cases hlt : k < m
    · have d1 := lt_t hlt
      have d1' := lt_nt hlt
      have e0 : (0 : Int) ≤ (k : Int) := by omega
      have e1 : (k : Int) < (m : Int) := by omega
      have e3 : (k : Int).toNat = k := by omega
      have hkl : k < (cutL l3).length := by rw [HM.out]; exact hlt
      obtain ⟨x, hx⟩ : ∃ x, (cutL l3)[k]'hkl = x := ⟨_, rfl⟩
      obtain ⟨g, rfl, hc⟩ := text_at HOL.out HB3.out k hkl HM.out
      rw [hx] at hc
      have hxne : x ≠ [] := hx ▸ cutL_ne l3 _ (List.getElem_mem hkl)
      have hxl : x.length ≤ 100000 := Nat.le_trans (cutL_piece l3 x (hx ▸ List.getElem_mem hkl)) HL3.out
      have hol : out.length ≤ 100000 := by rw [← HI.out]; exact Nat.le_trans (joinK_len _ _) (by rw [cutL_flat]; exact HL3.out)
      have hJ := joinK_succ (cutL l3) k hkl
      rw [hx, HI.out] at hJ
      obtain ⟨y, c, hxy⟩ : ∃ y c, x = y ++ [c] := by
        rcases List.eq_nil_or_concat x with h | ⟨y, c, h⟩
        · exact absurd h hxne
        · exact ⟨y, c, by rw [h, List.concat_eq_append]⟩
      obtain ⟨p, hp⟩ : ∃ p, y.length = p := ⟨_, rfl⟩
      have hxs : (str x).size = p + 1 := by rw [hxy, str_size, List.length_append, hp]; rfl
      have hps : p < (str x).size := by omega
      have hgc : (str x)[p]'hps = c := by
        rw [str_get]
        subst hxy
        subst hp
        simp
      have hpl : p ≤ 100000 := by rw [hxy, List.length_append, hp] at hxl; simp at hxl; omega
      have p0 : (0 : Int) ≤ (p : Int) := by omega
      have p1 : (p : Int) < (p : Int) + 1 := by omega
      have p2' : (p : Int) ≤ (p : Int) + 1 := by omega
      have p3 : (p : Int).toNat = p := by omega
      have hex : (str x).extract 0 p = str y := by rw [hxy, str_extract, List.drop_zero, Nat.sub_zero, ← hp, List.take_left]
      have HJ := hid hJ
      have HXY := hid hxy
      have hxl2 : x.length = p + 1 := hxs
      clear hx hxne hkl hJ hxy hxl
      by_cases hc10 : c.toNat = 10
      · have q1 : ((c.toNat : Int) == 10) = true := by rw [hc10]; rfl
        have q1' : (c.toNat == 10) = true := by rw [hc10]; rfl
        have HJ2 : Hid (joinK (cutL l3) (k + 1) = out ++ if y.getLast? = some 13 then y.dropLast else y) := hid (by rw [HJ.out, HXY.out, chop_yes _ c hc10])
        have hys : (str y).size = p := hp
        clear HJ hc10
        rcases List.eq_nil_or_concat y with hy | ⟨z, dd, hy⟩
        · have hp0 : p = 0 := by rw [← hp, hy]; rfl
          subst hp0
          have HI2 : Hid (joinK (cutL l3) (k + 1) = out) := hid (by rw [HJ2.out, hy]; simp)
          clear HI hp hy HJ2 hxl2
          have hno : ¬ 9223372036854775807 < (str out).size + (str y).size := by have h2 : (str out).size = out.length := rfl; omega
          go_wp2_with fail
          go_roundw
          case rel => exact ⟨k + 1, out, by omega, rfl, by go_num, HI2, HB3⟩
          case measure => simp [intOf]; omega
        · rw [List.concat_eq_append] at hy
          obtain ⟨p2, hp2⟩ : ∃ p2, z.length = p2 := ⟨_, rfl⟩
          obtain rfl : p = p2 + 1 := by rw [← hp, hy, List.length_append, hp2]; rfl
          have hps2 : p2 < (str y).size := by omega
          have hgd : (str y)[p2]'hps2 = dd := by
            rw [str_get]
            subst hy
            subst hp2
            simp
          have hez : (str y).extract 0 p2 = str z := by rw [hy, str_extract, List.drop_zero, Nat.sub_zero, ← hp2, List.take_left]
          have t1 : decide ((1 : Int) < (p2 : Int) + 1 + 1) = true := by rw [decide_eq_true_iff]; omega
          have t2 : decide (1 < p2 + 1 + 1) = true := by rw [decide_eq_true_iff]; omega
          have q0 : (0 : Int) ≤ (p2 : Int) := by omega
          have q01 : (p2 : Int) < (p2 : Int) + 1 := by omega
          have q02 : (p2 : Int) ≤ (p2 : Int) + 1 := by omega
          have q03 : (p2 : Int).toNat = p2 := by omega
          have hzl2 : (str z).size = p2 := hp2
          by_cases hd13 : dd.toNat = 13
          · have q2 : ((dd.toNat : Int) == 13) = true := by rw [hd13]; rfl
            have q2' : (dd.toNat == 13) = true := by rw [hd13]; rfl
            have HI2 : Hid (joinK (cutL l3) (k + 1) = out ++ z) := hid (by
              rw [HJ2.out, hy, List.getLast?_concat, List.dropLast_concat, if_pos (by rw [UInt8.toNat_inj.1 (show dd.toNat = (13 : UInt8).toNat from hd13)])])
            clear hd13 HI hp hp2 hy HJ2 hxl2
            have hz : str out ++ str z = str (out ++ z) := str_append _ _
            have hno : ¬ 9223372036854775807 < (str out).size + (str z).size := by have h2 : (str out).size = out.length := rfl; omega
            go_wp2_with fail
            go_roundw
            case rel => exact ⟨k + 1, out ++ z, by omega, rfl, by go_num, HI2, HB3⟩
            case measure => simp [intOf]; omega
          · have q2 : ((dd.toNat : Int) == 13) = false := ne_f hd13
            have q2' := ne_n hd13
            have HI2 : Hid (joinK (cutL l3) (k + 1) = out ++ y) := hid (by
              rw [HJ2.out, if_neg]
              rw [hy, List.getLast?_concat]
              intro e
              injection e with e
              rw [e] at hd13
              exact hd13 rfl)
            clear hd13 HI hp hp2 hy HJ2 hxl2
            have hz : str out ++ str y = str (out ++ y) := str_append _ _
            have hno : ¬ 9223372036854775807 < (str out).size + (str y).size := by have h2 : (str out).size = out.length := rfl; omega
            go_wp2_with fail
            go_roundw
            case rel => exact ⟨k + 1, out ++ y, by omega, rfl, by go_num, HI2, HB3⟩
            case measure => simp [intOf]; omega
      · have q1 : ((c.toNat : Int) == 10) = false := ne_f hc10
        have q1' := ne_n hc10
        have HI2 : Hid (joinK (cutL l3) (k + 1) = out ++ x) := hid (by rw [HJ.out, HXY.out, chop_no _ c hc10])
        clear hc10 HI hp HJ hxl2
        have hz : str out ++ str x = str (out ++ x) := str_append _ _
        have hno : ¬ 9223372036854775807 < (str out).size + (str x).size := by have h2 : (str out).size = out.length := rfl; omega
        go_wp2_with fail
        go_roundw
        case rel => exact ⟨k + 1, out ++ x, by omega, rfl, by go_num, HI2, HB3⟩
        case measure => simp [intOf]; omega
    · have hkm : k = m := by omega
      subst hkm
      have d1 := lt_f hlt
      have d1' := lt_nf hlt
      have HTR := hid (fun X => rtrim17_any out X (by rw [← HI.out]; exact Nat.le_trans (joinK_len _ _) (by rw [cutL_flat]; exact HL3.out)))
      have HF : Hid (fdText l ⟨nm, fr, te, at_⟩ = trimB out) := hid (by rw [HT.out, HM.out, HI.out])
      clear HI HT
      go_wp2_with (go_at_call 59; refine (HTR.out _).mono ?_; rintro e w3 ⟨rfl, rfl⟩)
      go_ret
      exact ⟨by rw [HF.out]; rfl, past HB.out HB3.out⟩
end
section
open Go.RowKit Go.Shelf
set_option linter.unusedVariables false
set_option linter.unusedSimpArgs false
attribute [local go_sem] Oper.semAt_some
/-- A field as it may come in. -/
structure FI where
  nm : List UInt8
  fr : Int
  te : Int
  at_ : Int
deriving DecidableEq
def Fd.toI (f : Fd) : FI := ⟨f.nm, (f.fr : Int), (f.te : Int), (f.at_ : Int)⟩
theorem run_equal_fd (w : World) (x y : FI) : (Op.equalIn 10000 67 (.agg #[.string (str x.nm), .int .i64 x.fr, .int .i64 x.te, .int .i64 x.at_]) (.agg #[.string (str y.nm), .int .i64 y.fr, .int .i64 y.te, .int .i64 y.at_])).run Tryz.prog w = .ok (decide (x = y)) w := by
  rw [run_equalIn_struct w 9999 67 _ _ (by kernel_rfl) (by kernel_rfl)]
  obtain ⟨a, b, c, u⟩ := x
  obtain ⟨d, e, f, v⟩ := y
  by_cases h1 : a = d
  · subst h1
    by_cases h2 : b = e
    · subst h2
      by_cases h3 : c = f
      · subst h3
        by_cases h4 : u = v
        · subst h4
          simp [Program.fieldsOf, Tryz.underlying67, Op.eqFields, go_sem]
        · simp [Program.fieldsOf, Tryz.underlying67, Op.eqFields, go_sem, h4]
      · simp [Program.fieldsOf, Tryz.underlying67, Op.eqFields, go_sem, h3]
    · simp [Program.fieldsOf, Tryz.underlying67, Op.eqFields, go_sem, h2]
  · have q : (str a == str d) = false := by rw [str_eqv]; simpa using h1
    simp [Program.fieldsOf, Tryz.underlying67, Op.eqFields, go_sem, q, h1]
theorem fdC_ne {l : List Fd} (h : 0 < l.length) : l.flatMap fdC ≠ [] := by
  cases l with
  | nil => cases h
  | cons x r => rw [List.flatMap_cons]; simp [fdC]
theorem fd_at {w : World} {A : Option Addr} {l : List Fd} (h : Row w A (l.flatMap fdC)) {k : Nat} (hk : k < l.length) : ∃ b off, A = some ⟨b, off, none⟩ ∧ ∀ (j : Nat) (hj : j < l.length),
    w.cell? ⟨b, off + j * 4, none⟩ = some (.string (str (l[j]'hj).nm)) ∧ w.cell? ⟨b, off + j * 4 + 1, none⟩ = some (.int .i64 ((l[j]'hj).fr : Int)) ∧ w.cell? ⟨b, off + j * 4 + 2, none⟩ = some (.int .i64 ((l[j]'hj).te : Int)) ∧ w.cell? ⟨b, off + j * 4 + 3, none⟩ = some (.int .i64 ((l[j]'hj).at_ : Int)) := by
  obtain ⟨b, off, hA, hc⟩ := h (fdC_ne (by omega))
  refine ⟨b, off, hA, fun j hj => ?_⟩
  have g := fun i hi => fdC_get l j hj i hi
  exact ⟨hc (j * 4 + 0) _ ((g 0 (by omega)).trans rfl), hc (j * 4 + 1) _ ((g 1 (by omega)).trans rfl), hc (j * 4 + 2) _ ((g 2 (by omega)).trans rfl), hc (j * 4 + 3) _ ((g 3 (by omega)).trans rfl)⟩
/-- Is it the first k of them? -/
def inF (fs : List Fd) (g : FI) : Bool := fs.any fun f => decide (g = f.toI)
theorem inF_step (fs : List Fd) (g : FI) (k : Nat) (hk : k < fs.length) : inF (fs.drop k) g = (decide (g = fs[k].toI) || inF (fs.drop (k + 1)) g) := by
  unfold inF
  rw [List.drop_eq_getElem_cons hk, List.any_cons]
set_option maxRecDepth 100000 in
set_option maxHeartbeats 2000000 in
theorem index_fd (A : Option Addr) (n c : Nat) (fs : List Fd) (g : FI) (w : World) (hn : fs.length = n) (ha : Row w A (fs.flatMap fdC)) (hl : n ≤ 100000) :
    Calls Tryz.prog 119 #[.slice A n c, .agg #[.string (str g.nm), .int .i64 g.fr, .int .i64 g.te, .int .i64 g.at_]] w fun e w' => (∃ k : Int, e = .returned (.int .i64 k) ∧ decide (0 ≤ k) = inF fs g) ∧ Below w.heap.size w w' := by
  have HA := hid ha
  have HL := hid hn
  have HB0 := hid ((Below.refl _ w).alloc (Nat.le_refl _) (.cells #[.string (str g.nm), .int .i64 g.fr, .int .i64 g.te, .int .i64 g.at_] 67))
  have HX0 := hid (OwnE.new_ w [.string (str g.nm), .int .i64 g.fr, .int .i64 g.te, .int .i64 g.at_] 67)
  clear ha hn
  go_enter Tryz.func119, Tryz.ntmps119
  go_wp2_with fail
  go_loopw [8] (fun i wr => ∃ k : Nat, k ≤ n ∧ i = .int .i64 (k : Int) ∧ Hid (inF (fs.drop k) g = inF fs g ∧ Below (w.heap.size + 1) (w.alloc (.cells #[.string (str g.nm), .int .i64 g.fr, .int .i64 g.te, .int .i64 g.at_] 67)) wr)) (fun i wr => n - (intOf i).toNat)
  case atStart => exact ⟨0, by omega, rfl, hid ⟨by rw [List.drop_zero], Below.refl _ _⟩⟩
  case round =>
    obtain ⟨k, hk, rfl, hI⟩ := hrel
    have HB1 : Hid (Below w.heap.size w wr) := hid (HB0.out.trans (hI.out.2.mono (Nat.le_succ _)))
    have HX1 : Hid (OwnE wr w.heap.size 67 [.string (str g.nm), .int .i64 g.fr, .int .i64 g.te, .int .i64 g.at_]) := hid (HX0.out.upto hI.out.2 (by omega))
    by_cases hlt : k < n
    · have d1 : decide ((k : Int) < (n : Int)) = true := by simp; omega
      have d1' : decide (k < n) = true := by simpa using hlt
      have hkl : k < fs.length := by rw [HL.out]; exact hlt
      obtain ⟨b, off, rfl, hc⟩ := fd_at HA.out hkl
      have hst := inF_step fs g k hkl
      rw [hI.out.1] at hst
      obtain ⟨x, hx⟩ : ∃ x, fs[k]'hkl = x := ⟨_, rfl⟩
      have p0 := cells_keep HB1.out (hc k hkl).1
      have p1 := cells_keep HB1.out (hc k hkl).2.1
      have p2 := cells_keep HB1.out (hc k hkl).2.2.1
      have p3 := cells_keep HB1.out (hc k hkl).2.2.2
      rw [hx] at p0 p1 p2 p3 hst
      have q0 := HX1.out.cell (j := 0) rfl
      have q1 := HX1.out.cell (j := 1) rfl
      have q2 := HX1.out.cell (j := 2) rfl
      have q3 := HX1.out.cell (j := 3) rfl
      have i0 : (0 : Int) ≤ (k : Int) := by omega
      have i1 : (k : Int) < (n : Int) := by omega
      have i2 : (k : Int).toNat = k := by omega
      have hq := fun W => run_equal_fd W g x.toI
      unfold Fd.toI at hq
      dsimp only at hq
      have HT : Hid ((⟨x.nm, (x.fr : Int), (x.te : Int), (x.at_ : Int)⟩ : FI) = x.toI) := hid rfl
      obtain ⟨t, ht⟩ : ∃ t, decide (g = x.toI) = t := ⟨_, rfl⟩
      rw [HT.out, ht] at hq
      rw [ht] at hst
      have hg : Tryz.prog.eqGuardType Tryz.prog.depth 67 = false := by kernel_rfl
      have HST := hid hst
      clear hc hx hkl ht hst
      go_upto_region 4 with fail
      go_quiet (fail)
      cases t with
      | true =>
        have HF : Hid (true = inF fs g) := hid HST.out.symm
        have hk0 : decide ((0 : Int) ≤ (k : Int)) = true := by simp
        go_wp2_with fail
        go_ret
        exact ⟨⟨(k : Int), rfl, by rw [← HF.out]; exact hk0⟩, bq HB1.out _⟩
      | false =>
        have HF : Hid (inF (fs.drop (k + 1)) g = inF fs g) := hid HST.out.symm
        go_wp2_with fail
        go_roundw
        case rel => exact ⟨k + 1, by omega, by go_num, hid ⟨HF.out, (hI.out.2.trans (bq (Below.refl _ _) _))⟩⟩
        case measure => simp [intOf]; omega
    · have d1 : decide ((k : Int) < (n : Int)) = false := by simp; omega
      have d1' : decide (k < n) = false := by simpa using hlt
      have HF : Hid (inF fs g = false) := hid (by rw [← hI.out.1, List.drop_of_length_le (by rw [HL.out]; omega)]; rfl)
      go_wp2_with fail
      go_ret
      exact ⟨⟨-1, rfl, by rw [HF.out]; rfl⟩, HB1.out⟩
set_option maxRecDepth 100000 in
set_option maxHeartbeats 2000000 in
theorem contains_fd (A : Option Addr) (n c : Nat) (fs : List Fd) (g : FI) (w : World) (hn : fs.length = n) (ha : Row w A (fs.flatMap fdC)) (hl : n ≤ 100000) :
    Calls Tryz.prog 100 #[.slice A n c, .agg #[.string (str g.nm), .int .i64 g.fr, .int .i64 g.te, .int .i64 g.at_]] w fun e w' => e = .returned (.bool (inF fs g)) ∧ Below w.heap.size w w' := by
  have HB0 := hid ((Below.refl _ w).alloc (Nat.le_refl _) (.cells #[.string (str g.nm), .int .i64 g.fr, .int .i64 g.te, .int .i64 g.at_] 67))
  have HA := hid (ha.below HB0.out)
  have HL := hid hn
  clear ha hn
  go_enter Tryz.func100, Tryz.ntmps100
  go_wp2_with (go_at_call 119; refine (index_fd A n c fs g _ HL.out HA.out hl).mono ?_; rintro e w1 ⟨⟨k, rfl, hk⟩, hb⟩; have HB := hid (past HB0.out hb); clear hb)
  go_ret
  exact ⟨rfl, HB.out⟩
end
section
open Go.RowKit Go.Shelf
set_option linter.unusedVariables false
set_option linter.unusedSimpArgs false
attribute [local go_sem] Oper.semAt_some
def textI (l : List UInt8) (g : FI) : List UInt8 := if inF (fieldsL l) g = true then fdText l ⟨g.nm, g.fr.toNat, g.te.toNat, g.at_.toNat⟩ else []
theorem inF_mem {fs : List Fd} {g : FI} (h : inF fs g = true) : ∃ f ∈ fs, g = f.toI := by
  unfold inF at h
  obtain ⟨f, hf, he⟩ := List.any_eq_true.1 h
  exact ⟨f, hf, by simpa using he⟩
theorem mem_inF {fs : List Fd} {f : Fd} (h : f ∈ fs) : inF fs f.toI = true := List.any_eq_true.2 ⟨f, h, by simp⟩
theorem textI_mem {l : List UInt8} {f : Fd} (h : f ∈ fieldsL l) : textI l f.toI = fdText l f := by
  unfold textI
  rw [if_pos (mem_inF h)]
  rfl
theorem field_bounds {l : List UInt8} {f : Fd} (h : f ∈ fieldsL l) : f.at_ ≤ f.te ∧ f.te ≤ l.length ∧ f.fr ≤ l.length ∧ f.nm.length ≤ l.length := by
  have h1 := field_ok h
  have h2 := split_le l
  have := h1.1.h1; have := h1.1.h2; have := h1.1.h4
  omega
theorem fields_len (l : List UInt8) : (fieldsL l).length ≤ l.length := by
  have h : ∀ (ls : List (List UInt8)) (a : Nat) (out : List Fd) (o : Bool), (fdG a ls out o).length ≤ out.length + ls.length := fun ls => by
    have hs : ∀ (o : List Fd) (t : Nat), (setTo o t).length = o.length := fun o t => by
      rcases List.eq_nil_or_concat o with rfl | ⟨i, f, rfl⟩
      · rfl
      · rw [List.concat_eq_append, setTo_snoc, List.length_append, List.length_append]; rfl
    induction ls with
    | nil => intro a out o; exact Nat.le_refl _
    | cons x r ih =>
      intro a out o
      rw [fdG]
      split
      · omega
      · split
        · refine Nat.le_trans (ih _ _ _) ?_
          rw [List.length_cons]
          split
          · rw [hs]; omega
          · omega
        · split
          · refine Nat.le_trans (ih _ _ _) ?_
            rw [List.length_cons]; omega
          · refine Nat.le_trans (ih _ _ _) ?_
            rw [List.length_cons, List.length_append]
            simp only [List.length_cons, List.length_nil]
            omega
  have h1 := h (cutL l) 0 [] false
  have h2 := cutL_len l
  unfold fieldsL
  simp only [List.length_nil] at h1
  omega
set_option maxRecDepth 100000 in
set_option maxHeartbeats 4000000 in
theorem Text_any (A : Option Addr) (n c : Nat) (l : List UInt8) (g : FI) (w : World) (ho : Oct w A n l) (hnc : n ≤ c) (hl : n ≤ 100000) :
    Calls Tryz.prog 72 #[.slice A n c, .agg #[.string (str g.nm), .int .i64 g.fr, .int .i64 g.te, .int .i64 g.at_]] w fun e w' => e = .returned (.string (str (textI l g))) ∧ Below w.heap.size w w' := by
  obtain ⟨wa, hwa⟩ : ∃ wa, w.alloc (.cells #[.string (str g.nm), .int .i64 g.fr, .int .i64 g.te, .int .i64 g.at_] 67) = wa := ⟨_, rfl⟩
  have BA : Below w.heap.size w wa := by rw [← hwa]; exact (Below.refl _ w).alloc (Nat.le_refl _) _
  have X0 : OwnE wa w.heap.size 67 [.string (str g.nm), .int .i64 g.fr, .int .i64 g.te, .int .i64 g.at_] := by rw [← hwa]; exact OwnE.new_ w _ _
  have HO := hid ho
  have HN : Hid (l.length = n) := hid ho.1
  have HNC := hid hnc
  have HBA := hid BA
  have HFL := fields_len l
  have HFN : Hid ((fieldsL l).length ≤ 100000) := hid (by have := HN.out; omega)
  have HFA := hid (fun W (h : Below w.heap.size w W) => fields_any A n c l W (HO.out.below h) HNC.out hl)
  have HCT := hid (fun A2 c2 W (h : Row W A2 ((fieldsL l).flatMap fdC)) => contains_fd A2 (fieldsL l).length c2 (fieldsL l) g W rfl h HFN.out)
  obtain ⟨k, hk⟩ : ∃ k, (fieldsL l).length = k := ⟨_, rfl⟩
  obtain ⟨t, ht⟩ : ∃ t, inF (fieldsL l) g = t := ⟨_, rfl⟩
  rw [hk] at HFA
  rw [ht, hk] at HCT
  have HT := hid ht
  clear ho hnc HFL BA hk
  go_enter Tryz.func72, Tryz.ntmps72
  go_upto_region 1 with fail
  clear hwa
  have hS : (wa.drew.cell? ⟨w.heap.size, 0, none⟩ = some (.string (str g.nm)) ∧ wa.drew.cell? ⟨w.heap.size, 1, none⟩ = some (.int .i64 g.fr) ∧ wa.drew.cell? ⟨w.heap.size, 2, none⟩ = some (.int .i64 g.te) ∧ wa.drew.cell? ⟨w.heap.size, 3, none⟩ = some (.int .i64 g.at_)) ∧ Hid (Below wa.heap.size wa wa.drew) := ⟨⟨X0.cell (j := 0) rfl, X0.cell (j := 1) rfl, X0.cell (j := 2) rfl, X0.cell (j := 3) rfl⟩, hid (bq (Below.refl _ wa) 1)⟩
  have HX0 := hid X0
  clear X0
  refine wp_region_noPanic ?_
  refine wp_region_held_drew (S := (fun W => (W.cell? ⟨w.heap.size, 0, none⟩ = some (.string (str g.nm)) ∧ W.cell? ⟨w.heap.size, 1, none⟩ = some (.int .i64 g.fr) ∧ W.cell? ⟨w.heap.size, 2, none⟩ = some (.int .i64 g.te) ∧ W.cell? ⟨w.heap.size, 3, none⟩ = some (.int .i64 g.at_)) ∧ Hid (Below wa.heap.size wa W))) (by kernel_rfl) (by first | assumption | trivial) (fun hHeld => ?_)
  refine wpAnyH_take (i := 0) (v := ?_) rfl (by kernel_rfl) (by kernel_rfl) (by kernel_rfl) (fun _ _ _ h => h) (Or.inl ⟨by kernel_rfl, ?_⟩) (by first | assumption | trivial) ?_
  rotate_left
  · (intro wS hSw; (try dsimp only at hSw); go_simp; try with_reducible rfl)
  (try simp only [List.append_eq, List.cons_append, List.nil_append, List.getElem_toArray, List.getElem_cons_succ, List.getElem_cons_zero, Act.put, List.setIfInBounds_toArray, List.set_cons_zero, List.set_cons_succ])
  refine wpAnyH_take (i := 2) (v := ?_) rfl (by kernel_rfl) (by kernel_rfl) (by kernel_rfl) (fun _ _ _ h => h) (Or.inl ⟨by kernel_rfl, ?_⟩) (by first | assumption | trivial) ?_
  rotate_left
  · (intro wS hSw; (try dsimp only at hSw); go_simp; try with_reducible rfl)
  (try simp only [List.append_eq, List.cons_append, List.nil_append, List.getElem_toArray, List.getElem_cons_succ, List.getElem_cons_zero, Act.put, List.setIfInBounds_toArray, List.set_cons_zero, List.set_cons_succ])
  refine wpAnyH_ready (rs := [1]) (by kernel_rfl) (by simp) ?_
  refine AllReadyH.cons rfl (fun K hK => ?_) AllReadyH.nil
  go_simp
  (go_at_call 69; refine (HFA.out _ (past HBA.out hHeld.2.out)).mono ?_; rintro e w5 ⟨v, rfl, ho5, b5⟩; have hS5 : (w5.cell? ⟨w.heap.size, 0, none⟩ = some (.string (str g.nm)) ∧ w5.cell? ⟨w.heap.size, 1, none⟩ = some (.int .i64 g.fr) ∧ w5.cell? ⟨w.heap.size, 2, none⟩ = some (.int .i64 g.te) ∧ w5.cell? ⟨w.heap.size, 3, none⟩ = some (.int .i64 g.at_)) ∧ Hid (Below wa.heap.size wa w5) := ⟨⟨cells_keep b5 hHeld.1.1, cells_keep b5 hHeld.1.2.1, cells_keep b5 hHeld.1.2.2.1, cells_keep b5 hHeld.1.2.2.2⟩, hid (past hHeld.2.out b5)⟩; obtain ⟨A5, c5, rfl, -⟩ := own_slice ho5; have HR5 := hid (Row.of_own ho5); clear b5 hHeld ho5)
  go_wp2_with fail
  refine hK.out _ _ (by first | assumption | trivial) (fun hHeld => ?_)
  clear hK K
  (try simp only [List.append_eq, List.cons_append, List.nil_append, List.getElem_toArray, List.getElem_cons_succ, List.getElem_cons_zero, Act.put, List.setIfInBounds_toArray, List.set_cons_zero, List.set_cons_succ])
  refine wpAnyH_ready (rs := [3]) (by kernel_rfl) (by simp) ?_
  refine AllReadyH.cons rfl (fun K hK => ?_) AllReadyH.nil
  go_simp
  (go_at_call 100; refine (HCT.out A5 c5 _ HR5.out).mono ?_; rintro e w6 ⟨rfl, b6⟩; have hS6 : (w6.cell? ⟨w.heap.size, 0, none⟩ = some (.string (str g.nm)) ∧ w6.cell? ⟨w.heap.size, 1, none⟩ = some (.int .i64 g.fr) ∧ w6.cell? ⟨w.heap.size, 2, none⟩ = some (.int .i64 g.te) ∧ w6.cell? ⟨w.heap.size, 3, none⟩ = some (.int .i64 g.at_)) ∧ Hid (Below wa.heap.size wa w6) := ⟨⟨cells_keep b6 hHeld.1.1, cells_keep b6 hHeld.1.2.1, cells_keep b6 hHeld.1.2.2.1, cells_keep b6 hHeld.1.2.2.2⟩, hid (past hHeld.2.out b6)⟩; clear b6 hHeld)
  go_wp2_with fail
  refine hK.out _ _ (by first | assumption | trivial) (fun hHeld => ?_)
  clear hK K
  (try simp only [List.append_eq, List.cons_append, List.nil_append, List.getElem_toArray, List.getElem_cons_succ, List.getElem_cons_zero, Act.put, List.setIfInBounds_toArray, List.set_cons_zero, List.set_cons_succ])
  refine wpAnyH_take (i := 4) (v := ?_) rfl (by kernel_rfl) (by kernel_rfl) (by kernel_rfl) (fun _ _ _ h => h) (Or.inl ⟨by kernel_rfl, ?_⟩) (by first | assumption | trivial) ?_
  rotate_left
  · (intro wS hSw; (try dsimp only at hSw); go_simp; try with_reducible rfl)
  (try simp only [List.append_eq, List.cons_append, List.nil_append, List.getElem_toArray, List.getElem_cons_succ, List.getElem_cons_zero, Act.put, List.setIfInBounds_toArray, List.set_cons_zero, List.set_cons_succ])
  refine wpAnyH_done (by kernel_rfl) ?_ _
  refine NoPanic.normal ?_
  have B6 := hid (past HBA.out hHeld.2.out)
  cases t with
  | false =>
    have HF : Hid (textI l g = []) := hid (by unfold textI; rw [HT.out, if_neg (by decide)])
    clear ht
    go_wp2_with fail
    go_ret
    exact ⟨by rw [HF.out]; rfl, B6.out⟩
  | true =>
    obtain ⟨f, hf, hfg⟩ := inF_mem HT.out
    subst hfg
    have HF : Hid (textI l f.toI = fdText l f) := hid (textI_mem hf)
    obtain ⟨hb1, hb2, hb3, -⟩ := field_bounds hf
    have HTX := hid (text_any A n c l f w6 (HO.out.below B6.out) HNC.out hl hb1 (by rw [← HN.out]; exact hb2) (by rw [← HN.out]; exact hb3))
    have k0 : w6.cell? ⟨w.heap.size, 0, none⟩ = some (.string (str f.nm)) := hHeld.1.1
    have k1 : w6.cell? ⟨w.heap.size, 1, none⟩ = some (.int .i64 (f.fr : Int)) := hHeld.1.2.1
    have k2 : w6.cell? ⟨w.heap.size, 2, none⟩ = some (.int .i64 (f.te : Int)) := hHeld.1.2.2.1
    have k3 : w6.cell? ⟨w.heap.size, 3, none⟩ = some (.int .i64 (f.at_ : Int)) := hHeld.1.2.2.2
    clear ht hf hb1 hb2 hb3 hHeld hS5 hS6
    go_wp2_with (go_at_call 90; refine HTX.out.mono ?_; rintro e w7 ⟨rfl, b7⟩; have B7 := hid (past B6.out b7); clear b7)
    go_ret
    exact ⟨by rw [HF.out]; rfl, B7.out⟩
/-- The text of the first field of a name. -/
def findF (l : List UInt8) (name : List UInt8) (fs : List Fd) : Option (List UInt8) := (fs.find? fun f => alikeL f.nm name).map (fdText l)
theorem findF_step (l name : List UInt8) (fs : List Fd) (k : Nat) (hk : k < fs.length) : findF l name (fs.drop k) = if alikeL fs[k].nm name = true then some (fdText l fs[k]) else findF l name (fs.drop (k + 1)) := by
  unfold findF
  rw [List.drop_eq_getElem_cons hk, List.find?_cons]
  cases h : alikeL fs[k].nm name <;> rfl
def fdO : Option (List UInt8) → Value
  | none => .tuple #[.string ⟨#[]⟩, .bool false]
  | some t => .tuple #[.string (str t), .bool true]
set_option maxRecDepth 100000 in
set_option maxHeartbeats 4000000 in
theorem find_any (A : Option Addr) (n c : Nat) (l name : List UInt8) (w : World) (ho : Oct w A n l) (hnc : n ≤ c) (hl : n ≤ 100000) :
    Calls Tryz.prog 66 #[.slice A n c, .string (str name)] w fun e w' => e = .returned (fdO (findF l name (fieldsL l))) ∧ Below w.heap.size w w' := by
  have HO := hid ho
  have HN : Hid (l.length = n) := hid ho.1
  have HNC := hid hnc
  have hkl := fields_len l
  have HFA := hid (fields_any A n c l w HO.out HNC.out hl)
  obtain ⟨k, hk⟩ : ∃ k, (fieldsL l).length = k := ⟨_, rfl⟩
  rw [hk] at HFA hkl
  have hkn : k ≤ 100000 := by have := HN.out; omega
  have HK := hid hk
  clear ho hnc hkl hk
  go_enter Tryz.func66, Tryz.ntmps66
  go_wp2_with (go_at_call 69; refine HFA.out.mono ?_; rintro e w5 ⟨v, rfl, ho5, b5⟩; have B5 := hid b5; obtain ⟨A5, c5, rfl, -⟩ := own_slice ho5; have HR5 := hid (Row.of_own ho5); clear b5 ho5)
  clear HFA
  go_loopw [11] (fun i wr => ∃ j : Nat, j ≤ k ∧ i = .int .i64 (j : Int) ∧ Hid (findF l name ((fieldsL l).drop j) = findF l name (fieldsL l) ∧ Below w5.heap.size w5 wr)) (fun i wr => k - (intOf i).toNat)
  case atStart => exact ⟨0, by omega, rfl, hid ⟨by rw [List.drop_zero], Below.refl _ _⟩⟩
  case round =>
    obtain ⟨j, hj, rfl, HI⟩ := hrel
    by_cases hlt : j < k
    · have d1 : decide ((j : Int) < (k : Int)) = true := by simp; omega
      have d1' : decide (j < k) = true := by simpa using hlt
      have hkl : j < (fieldsL l).length := by rw [HK.out]; exact hlt
      obtain ⟨b, off, rfl, hc⟩ := fd_at HR5.out hkl
      have hst := findF_step l name (fieldsL l) j hkl
      rw [HI.out.1] at hst
      have hmem : (fieldsL l)[j]'hkl ∈ fieldsL l := List.getElem_mem hkl
      obtain ⟨f, hf⟩ : ∃ f, (fieldsL l)[j]'hkl = f := ⟨_, rfl⟩
      rw [hf] at hst hmem
      have HB1 := hid HI.out.2
      have p0 := cells_keep HB1.out (hc j hkl).1
      have p1 := cells_keep HB1.out (hc j hkl).2.1
      have p2 := cells_keep HB1.out (hc j hkl).2.2.1
      have p3 := cells_keep HB1.out (hc j hkl).2.2.2
      rw [hf] at p0 p1 p2 p3
      have i0 : (0 : Int) ≤ (j : Int) := by omega
      have i1 : (j : Int) < (k : Int) := by omega
      have i2 : (j : Int).toNat = j := by omega
      have hb := field_bounds hmem
      have hln := HN.out
      have HAL := hid (fun X => halike_any f.nm name X (by omega))
      have HTX := hid (fun X hX => text_any A n c l f X (HO.out.below hX) HNC.out hl hb.1 (by omega) (by omega))
      obtain ⟨t, ht⟩ : ∃ t, alikeL f.nm name = t := ⟨_, rfl⟩
      rw [ht] at HAL hst
      have HST := hid hst
      clear hc hkl hf ht hst hb hmem hln
      go_upto_region 4 with fail
      obtain ⟨W, hW⟩ : ∃ W, wr.alloc (.cells #[.string (str f.nm), .int .i64 (f.fr : Int), .int .i64 (f.te : Int), .int .i64 (f.at_ : Int)] 67) = W := ⟨_, rfl⟩
      have hE : OwnE W wr.heap.size 67 [.string (str f.nm), .int .i64 (f.fr : Int), .int .i64 (f.te : Int), .int .i64 (f.at_ : Int)] := by rw [← hW]; exact OwnE.new_ wr _ _
      have hbW : Below w5.heap.size w5 W := by rw [← hW]; exact HB1.out.alloc HB1.out.size _
      have c0 := hE.cell (j := 0) rfl
      have c1 := hE.cell (j := 1) rfl
      have c2 := hE.cell (j := 2) rfl
      have c3 := hE.cell (j := 3) rfl
      have HBW := hid hbW
      rw [hW]
      clear hW hE hbW p0 p1 p2 p3 HB1
      cases t with
      | true =>
        have HF : Hid (findF l name (fieldsL l) = some (fdText l f)) := hid (by rw [HST.out, if_pos rfl])
        clear HST HI
        go_wp2_with (first
          | (go_at_call 71; refine (HAL.out _).mono ?_; rintro e w7 ⟨rfl, b7⟩; have k0 := cells_keep b7 c0; have k1 := cells_keep b7 c1; have k2 := cells_keep b7 c2; have k3 := cells_keep b7 c3; have HB7 := hid (past B5.out (past HBW.out b7)); clear b7)
          | (go_at_call 90; refine (HTX.out _ HB7.out).mono ?_; rintro e w8 ⟨rfl, b8⟩; have HB8 := hid (past HB7.out b8); clear b8))
        go_ret2
        exact ⟨by rw [HF.out]; rfl, HB8.out⟩
      | false =>
        have HF : Hid (findF l name ((fieldsL l).drop (j + 1)) = findF l name (fieldsL l)) := hid (by rw [HST.out, if_neg (by decide)])
        clear HST HI
        go_wp2_with (go_at_call 71; refine (HAL.out _).mono ?_; rintro e w7 ⟨rfl, b7⟩; have HB7 := hid (past HBW.out b7); clear b7)
        go_roundw
        case rel => exact ⟨j + 1, by omega, by go_num, hid ⟨HF.out, HB7.out⟩⟩
        case measure => simp [intOf]; omega
    · have d1 : decide ((j : Int) < (k : Int)) = false := by simp; omega
      have d1' : decide (j < k) = false := by simpa using hlt
      have HF : Hid (findF l name (fieldsL l) = none) := hid (by rw [← HI.out.1, List.drop_of_length_le (by rw [HK.out]; omega)]; rfl)
      have HB1 := hid (past B5.out HI.out.2)
      clear HI
      go_wp2_with fail
      go_ret2
      exact ⟨by rw [HF.out]; rfl, HB1.out⟩
end
section
open Go.RowKit Go.Shelf
set_option linter.unusedVariables false
set_option linter.unusedSimpArgs false
attribute [local go_sem] Oper.semAt_some
set_option maxRecDepth 100000 in
set_option maxHeartbeats 4000000 in
theorem rfind_any (l name : List UInt8) (w : World) (hl : l.length ≤ 100000) :
    Calls Tryz.prog 28 #[.string (str l), .string (str name)] w fun e w' => e = .returned (fdO (findF l name (fieldsL l))) ∧ Below w.heap.size w w' := by
  have HHL := hid hl
  have hkl := fields_len l
  have HFA := hid (rfields_any l w hl)
  go_enter Tryz.func28, Tryz.ntmps28
  go_wp2_with (go_at_call 30; refine HFA.out.mono ?_; rintro e w5 ⟨A5, k, c5, rfl, hk, hkc, ho5, b5⟩; have B5 := hid b5; have HR5 := hid (Row.of_own ho5); have HK := hid hk; clear b5 ho5 hk)
  have hkn : k ≤ 100000 := by have := HK.out; omega
  clear HFA hkl
  go_loopw [7] (fun i wr => ∃ j : Nat, j ≤ k ∧ i = .int .i64 (j : Int) ∧ Hid (findF l name ((fieldsL l).drop j) = findF l name (fieldsL l) ∧ Below w5.heap.size w5 wr)) (fun i wr => k - (intOf i).toNat)
  case atStart => exact ⟨0, by omega, rfl, hid ⟨by rw [List.drop_zero], Below.refl _ _⟩⟩
  case round =>
    obtain ⟨j, hj, rfl, HI⟩ := hrel
    by_cases hlt : j < k
    · have d1 : decide ((j : Int) < (k : Int)) = true := by simp; omega
      have d1' : decide (j < k) = true := by simpa using hlt
      have hkl : j < (fieldsL l).length := by rw [HK.out]; exact hlt
      obtain ⟨b, off, rfl, hc⟩ := fd_at HR5.out hkl
      have hst := findF_step l name (fieldsL l) j hkl
      rw [HI.out.1] at hst
      have hmem : (fieldsL l)[j]'hkl ∈ fieldsL l := List.getElem_mem hkl
      obtain ⟨f, hf⟩ : ∃ f, (fieldsL l)[j]'hkl = f := ⟨_, rfl⟩
      rw [hf] at hst hmem
      have HB1 := hid HI.out.2
      have p0 := cells_keep HB1.out (hc j hkl).1
      have HC : Hid (∀ X, Below w5.heap.size w5 X → X.cell? ⟨b, off + j * 4, none⟩ = some (.string (str f.nm)) ∧ X.cell? ⟨b, off + j * 4 + 1, none⟩ = some (.int .i64 (f.fr : Int)) ∧ X.cell? ⟨b, off + j * 4 + 2, none⟩ = some (.int .i64 (f.te : Int)) ∧ X.cell? ⟨b, off + j * 4 + 3, none⟩ = some (.int .i64 (f.at_ : Int))) := hid (fun X hX => by
        have h := hc j hkl
        rw [hf] at h
        exact ⟨cells_keep hX h.1, cells_keep hX h.2.1, cells_keep hX h.2.2.1, cells_keep hX h.2.2.2⟩)
      rw [hf] at p0
      have i0 : (0 : Int) ≤ (j : Int) := by omega
      have i1 : (j : Int) < (k : Int) := by omega
      have i2 : (j : Int).toNat = j := by omega
      have hb := field_bounds hmem
      have HAL := hid (fun X => alike_any f.nm name X (by omega))
      have HTX := hid (fun X => rtext_any l f X HHL.out hb.1 hb.2.1)
      obtain ⟨t, ht⟩ : ∃ t, alikeL f.nm name = t := ⟨_, rfl⟩
      rw [ht] at HAL hst
      have HST := hid hst
      clear hc hkl hf ht hst hb hmem
      cases t with
      | true =>
        have HF : Hid (findF l name (fieldsL l) = some (fdText l f)) := hid (by rw [HST.out, if_pos rfl])
        clear HST HI
        go_wp2_with (first
          | (go_at_call 17; refine (HAL.out _).mono ?_; rintro e w7 ⟨rfl, b7⟩; have HB7 := hid (past HB1.out b7); have k0 := (HC.out _ HB7.out).1; have k1 := (HC.out _ HB7.out).2.1; have k2 := (HC.out _ HB7.out).2.2.1; have k3 := (HC.out _ HB7.out).2.2.2; clear b7)
          | (go_at_call 32; refine (HTX.out _).mono ?_; rintro e w8 ⟨rfl, b8⟩; have HB8 := hid (past HB7.out b8); clear b8))
        go_ret2
        exact ⟨by rw [HF.out]; rfl, past B5.out HB8.out⟩
      | false =>
        have HF : Hid (findF l name ((fieldsL l).drop (j + 1)) = findF l name (fieldsL l)) := hid (by rw [HST.out, if_neg (by decide)])
        clear HST HI
        go_wp2_with (go_at_call 17; refine (HAL.out _).mono ?_; rintro e w7 ⟨rfl, b7⟩; have HB7 := hid (past HB1.out b7); clear b7)
        go_roundw
        case rel => exact ⟨j + 1, by omega, by go_num, hid ⟨HF.out, HB7.out⟩⟩
        case measure => simp [intOf]; omega
    · have d1 : decide ((j : Int) < (k : Int)) = false := by simp; omega
      have d1' : decide (j < k) = false := by simpa using hlt
      have HF : Hid (findF l name (fieldsL l) = none) := hid (by rw [← HI.out.1, List.drop_of_length_le (by rw [HK.out]; omega)]; rfl)
      have HB1 := hid (past B5.out HI.out.2)
      clear HI
      go_wp2_with fail
      go_ret2
      exact ⟨by rw [HF.out]; rfl, HB1.out⟩
/-- Is a name one of some? -/
def oneOf (ns : List (List UInt8)) (nm : List UInt8) : Bool := ns.any fun s => alikeL s nm
theorem oneOf_step (ns : List (List UInt8)) (nm : List UInt8) (k : Nat) (hk : k < ns.length) : oneOf (ns.drop k) nm = (alikeL ns[k] nm || oneOf (ns.drop (k + 1)) nm) := by
  unfold oneOf
  rw [List.drop_eq_getElem_cons hk, List.any_cons]
theorem sv_at {w : World} {A : Option Addr} {ns : List (List UInt8)} (h : Row w A (ns.map SV)) {k : Nat} (hk : k < ns.length) : ∃ b off, A = some ⟨b, off, none⟩ ∧ ∀ (j : Nat) (hj : j < ns.length), w.cell? ⟨b, off + j, none⟩ = some (.string (str (ns[j]'hj))) := by
  obtain ⟨b, off, hA, hc⟩ := h (by intro e; have := congrArg List.length e; simp at this; subst this; cases hk)
  exact ⟨b, off, hA, fun j hj => hc j _ (by rw [List.getElem?_map, List.getElem?_eq_getElem hj]; rfl)⟩
end
end Go.Proofs.YtonjadmldgloaaaGreatDoor.D17
