/-
  What the first remark of signs says: the document's walk. A part of the proof: see the head of the text that ends in 'Law'.
-/
import Derived.Test.YtdanhdiinkgjnaaDoorAd10
namespace Go.Proofs.YtdanhdiinkgjnaaDoor
open Go.RowKit
set_option linter.unusedVariables false
attribute [local go_sem] Oper.semAt_some

def remR : Bool → List UInt8 → List Sg → List UInt8
  | _, acc, [] => acc
  | i, acc, x :: l => if x.o = true then remR true acc l else if x.s = true then acc else remR i (if i = true ∧ x.r = true then acc ++ [x.c] else acc) l
def ltrim (l : List UInt8) : List UInt8 := l.dropWhile bl
def rtrim (l : List UInt8) : List UInt8 := (l.reverse.dropWhile bl).reverse
theorem bl_contains (c : UInt8) : ([32, 9] : List UInt8).contains c = bl c := by
  unfold bl
  have e : ∀ k : UInt8, (c == k) = (c.toNat == k.toNat) := fun k => by
    rw [Bool.eq_iff_iff, beq_iff_eq, beq_iff_eq]
    exact ⟨fun h => by rw [h], fun h => UInt8.toNat_inj.1 h⟩
  simp only [List.contains_cons, List.contains_nil, Bool.or_false, e]
  rfl
theorem trimB_eq (l : List UInt8) : trimB l = ltrim (rtrim l) := by
  unfold trimB Lib.trimS Lib.trimLeftS Lib.trimRightS ltrim rtrim
  have e : (fun x => ([32, 9] : List UInt8).contains x) = bl := funext bl_contains
  rw [e]
theorem rtrim_append (l : List UInt8) (c : UInt8) : rtrim (l ++ [c]) = if bl c = true then rtrim l else l ++ [c] := by
  unfold rtrim
  rw [List.reverse_append, List.reverse_singleton, List.singleton_append, List.dropWhile_cons]
  split
  · rfl
  · rw [List.reverse_cons, List.reverse_reverse]
theorem rtrim_nil : rtrim [] = [] := rfl
theorem ltrim_rtrim (l : List UInt8) : ltrim (rtrim l) = rtrim (ltrim l) := by
  induction l with
  | nil => rfl
  | cons c l ih =>
    by_cases hc : bl c = true
    · have e1 : ltrim (c :: l) = ltrim l := by unfold ltrim; rw [List.dropWhile_cons, if_pos hc]
      rw [e1, ← ih]
      -- c is blank
      by_cases hr : rtrim l = []
      · have : rtrim (c :: l) = [] := by
          unfold rtrim at hr ⊢
          rw [List.reverse_cons, List.dropWhile_append]
          have h2 : l.reverse.dropWhile bl = [] := by
            have := congrArg List.reverse hr
            rw [List.reverse_reverse] at this
            exact this
          rw [h2]
          simp [List.dropWhile_cons, hc]
        rw [this, hr]
      · have : rtrim (c :: l) = c :: rtrim l := by
          unfold rtrim at hr ⊢
          rw [List.reverse_cons, List.dropWhile_append]
          have h2 : (l.reverse.dropWhile bl).isEmpty = false := by
            cases h : l.reverse.dropWhile bl with
            | nil => rw [h] at hr; exact absurd rfl hr
            | cons a b => rfl
          rw [h2]
          simp
        rw [this]
        unfold ltrim
        rw [List.dropWhile_cons, if_pos hc]
    · have e1 : ltrim (c :: l) = c :: l := by unfold ltrim; rw [List.dropWhile_cons, if_neg hc]
      have e2 : ∃ r, rtrim (c :: l) = c :: r := by
        unfold rtrim
        rw [List.reverse_cons, List.dropWhile_append]
        split
        · exact ⟨[], by rw [List.dropWhile_cons, if_neg hc]; rfl⟩
        · exact ⟨_, by rw [List.reverse_append]; rfl⟩
      obtain ⟨r, hr⟩ := e2
      rw [e1, hr]
      unfold ltrim
      rw [List.dropWhile_cons, if_neg hc]
structure RkI (w wr : World) (xs : List Sg) (k : Nat) (i : Bool) (acc : List UInt8) : Prop where
  bel : Below w.heap.size w wr
  eq : remR false [] xs = remR i acc (xs.drop k)
  len : acc.length ≤ k
def szS : Value → Nat
  | .string b => b.size
  | _ => 0
theorem ltrim_cons (c : UInt8) (r : List UInt8) (h : bl c = true) : ltrim (c :: r) = ltrim r := by unfold ltrim; rw [List.dropWhile_cons, if_pos h]
theorem ltrim_stop (c : UInt8) (r : List UInt8) (h : bl c = false) : ltrim (c :: r) = c :: r := by unfold ltrim; rw [List.dropWhile_cons, if_neg (by rw [h]; decide)]
theorem snoc_of (l : List UInt8) (n : Nat) (h : l.length = n + 1) : ∃ (r : List UInt8) (c : UInt8), l = r ++ [c] ∧ r.length = n := by
  refine ⟨l.take n, l[n]'(by omega), ?_, by rw [List.length_take]; omega⟩
  rw [← List.take_succ_eq_append_getElem (by omega), List.take_of_length_le (by omega)]
set_option maxRecDepth 100000 in
set_option maxHeartbeats 8000000 in
theorem remark_any (xs : List Sg) (A : Option Addr) (n cp : Nat) (hn : xs.length = n) (w : World) (hr : Row w A (xs.flatMap sgC)) (hl : n ≤ 100000) :
    Calls Tryd.prog 20 #[.slice A n cp] w fun e w' => e = .returned (.string (str (trimB (remR false [] xs)))) ∧ Below w.heap.size w w' := by
  have HR := hid hr
  have HN := hid hn
  have I0 := hid (show RkI w w xs 0 false [] from ⟨Below.refl _ _, rfl, Nat.le_refl _⟩)
  clear hr hn
  go_enter Tryd.func20, Tryd.ntmps20
  go_upto_block 0 with fail
  go_cut [3, 4, 5] from 6 to 38 (fun s3 s4 s5 wx => ∃ y : List UInt8, s3 = .string (str y) ∧ Hid (remR false [] xs = y) ∧ Hid (Below w.heap.size w wx) ∧ Hid (y.length ≤ n))
  case first =>
    go_wp2_with fail
    go_loopw [3, 4, 5] (fun v3 v4 v5 wr => ∃ (k : Nat) (i : Bool) (acc : List UInt8), k ≤ n ∧ v3 = .string (str acc) ∧ v4 = .bool i ∧ v5 = .int .i64 (k : Int) ∧ Hid (RkI w wr xs k i acc)) (fun v3 v4 v5 wr => n - (intOf v5).toNat)
    case atStart => exact ⟨0, false, [], Nat.zero_le _, rfl, rfl, rfl, I0⟩
    case round =>
      clear I0
      obtain ⟨k, i, acc, hk2, rfl, rfl, rfl, HI⟩ := hrel
      have BL := hid HI.out.bel
      have hal : acc.length ≤ n := by have := HI.out.len; omega
      by_cases hlt : k < n
      · have d1 : decide ((k : Int) < (n : Int)) = true := by simp; omega
        have d1' : decide (k < n) = true := by simp; omega
        have hkl : k < xs.length := by rw [HN.out]; exact hlt
        have e0 : (0 : Int) ≤ (k : Int) := by omega
        have e2 : (k : Int) < (n : Int) := by omega
        have e3 : (k : Int).toNat = k := by omega
        have HRK := hid (HR.out.below HI.out.bel)
        obtain ⟨b, off, rfl, hcell⟩ := sg_at HRK.out hkl
        have hz := hcell k hkl
        obtain ⟨x, hx⟩ : ∃ x, xs[k]'hkl = x := ⟨_, rfl⟩
        rw [hx] at hz
        obtain ⟨x0, x1, x2, x3, x4⟩ := hz
        unfold B8 at x0
        have HD : Hid (xs.drop k = x :: xs.drop (k + 1)) := hid (by rw [List.drop_eq_getElem_cons hkl, hx])
        clear hcell hkl hx HRK
        obtain ⟨xc, xq, xr, xo, xs4⟩ := x
        dsimp only at x0 x1 x2 x3 x4
        cases xo with
        | true =>
          have HI2 := hid (show RkI w wr xs (k + 1) true acc from ⟨HI.out.bel, by rw [HI.out.eq, HD.out, remR, if_pos rfl], by have := HI.out.len; omega⟩)
          clear HI HD
          go_wp2_with fail
          go_roundw
          case rel => exact ⟨k + 1, true, acc, by omega, rfl, rfl, by go_num, HI2⟩
          case measure => simp [intOf]; omega
        | false =>
          cases xs4 with
          | true =>
            have HF : Hid (remR false [] xs = acc) := hid (by rw [HI.out.eq, HD.out, remR, if_neg (fun h => by cases h), if_pos rfl])
            clear HI HD
            go_wp2_with fail
            go_meet
            exact ⟨acc, rfl, HF, BL, hid hal⟩
          | false =>
            have HE : Hid (remR false [] xs = remR i (if i = true ∧ xr = true then acc ++ [xc] else acc) (xs.drop (k + 1))) := hid (by rw [HI.out.eq, HD.out, remR, if_neg (fun h => by cases h), if_neg (fun h => by cases h)])
            have HLA := hid HI.out.len
            clear HI HD
            cases i with
            | false =>
              have HI2 := hid (show RkI w wr xs (k + 1) false acc from ⟨BL.out, by rw [HE.out]; rfl, by have := HLA.out; omega⟩)
              go_wp2_with fail
              go_roundw
              case rel => exact ⟨k + 1, false, acc, by omega, rfl, rfl, by go_num, HI2⟩
              case measure => simp [intOf]; omega
            | true =>
              cases xr with
              | false =>
                have HI2 := hid (show RkI w wr xs (k + 1) true acc from ⟨BL.out, by rw [HE.out]; rfl, by have := HLA.out; omega⟩)
                go_wp2_with fail
                go_roundw
                case rel => exact ⟨k + 1, true, acc, by omega, rfl, rfl, by go_num, HI2⟩
                case measure => simp [intOf]; omega
              | true =>
                have kone := fun X => one_str X xc
                have hz1 : (str [xc]).size ≤ 1 := by rw [str_size]; simp
                have hz2 : (str acc).size ≤ 100000 := by rw [str_size]; omega
                have ha3 : str acc ++ str [xc] = str (acc ++ [xc]) := str_append _ _
                have HI2 := hid (show RkI w (wr.alloc (.cells #[.int .u8 (xc.toNat : Int)] 5)) xs (k + 1) true (acc ++ [xc]) from ⟨BL.out.alloc BL.out.size _, by rw [HE.out]; rfl, by have := HLA.out; simp; omega⟩)
                go_wp2_with fail
                go_roundw
                case rel => exact ⟨k + 1, true, (acc ++ [xc]), by omega, rfl, rfl, by go_num, HI2⟩
                case measure => simp [intOf]; omega
      · have hkn : k = n := by omega
        subst hkn
        have d1 : decide ((k : Int) < (k : Int)) = false := by simp
        have d1' : decide (k < k) = false := by simp
        have HF : Hid (remR false [] xs = acc) := hid (by
          have e : xs.drop k = [] := List.drop_of_length_le (by rw [HN.out]; exact Nat.le_refl _)
          rw [HI.out.eq, e, remR])
        go_wp2_with fail
        go_meet
        exact ⟨acc, rfl, HF, BL, hid hal⟩
  case rest =>
  obtain ⟨y, rfl, HF, BL, HL⟩ := hcut
  rename World => w2
  go_upto_block 2 with fail
  go_cut [3] from 39 to 53 (fun s3 wx => s3 = .string (str (ltrim y)) ∧ w2 = wx)
  case first =>
    go_wp2_with fail
    go_loopw [3] (fun v3 wr => ∃ z : List UInt8, v3 = .string (str z) ∧ Hid (ltrim z = ltrim y) ∧ z.length ≤ n ∧ w2 = wr) (fun v3 wr => szS v3)
    case atStart => exact ⟨y, rfl, hid rfl, HL.out, rfl⟩
    case round =>
      obtain ⟨z, rfl, HZ, hzn, rfl⟩ := hrel
      rcases (by cases z with | nil => exact .inl rfl | cons c r => exact .inr ⟨c, r, rfl⟩ : z = [] ∨ ∃ c r, z = c :: r) with hz | ⟨c, r, hz⟩
      · subst hz
        have hsz : (str []).size = 0 := rfl
        have HZ2 : Hid (ltrim y = []) := hid HZ.out.symm
        go_wp2_with fail
        go_meet
        exact ⟨by rw [HZ2.out], rfl⟩
      · obtain ⟨m, hm⟩ : ∃ m, r.length = m := ⟨_, rfl⟩
        have hsz : (str z).size = m + 1 := by rw [hz, str_size, List.length_cons, hm]
        have d1 : decide ((0 : Int) < (m : Int) + 1) = true := by rw [decide_eq_true_iff]; omega
        have d1' : decide (0 < m + 1) = true := by simp
        have h0 : 0 < (str z).size := by rw [hsz]; omega
        have hc : (str z)[0]'h0 = c := by subst hz; rfl
        have hx : (str z).extract 1 (m + 1) = str r := by rw [hz, str_extract, List.drop_succ_cons, List.drop_zero, List.take_of_length_le (by omega)]
        have e1 : (0 : Int) < ((str z).size : Int) := by rw [hsz]; omega
        have hrn : r.length ≤ n := by rw [hz] at hzn; simp at hzn; omega
        have hmn : m ≤ n := by omega
        have hzr : (str r).size = m := hm
        by_cases h32 : c.toNat = 32
        · have q1 : ((c.toNat : Int) == 32) = true := by rw [h32]; rfl
          have HZ2 : Hid (ltrim r = ltrim y) := hid ((ltrim_cons c r (by unfold bl; simp [h32])).symm.trans (hz ▸ HZ.out))
          clear HZ hz h32
          go_wp2_with fail
          go_roundw
          case rel => exact ⟨r, rfl, HZ2, hrn, trivial⟩
          case measure => (simp [szS, hsz, hzr])
        have q1 : ((c.toNat : Int) == 32) = false := ne_f h32
        by_cases h9 : c.toNat = 9
        · have q2 : ((c.toNat : Int) == 9) = true := by rw [h9]; rfl
          have HZ2 : Hid (ltrim r = ltrim y) := hid ((ltrim_cons c r (by unfold bl; simp [h9])).symm.trans (hz ▸ HZ.out))
          clear HZ hz h32 h9
          go_wp2_with fail
          go_roundw
          case rel => exact ⟨r, rfl, HZ2, hrn, trivial⟩
          case measure => (simp [szS, hsz, hzr])
        have q2 : ((c.toNat : Int) == 9) = false := ne_f h9
        have HZ2 : Hid (ltrim y = z) := hid (by rw [← HZ.out, hz]; exact ltrim_stop c r (by unfold bl; simp [h32, h9]))
        clear HZ hz h32 h9
        go_wp2_with fail
        go_meet
        exact ⟨by rw [HZ2.out], rfl⟩
  case rest =>
  obtain ⟨rfl, rfl⟩ := hcut
  obtain ⟨y2, hy2⟩ : ∃ y2, ltrim y = y2 := ⟨_, rfl⟩
  have HF2 : Hid (trimB (remR false [] xs) = rtrim y2) := hid (by rw [HF.out, trimB_eq, ltrim_rtrim, hy2])
  have hyl : y2.length ≤ n := by
    rw [← hy2]
    unfold ltrim
    exact Nat.le_trans (List.Sublist.length_le (List.dropWhile_sublist _)) HL.out
  rw [hy2]
  clear hy2 HF HL
  go_wp2_with fail
  go_loopw [3] (fun v3 wr => ∃ z : List UInt8, v3 = .string (str z) ∧ Hid (rtrim z = rtrim y2) ∧ z.length ≤ n ∧ w2 = wr) (fun v3 wr => szS v3)
  case atStart => exact ⟨y2, rfl, hid rfl, hyl, rfl⟩
  case round =>
    clear hyl
    obtain ⟨z, rfl, HZ, hzn, rfl⟩ := hrel
    rcases (by cases h : z.length with | zero => exact .inl (List.eq_nil_of_length_eq_zero h) | succ m => obtain ⟨r, c, h1, h2⟩ := snoc_of z m h; exact .inr ⟨r, c, h1⟩ : z = [] ∨ ∃ r c, z = r ++ [c]) with hz | ⟨r, c, hz⟩
    · subst hz
      have hsz : (str []).size = 0 := rfl
      have HZ2 : Hid (trimB (remR false [] xs) = []) := hid (HF2.out.trans HZ.out.symm)
      go_wp2_with fail
      go_ret
      exact ⟨by rw [HZ2.out]; rfl, BL.out⟩
    · obtain ⟨m, hm⟩ : ∃ m, r.length = m := ⟨_, rfl⟩
      have hsz : (str z).size = m + 1 := by rw [hz, str_size, List.length_append, hm]; rfl
      have d1 : decide ((0 : Int) < (m : Int) + 1) = true := by rw [decide_eq_true_iff]; omega
      have d1' : decide (0 < m + 1) = true := by simp
      have h0 : m < (str z).size := by rw [hsz]; omega
      have hc : (str z)[m]'h0 = c := by
        subst hz
        rw [str_get, List.getElem_append_right (by omega)]
        simp [hm]
      have hx : (str z).extract 0 m = str r := by rw [hz, str_extract, List.drop_zero, Nat.sub_zero, List.take_append_of_le_length (by omega), List.take_of_length_le (by omega)]
      have e0 : (0 : Int) ≤ (m : Int) := by omega
      have e1 : (m : Int) < ((str z).size : Int) := by rw [hsz]; omega
      have e3 : (m : Int).toNat = m := by omega
      have hrn : r.length ≤ n := by rw [hz] at hzn; simp at hzn; omega
      have hmn : m ≤ n := by omega
      have hzr : (str r).size = m := hm
      by_cases h32 : c.toNat = 32
      · have q1 : ((c.toNat : Int) == 32) = true := by rw [h32]; rfl
        have HZ2 : Hid (rtrim r = rtrim y2) := hid (by rw [← HZ.out, hz, rtrim_append, if_pos (by unfold bl; simp [h32])])
        clear HZ hz h32
        go_wp2_with fail
        go_roundw
        case rel => exact ⟨r, rfl, HZ2, hrn, trivial⟩
        case measure => (simp [szS, hsz, hzr])
      have q1 : ((c.toNat : Int) == 32) = false := ne_f h32
      by_cases h9 : c.toNat = 9
      · have q2 : ((c.toNat : Int) == 9) = true := by rw [h9]; rfl
        have HZ2 : Hid (rtrim r = rtrim y2) := hid (by rw [← HZ.out, hz, rtrim_append, if_pos (by unfold bl; simp [h9])])
        clear HZ hz h32 h9
        go_wp2_with fail
        go_roundw
        case rel => exact ⟨r, rfl, HZ2, hrn, trivial⟩
        case measure => (simp [szS, hsz, hzr])
      have q2 : ((c.toNat : Int) == 9) = false := ne_f h9
      have HZ2 : Hid (trimB (remR false [] xs) = z) := hid (by rw [HF2.out, ← HZ.out, hz, rtrim_append, if_neg (by unfold bl; simp [h32, h9])])
      clear HZ hz h32 h9
      go_wp2_with fail
      go_ret
      exact ⟨by rw [HZ2.out]; rfl, BL.out⟩
end Go.Proofs.YtdanhdiinkgjnaaDoor
