/-
  Flags: how a text is told as one, and is it in a set. A part of the proof: see the head of the text that ends in 'Law'.
-/
import Derived.Test.YtonjadmldgloaaaGreatDoorSe2
import Derived.Test.YtonjadmldgloaaaGreatDoorShelf
namespace Go.Proofs.YtonjadmldgloaaaGreatDoor
open Go.RowKit Go.Shelf
set_option linter.unusedVariables false

/-- May a keyword have a letter, told in small letters? -/
def signR (x : Nat) : Bool := ((((decide (97 ≤ x) && decide (x ≤ 122)) || (decide (48 ≤ x) && decide (x ≤ 57)) || x == 36) || x == 45) || x == 46) || x == 95
theorem sign_eq (c : UInt8) : signR c.toNat = signB c := by
  unfold signR signB
  rw [Bool.decide_and, Bool.decide_and]
theorem sign_high {x : Nat} (h : 128 ≤ x) : signR x = false := by
  unfold signR
  rw [decide_eq_false (show ¬ x ≤ 122 by omega), decide_eq_false (show ¬ x ≤ 57 by omega), beq_eq_false_iff_ne.2 (show x ≠ 36 by omega), beq_eq_false_iff_ne.2 (show x ≠ 45 by omega), beq_eq_false_iff_ne.2 (show x ≠ 46 by omega), beq_eq_false_iff_ne.2 (show x ≠ 95 by omega)]
  simp
set_option maxHeartbeats 2000000 in
theorem sign_any (x : Nat) (w : World) :
    Calls Tryz.prog 52 #[.int .i32 (x : Int)] w fun e w' => e = .returned (.bool (signR x)) ∧ w = w' := by
  unfold signR
  obtain ⟨b1, h1⟩ : ∃ b, decide (97 ≤ x) = b := ⟨_, rfl⟩
  obtain ⟨b2, h2⟩ : ∃ b, decide (x ≤ 122) = b := ⟨_, rfl⟩
  obtain ⟨b3, h3⟩ : ∃ b, decide (48 ≤ x) = b := ⟨_, rfl⟩
  obtain ⟨b4, h4⟩ : ∃ b, decide (x ≤ 57) = b := ⟨_, rfl⟩
  obtain ⟨b5, h5⟩ : ∃ b, (x == 36) = b := ⟨_, rfl⟩
  obtain ⟨b6, h6⟩ : ∃ b, (x == 45) = b := ⟨_, rfl⟩
  obtain ⟨b7, h7⟩ : ∃ b, (x == 46) = b := ⟨_, rfl⟩
  obtain ⟨b8, h8⟩ : ∃ b, (x == 95) = b := ⟨_, rfl⟩
  have i1 : decide ((97 : Int) ≤ (x : Int)) = b1 := by rw [← h1, decide_eq_decide]; omega
  have i2 : decide ((x : Int) ≤ 122) = b2 := by rw [← h2, decide_eq_decide]; omega
  have i3 : decide ((48 : Int) ≤ (x : Int)) = b3 := by rw [← h3, decide_eq_decide]; omega
  have i4 : decide ((x : Int) ≤ 57) = b4 := by rw [← h4, decide_eq_decide]; omega
  have i5 : ((x : Int) == 36) = b5 := by rw [← h5, Bool.eq_iff_iff, beq_iff_eq, beq_iff_eq]; omega
  have i6 : ((x : Int) == 45) = b6 := by rw [← h6, Bool.eq_iff_iff, beq_iff_eq, beq_iff_eq]; omega
  have i7 : ((x : Int) == 46) = b7 := by rw [← h7, Bool.eq_iff_iff, beq_iff_eq, beq_iff_eq]; omega
  have i8 : ((x : Int) == 95) = b8 := by rw [← h8, Bool.eq_iff_iff, beq_iff_eq, beq_iff_eq]; omega
  rw [h1, h2, h3, h4, h5, h6, h7, h8]
  go_enter Tryz.func52, Tryz.ntmps52
  go_wp2
  all_goals (go_ret; exact ⟨by simp [*], rfl⟩)
theorem told1_any (x : Nat) (w : World) :
    Calls Tryz.prog 51 #[.int .i32 (x : Int)] w fun e w' => e = .returned (.bool (!signR x)) ∧ w = w' := by
  have HS := hid (sign_any x w)
  go_enter Tryz.func51, Tryz.ntmps51
  go_wp2_with (go_at_call 52; (with_reducible refine HS.out.mono ?_); rintro e w1 ⟨rfl, rfl⟩)
  go_ret
  exact ⟨rfl, rfl⟩
theorem idx_from (t : List UInt8) : ∀ (f pos : Nat), t.length ≤ pos + f → decide (0 ≤ Lib.idxFuncFrom (fun r => !signR r) true (str t) f pos) = !((t.drop pos).all signB)
  | 0, pos, h => by
    rw [List.drop_of_length_le (by omega)]
    rfl
  | f + 1, pos, h => by
    unfold Lib.idxFuncFrom
    by_cases hp : pos < (str t).size
    · have hp2 : pos < t.length := hp
      rw [if_pos hp, List.drop_eq_getElem_cons hp2, List.all_cons]
      have hg : (str t)[pos]'hp = t[pos]'hp2 := by simp [str]; rfl
      by_cases ha : (t[pos]'hp2).toNat < 128
      · have hd := decode_ascii (str t) pos hp (by rw [hg]; exact ha)
        rw [hd]
        dsimp only
        rw [hg, sign_eq]
        cases hs : signB (t[pos]'hp2) with
        | true =>
          rw [if_neg (by decide), Bool.true_and]
          exact idx_from t f (pos + 1) (by omega)
        | false =>
          rw [if_pos (show (!false) = true from rfl), Bool.false_and, decide_eq_true (by omega)]
          rfl
      · have hd := (decode_high (str t) pos hp (by rw [hg]; omega)).1
        have hs : signB (t[pos]'hp2) = false := by rw [← sign_eq]; exact sign_high (by omega)
        rw [sign_high hd, if_pos (show (!false) = true from rfl), hs, Bool.false_and, decide_eq_true (by omega)]
        rfl
    · rw [if_neg hp, List.drop_of_length_le (by have : (str t).size = t.length := rfl; omega)]
      rfl
theorem idx_sign (t : List UInt8) : decide (0 ≤ Lib.idxFunc (fun r => !signR r) true (str t)) = !(t.all signB) := by
  unfold Lib.idxFunc
  rw [idx_from t _ 0 (by have : (str t).size = t.length := rfl; omega), List.drop_zero]
set_option maxRecDepth 100000 in
theorem containsFn_any (t : List UInt8) (w : World) :
    Calls Tryz.prog 50 #[.string (str t), .func (.func 51) #[] #[]] w fun e w' => e = .returned (.bool (!(t.all signB))) ∧ Below w.heap.size w w' := by
  refine (Tryz.strings_ContainsFunc_grows 51 #[] (fun _ _ => rfl) (fun r => !signR r) (str t) w (fun W x hx hb => (told1_any x W).mono fun e w' ⟨h1, h2⟩ => ⟨h1, h2 ▸ Below.refl _ _⟩)).mono fun e w' ⟨h1, h2⟩ => ⟨?_, h2⟩
  rw [h1, idx_sign]
/-- The five, one after the other. -/
def fivN (i : Nat) : List UInt8 := fiveL.getD i []
def fivG (s : List UInt8) (k : Nat) : Nat → Option (List UInt8)
  | 0 => none
  | n + 1 => if D16.alikeL s (fivN k) = true then some (fivN k) else fivG s (k + 1) n
theorem five_find (s : List UInt8) : fiveL.find? (fun f => D16.alikeL s f) = fivG s 0 5 := by
  show fiveL.find? (fun f => D16.alikeL s f) = _
  unfold fiveL
  simp only [List.find?_cons, List.find?_nil]
  unfold fivG fivG fivG fivG fivG fivG
  show (match D16.alikeL s (fivN 0) with | true => _ | false => _) = _
  split <;> rename_i h0
  · rw [if_pos h0]; rfl
  · rw [if_neg (by rw [h0]; decide)]
    show (match D16.alikeL s (fivN 1) with | true => _ | false => _) = _
    split <;> rename_i h1
    · rw [if_pos h1]; rfl
    · rw [if_neg (by rw [h1]; decide)]
      show (match D16.alikeL s (fivN 2) with | true => _ | false => _) = _
      split <;> rename_i h2
      · rw [if_pos h2]; rfl
      · rw [if_neg (by rw [h2]; decide)]
        show (match D16.alikeL s (fivN 3) with | true => _ | false => _) = _
        split <;> rename_i h3
        · rw [if_pos h3]; rfl
        · rw [if_neg (by rw [h3]; decide)]
          show (match D16.alikeL s (fivN 4) with | true => _ | false => _) = _
          split <;> rename_i h4
          · rw [if_pos h4]; rfl
          · rw [if_neg (by rw [h4]; decide)]
theorem fiv_len {i : Nat} (h : i < 5) : (fivN i).length ≤ 9 := by
  obtain rfl | rfl | rfl | rfl | rfl : i = 0 ∨ i = 1 ∨ i = 2 ∨ i = 3 ∨ i = 4 := by omega
  all_goals decide
theorem fiv_ne {i : Nat} (h : i < 5) : (fivN i).isEmpty = false := by
  obtain rfl | rfl | rfl | rfl | rfl : i = 0 ∨ i = 1 ∨ i = 2 ∨ i = 3 ∨ i = 4 := by omega
  all_goals rfl
theorem fiv_head {i : Nat} (h : i < 5) : (smallL (fivN i)).head? = some 92 := by
  obtain rfl | rfl | rfl | rfl | rfl : i = 0 ∨ i = 1 ∨ i = 2 ∨ i = 3 ∨ i = 4 := by omega
  all_goals decide
theorem fivG_in {s : List UInt8} {k : Nat} (hk : k < 5) : fivG s k (5 - k) = if D16.alikeL s (fivN k) = true then some (fivN k) else fivG s (k + 1) (5 - (k + 1)) := by
  rw [show 5 - k = (5 - (k + 1)) + 1 by omega, fivG]
theorem fivG_head {s : List UInt8} (h : (smallL s).head? ≠ some 92) : ∀ n k, k + n ≤ 5 → fivG s k n = none
  | 0, k, _ => rfl
  | n + 1, k, hk => by
    unfold fivG
    rw [if_neg (fun e => h (by unfold D16.alikeL at e; rw [show smallL s = smallL (fivN k) from eq_of_beq e]; exact fiv_head (by omega)))]
    exact fivG_head h n (k + 1) (by omega)
theorem small_92 (c : UInt8) : D16.smallU c = 92 ↔ c = 92 := by
  constructor
  · intro h
    unfold D16.smallU at h
    split at h
    · rename_i hc
      have h2 := congrArg UInt8.toNat h
      rw [UInt8.toNat_ofNat_of_lt' (by show c.toNat + 32 < 256; omega)] at h2
      have : (92 : UInt8).toNat = 92 := rfl
      omega
    · exact h
  · rintro rfl; rfl
theorem pre_head (s : List UInt8) : Lib.hasPrefix s [92] = decide ((smallL s).head? = some 92) := by
  cases s with
  | nil => rfl
  | cons c r =>
    show ([92] : List UInt8).isPrefixOf (c :: r) = decide (some (D16.smallU c) = some 92)
    rw [show ([92] : List UInt8).isPrefixOf (c :: r) = ((92 : UInt8) == c && true) from rfl, Bool.and_true, Bool.eq_iff_iff, beq_iff_eq, decide_eq_true_eq]
    constructor
    · intro h; rw [← h]; rfl
    · intro h; injection h with h; exact ((small_92 c).1 h).symm
/-- How a text that begins with \ is told. -/
theorem told_pre {s : List UInt8} (h : (smallL s).head? = some 92) : toldF s = (fivG s 0 5).getD [] := by
  unfold toldF
  rw [five_find]
  cases fivG s 0 5 with
  | some f => rfl
  | none =>
    have : (smallL s).all signB = false := by
      cases hs : smallL s with
      | nil => rw [hs] at h; cases h
      | cons c r => rw [hs] at h; injection h with h; subst h; rfl
    dsimp only
    rw [this, if_neg (by rintro ⟨e, -⟩; cases e)]
    rfl
theorem told_key {s : List UInt8} (h : (smallL s).head? ≠ some 92) : toldF s = if (smallL s).all signB = true ∧ s.length ≤ 20 then smallL s else [] := by
  unfold toldF
  rw [five_find, fivG_head h 5 0 (by omega)]
def fivV : Value := .agg #[.string ⟨#[92, 65, 110, 115, 119, 101, 114, 101, 100]⟩, .string ⟨#[92, 68, 101, 108, 101, 116, 101, 100]⟩, .string ⟨#[92, 68, 114, 97, 102, 116]⟩, .string ⟨#[92, 70, 108, 97, 103, 103, 101, 100]⟩, .string ⟨#[92, 83, 101, 101, 110]⟩]
theorem five_any (w : World) :
    Calls Tryz.prog 48 #[] w fun e w' => e = .returned fivV ∧ Below w.heap.size w w' := by
  go_enter Tryz.func48, Tryz.ntmps48
  go_wp2
  exact bodyPost_ret (v := fivV) (by simp [results, Tryz.results48, go_sem, fivV]) rfl ⟨rfl, (Below.refl _ _).alloc (Nat.le_refl _) _⟩
theorem index_five (i : Nat) (h : i < 5) (w : World) : (Instr.index 78 fivV (.int .i64 (i : Int))).run Tryz.prog w = .ok (.string (str (fivN i))) w := by
  obtain rfl | rfl | rfl | rfl | rfl : i = 0 ∨ i = 1 ∨ i = 2 ∨ i = 3 ∨ i = 4 := by omega
  all_goals kernel_rfl
theorem pre_any (s : List UInt8) (w : World) : Calls Tryz.prog 47 #[.string (str s), .string ⟨#[92]⟩] w fun e w' => e = .returned (.bool (decide ((smallL s).head? = some 92))) ∧ w = w' :=
  (Tryz.strings_HasPrefix (str s) ⟨#[92]⟩ w).mono fun e w' ⟨h1, h2⟩ => ⟨by rw [h1, str_toList]; exact congrArg (fun b => Ending.returned (.bool b)) (pre_head s), h2.symm⟩
def toldV (s : List UInt8) : Value := .tuple #[.string (str (toldF s)), .int .i64 (if (toldF s).isEmpty = true then 18 else 0)]
theorem beq_of_str {a b : List UInt8} {e : Bool} (h : (str a == str b) = e) : (a == b) = e := by rw [← h, D16.str_beq]
theorem alike_strs {a b : List UInt8} {e : Bool} (h : D16.alikeL a b = e) : (str (smallL b) == str (smallL a)) = e := by
  rw [D16.str_beq, ← h]
  unfold D16.alikeL
  rw [Bool.eq_iff_iff, beq_iff_eq, beq_iff_eq]
  exact eq_comm
set_option maxHeartbeats 2000000 in
theorem told_any (s : List UInt8) (w : World) (hl : s.length ≤ 100000) :
    Calls Tryz.prog 24 #[.string (str s)] w fun e w' => e = .returned (toldV s) ∧ Below w.heap.size w w' := by
  have HPR := hid (pre_any s w)
  have HSM := hid (fun w => fsmall_any s w hl)
  by_cases h92 : (smallL s).head? = some 92
  · rw [decide_eq_true h92] at HPR
    have HT := hid (told_pre h92)
    have HFV := hid (fun w => five_any w)
    have hix := index_five
    obtain ⟨mv, hmv⟩ : ∃ v, fivV = v := ⟨_, rfl⟩
    rw [hmv] at HFV hix
    have HIX := hid hix
    clear hix hmv h92
    go_enter Tryz.func24, Tryz.ntmps24
    go_wp2_with first
      | (go_at_call 47; (with_reducible refine HPR.out.mono ?_); rintro e w1 ⟨rfl, rfl⟩)
      | (go_at_call 48; (with_reducible refine (HFV.out _).mono ?_); rintro e w2 ⟨rfl, b2⟩; have B2 := hid b2; clear b2)
    go_loopw [5, 10] (fun f i wr => ∃ k : Nat, k ≤ 5 ∧ i = .int .i64 (k : Int) ∧ Hid (fivG s 0 5 = fivG s k (5 - k)) ∧ Hid (Below w.heap.size w wr)) (fun f i wr => 5 - (intOf i).toNat)
    case atStart => exact ⟨0, by omega, rfl, hid rfl, B2⟩
    case round =>
      clear B2
      obtain ⟨k, hk, rfl, hM, hB⟩ := hrel
      by_cases hlt : k < 5
      · have d1 : decide ((k : Int) < 5) = true := by simp; omega
        have d1' : decide (k < 5) = true := by simpa using hlt
        have hi := HIX.out k hlt
        have hM2 := hM.out
        rw [fivG_in hlt] at hM2
        have HLM := hid (fun w => fsmall_any (fivN k) w (by have := fiv_len hlt; omega))
        cases hc : D16.alikeL s (fivN k) with
        | true =>
          have he := alike_strs hc
          have he2 := beq_of_str he
          rw [hc, if_pos rfl] at hM2
          have HM2 := hid hM2
          have HNE := hid (fiv_ne hlt)
          clear hM2 hc hM
          go_wp2_with first
            | (go_at_call 49; (with_reducible refine (HLM.out _).mono ?_); rintro e w3 ⟨rfl, b3⟩; have B3 := hid (next hB.out b3); clear b3 HLM)
            | (go_at_call 49; (with_reducible refine (HSM.out _).mono ?_); rintro e w4 ⟨rfl, b4⟩; have B4 := hid (next B3.out b4); clear b4)
          go_ret2
          exact ⟨by unfold toldV; rw [HT.out, HM2.out, Option.getD_some, HNE.out]; rfl, B4.out⟩
        | false =>
          have he := alike_strs hc
          have he2 := beq_of_str he
          rw [hc, if_neg (by decide)] at hM2
          have HM2 := hid hM2
          clear hM2 hc hM
          go_wp2_with first
            | (go_at_call 49; (with_reducible refine (HLM.out _).mono ?_); rintro e w3 ⟨rfl, b3⟩; have B3 := hid (next hB.out b3); clear b3 HLM)
            | (go_at_call 49; (with_reducible refine (HSM.out _).mono ?_); rintro e w4 ⟨rfl, b4⟩; have B4 := hid (next B3.out b4); clear b4)
          go_roundw
          case rel => exact ⟨k + 1, by omega, by go_num, HM2, B4⟩
          case measure => simp [intOf]; omega
      · have d1 : decide ((k : Int) < 5) = false := by simp; omega
        have d1' : decide (k < 5) = false := by simpa using hlt
        have HM2 := hid (show fivG s 0 5 = none by rw [hM.out, show k = 5 by omega]; rfl)
        clear hM
        go_wp2_with fail
        go_ret2
        exact ⟨by unfold toldV; rw [HT.out, HM2.out]; rfl, hB.out⟩
  · rw [decide_eq_false h92] at HPR
    have ht := told_key h92
    obtain ⟨t, htt⟩ : ∃ t, smallL s = t := ⟨_, rfl⟩
    have hln : s.length = t.length := by rw [← htt, List.length_map]
    have HSM2 := hid (fun w => (by have := fsmall_any s w hl; rw [show s.map D16.smallU = t from htt] at this; exact this : Calls Tryz.prog 49 #[.string (str s)] w fun e w' => e = .returned (.string (str t)) ∧ Below w.heap.size w w'))
    rw [htt, hln] at ht
    have HT := hid ht
    obtain ⟨al, hal⟩ : ∃ al, t.all signB = al := ⟨_, rfl⟩
    have HCF := hid (fun w => (by have := containsFn_any t w; rw [hal] at this; exact this : Calls Tryz.prog 50 #[.string (str t), .func (.func 51) #[] #[]] w fun e w' => e = .returned (.bool (!al)) ∧ Below w.heap.size w w'))
    have HAL := hid hal
    have HTL : Hid ((str t).size = t.length) := hid rfl
    clear htt hln ht hal h92 HSM
    by_cases he : t = []
    · have e1 : (str t == (⟨#[]⟩ : ByteArray)) = true := by rw [he]; decide
      have HE := hid he
      clear he
      go_enter Tryz.func24, Tryz.ntmps24
      go_wp2_with first
        | (go_at_call 47; (with_reducible refine HPR.out.mono ?_); rintro e w1 ⟨rfl, rfl⟩)
        | (go_at_call 49; (with_reducible refine (HSM2.out _).mono ?_); rintro e w4 ⟨rfl, b4⟩; have B4 := hid b4; clear b4)
      go_ret2
      exact ⟨by unfold toldV; rw [HT.out, HE.out]; rfl, B4.out⟩
    · have e1 : (str t == (⟨#[]⟩ : ByteArray)) = false := by rw [show (⟨#[]⟩ : ByteArray) = str [] from rfl, D16.str_beq, beq_eq_false_iff_ne]; exact he
      have e3 : t.isEmpty = false := by cases t with | nil => exact absurd rfl he | cons a r => rfl
      have HE := hid e3
      by_cases h20 : t.length ≤ 20
      · have d1 : decide ((20 : Int) < ((str t).size : Int)) = false := decide_eq_false (by have := HTL.out; omega)
        have d2 : decide (20 < (str t).size) = false := decide_eq_false (by have := HTL.out; omega)
        have HL := hid h20
        clear h20
        cases al with
        | true =>
          go_enter Tryz.func24, Tryz.ntmps24
          go_wp2_with first
            | (go_at_call 47; (with_reducible refine HPR.out.mono ?_); rintro e w1 ⟨rfl, rfl⟩)
            | (go_at_call 49; (with_reducible refine (HSM2.out _).mono ?_); rintro e w4 ⟨rfl, b4⟩; have B4 := hid b4; clear b4)
            | (go_at_call 50; (with_reducible refine (HCF.out _).mono ?_); rintro e w5 ⟨rfl, b5⟩; have B5 := hid (past B4.out b5); clear b5)
          go_ret2
          exact ⟨by unfold toldV; rw [HT.out, if_pos ⟨HAL.out, HL.out⟩, HE.out]; rfl, B5.out⟩
        | false =>
          go_enter Tryz.func24, Tryz.ntmps24
          go_wp2_with first
            | (go_at_call 47; (with_reducible refine HPR.out.mono ?_); rintro e w1 ⟨rfl, rfl⟩)
            | (go_at_call 49; (with_reducible refine (HSM2.out _).mono ?_); rintro e w4 ⟨rfl, b4⟩; have B4 := hid b4; clear b4)
            | (go_at_call 50; (with_reducible refine (HCF.out _).mono ?_); rintro e w5 ⟨rfl, b5⟩; have B5 := hid (past B4.out b5); clear b5)
          go_ret2
          exact ⟨by unfold toldV; rw [HT.out, if_neg (by rintro ⟨e, -⟩; rw [HAL.out] at e; cases e)]; rfl, B5.out⟩
      · have d1 : decide ((20 : Int) < ((str t).size : Int)) = true := decide_eq_true (by have := HTL.out; omega)
        have d2 : decide (20 < (str t).size) = true := decide_eq_true (by have := HTL.out; omega)
        have HL := hid h20
        clear h20
        go_enter Tryz.func24, Tryz.ntmps24
        go_wp2_with first
          | (go_at_call 47; (with_reducible refine HPR.out.mono ?_); rintro e w1 ⟨rfl, rfl⟩)
          | (go_at_call 49; (with_reducible refine (HSM2.out _).mono ?_); rintro e w4 ⟨rfl, b4⟩; have B4 := hid b4; clear b4)
        go_ret2
        exact ⟨by unfold toldV; rw [HT.out, if_neg (by rintro ⟨-, e⟩; exact HL.out e)]; rfl, B4.out⟩
/-- slices.Contains, of texts. -/
theorem containsS_any (A : Option Addr) (n c : Nat) (fl : List (List UInt8)) (t : List UInt8) (w : World) (hn : fl.length = n) (hb : n ≤ 24) (hr : Row w A (fl.map strV)) :
    Calls Tryz.prog 62 #[.slice A n c, .string (str t)] w fun e w' => e = .returned (.bool (fl.contains t)) ∧ w = w' := by
  cases fl with
  | nil =>
    obtain rfl : n = 0 := hn.symm
    exact (Tryz.slices_Contains_string_empty A c (str t) w).mono fun e w' ⟨h1, h2⟩ => ⟨h1, h2.symm⟩
  | cons a r =>
    obtain ⟨b, off, rfl, hc⟩ := str_at hr (k := 0) (by simp)
    refine (Tryz.slices_Contains_string b off n c ((a :: r).map str) (str t) w (by rw [List.length_map, hn]; exact Nat.le_refl _) (by omega) (fun j hj => ?_)).mono fun e w' ⟨h1, h2⟩ => ⟨?_, h2.symm⟩
    · rw [List.length_map] at hj
      rw [hc j hj, List.getD_eq_getElem?_getD, List.getElem?_map, List.getElem?_eq_getElem hj]
      rfl
    · rw [h1, List.take_of_length_le (by rw [List.length_map, hn]; exact Nat.le_refl _)]
      congr 2
      rw [Bool.eq_iff_iff, Lib.containsS_iff, List.contains_iff_mem, List.mem_map]
      constructor
      · rintro ⟨x, hx, he⟩
        have : (str x == str t) = true := by rw [he]; exact str_self _
        rw [D16.str_beq] at this
        rw [← eq_of_beq this]
        exact hx
      · intro h; exact ⟨t, h, rfl⟩
set_option maxHeartbeats 2000000 in
theorem fhas_any (A : Option Addr) (n c : Nat) (fl : List (List UInt8)) (s : List UInt8) (w : World) (hn : fl.length = n) (hb : n ≤ 24) (hr : Row w A (fl.map strV)) (hl : s.length ≤ 100000) :
    Calls Tryz.prog 37 #[.slice A n c, .string (str s)] w fun e w' => e = .returned (.bool (flagF fl s)) ∧ Below w.heap.size w w' := by
  unfold flagF
  have HT := hid (told_any s w hl)
  unfold toldV at HT
  obtain ⟨t, ht⟩ : ∃ t, toldF s = t := ⟨_, rfl⟩
  rw [ht] at HT ⊢
  have HC := hid (fun (X : World) (b : Below w.heap.size w X) => containsS_any A n c fl t X hn hb (hr.below b))
  obtain ⟨q, hq⟩ : ∃ q, fl.contains t = q := ⟨_, rfl⟩
  rw [hq] at HC ⊢
  clear ht hr hn hq
  cases he : t.isEmpty with
  | true =>
    rw [he, if_pos rfl] at HT
    go_enter Tryz.func37, Tryz.ntmps37
    go_wp2_with (go_at_call 24; (with_reducible refine HT.out.mono ?_); rintro e w1 ⟨rfl, b1⟩; have B1 := hid b1; clear b1)
    go_ret
    exact ⟨rfl, B1.out⟩
  | false =>
    rw [he, if_neg (by decide)] at HT
    go_enter Tryz.func37, Tryz.ntmps37
    go_wp2_with first
      | (go_at_call 24; (with_reducible refine HT.out.mono ?_); rintro e w1 ⟨rfl, b1⟩; have B1 := hid b1; clear b1)
      | (go_at_call 62; (with_reducible refine (HC.out _ B1.out).mono ?_); rintro e w2 ⟨rfl, rfl⟩)
    go_ret
    exact ⟨rfl, B1.out⟩
end Go.Proofs.YtonjadmldgloaaaGreatDoor
