/-
  What a line announces. A part of the proof: see the head of the text that ends in 'Law'.
-/
import Derived.Test.YtlddhgnecfgnkaaLi9
namespace Go.Proofs.Ytlddhgnecfgnkaa
open Go.RowKit
set_option linter.unusedVariables false
attribute [local go_sem] Oper.semAt_some

def digB (c : UInt8) : Bool := decide (48 ≤ c.toNat) && decide (c.toNat ≤ 57)
def numD (l : List UInt8) : Nat := l.foldl (fun n c => 10 * n + (c.toNat - 48)) 0
/-- Where the last opening brace stands. -/
def brI (s : List UInt8) : Int := Lib.lastIndexByte (str s) 123
/-- What stands in the braces at a line's end. -/
def inBr (s : List UInt8) : List UInt8 := (s.drop ((brI s).toNat + 1)).take (s.length - 1 - ((brI s).toNat + 1))
/-- How many octets a line announces, and where that begins; none: it announces none. -/
def annL (s : List UInt8) : Option (Nat × Nat) :=
  if brI s < 0 ∨ Lib.hasSuffix s [125] = false then none
  else if (inBr s).length < 1 ∨ 9 < (inBr s).length then none
  else if (inBr s).all digB = true then some (numD (inBr s), (brI s).toNat) else none
theorem hasSuffix_last (s : List UInt8) (h : Lib.hasSuffix s [125] = true) (i : Nat) (hi : i + 1 = s.length) : s[i]'(by omega) = 125 := by
  unfold Lib.hasSuffix at h
  rw [List.isSuffixOf_iff_suffix] at h
  obtain ⟨t, rfl⟩ := h
  simp at hi
  subst hi
  simp
theorem brI_lt (s : List UInt8) (h : ¬ brI s < 0) (h2 : Lib.hasSuffix s [125] = true) : ∃ i : Nat, brI s = i ∧ i + 1 < s.length := by
  unfold brI at h ⊢
  rcases Lib.lastIndexByte_spec (str s) 123 with ⟨h1, _⟩ | ⟨i, hi, h1, h3, _⟩
  · rw [h1] at h; omega
  · refine ⟨i, h1, ?_⟩
    rw [str_size] at hi
    rcases Nat.lt_or_ge (i + 1) s.length with hlt | hge
    · exact hlt
    · exfalso
      have hl := hasSuffix_last s h2 i (by omega)
      have : (str s).data[i]! = s[i]'hi := by
        show s.toArray[i]! = _
        simp [hi]
      rw [this, hl] at h3
      exact absurd h3 (by decide)
theorem numD_snoc (l : List UInt8) (c : UInt8) : numD (l ++ [c]) = 10 * numD l + (c.toNat - 48) := by
  unfold numD
  rw [List.foldl_append]
  rfl
theorem numD_lt : ∀ (n : Nat) (l : List UInt8), l.length = n → l.all digB = true → numD l < 10 ^ n
  | 0, l, hn, h => by rw [List.eq_nil_of_length_eq_zero hn]; decide
  | n + 1, l, hn, h => by
    have hne : l ≠ [] := by intro e; rw [e] at hn; simp at hn
    have e := List.dropLast_concat_getLast hne
    rw [← e] at h ⊢
    rw [List.all_append, Bool.and_eq_true] at h
    have h1 := numD_lt n l.dropLast (by simp [hn]) h.1
    have h2 := h.2
    simp [digB] at h2
    rw [numD_snoc, Nat.pow_succ]
    omega
theorem take_dig (l : List UInt8) (k : Nat) (h : k < l.length) (hk : (l.take k).all digB = true) (hc : digB (l[k]'h) = true) : (l.take (k + 1)).all digB = true ∧ numD (l.take (k + 1)) = 10 * numD (l.take k) + ((l[k]'h).toNat - 48) := by
  rw [List.take_succ_eq_append_getElem h, List.all_append, hk, numD_snoc]
  simp [hc]
/-- The answer. -/
def annV (s : List UInt8) : Value := match annL s with
  | none => .tuple #[.int .i64 (-1), .string (str s)]
  | some (n, i) => .tuple #[.int .i64 (n : Int), .string (str (s.take i))]
set_option maxRecDepth 100000 in
set_option maxHeartbeats 4000000 in
theorem announced_any (s : List UInt8) (w : World) (hl : s.length ≤ 100000) :
    Calls Try.prog 20 #[.string (str s)] w fun e w' => e = .returned (annV s) ∧ Below w.heap.size w w' := by
  have LB := hid (fun w => (Try.strings_LastIndexByte (str s) 123 (by rw [str_size]; omega) w).mono (R' := fun e w' => e = .returned (.int .i64 (Lib.lastIndexByte (str s) 123)) ∧ w = w') fun e w' h => ⟨h.1, h.2.symm⟩)
  have HS := hid (fun w => (Try.strings_HasSuffix (str s) ⟨#[125]⟩ w (by rw [str_size]; omega)).mono (R' := fun e w' => e = .returned (.bool (Lib.hasSuffix s [125])) ∧ w = w') fun e w' h => ⟨by rw [h.1, str_toList], h.2.symm⟩)
  have hsz : (str s).size = s.length := rfl
  obtain ⟨r, hr⟩ : ∃ r, brI s = r := ⟨_, rfl⟩
  have hr2 : Lib.lastIndexByte (str s) 123 = r := hr
  rw [hr2] at LB
  obtain ⟨f, hf⟩ : ∃ f, Lib.hasSuffix s [125] = f := ⟨_, rfl⟩
  rw [hf] at HS
  clear hr2
  by_cases h0 : r < 0
  · have d1 : decide (r < 0) = true := by simpa using h0
    have HR : Hid (annV s = .tuple #[.int .i64 (-1), .string (str s)]) := hid (by unfold annV annL; rw [hr, if_pos (.inl h0)])
    clear hr hf h0 HS
    go_enter Try.func20, Try.ntmps20
    go_wp2_with (go_at_call 26; refine (LB.out _).mono ?_; rintro e w1 ⟨rfl, rfl⟩)
    go_ret2
    exact ⟨by rw [HR.out]; rfl, Below.refl _ _⟩
  have d1 : decide (r < 0) = false := by simpa using h0
  cases f with
  | false =>
    have HR : Hid (annV s = .tuple #[.int .i64 (-1), .string (str s)]) := hid (by unfold annV annL; rw [if_pos (.inr hf)])
    clear hr hf h0
    go_enter Try.func20, Try.ntmps20
    go_wp2_with (first
      | (go_at_call 26; refine (LB.out _).mono ?_; rintro e w1 ⟨rfl, rfl⟩)
      | (go_at_call 27; refine (HS.out _).mono ?_; rintro e w1 ⟨rfl, rfl⟩))
    go_ret2
    exact ⟨by rw [HR.out]; rfl, Below.refl _ _⟩
  | true =>
    obtain ⟨i, hi, hi2⟩ := brI_lt s (by rw [hr]; exact h0) hf
    obtain rfl : r = (i : Int) := by rw [← hr, hi]
    obtain ⟨m, hm⟩ : ∃ m : Nat, s.length = m + 1 := ⟨s.length - 1, by omega⟩
    have him : i + 1 ≤ m := by omega
    obtain ⟨d, hd⟩ : ∃ d, inBr s = d := ⟨_, rfl⟩
    have hd2 : (s.drop (i + 1)).take (m - (i + 1)) = d := by
      rw [← hd]
      unfold inBr
      rw [hi, hm]
      simp
    have hex : (str s).extract (i + 1) m = str d := by rw [str_extract, hd2]
    have hann : annL s = if d.length < 1 ∨ 9 < d.length then none else if d.all digB = true then some (numD d, i) else none := by
      unfold annL
      rw [hi, hf, hd, if_neg (by simp)]
      simp
    have HANN := hid hann
    have hdl : d.length ≤ 100000 := by rw [← hd2]; simp; omega
    have HDL := hid hdl
    have hdz : (str d).size = d.length := rfl
    have s0 : (0 : Int) ≤ (i : Int) := by omega
    have s1 : (i : Int) + 1 ≤ (m : Int) := by omega
    have s2 : ((m + 1 : Nat) : Int) - 1 = (m : Int) := by omega
    have s3 : (m : Int) ≤ ((str s).size : Int) := by rw [hsz]; omega
    have s4 : ((i : Int) + 1).toNat = i + 1 := by omega
    have s5 : ((str s).size : Int) - 1 = (m : Int) := by rw [hsz]; omega
    have s6 : (s.length : Int) - 1 = (m : Int) := by omega
    have s7 : (m : Int) ≤ 100000 := by omega
    have s8 : (0 : Int) ≤ (i : Int) + 1 := by omega
    have s9 : (m : Int) ≤ (s.length : Int) := by omega
    have HM := hid hm
    have HI := hid hi2
    have hex2 : (str s).extract 0 i = str (s.take i) := by rw [str_extract, List.drop_zero, Nat.sub_zero]
    clear hr hi hf h0 hd hd2 hann hdl hm hi2 d1
    have d1 : decide ((i : Int) < 0) = false := by simp
    by_cases hd1 : d.length < 1
    · have d2 : decide ((d.length : Int) < 1) = true := by simp; omega
      have d2' : decide (d.length < 1) = true := by simpa using hd1
      have HR : Hid (annV s = .tuple #[.int .i64 (-1), .string (str s)]) := hid (by unfold annV; rw [HANN.out, if_pos (.inl hd1)])
      clear hd1
      go_enter Try.func20, Try.ntmps20
      go_wp2_with (first
        | (go_at_call 26; refine (LB.out _).mono ?_; rintro e w1 ⟨rfl, rfl⟩)
        | (go_at_call 27; refine (HS.out _).mono ?_; rintro e w1 ⟨rfl, rfl⟩))
      go_ret2
      exact ⟨by rw [HR.out]; rfl, Below.refl _ _⟩
    have d2 : decide ((d.length : Int) < 1) = false := by simp; omega
    have d2' : decide (d.length < 1) = false := by simpa using hd1
    by_cases hd9 : 9 < d.length
    · have d3 : decide ((9 : Int) < (d.length : Int)) = true := by simp; omega
      have d3' : decide (9 < d.length) = true := by simpa using hd9
      have HR : Hid (annV s = .tuple #[.int .i64 (-1), .string (str s)]) := hid (by unfold annV; rw [HANN.out, if_pos (.inr hd9)])
      clear hd1 hd9
      go_enter Try.func20, Try.ntmps20
      go_wp2_with (first
        | (go_at_call 26; refine (LB.out _).mono ?_; rintro e w1 ⟨rfl, rfl⟩)
        | (go_at_call 27; refine (HS.out _).mono ?_; rintro e w1 ⟨rfl, rfl⟩))
      go_ret2
      exact ⟨by rw [HR.out]; rfl, Below.refl _ _⟩
    have d3 : decide ((9 : Int) < (d.length : Int)) = false := by simp; omega
    have d3' : decide (9 < d.length) = false := by simpa using hd9
    have HAN2 : Hid (annL s = if d.all digB = true then some (numD d, i) else none) := hid (by rw [HANN.out, if_neg (by omega)])
    have HD9 := hid hd9
    clear hd1 hd9 HANN
    go_enter Try.func20, Try.ntmps20
    go_wp2_with (first
      | (go_at_call 26; refine (LB.out _).mono ?_; rintro e w1 ⟨rfl, rfl⟩)
      | (go_at_call 27; refine (HS.out _).mono ?_; rintro e w1 ⟨rfl, rfl⟩))
    go_loopw [2, 3, 6, 36] (fun r1 r2 nn kk wr => r1 = .int .i64 0 ∧ r2 = .string ⟨#[]⟩ ∧ ∃ k : Nat, k ≤ d.length ∧ kk = .int .i64 (k : Int) ∧ nn = .int .i64 ((numD (d.take k) : Nat) : Int) ∧ Hid ((d.take k).all digB = true) ∧ w = wr) (fun r1 r2 nn kk wr => d.length - (intOf kk).toNat)
    case atStart => exact ⟨rfl, rfl, 0, by omega, rfl, rfl, hid (by simp), rfl⟩
    case round =>
      obtain ⟨rfl, rfl, k, hk, rfl, rfl, hA, rfl⟩ := hrel
      by_cases hlt : k < d.length
      · have e1 : decide ((k : Int) < (d.length : Int)) = true := by simp; omega
        have e1' : decide (k < d.length) = true := by simpa using hlt
        have hks : k < (str d).size := by rw [hdz]; omega
        obtain ⟨x, hx⟩ : ∃ x, ((str d)[k]'hks) = x := ⟨_, rfl⟩
        have k0 : (0 : Int) ≤ (k : Int) := by omega
        have k1 : (k : Int) < ((str d).size : Int) := by rw [hdz]; omega
        have k2 : (k : Int) ≤ 100000 := by have := HDL.out; omega
        have HX := hid (show d[k]'hlt = x from hx)
        have hxl := x.toNat_lt
        have HNO : Hid (digB x = false → annV s = .tuple #[.int .i64 (-1), .string (str s)]) := hid (fun h => by
          unfold annV
          rw [HAN2.out, if_neg]
          rw [Bool.not_eq_true, List.all_eq_false]
          exact ⟨x, by rw [← HX.out]; exact List.getElem_mem hlt, by rw [h]; decide⟩)
        by_cases h48 : x.toNat < 48
        · have d4 : decide ((x.toNat : Int) < 48) = true := by simp; omega
          have d4' : decide (x.toNat < 48) = true := by simpa using h48
          have HR := hid (HNO.out (by unfold digB; rw [show decide (48 ≤ x.toNat) = false by simp; omega]; rfl))
          clear h48 hA
          go_wp2_with fail
          go_ret2
          exact ⟨by rw [HR.out]; rfl, Below.refl _ _⟩
        have d4 : decide ((x.toNat : Int) < 48) = false := by simp; omega
        have d4' : decide (x.toNat < 48) = false := by simpa using h48
        by_cases h57 : 57 < x.toNat
        · have d5 : decide ((57 : Int) < (x.toNat : Int)) = true := by simp; omega
          have d5' : decide (57 < x.toNat) = true := by simpa using h57
          have HR := hid (HNO.out (by unfold digB; rw [show decide (x.toNat ≤ 57) = false by simp; omega]; simp))
          clear h48 h57 hA
          go_wp2_with fail
          go_ret2
          exact ⟨by rw [HR.out]; rfl, Below.refl _ _⟩
        have d5 : decide ((57 : Int) < (x.toNat : Int)) = false := by simp; omega
        have d5' : decide (57 < x.toNat) = false := by simpa using h57
        obtain ⟨t1, t2⟩ := take_dig d k hlt hA.out (by rw [HX.out]; unfold digB; rw [show decide (48 ≤ x.toNat) = true by simp; omega, show decide (x.toNat ≤ 57) = true by simp; omega]; rfl)
        rw [HX.out] at t2
        have hb := numD_lt k (d.take k) (by rw [List.length_take]; omega) hA.out
        have hb9 : (10 : Nat) ^ k ≤ 10 ^ 9 := Nat.pow_le_pow_right (by omega) (by have := HD9.out; omega)
        have T1 := hid t1
        have T2 := hid t2
        obtain ⟨v, hv⟩ : ∃ v, numD (d.take k) = v := ⟨_, rfl⟩
        rw [hv] at hb T2 ⊢
        have v0 : (v : Int) ≤ 1000000000 := by omega
        have v1 : IntKind.u8.wrap ((x.toNat : Int) - 48) = (x.toNat : Int) - 48 := by rw [IntKind.wrap_u8]; omega
        have v2 : (0 : Int) ≤ (x.toNat : Int) - 48 := by omega
        have v3 : (x.toNat : Int) - 48 ≤ 9 := by omega
        clear t1 t2 hb hb9 hA hv
        go_wp2_with fail
        go_roundw
        case rel => exact ⟨rfl, rfl, k + 1, by omega, by go_num, by rw [T2.out]; congr 1; omega, hid T1.out, by trivial⟩
        case measure => simp [intOf]; omega
      · have e1 : decide ((k : Int) < (d.length : Int)) = false := by simp; omega
        have e1' : decide (k < d.length) = false := by simpa using hlt
        obtain rfl : k = d.length := by omega
        have hA2 := hA.out
        rw [List.take_of_length_le (Nat.le_refl _)] at hA2 ⊢
        have HR : Hid (annV s = .tuple #[.int .i64 (numD d : Int), .string (str (s.take i))]) := hid (by unfold annV; rw [HAN2.out, if_pos hA2])
        clear hA hA2
        go_upto_region 15 with fail
        go_quiet (fail)
        go_wp2
        go_ret2
        exact ⟨by rw [HR.out]; rfl, bq (Below.refl _ _) _⟩
end Go.Proofs.Ytlddhgnecfgnkaa
