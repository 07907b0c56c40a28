/-
  The document's Under; the name above. A part of the proof: see the head of the text that ends in 'Law'.
-/
import Derived.Test.YthgopanipmnphaaNa7
namespace Go.Proofs.Ythgopanipmnphaa
open Go.RowKit Go.Shelf
set_option linter.unusedVariables false

theorem hp_stroke (a b : List UInt8) (h : b.length < a.length) : Lib.hasPrefix a (b ++ [47]) = ((a.take b.length == b) && (((a.getD b.length 0).toNat : Int) == 47)) := by
  unfold Lib.hasPrefix
  rw [Bool.eq_iff_iff, List.isPrefixOf_iff_prefix, List.prefix_iff_eq_take, List.length_append, List.length_singleton, List.take_succ_eq_append_getElem h, Bool.and_eq_true, beq_iff_eq, beq_iff_eq, List.getD_eq_getElem?_getD, List.getElem?_eq_getElem h, Option.getD_some]
  constructor
  · intro he
    have h1 := List.append_inj_left he (by rw [List.length_take]; omega)
    have h2 := List.append_inj_right he (by rw [List.length_take]; omega)
    refine ⟨h1.symm, ?_⟩
    injection h2 with h2 _
    rw [← h2]
    rfl
  · rintro ⟨h1, h2⟩
    rw [h1]
    congr 1
    have : a[b.length] = 47 := UInt8.toNat_inj.1 (by have e47 : (47 : UInt8).toNat = 47 := rfl; omega)
    rw [this]
theorem hp_short (a b : List UInt8) (h : ¬ b.length < a.length) : Lib.hasPrefix a (b ++ [47]) = false := by
  unfold Lib.hasPrefix
  rw [Bool.eq_false_iff]
  intro hp
  have := (List.isPrefixOf_iff_prefix.1 hp).length_le
  rw [List.length_append] at this
  simp at this
  omega

set_option maxHeartbeats 1000000 in
theorem refUnder_any (s t : List UInt8) (w : World) (hs : s.length ≤ 100000) (ht : t.length ≤ 100000) :
    Calls Try.prog 22 #[.string (str s), .string (str t)] w fun e w' => e = .returned (.bool (underL s t)) ∧ Below w.heap.size w w' := by
  have B := hid (Below.refl w.heap.size w)
  cases h1 : isL s with
  | false =>
    have hu : underL s t = false := by unfold underL; rw [h1]; rfl
    have H1 := hid h1
    rw [hu]
    clear h1 hu
    go_enter Try.func22, Try.ntmps22
    go_wp2_with (go_at_call 18; (with_reducible refine (refIs_any s _ hs).mono ?_); rw [H1.out]; rintro e w1 ⟨rfl, b1⟩; ((first | replace HG := HG.far b1 | replace HG := hid (HG.out.below b1) | skip); (first | replace B := B.far b1 | replace B := hid (B.out.below b1) | skip)); clear b1)
    go_ret
    exact ⟨rfl, B.out⟩
  | true =>
    cases h2 : isL t with
    | false =>
      have hu : underL s t = false := by unfold underL; rw [h1, h2]; rfl
      have H1 := hid h1
      have H2 := hid h2
      rw [hu]
      clear h1 h2 hu
      go_enter Try.func22, Try.ntmps22
      go_wp2_with (first
        | (go_at_call 18; (with_reducible refine (refIs_any s _ hs).mono ?_); rw [H1.out]; rintro e w1 ⟨rfl, b1⟩; ((first | replace HG := HG.far b1 | replace HG := hid (HG.out.below b1) | skip); (first | replace B := B.far b1 | replace B := hid (B.out.below b1) | skip)); clear b1)
        | (go_at_call 18; (with_reducible refine (refIs_any t _ ht).mono ?_); rw [H2.out]; rintro e w1 ⟨rfl, b1⟩; ((first | replace HG := HG.far b1 | replace HG := hid (HG.out.below b1) | skip); (first | replace B := B.far b1 | replace B := hid (B.out.below b1) | skip)); clear b1))
      go_ret
      exact ⟨rfl, B.out⟩
    | true =>
      have hu : underL s t = Lib.hasPrefix (toldL s) (toldL t ++ [47]) := by unfold underL; rw [h1, h2]; rfl
      have H1 := hid h1
      have H2 := hid h2
      have T1 := hid (fun w => refTold_any s w hs)
      have T2 := hid (fun w => refTold_any t w ht)
      have hla : (toldL s).length ≤ 100000 := by rw [toldL_length]; exact hs
      have hlb : (toldL t).length ≤ 100000 := by rw [toldL_length]; exact ht
      rw [hu]
      clear h1 h2 hu
      generalize toldL s = a at *
      generalize toldL t = b at *
      have hza : (str a).size ≤ 100000 := hla
      have hzb : (str b).size ≤ 100000 := hlb
      have HLA : Hid ((str a).size = a.length) := hid rfl
      have HLB : Hid ((str b).size = b.length) := hid rfl
      by_cases hlt : (str b).size < (str a).size
      · have hd : decide ((str b).size < (str a).size) = true := by simpa using hlt
        have hlt2 : b.length < a.length := hlt
        have hex : (str a).extract 0 (str b).size = str (a.take b.length) := by rw [str_extract, List.drop_zero, Nat.sub_zero, str_size]
        obtain ⟨x, hx⟩ : ∃ x, (str a)[(str b).size] = x := ⟨_, rfl⟩
        have hgx : a.getD b.length 0 = x := by rw [List.getD_eq_getElem?_getD, List.getElem?_eq_getElem hlt2, ← hx]; rfl
        obtain ⟨b1, hb1⟩ : ∃ b1, (a.take b.length == b) = b1 := ⟨_, rfl⟩
        obtain ⟨b2, hb2⟩ : ∃ b2, ((x.toNat : Int) == 47) = b2 := ⟨_, rfl⟩
        have hE := hp_stroke a b hlt2
        rw [hgx, hb1, hb2] at hE
        have HE := hid hE
        have hb3 : (str (a.take b.length) == str b) = b1 := by rw [str_beq]; exact hb1
        have hxl := x.toNat_lt
        have hb4 : (((str a)[(str b).size].toNat : Int) == 47) = b2 := by rw [hx]; exact hb2
        generalize a.take b.length = m at *
        clear hE hgx
        go_enter Try.func22, Try.ntmps22
        go_wp2_with (first
          | (go_at_call 18; (with_reducible refine (refIs_any s _ hs).mono ?_); rw [H1.out]; rintro e w1 ⟨rfl, b1⟩; ((first | replace HG := HG.far b1 | replace HG := hid (HG.out.below b1) | skip); (first | replace B := B.far b1 | replace B := hid (B.out.below b1) | skip)); clear b1)
          | (go_at_call 18; (with_reducible refine (refIs_any t _ ht).mono ?_); rw [H2.out]; rintro e w1 ⟨rfl, b1⟩; ((first | replace HG := HG.far b1 | replace HG := hid (HG.out.below b1) | skip); (first | replace B := B.far b1 | replace B := hid (B.out.below b1) | skip)); clear b1)
          | (go_at_call 19; (with_reducible refine (T1.out _).mono ?_); rintro e w1 ⟨rfl, b1⟩; ((first | replace HG := HG.far b1 | replace HG := hid (HG.out.below b1) | skip); (first | replace B := B.far b1 | replace B := hid (B.out.below b1) | skip)); clear b1)
          | (go_at_call 19; (with_reducible refine (T2.out _).mono ?_); rintro e w1 ⟨rfl, b1⟩; ((first | replace HG := HG.far b1 | replace HG := hid (HG.out.below b1) | skip); (first | replace B := B.far b1 | replace B := hid (B.out.below b1) | skip)); clear b1))
        all_goals go_ret
        all_goals (exact ⟨by rw [HE.out]; simp [*]; try exact hb4, B.out⟩)
      · have hd : decide ((str b).size < (str a).size) = false := by simpa using hlt
        have HE := hid (hp_short a b hlt)
        go_enter Try.func22, Try.ntmps22
        go_wp2_with (first
          | (go_at_call 18; (with_reducible refine (refIs_any s _ hs).mono ?_); rw [H1.out]; rintro e w1 ⟨rfl, b1⟩; ((first | replace HG := HG.far b1 | replace HG := hid (HG.out.below b1) | skip); (first | replace B := B.far b1 | replace B := hid (B.out.below b1) | skip)); clear b1)
          | (go_at_call 18; (with_reducible refine (refIs_any t _ ht).mono ?_); rw [H2.out]; rintro e w1 ⟨rfl, b1⟩; ((first | replace HG := HG.far b1 | replace HG := hid (HG.out.below b1) | skip); (first | replace B := B.far b1 | replace B := hid (B.out.below b1) | skip)); clear b1)
          | (go_at_call 19; (with_reducible refine (T1.out _).mono ?_); rintro e w1 ⟨rfl, b1⟩; ((first | replace HG := HG.far b1 | replace HG := hid (HG.out.below b1) | skip); (first | replace B := B.far b1 | replace B := hid (B.out.below b1) | skip)); clear b1)
          | (go_at_call 19; (with_reducible refine (T2.out _).mono ?_); rintro e w1 ⟨rfl, b1⟩; ((first | replace HG := HG.far b1 | replace HG := hid (HG.out.below b1) | skip); (first | replace B := B.far b1 | replace B := hid (B.out.below b1) | skip)); clear b1))
        go_ret
        exact ⟨by rw [HE.out]; rfl, B.out⟩

/-- The name above. -/
def upL (l : List UInt8) : List UInt8 := if isL l = false ∨ Lib.lastIndexByte (str l) 47 < 0 then [] else (toldL l).take (Lib.lastIndexByte (str l) 47).toNat
theorem lastIndex_lt (l : List UInt8) : Lib.lastIndexByte (str l) 47 < l.length ∧ -1 ≤ Lib.lastIndexByte (str l) 47 := by
  rcases Lib.lastIndexByte_spec (str l) 47 with ⟨h, _⟩ | ⟨i, hi, h, _⟩
  · rw [h]; omega
  · rw [h]; rw [str_size] at hi; omega
set_option maxHeartbeats 1000000 in
theorem up_any (l : List UInt8) (w : World) (hl : l.length ≤ 100000) (hG : GM w) :
    Calls Try.prog 16 #[.string (str l)] w fun e w' => e = .returned (.string (str (upL l))) ∧ Below w.heap.size w w' := by
  have B := hid (Below.refl w.heap.size w)
  have HG := hid hG
  have LB := hid (fun w => Try.strings_LastIndexByte (str l) 47 (by rw [str_size]; omega) w)
  have hlr := lastIndex_lt l
  obtain ⟨r, hr⟩ : ∃ r, Lib.lastIndexByte (str l) 47 = r := ⟨_, rfl⟩
  rw [hr] at LB hlr
  obtain ⟨b, hb⟩ : ∃ b, isL l = b := ⟨_, rfl⟩
  have hup : upL l = if b = false ∨ r < 0 then [] else (toldL l).take r.toNat := by unfold upL; rw [hr, hb]
  have H1 := hid hb
  have T1 := hid (fun w hG => told_any l w hl hG)
  have hla : (toldL l).length = l.length := toldL_length l
  generalize toldL l = a at *
  clear hb hr hG
  cases b with
  | false =>
    rw [hup, if_pos (.inl rfl)]
    clear hup
    go_enter Try.func16, Try.ntmps16
    go_wp2_with (first
      | (go_at_call 26; refine (LB.out _).mono ?_; rintro e w1 ⟨rfl, rfl⟩)
      | (go_at_call 13; (with_reducible refine (is_any l _ hl HG.out).mono ?_); rw [H1.out]; rintro e w1 ⟨rfl, b1⟩; ((first | replace HG := HG.far b1 | replace HG := hid (HG.out.below b1) | skip); (first | replace B := B.far b1 | replace B := hid (B.out.below b1) | skip)); clear b1))
    go_ret
    exact ⟨rfl, B.out⟩
  | true =>
    by_cases h0 : r < 0
    · have hd : decide (r < 0) = true := by simpa using h0
      rw [hup, if_pos (.inr h0)]
      clear hup
      go_enter Try.func16, Try.ntmps16
      go_wp2_with (first
        | (go_at_call 26; refine (LB.out _).mono ?_; rintro e w1 ⟨rfl, rfl⟩)
        | (go_at_call 13; (with_reducible refine (is_any l _ hl HG.out).mono ?_); rw [H1.out]; rintro e w1 ⟨rfl, b1⟩; ((first | replace HG := HG.far b1 | replace HG := hid (HG.out.below b1) | skip); (first | replace B := B.far b1 | replace B := hid (B.out.below b1) | skip)); clear b1))
      go_ret
      exact ⟨rfl, B.out⟩
    · obtain ⟨n, rfl⟩ : ∃ n : Nat, r = n := ⟨r.toNat, by omega⟩
      have hd : decide ((n : Int) < 0) = false := by simp
      rw [hup, if_neg (by simp), Int.toNat_natCast]
      have hza : (str a).size = l.length := hla
      have hn1 : (n : Int) ≤ ((str a).size : Int) := by rw [hza]; omega
      have hn0 : (0 : Int) ≤ (n : Int) := by omega
      have hex : (str a).extract 0 n = str (a.take n) := by rw [str_extract, List.drop_zero, Nat.sub_zero]
      clear hup
      go_enter Try.func16, Try.ntmps16
      go_wp2_with (first
        | (go_at_call 26; refine (LB.out _).mono ?_; rintro e w1 ⟨rfl, rfl⟩)
        | (go_at_call 13; (with_reducible refine (is_any l _ hl HG.out).mono ?_); rw [H1.out]; rintro e w1 ⟨rfl, b1⟩; ((first | replace HG := HG.far b1 | replace HG := hid (HG.out.below b1) | skip); (first | replace B := B.far b1 | replace B := hid (B.out.below b1) | skip)); clear b1)
        | (go_at_call 14; (with_reducible refine (T1.out _ HG.out).mono ?_); rintro e w1 ⟨rfl, b1⟩; ((first | replace HG := HG.far b1 | replace HG := hid (HG.out.below b1) | skip); (first | replace B := B.far b1 | replace B := hid (B.out.below b1) | skip)); clear b1))
      go_ret
      exact ⟨rfl, B.out⟩
end Go.Proofs.Ythgopanipmnphaa
