/-
  The program's Is. A part of the proof: see the head of the text that ends in 'Law'.
-/
import Derived.Test.YthgopanipmnphaaNaPlain2
import Derived.Test.YthgopanipmnphaaNa2
namespace Go.Proofs.Ythgopanipmnphaa
open Go.RowKit Go.Shelf
set_option linter.unusedVariables false

/-- A package's variable of the library's, of whatever value. -/
def GM (w : World) : Prop := ∃ m : Int, w.cell? ⟨0, 0, none⟩ = some (.int .i64 m)
theorem GM.below {w w' : World} (h : GM w) (hb : Below w.heap.size w w') : GM w' := by
  obtain ⟨m, hm⟩ := h
  exact ⟨m, cells_keep hb hm⟩
theorem contains_e (l : List UInt8) (b : Bool) (hb : Lib.contains l [47, 47] = b) (w : World) (hG : GM w) (hl : l.length ≤ 100000) :
    Calls Try.prog 23 #[.string (str l), .string ⟨#[47, 47]⟩] w fun e w' => e = .returned (.bool b) ∧ w' = w := by
  obtain ⟨m, hm⟩ := hG
  have h := Try.strings_Contains (str l) ⟨#[47, 47]⟩ m w (by rw [str_size]; omega) hm
  rw [str_toList] at h
  rw [← hb]
  exact h
theorem special_e (x : UInt8) (b : Bool) (hb : spB x.toNat = b) (w : World) :
    Calls Try.prog 24 #[.string ⟨#[40, 41, 123, 125, 37, 42, 34, 92]⟩, .int .u8 x.toNat] w fun e w' => ∃ r : Int, Hid (decide (0 ≤ r) = b) ∧ e = .returned (.int .i64 r) ∧ w' = w := by
  have h := Try.strings_IndexByte ⟨#[40, 41, 123, 125, 37, 42, 34, 92]⟩ x.toNat w
  refine h.mono fun e w' ⟨he, hw⟩ => ⟨_, hid ?_, he, hw⟩
  rw [← hb, ← spB_index x]
  simp

set_option maxHeartbeats 1000000 in
theorem is_any (l : List UInt8) (w : World) (hl : l.length ≤ 100000) (hG : GM w) :
    Calls Try.prog 13 #[.string (str l)] w fun e w' => e = .returned (.bool (isL l)) ∧ Below w.heap.size w w' := by
  have hsz : (str l).size ≤ 100000 := hl
  have HL : Hid ((str l).size = l.length) := hid rfl
  have HLL := hid hl
  have HG := hid hG
  clear hl hG
  rcases Nat.eq_zero_or_pos l.length with h0 | h0
  · have : l = [] := List.length_eq_zero_iff.1 h0
    subst this
    have e0 : (str [] == (⟨#[]⟩ : ByteArray)) = true := by decide
    have e1 : str [] = (⟨#[]⟩ : ByteArray) := rfl
    rw [isL_empty]
    go_enter Try.func13, Try.ntmps13
    go_wp2
    go_ret
    exact ⟨rfl, Below.refl _ _⟩
  · have hs0 : 0 < (str l).size := h0
    have e0 : (str l == (⟨#[]⟩ : ByteArray)) = false := by
      rw [show (⟨#[]⟩ : ByteArray) = str [] from rfl, str_beq, beq_eq_false_iff_ne]
      rintro rfl
      exact absurd h0 (by decide)
    have hn1 : l ≠ [] := by rintro rfl; exact absurd h0 (by decide)
    have hn2 : (l == []) = false := by rw [beq_eq_false_iff_ne]; exact hn1
    have hn3 : str l ≠ (⟨#[]⟩ : ByteArray) := fun h => hn1 (str_inj (show str l = str [] from h))
    have hn4 : decide (str l = (⟨#[]⟩ : ByteArray)) = false := decide_eq_false hn3
    obtain ⟨x0, hx0⟩ : ∃ x, (str l)[0] = x := ⟨_, rfl⟩
    obtain ⟨z, hz⟩ : ∃ z, (str l).size - 1 = z := ⟨_, rfl⟩
    have hz1 : z < (str l).size := by omega
    obtain ⟨xz, hxz⟩ : ∃ x, (str l)[z] = x := ⟨_, rfl⟩
    have hwz : IntKind.i64.wrap (((str l).size : Int) - 1) = (z : Int) := by rw [IntKind.wrap_i64]; omega
    obtain ⟨b1, h1⟩ : ∃ b, decide ((60 : Int) < (str l).size) = b := ⟨_, rfl⟩
    obtain ⟨b2, h2⟩ : ∃ b, ((x0.toNat : Int) == 47) = b := ⟨_, rfl⟩
    obtain ⟨b3, h3⟩ : ∃ b, ((xz.toNat : Int) == 47) = b := ⟨_, rfl⟩
    obtain ⟨b4, h4⟩ : ∃ b, Lib.contains l [47, 47] = b := ⟨_, rfl⟩
    have hx0l := x0.toNat_lt
    have hxzl := xz.toNat_lt
    have H4 := hid h4
    clear h4
    have HZ := hid hz
    clear hz
    go_enter Try.func13, Try.ntmps13
    go_upto_region 1 with fail
    go_cut [27] (fun t wx => t = .bool (b1 || b2 || b3 || b4) ∧ w = wx)
    case first =>
      go_wp2_with (go_at_call 23; refine (contains_e l b4 H4.out _ HG.out HLL.out).mono ?_; rintro e w1 ⟨rfl, rfl⟩)
      all_goals (go_meet; exact ⟨by simp [*], rfl⟩)
    case rest =>
    obtain ⟨rfl, rfl⟩ := hcut
    have hg0 : l.getD 0 0 = x0 := by rw [List.getD_eq_getElem?_getD, List.getElem?_eq_getElem h0, ← hx0, str_get]; rfl
    have hgz : l.getD (l.length - 1) 0 = xz := by
      have hz2 : z < l.length := hz1
      rw [show l.length - 1 = z from HZ.out, List.getD_eq_getElem?_getD, List.getElem?_eq_getElem hz2, ← hxz, str_get]
      rfl
    cases hb : (b1 || b2 || b3 || b4) with
    | true =>
      have hF : isL l = false := by
        cases b1 with
        | true => exact isL_long (by have := of_decide_eq_true h1; rw [HL.out] at this; omega)
        | false =>
          cases b2 with
          | true => exact isL_first h0 (by rw [hg0]; have := beq_iff_eq.1 h2; omega)
          | false =>
            cases b3 with
            | true => exact isL_last h0 (by rw [hgz]; have := beq_iff_eq.1 h3; omega)
            | false =>
              cases b4 with
              | true => exact isL_two H4.out
              | false => cases hb
      have HF := hid hF
      clear hF hb
      go_wp2
      go_ret
      exact ⟨by rw [HF.out]; rfl, Below.refl _ _⟩
    | false =>
      simp only [Bool.or_eq_false_iff] at hb
      obtain ⟨⟨⟨rfl, rfl⟩, rfl⟩, rfl⟩ := hb
      have HT : Hid ((∀ i, i < l.length → okN (l.getD i 0).toNat = true) → isL l = true) := hid (fun h => isL_good h0 (by have := of_decide_eq_false h1; rw [HL.out] at this; omega) (by rw [hg0]; have := beq_eq_false_iff_ne.1 h2; omega) (by rw [hgz]; have := beq_eq_false_iff_ne.1 h3; omega) H4.out h)
      clear hg0 hgz h1 h2 h3 hx0 hxz hwz hz1 H4 HZ
      go_wp2
      go_loopw [30] (fun i wr => ∃ k : Nat, k ≤ (str l).size ∧ i = .int .i64 k ∧ Hid ((∀ i, i < k → okN (l.getD i 0).toNat = true) ∧ Below w.heap.size w wr)) (fun i wr => (str l).size - (intOf i).toNat)
      case atStart => exact ⟨0, by omega, rfl, hid ⟨fun i hi => absurd hi (Nat.not_lt_zero i), Below.refl _ _⟩⟩
      case round =>
        obtain ⟨k, hk, rfl, hI⟩ := hrel
        by_cases hlt : k < (str l).size
        · have hd : decide (k < (str l).size) = true := by simpa using hlt
          obtain ⟨x, hx⟩ : ∃ x, (str l)[k] = x := ⟨_, rfl⟩
          have hgx : Hid (l.getD k 0 = x) := hid (by rw [List.getD_eq_getElem?_getD, List.getElem?_eq_getElem (by rwa [HL.out] at hlt), ← hx, str_get]; rfl)
          have hxl := x.toNat_lt
          go_upto_region 6 with fail
          go_cut [49] (fun t wx => t = .bool (!okN x.toNat) ∧ wr = wx)
          case first =>
            obtain ⟨b1, h1⟩ : ∃ b, decide ((x.toNat : Int) < 33) = b := ⟨_, rfl⟩
            obtain ⟨b2, h2⟩ : ∃ b, decide ((126 : Int) < (x.toNat : Int)) = b := ⟨_, rfl⟩
            obtain ⟨b3, h3⟩ : ∃ b, spB x.toNat = b := ⟨_, rfl⟩
            have hok := okN_sp x.toNat
            rw [h1, h2, h3] at hok
            have HOK := hid hok
            have H3 := hid h3
            clear hok h3
            go_wp2_with (go_at_call 24; refine (special_e x b3 H3.out _).mono ?_; rintro e w1 ⟨r, hr, rfl, rfl⟩; have hr1 := hr.out)
            all_goals (go_meet; exact ⟨by rw [HOK.out]; simp [*], rfl⟩)
          case rest =>
          obtain ⟨rfl, rfl⟩ := hcut
          cases hok : okN x.toNat with
          | false =>
            have HB := hid (isL_bad (l := l) (k := k) (by rwa [HL.out] at hlt) (.inl (by rw [hgx.out]; exact hok)))
            clear hok
            rw [show (!false) = true from rfl]
            go_wp2
            go_ret
            exact ⟨by rw [HB.out]; rfl, hI.out.2⟩
          | true =>
            rw [show (!true) = false from rfl]
            have HOK := hid hok
            clear hok
            go_wp2
            go_roundw
            case rel =>
              refine ⟨k + 1, by omega, by go_num, hid ⟨fun i hi => ?_, hI.out.2⟩⟩
              rcases Nat.lt_or_ge i k with h3 | h3
              · exact hI.out.1 i h3
              · obtain rfl : i = k := by omega
                rw [hgx.out]; exact HOK.out
            case measure => simp [intOf]; omega
        · have hd : decide (k < (str l).size) = false := by simpa using hlt
          have hE := HT.out (by have := hI.out.1; rwa [show k = l.length by rw [← HL.out]; omega] at this)
          have HE := hid hE
          have hb := hI.out.2
          clear hE
          go_wp2
          go_ret
          exact ⟨by rw [HE.out]; rfl, hb⟩
end Go.Proofs.Ythgopanipmnphaa
