/-
  The program's inbox. A part of the proof: see the head of the text that ends in 'Law'.
-/
import Derived.Test.YthgopanipmnphaaNa5
namespace Go.Proofs.Ythgopanipmnphaa
open Go.RowKit Go.Shelf
set_option linter.unusedVariables false

theorem libcut_e (l : List UInt8) (w : World) (hl : l.length ≤ 100000) (hG : GM w) :
    Calls Try.prog 27 #[.string (str l), .string ⟨#[47]⟩] w fun e w' => ∃ b f, e = .returned (.tuple #[.string (str (firstL l)), .string b, .bool f]) ∧ Below w.heap.size w w' := by
  obtain ⟨m, hm⟩ := hG
  have h := Try.strings_Cut (str l) ⟨#[47]⟩ m w (by rw [str_size]; omega) hm
  refine h.mono fun e w' ⟨he, n, hw⟩ => ⟨⟨(Lib.cut l [47]).2.1.toArray⟩, (Lib.cut l [47]).2.2, ?_, ?_⟩
  · rw [he, str_toList, ← libcut_first l]
    rfl
  · subst hw
    exact bq (Below.refl _ _) n
theorem upU_yes {x : UInt8} (h1 : 97 ≤ x.toNat) (h2 : x.toNat ≤ 122) : (upU x).toNat = x.toNat - 32 := by
  unfold upU
  rw [if_pos ⟨h1, h2⟩, UInt8.toNat_ofNat_of_lt' (by show x.toNat - 32 < 256; omega)]
theorem upU_no {x : UInt8} (h : ¬ (97 ≤ x.toNat ∧ x.toNat ≤ 122)) : upU x = x := by
  unfold upU
  rw [if_neg h]
/-- The first k are great letters. -/
def upTo (f : List UInt8) (k : Nat) : List UInt8 := (f.take k).map upU ++ f.drop k
theorem upTo_get (f : List UInt8) (k : Nat) (hk : k < f.length) : (upTo f k)[k]? = some f[k] := by
  unfold upTo
  rw [List.getElem?_append_right (by simp; omega), List.length_map, List.length_take, Nat.min_eq_left (by omega), Nat.sub_self, List.getElem?_drop]
  simp [hk]
theorem upTo_len (f : List UInt8) (k : Nat) : (upTo f k).length = f.length := by
  unfold upTo
  simp
  omega
theorem set_same {α : Type} {l : List α} {i : Nat} {x : α} (h : l[i]? = some x) : l.set i x = l := by
  apply List.ext_getElem?
  intro j
  rw [List.getElem?_set]
  split
  · rename_i hij
    subst hij
    rw [if_pos (List.getElem?_eq_some_iff.1 h).1, h]
  · rfl
theorem upTo_set (f : List UInt8) (k : Nat) (hk : k < f.length) : (upTo f k).set k (upU f[k]) = upTo f (k + 1) := by
  apply List.ext_getElem?
  intro i
  unfold upTo
  rw [List.getElem?_set]
  by_cases h : k = i
  · subst h
    rw [if_pos rfl, if_pos (by simp; omega), List.getElem?_append_left (by simp; omega)]
    simp [hk]
  · rw [if_neg h]
    rcases Nat.lt_or_ge i k with h1 | h1
    · rw [List.getElem?_append_left (by simp; omega), List.getElem?_append_left (by simp; omega), List.getElem?_map, List.getElem?_map, List.getElem?_take_of_lt h1, List.getElem?_take_of_lt (by omega)]
    · rw [List.getElem?_append_right (by simp; omega), List.getElem?_append_right (by simp; omega)]
      simp
      congr 1
      omega

set_option maxHeartbeats 1000000 in
theorem inbox_any (l : List UInt8) (w : World) (hl : l.length ≤ 100000) (hG : GM w) :
    Calls Try.prog 17 #[.string (str l)] w fun e w' => e = .returned (.string (str (inboxL l))) ∧ Below w.heap.size w w' := by
  have hfl := firstL_len l
  have hsz : (str l).size ≤ 100000 := hl
  have HG := hid hG
  obtain ⟨f, hf⟩ : ∃ f, firstL l = f := ⟨_, rfl⟩
  have hcut := libcut_e l w hl hG
  rw [hf] at hcut hfl
  have HCUT := hid hcut
  have hfs : (str f).size = f.length := rfl
  clear hG hcut
  by_cases h5 : f.length = 5
  · have d5 : (((str f).size : Int) != 5) = false := by rw [str_size, h5]; rfl
    have H5 := hid h5
    have HF := hid hf
    clear hfs h5 hf
    go_enter Try.func17, Try.ntmps17
    go_wp2_with (go_at_call 27; refine HCUT.out.mono ?_; rintro e w1 ⟨b, fo, rfl, b1⟩; obtain ⟨c, hcv⟩ := run_bytes (P := Try.prog) w1 9 37 5 f Try.underlying9 Try.underlying37 Try.underlying5)
    have O1 := hid (bytesW_own w1 5 f)
    have B1 := hid (next b1 (bytesW_below w1 5 f))
    have hbs := b1.size
    clear b1 hcv HCUT
    generalize bytesW w1 5 f = W1 at *
    go_loopw [23] (fun i wr => ∃ k : Nat, k ≤ (str f).size ∧ i = .int .i64 k ∧ Hid (OwnB wr w1.heap.size 5 (upTo f k) ∧ Below w.heap.size w wr)) (fun i wr => (str f).size - (intOf i).toNat)
    case atStart => exact ⟨0, by omega, rfl, hid ⟨O1.out, B1.out⟩⟩
    case round =>
      obtain ⟨k, hk, rfl, hI⟩ := hrel
      clear O1 B1
      by_cases hlt : k < (str f).size
      · have hd : decide (k < (str f).size) = true := by simpa using hlt
        have hlf : k < f.length := hlt
        obtain ⟨x, hx⟩ : ∃ x, f[k] = x := ⟨_, rfl⟩
        have hcx : wr.cell? ⟨w1.heap.size, k, none⟩ = some (.int .u8 x.toNat) := hI.out.1.cell (by rw [upTo_get f k hlf, hx])
        have hfz : wr.frozen? ⟨w1.heap.size, k, none⟩ = false := hI.out.1.frozen (by rw [upTo_len]; exact hlf)
        have hi0 : (0 : Int) ≤ (k : Int) := by omega
        have hi1 : (k : Int) < ((str f).size : Int) := by omega
        have hxl := x.toNat_lt
        have hset := upTo_set f k hlf
        rw [hx] at hset
        have HSET := hid hset
        have HX := hid hx
        clear hset hx
        by_cases h1 : 97 ≤ x.toNat
        · have d1 : decide (97 ≤ x.toNat) = true := by simpa using h1
          by_cases h2 : x.toNat ≤ 122
          · have d2 : decide (x.toNat ≤ 122) = true := by simpa using h2
            go_wp2
            go_roundw
            case rel =>
              have hs := hI.out.1.set k (upU x)
              rw [HSET.out, upU_yes h1 h2] at hs
              refine ⟨k + 1, by omega, by go_num, hid ⟨?_, hI.out.2.setCell (p := ⟨w1.heap.size, k, none⟩) hbs _⟩⟩
              rw [show ((x.toNat - 32 : Nat) : Int) = (x.toNat : Int) - 32 by omega] at hs
              exact hs
            case measure => simp [intOf]; omega
          · have d2 : decide (x.toNat ≤ 122) = false := by simpa using h2
            go_wp2
            go_roundw
            case rel =>
              refine ⟨k + 1, by omega, by go_num, hid ⟨?_, hI.out.2⟩⟩
              have hs := HSET.out
              rw [upU_no (fun h => h2 h.2)] at hs
              rw [← hs, set_same (by rw [upTo_get f k hlf, HX.out])]
              exact hI.out.1
            case measure => simp [intOf]; omega
        · have d1 : decide (97 ≤ x.toNat) = false := by simpa using h1
          go_wp2
          go_roundw
          case rel =>
            refine ⟨k + 1, by omega, by go_num, hid ⟨?_, hI.out.2⟩⟩
            have hs := HSET.out
            rw [upU_no (fun h => h1 h.1)] at hs
            rw [← hs, set_same (by rw [upTo_get f k hlf, HX.out])]
            exact hI.out.1
          case measure => simp [intOf]; omega
      · have hd : decide (k < (str f).size) = false := by simpa using hlt
        have hkf : k = f.length := by have : (str f).size = f.length := rfl; omega
        have hup : upTo f k = f.map upU := by unfold upTo; rw [hkf, List.take_length, List.drop_length, List.append_nil]
        have ho := hI.out.1.oct
        rw [hup, List.length_map, show f.length = (str f).size from rfl] at ho
        have hcb := run_string_oct (P := Try.prog) c ho Try.underlying37 Try.underlying5 Try.underlying9
        have hB := hid hI.out.2
        clear ho hup hkf hI
        by_cases hm : f.map upU = INBOX
        · rw [hm, show str INBOX = (⟨#[73, 78, 66, 79, 88]⟩ : ByteArray) from rfl] at hcb
          have hfm : (firstL l).map upU = INBOX := by rw [HF.out]; exact hm
          have hl5 := inbox_len5 hfm
          have h5' : (5 : Int) ≤ ((str l).size : Int) := by rw [str_size]; omega
          have he : Hid (inboxL l = INBOX ++ l.drop 5) := hid (by unfold inboxL; rw [if_pos hfm])
          have hex := drop5 l
          have hap : (⟨#[73, 78, 66, 79, 88]⟩ : ByteArray) ++ str (l.drop 5) = str (INBOX ++ l.drop 5) := str_append INBOX (l.drop 5)
          have hs2 : (str (l.drop 5)).size ≤ 100000 := by rw [str_size, List.length_drop]; omega
          have hno : ¬ 9223372036854775807 < (⟨#[73, 78, 66, 79, 88]⟩ : ByteArray).size + (str (l.drop 5)).size := by
            have : (⟨#[73, 78, 66, 79, 88]⟩ : ByteArray).size = 5 := rfl
            omega
          have hno2 : ¬ 9223372036854775807 < 5 + (str (l.drop 5)).size := by omega
          clear hm hfm
          go_wp2
          go_ret
          exact ⟨by rw [he.out]; rfl, hB.out⟩
        · have hfm : ¬ (firstL l).map upU = INBOX := by rw [HF.out]; exact hm
          have he : Hid (inboxL l = l) := hid (by unfold inboxL; rw [if_neg hfm])
          generalize f.map upU = m at hm hcb
          have hn1 : m ≠ [73, 78, 66, 79, 88] := hm
          have hn2 : (str m != (⟨#[73, 78, 66, 79, 88]⟩ : ByteArray)) = true := by
            rw [show (⟨#[73, 78, 66, 79, 88]⟩ : ByteArray) = str INBOX from rfl, str_bne, bne_iff_ne]
            exact hm
          have hn3 : str m ≠ (⟨#[73, 78, 66, 79, 88]⟩ : ByteArray) := fun h => hm (str_inj (show str m = str INBOX from h))
          have hn4 : decide (str m = (⟨#[73, 78, 66, 79, 88]⟩ : ByteArray)) = false := decide_eq_false hn3
          have hn5 : (m == [73, 78, 66, 79, 88]) = false := by rw [beq_eq_false_iff_ne]; exact hn1
          clear hm hfm
          go_wp2
          go_ret
          exact ⟨by rw [he.out]; rfl, hB.out⟩
  · have d5 : (((str f).size : Int) != 5) = true := by rw [str_size]; simp; omega
    have he : Hid (inboxL l = l) := hid (by
      unfold inboxL
      rw [hf, if_neg]
      intro h
      have := congrArg List.length h
      rw [List.length_map] at this
      exact h5 this)
    clear hfs h5
    go_enter Try.func17, Try.ntmps17
    go_wp2_with (go_at_call 27; refine HCUT.out.mono ?_; rintro e w1 ⟨b, fo, rfl, b1⟩)
    go_ret
    exact ⟨by rw [he.out]; rfl, b1⟩
end Go.Proofs.Ythgopanipmnphaa
