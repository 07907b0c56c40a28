/-
  The clock as the document reckons it; digits; Small texts; numbers in texts; Months and days of the week in texts; The day that three texts tell: the walks; The day that three texts tell, as the document says; The words of a text; what one rune takes: plain. A part of the proof: see the head of the text that ends in 'Law'.
-/
import Derived.Test.YtonjadmldgloaaaGreatDoorDaA
import Derived.Test.YtonjadmldgloaaaGreatDoorBytes
import Derived.Test.YtonjadmldgloaaaGreatDoorLib2
import Derived.Shelf.Unicode.DecodeAny
namespace Go.Proofs.YtonjadmldgloaaaGreatDoor.D16
section
open Go.RowKit Go.Shelf
set_option linter.unusedVariables false
theorem clock_q {S q r : Int} (hs : S = 86400 * q + r) : S - 86400 * q = r := by omega
set_option maxHeartbeats 4000000 in
theorem clock_yes (s z : Int) (w : World) (h : mayD s z = true) :
    Calls Tryz.prog 26 #[.agg #[.int .i64 s, .int .i64 z]] w fun e w' => e = .returned (.tuple #[.int .i64 ((s + 60 * z) / 86400), .int .i64 ((s + 60 * z) % 86400), .bool true]) ∧ Below w.heap.size w w' := by
  obtain ⟨x0, x1⟩ := date_box w s z
  have HB := hid (box_below w s z)
  obtain ⟨f1, f2, f3, f4, f5, f6⟩ := mayD_facts h
  have d1 : decide (z < -1439) = false := by simp; omega
  have d2 : decide (1439 < z) = false := by simp; omega
  have d3 : decide (s < -100000000000) = false := by simp; omega
  have d4 : decide (1000000000000 < s) = false := by simp; omega
  obtain ⟨q, r, hq, hr, hs, hn, hp, r1, r2⟩ := tdiv_facts (s + z * 60)
  have e0 : s + 60 * z = s + z * 60 := by omega
  rw [e0] at f3 f4 ⊢
  have b1 : -30000000 ≤ q := by omega
  have b2 : q ≤ 30000000 := by omega
  have e5 : s + z * 60 - 86400 * q = r := by omega
  by_cases hr0 : r < 0
  · have d5 : decide (r < 0) = true := by simpa using hr0
    obtain ⟨e1, e2⟩ := hn hr0
    have HCI := hid (fun w => rcivil_yes (q - 1) w (by omega) (by omega))
    rw [e1, e2]
    clear hn hp hs e1 e2 hr0 h f3 f4 e0
    go_enter Tryz.func26, Tryz.ntmps26
    go_wp2_with (go_at_call 53; (with_reducible refine (HCI.out _).mono ?_); rintro e w3 ⟨rfl, rfl⟩)
    go_ret3
    exact ⟨rfl, HB.out⟩
  · have d5 : decide (r < 0) = false := by simpa using hr0
    obtain ⟨e1, e2⟩ := hp hr0
    have HCI := hid (fun w => rcivil_yes q w (by omega) (by omega))
    rw [e1, e2]
    clear hn hp hs e1 e2 hr0 h f3 f4 e0
    go_enter Tryz.func26, Tryz.ntmps26
    go_wp2_with (go_at_call 53; (with_reducible refine (HCI.out _).mono ?_); rintro e w3 ⟨rfl, rfl⟩)
    go_ret3
    exact ⟨rfl, HB.out⟩
def ClkNo (w : World) (e : Ending) (w' : World) : Prop := ∃ a b : Int, e = .returned (.tuple #[.int .i64 a, .int .i64 b, .bool false]) ∧ Below w.heap.size w w'
set_option maxHeartbeats 4000000 in
theorem clock_no (s z : Int) (w : World) (h : mayD s z = false) (hs : -9223372036854775808 ≤ s ∧ s ≤ 9223372036854775807) (hz : -9223372036854775808 ≤ z ∧ z ≤ 9223372036854775807) :
    Calls Tryz.prog 26 #[.agg #[.int .i64 s, .int .i64 z]] w (ClkNo w) := by
  obtain ⟨x0, x1⟩ := date_box w s z
  have HB := hid (box_below w s z)
  unfold mayD at h
  have h := of_decide_eq_false h
  by_cases h1 : z < -1439
  · have d1 : decide (z < -1439) = true := by simpa using h1
    clear h hs hz h1
    go_enter Tryz.func26, Tryz.ntmps26
    go_wp2
    go_ret3
    exact ⟨0, 0, rfl, HB.out⟩
  · have d1 : decide (z < -1439) = false := by simpa using h1
    by_cases h2 : 1439 < z
    · have d2 : decide (1439 < z) = true := by simpa using h2
      clear h hs hz h1 h2
      go_enter Tryz.func26, Tryz.ntmps26
      go_wp2
      go_ret3
      exact ⟨0, 0, rfl, HB.out⟩
    · have d2 : decide (1439 < z) = false := by simpa using h2
      by_cases h3 : s < -100000000000
      · have d3 : decide (s < -100000000000) = true := by simpa using h3
        clear h hs hz h1 h2 h3
        go_enter Tryz.func26, Tryz.ntmps26
        go_wp2
        go_ret3
        exact ⟨0, 0, rfl, HB.out⟩
      · have d3 : decide (s < -100000000000) = false := by simpa using h3
        by_cases h4 : 1000000000000 < s
        · have d4 : decide (1000000000000 < s) = true := by simpa using h4
          clear h hs hz h1 h2 h3 h4
          go_enter Tryz.func26, Tryz.ntmps26
          go_wp2
          go_ret3
          exact ⟨0, 0, rfl, HB.out⟩
        · have d4 : decide (1000000000000 < s) = false := by simpa using h4
          have f1 : -1439 ≤ z := by omega
          have f2 : z ≤ 1439 := by omega
          have f5 : -100000000000 ≤ s := by omega
          have f6 : s ≤ 1000000000000 := by omega
          obtain ⟨q, r, hq, hr, hs', hn, hp, r1, r2⟩ := tdiv_facts (s + z * 60)
          rw [show s + 60 * z = s + z * 60 by omega] at h
          have b1 : -30000000 ≤ q := by omega
          have b2 : q ≤ 30000000 := by omega
          have e5 : s + z * 60 - 86400 * q = r := by omega
          by_cases hr0 : r < 0
          · have d5 : decide (r < 0) = true := by simpa using hr0
            have HCI := hid (fun w => rcivil_no (q - 1) w (by have := (hn hr0).1; omega))
            clear hn hp hs' hr0 h h1 h2 h3 h4 hs hz
            go_enter Tryz.func26, Tryz.ntmps26
            go_wp2_with (go_at_call 53; (with_reducible refine (HCI.out _).mono ?_); rintro e w3 ⟨rfl, rfl⟩)
            go_ret3
            exact ⟨_, _, rfl, HB.out⟩
          · have d5 : decide (r < 0) = false := by simpa using hr0
            have HCI := hid (fun w => rcivil_no q w (by have := (hp hr0).1; omega))
            clear hn hp hs' hr0 h h1 h2 h3 h4 hs hz
            go_enter Tryz.func26, Tryz.ntmps26
            go_wp2_with (go_at_call 53; (with_reducible refine (HCI.out _).mono ?_); rintro e w3 ⟨rfl, rfl⟩)
            go_ret3
            exact ⟨_, _, rfl, HB.out⟩
/-- n digits. -/
def digL (v : Nat) : Nat → List UInt8
  | 0 => []
  | n + 1 => UInt8.ofNat (48 + v / 10 ^ n % 10) :: digL v n
theorem digL_len (v : Nat) : ∀ n, (digL v n).length = n
  | 0 => rfl
  | n + 1 => by rw [digL, List.length_cons, digL_len v n]
theorem dig_nat (d : Nat) (h : d < 10) : (UInt8.ofNat (48 + d)).toNat = 48 + d := UInt8.toNat_ofNat_of_lt' (by show 48 + d < 256; omega)
theorem ten_cut (d : Nat) (h : d < 10) : (⟨#[48, 49, 50, 51, 52, 53, 54, 55, 56, 57]⟩ : ByteArray).extract d (d + 1) = str [UInt8.ofNat (48 + d)] := by
  obtain rfl | rfl | rfl | rfl | rfl | rfl | rfl | rfl | rfl | rfl : d = 0 ∨ d = 1 ∨ d = 2 ∨ d = 3 ∨ d = 4 ∨ d = 5 ∨ d = 6 ∨ d = 7 ∨ d = 8 ∨ d = 9 := by omega
  all_goals rfl
theorem strP {W : World} {A : Option Addr} {n : Nat} {l : List UInt8} (c : Nat) (h : Oct W A n l) : (convert 28 9 (.slice A n c)).run Tryz.prog W = .ok (.string (str l)) W := run_string_oct c h Tryz.underlying28 Tryz.underlying5 Tryz.underlying9
/-- The months. -/
def monL (i : Nat) : List UInt8 := ([[74, 97, 110], [70, 101, 98], [77, 97, 114], [65, 112, 114], [77, 97, 121], [74, 117, 110], [74, 117, 108], [65, 117, 103], [83, 101, 112], [79, 99, 116], [78, 111, 118], [68, 101, 99]] : List (List UInt8)).getD i []
theorem monL_len {i : Nat} (h : i < 12) : (monL i).length = 3 := by
  obtain rfl | rfl | rfl | rfl | rfl | rfl | rfl | rfl | rfl | rfl | rfl | rfl : i = 0 ∨ i = 1 ∨ i = 2 ∨ i = 3 ∨ i = 4 ∨ i = 5 ∨ i = 6 ∨ i = 7 ∨ i = 8 ∨ i = 9 ∨ i = 10 ∨ i = 11 := by omega
  all_goals rfl
def monV : Value := .agg #[.string ⟨#[74, 97, 110]⟩, .string ⟨#[70, 101, 98]⟩, .string ⟨#[77, 97, 114]⟩, .string ⟨#[65, 112, 114]⟩, .string ⟨#[77, 97, 121]⟩, .string ⟨#[74, 117, 110]⟩, .string ⟨#[74, 117, 108]⟩, .string ⟨#[65, 117, 103]⟩, .string ⟨#[83, 101, 112]⟩, .string ⟨#[79, 99, 116]⟩, .string ⟨#[78, 111, 118]⟩, .string ⟨#[68, 101, 99]⟩]
theorem months_any (w : World) :
    Calls Tryz.prog 133 #[] w fun e w' => e = .returned monV ∧ Below w.heap.size w w' := by
  go_enter Tryz.func133, Tryz.ntmps133
  go_wp2
  exact bodyPost_ret (v := monV) (by simp [results, Tryz.results133, go_sem, monV]) rfl ⟨rfl, (Below.refl _ _).alloc (Nat.le_refl _) _⟩
theorem index_mon (i : Nat) (h : i < 12) (w : World) : (Instr.index 159 monV (.int .i64 (i : Int))).run Tryz.prog w = .ok (.string (str (monL i))) w := by
  obtain rfl | rfl | rfl | rfl | rfl | rfl | rfl | rfl | rfl | rfl | rfl | rfl : i = 0 ∨ i = 1 ∨ i = 2 ∨ i = 3 ∨ i = 4 ∨ i = 5 ∨ i = 6 ∨ i = 7 ∨ i = 8 ∨ i = 9 ∨ i = 10 ∨ i = 11 := by omega
  all_goals kernel_rfl
end
section
open Go.RowKit Go.Shelf
set_option linter.unusedVariables false
theorem smallU_yes {x : UInt8} (h1 : 65 ≤ x.toNat) (h2 : x.toNat ≤ 90) : (smallU x).toNat = x.toNat + 32 := by
  unfold smallU
  rw [if_pos ⟨h1, h2⟩, UInt8.toNat_ofNat_of_lt' (by show x.toNat + 32 < 256; omega)]
theorem smallU_no {x : UInt8} (h : ¬ (65 ≤ x.toNat ∧ x.toNat ≤ 90)) : smallU x = x := by
  unfold smallU
  rw [if_neg h]
/-- The first k are small letters. -/
def lowTo (f : List UInt8) (k : Nat) : List UInt8 := (f.take k).map smallU ++ f.drop k
theorem lowTo_get (f : List UInt8) (k : Nat) (hk : k < f.length) : (lowTo f k)[k]? = some f[k] := by
  unfold lowTo
  rw [List.getElem?_append_right (by simp; omega), List.length_map, List.length_take, Nat.min_eq_left (by omega), Nat.sub_self, List.getElem?_drop]
  simp [hk]
theorem lowTo_len (f : List UInt8) (k : Nat) : (lowTo f k).length = f.length := by
  unfold lowTo
  simp
  omega
theorem set_same {α : Type} {l : List α} {i : Nat} {x : α} (h : l[i]? = some x) : l.set i x = l := by
  apply List.ext_getElem?
  intro j
  rw [List.getElem?_set]
  split
  · rename_i hij
    subst hij
    rw [if_pos (List.getElem?_eq_some_iff.1 h).1, h]
  · rfl
theorem lowTo_set (f : List UInt8) (k : Nat) (hk : k < f.length) : (lowTo f k).set k (smallU f[k]) = lowTo f (k + 1) := by
  apply List.ext_getElem?
  intro i
  unfold lowTo
  rw [List.getElem?_set]
  by_cases h : k = i
  · subst h
    rw [if_pos rfl, if_pos (by simp; omega), List.getElem?_append_left (by simp; omega)]
    simp [hk]
  · rw [if_neg h]
    rcases Nat.lt_or_ge i k with h1 | h1
    · rw [List.getElem?_append_left (by simp; omega), List.getElem?_append_left (by simp; omega), List.getElem?_map, List.getElem?_map, List.getElem?_take_of_lt h1, List.getElem?_take_of_lt (by omega)]
    · rw [List.getElem?_append_right (by simp; omega), List.getElem?_append_right (by simp; omega)]
      simp
      congr 1
      omega
set_option maxHeartbeats 1000000 in
theorem lower_any (f : List UInt8) (w : World) (hl : f.length ≤ 100000) :
    Calls Tryz.prog 115 #[.string (str f)] w fun e w' => e = .returned (.string (str (f.map smallU))) ∧ Below w.heap.size w w' := by
  have hsz : (str f).size ≤ 100000 := hl
  obtain ⟨c, hcv⟩ := run_bytes (P := Tryz.prog) w 9 28 5 f Tryz.underlying9 Tryz.underlying28 Tryz.underlying5
  go_enter Tryz.func115, Tryz.ntmps115
  go_wp2
  have O1 := hid (bytesW_own w 5 f)
  have B1 := hid (bytesW_below w 5 f)
  clear hcv
  generalize bytesW w 5 f = W1 at *
  go_loopw [10] (fun i wr => ∃ k : Nat, k ≤ (str f).size ∧ i = .int .i64 k ∧ Hid (OwnB wr w.heap.size 5 (lowTo f k) ∧ Below w.heap.size w wr)) (fun i wr => (str f).size - (intOf i).toNat)
  case atStart => exact ⟨0, by omega, rfl, hid ⟨O1.out, B1.out⟩⟩
  case round =>
    obtain ⟨k, hk, rfl, hI⟩ := hrel
    clear O1 B1
    by_cases hlt : k < (str f).size
    · have hd : decide (k < (str f).size) = true := by simpa using hlt
      have hlf : k < f.length := hlt
      obtain ⟨x, hx⟩ : ∃ x, f[k] = x := ⟨_, rfl⟩
      have hcx : wr.cell? ⟨w.heap.size, k, none⟩ = some (.int .u8 x.toNat) := hI.out.1.cell (by rw [lowTo_get f k hlf, hx])
      have hfz : wr.frozen? ⟨w.heap.size, k, none⟩ = false := hI.out.1.frozen (by rw [lowTo_len]; exact hlf)
      have hi0 : (0 : Int) ≤ (k : Int) := by omega
      have hi1 : (k : Int) < ((str f).size : Int) := by omega
      have hxl := x.toNat_lt
      have hset := lowTo_set f k hlf
      rw [hx] at hset
      have HSET := hid hset
      have HX := hid hx
      clear hset hx
      by_cases h1 : 65 ≤ x.toNat
      · have d1 : decide (65 ≤ x.toNat) = true := by simpa using h1
        by_cases h2 : x.toNat ≤ 90
        · have d2 : decide (x.toNat ≤ 90) = true := by simpa using h2
          go_wp2
          go_roundw
          case rel =>
            have hs := hI.out.1.set k (smallU x)
            rw [HSET.out, smallU_yes h1 h2] at hs
            refine ⟨k + 1, by omega, by go_num, hid ⟨?_, hI.out.2.setCell (p := ⟨w.heap.size, k, none⟩) (Nat.le_refl _) _⟩⟩
            rw [show ((x.toNat + 32 : Nat) : Int) = (x.toNat : Int) + 32 by omega] at hs
            exact hs
          case measure => simp [intOf]; omega
        · have d2 : decide (x.toNat ≤ 90) = false := by simpa using h2
          go_wp2
          go_roundw
          case rel =>
            refine ⟨k + 1, by omega, by go_num, hid ⟨?_, hI.out.2⟩⟩
            have hs := HSET.out
            rw [smallU_no (fun h => h2 h.2)] at hs
            rw [← hs, set_same (by rw [lowTo_get f k hlf, HX.out])]
            exact hI.out.1
          case measure => simp [intOf]; omega
      · have d1 : decide (65 ≤ x.toNat) = false := by simpa using h1
        go_wp2
        go_roundw
        case rel =>
          refine ⟨k + 1, by omega, by go_num, hid ⟨?_, hI.out.2⟩⟩
          have hs := HSET.out
          rw [smallU_no (fun h => h1 h.1)] at hs
          rw [← hs, set_same (by rw [lowTo_get f k hlf, HX.out])]
          exact hI.out.1
        case measure => simp [intOf]; omega
    · have hd : decide (k < (str f).size) = false := by simpa using hlt
      have hkf : k = f.length := by have : (str f).size = f.length := rfl; omega
      have hup : lowTo f k = f.map smallU := by unfold lowTo; rw [hkf, List.take_length, List.drop_length, List.append_nil]
      have ho := hI.out.1.oct
      rw [hup, List.length_map, show f.length = (str f).size from rfl] at ho
      have hcb := run_string_oct (P := Tryz.prog) c ho Tryz.underlying28 Tryz.underlying5 Tryz.underlying9
      have hB := hid hI.out.2
      clear ho hup hkf hI
      go_wp2
      go_ret
      exact ⟨rfl, hB.out⟩
def digB (x : UInt8) : Bool := decide (48 ≤ x.toNat ∧ x.toNat ≤ 57)
/-- The number of digits. -/
def numV (l : List UInt8) : Nat := l.foldl (fun a x => 10 * a + (x.toNat - 48)) 0
theorem numV_snoc (l : List UInt8) (x : UInt8) : numV (l ++ [x]) = 10 * numV l + (x.toNat - 48) := by simp [numV]
def numOk (l : List UInt8) : Bool := l.all digB && !l.isEmpty
theorem all_snoc (l : List UInt8) (x : UInt8) : (l ++ [x]).all digB = (l.all digB && digB x) := by simp
theorem numG_lt (l : List UInt8) : ∀ a, l.all digB = true → l.foldl (fun a x => 10 * a + (x.toNat - 48)) a < (a + 1) * 10 ^ l.length := by
  induction l with
  | nil => intro a _; simp
  | cons x l ih =>
    intro a h
    rw [List.all_cons, Bool.and_eq_true] at h
    have hx := of_decide_eq_true h.1
    have h1 := ih (10 * a + (x.toNat - 48)) h.2
    rw [List.foldl_cons, List.length_cons, Nat.pow_succ]
    refine Nat.lt_of_lt_of_le h1 ?_
    rw [show (a + 1) * (10 ^ l.length * 10) = (10 * (a + 1)) * 10 ^ l.length by rw [Nat.mul_comm (10 ^ l.length) 10, ← Nat.mul_assoc, Nat.mul_comm (a + 1) 10]]
    exact Nat.mul_le_mul_right _ (by omega)
theorem numV_lt {l : List UInt8} (h : l.all digB = true) : numV l < 10 ^ l.length := by
  have := numG_lt l 0 h
  simpa [numV] using this
theorem numV_lt9 {l : List UInt8} {k : Nat} (h : l.all digB = true) (hl : l.length = k) (hk : k ≤ 9) : numV l < 1000000000 := by
  have h1 := numV_lt h
  rw [hl] at h1
  have : 10 ^ k ≤ 10 ^ 9 := Nat.pow_le_pow_right (by omega) hk
  omega
theorem take_all_false {l : List UInt8} {k : Nat} (hk : k < l.length) (h : digB l[k] = false) : l.all digB = false := by
  rw [List.all_eq_false]
  exact ⟨l[k], List.getElem_mem hk, by rw [h]; decide⟩
def NumPost (w : World) (l : List UInt8) (e : Ending) (w' : World) : Prop := ∃ X : Int, e = .returned (.tuple #[.int .i64 X, .bool (numOk l)]) ∧ (numOk l = true → l.length ≤ 9 → X = numV l) ∧ w = w'
def RNumPost (w : World) (l : List UInt8) (e : Ending) (w' : World) : Prop := ∃ X : Int, e = .returned (.int .i64 X) ∧ (numOk l = false → X = -1) ∧ (numOk l = true → l.length ≤ 9 → X = numV l) ∧ w = w'
theorem numOk_bad {l : List UInt8} {k : Nat} (hk : k < l.length) (h : digB l[k] = false) : numOk l = false := by
  unfold numOk
  rw [take_all_false hk h]
  rfl
theorem numOk_good {l : List UInt8} (h : l.all digB = true) (h0 : l ≠ []) : numOk l = true := by
  unfold numOk
  rw [h]
  cases l with
  | nil => exact absurd rfl h0
  | cons x l => rfl
set_option maxHeartbeats 2000000 in
theorem number_any (l : List UInt8) (w : World) (hl : l.length ≤ 100000) :
    Calls Tryz.prog 116 #[.string (str l)] w (NumPost w l) := by
  have hsz : (str l).size ≤ 100000 := hl
  have HL : Hid ((str l).size = l.length) := hid rfl
  go_enter Tryz.func116, Tryz.ntmps116
  go_wp2
  go_loop [4, 8] (fun t i => ∃ (k : Nat) (X : Int), k ≤ (str l).size ∧ i = .int .i64 (k : Int) ∧ t = .int .i64 X ∧ Hid ((l.take k).all digB = true) ∧ Hid (k ≤ 9 → X = numV (l.take k))) (fun _ i => (str l).size - (intOf i).toNat)
  case atStart => exact ⟨0, 0, by omega, rfl, rfl, hid rfl, hid (fun _ => rfl)⟩
  case round =>
    obtain ⟨k, X, hk, rfl, rfl, hA, hX⟩ := hrel
    by_cases hlt : k < (str l).size
    · have hd : decide (k < (str l).size) = true := by simpa using hlt
      have hll : k < l.length := by rwa [HL.out] at hlt
      obtain ⟨x, hx⟩ : ∃ x, (str l)[k]'hlt = x := ⟨_, rfl⟩
      have hgx : Hid (l[k] = x) := hid hx
      have hxl := x.toNat_lt
      by_cases h1 : x.toNat < 48
      · have d1 : decide (x.toNat < 48) = true := by simpa using h1
        have HB := hid (numOk_bad (k := k) hll (by rw [hgx.out]; exact decide_eq_false (by omega)))
        go_wp2
        go_ret2
        exact ⟨0, by rw [HB.out]; rfl, (fun h => by rw [HB.out] at h; cases h), rfl⟩
      · have d1 : decide (x.toNat < 48) = false := by simpa using h1
        by_cases h2 : 57 < x.toNat
        · have d2 : decide (57 < x.toNat) = true := by simpa using h2
          have HB := hid (numOk_bad (k := k) hll (by rw [hgx.out]; exact decide_eq_false (by omega)))
          go_wp2
          go_ret2
          exact ⟨0, by rw [HB.out]; rfl, (fun h => by rw [HB.out] at h; cases h), rfl⟩
        · have d2 : decide (57 < x.toNat) = false := by simpa using h2
          have h48 : 48 ≤ x.toNat := by omega
          have hts : l.take (k + 1) = l.take k ++ [x] := by rw [List.take_succ_eq_append_getElem hll, hgx.out]
          have HA2 := hid (show (l.take (k + 1)).all digB = true by rw [hts, all_snoc, hA.out, Bool.true_and]; exact decide_eq_true ⟨h48, by omega⟩)
          have HV := hid (show numV (l.take (k + 1)) = 10 * numV (l.take k) + (x.toNat - 48) by rw [hts, numV_snoc])
          clear hts
          by_cases hk9 : k ≤ 8
          · obtain ⟨v, hv⟩ : ∃ v, numV (l.take k) = v := ⟨_, rfl⟩
            have hvb : v < 1000000000 := by rw [← hv]; exact numV_lt9 (k := k) hA.out (by rw [List.length_take]; omega) (by omega)
            obtain rfl : X = v := by rw [← hv]; exact hX.out (by omega)
            have HVV := hid hv
            clear hX hv
            go_wp2
            go_round
            case rel => exact ⟨k + 1, _, by omega, by go_num, rfl, HA2, hid (fun _ => by rw [HV.out, HVV.out]; omega)⟩
            case measure => simp [intOf]; omega
          · clear hX
            go_wp2
            go_round
            case rel => exact ⟨k + 1, _, by omega, by go_num, rfl, HA2, hid (fun h => by omega)⟩
            case measure => simp [intOf]; omega
    · have hd : decide (k < (str l).size) = false := by simpa using hlt
      obtain rfl : k = (str l).size := by omega
      have htk : l.take (str l).size = l := List.take_length
      have hA2 := hA.out
      have hX2 := hX.out
      rw [htk] at hA2 hX2
      by_cases h0 : l = []
      · subst h0
        go_wp2
        go_ret2
        exact ⟨X, rfl, (fun h => by cases h), rfl⟩
      · have hn1 : (str l != (⟨#[]⟩ : ByteArray)) = true := by
          show (str l != str []) = true
          rw [str_bne, bne_iff_ne]
          exact h0
        have hn2 : l.isEmpty = false := by simpa using h0
        have HOK := hid (numOk_good hA2 h0)
        have HX2 := hid hX2
        clear hA2 hX2 htk hA hX
        go_wp2
        go_ret2
        exact ⟨X, by rw [HOK.out]; rfl, fun _ h => HX2.out h, rfl⟩
set_option maxHeartbeats 2000000 in
theorem rnumber_any (l : List UInt8) (w : World) (hl : l.length ≤ 100000) :
    Calls Tryz.prog 84 #[.string (str l)] w (RNumPost w l) := by
  have hsz : (str l).size ≤ 100000 := hl
  have HL : Hid ((str l).size = l.length) := hid rfl
  go_enter Tryz.func84, Tryz.ntmps84
  go_wp2
  go_loop [3, 4] (fun t i => ∃ (k : Nat) (X : Int), k ≤ (str l).size ∧ i = .int .i64 (k : Int) ∧ t = .int .i64 X ∧ Hid ((l.take k).all digB = true) ∧ Hid (k ≤ 9 → X = numV (l.take k))) (fun _ i => (str l).size - (intOf i).toNat)
  case atStart => exact ⟨0, 0, by omega, rfl, rfl, hid rfl, hid (fun _ => rfl)⟩
  case round =>
    obtain ⟨k, X, hk, rfl, rfl, hA, hX⟩ := hrel
    by_cases hlt : k < (str l).size
    · have hd : decide (k < (str l).size) = true := by simpa using hlt
      have hll : k < l.length := by rwa [HL.out] at hlt
      obtain ⟨x, hx⟩ : ∃ x, (str l)[k]'hlt = x := ⟨_, rfl⟩
      have hgx : Hid (l[k] = x) := hid hx
      have hxl := x.toNat_lt
      by_cases h1 : x.toNat < 48
      · have d1 : decide (x.toNat < 48) = true := by simpa using h1
        have HB := hid (numOk_bad (k := k) hll (by rw [hgx.out]; exact decide_eq_false (by omega)))
        go_wp2
        go_ret
        exact ⟨-1, rfl, fun _ => rfl, (fun h => by rw [HB.out] at h; cases h), rfl⟩
      · have d1 : decide (x.toNat < 48) = false := by simpa using h1
        by_cases h2 : 57 < x.toNat
        · have d2 : decide (57 < x.toNat) = true := by simpa using h2
          have HB := hid (numOk_bad (k := k) hll (by rw [hgx.out]; exact decide_eq_false (by omega)))
          go_wp2
          go_ret
          exact ⟨-1, rfl, fun _ => rfl, (fun h => by rw [HB.out] at h; cases h), rfl⟩
        · have d2 : decide (57 < x.toNat) = false := by simpa using h2
          have h48 : 48 ≤ x.toNat := by omega
          have hts : l.take (k + 1) = l.take k ++ [x] := by rw [List.take_succ_eq_append_getElem hll, hgx.out]
          have HA2 := hid (show (l.take (k + 1)).all digB = true by rw [hts, all_snoc, hA.out, Bool.true_and]; exact decide_eq_true ⟨h48, by omega⟩)
          have HV := hid (show numV (l.take (k + 1)) = 10 * numV (l.take k) + (x.toNat - 48) by rw [hts, numV_snoc])
          clear hts
          by_cases hk9 : k ≤ 8
          · obtain ⟨v, hv⟩ : ∃ v, numV (l.take k) = v := ⟨_, rfl⟩
            have hvb : v < 1000000000 := by rw [← hv]; exact numV_lt9 (k := k) hA.out (by rw [List.length_take]; omega) (by omega)
            obtain rfl : X = v := by rw [← hv]; exact hX.out (by omega)
            have HVV := hid hv
            clear hX hv
            go_wp2
            go_round
            case rel => exact ⟨k + 1, _, by omega, by go_num, rfl, HA2, hid (fun _ => by rw [HV.out, HVV.out]; omega)⟩
            case measure => simp [intOf]; omega
          · clear hX
            go_wp2
            go_round
            case rel => exact ⟨k + 1, _, by omega, by go_num, rfl, HA2, hid (fun h => by omega)⟩
            case measure => simp [intOf]; omega
    · have hd : decide (k < (str l).size) = false := by simpa using hlt
      obtain rfl : k = (str l).size := by omega
      have htk : l.take (str l).size = l := List.take_length
      have hA2 := hA.out
      have hX2 := hX.out
      rw [htk] at hA2 hX2
      by_cases h0 : l = []
      · subst h0
        go_wp2
        go_ret
        exact ⟨-1, rfl, fun _ => rfl, (fun h => by cases h), rfl⟩
      · have hn1 : (str l == (⟨#[]⟩ : ByteArray)) = false := by
          show (str l == str []) = false
          rw [str_beq, beq_eq_false_iff_ne]
          exact h0
        have hn2 : l.isEmpty = false := by simpa using h0
        have HOK := hid (numOk_good hA2 h0)
        have HX2 := hid hX2
        clear hA2 hX2 htk hA hX
        go_wp2
        go_ret
        exact ⟨X, rfl, (fun h => by rw [HOK.out] at h; cases h), fun _ h => HX2.out h, rfl⟩
end
section
open Go.RowKit Go.Shelf
set_option linter.unusedVariables false
def monC (l : List UInt8) (i : Nat) : Bool := decide (l.map smallU = (monL i).map smallU)
def monGo (l : List UInt8) (i : Nat) : Nat → Nat
  | 0 => 0
  | n + 1 => if monC l i = true then i + 1 else monGo l (i + 1) n
/-- The month's number. -/
def monF (l : List UInt8) : Nat := monGo l 0 12
theorem monGo_le (l : List UInt8) : ∀ n i, monGo l i n ≤ i + n
  | 0, i => by rw [monGo]; omega
  | n + 1, i => by
    rw [monGo]
    split
    · omega
    · have := monGo_le l n (i + 1); omega
theorem monF_le (l : List UInt8) : monF l ≤ 12 := by
  have := monGo_le l 12 0
  unfold monF
  omega
theorem monC_len {l : List UInt8} {i : Nat} (hi : i < 12) (h : l.length ≠ 3) : monC l i = false := by
  unfold monC
  rw [decide_eq_false_iff_not]
  intro he
  have := congrArg List.length he
  rw [List.length_map, List.length_map, monL_len hi] at this
  exact h this
theorem monGo_in {l : List UInt8} {k : Nat} (hk : k < 12) : monGo l k (12 - k) = if monC l k = true then k + 1 else monGo l (k + 1) (12 - (k + 1)) := by
  rw [show 12 - k = (12 - (k + 1)) + 1 by omega, monGo]
theorem mon_eq {l : List UInt8} {i : Nat} {b : Bool} (h : monC l i = b) : (str (l.map smallU) == str ((monL i).map smallU)) = b := by
  rw [str_beq, ← h]
  unfold monC
  rw [Bool.eq_iff_iff, beq_iff_eq, decide_eq_true_eq]
theorem mon_alike {l : List UInt8} {i : Nat} {b : Bool} (h : monC l i = b) : alikeL l (monL i) = b := by
  rw [← h]
  unfold monC alikeL
  rw [Bool.eq_iff_iff, beq_iff_eq, decide_eq_true_eq]
theorem monV_is : Value.agg #[.string ⟨#[74, 97, 110]⟩, .string ⟨#[70, 101, 98]⟩, .string ⟨#[77, 97, 114]⟩, .string ⟨#[65, 112, 114]⟩, .string ⟨#[77, 97, 121]⟩, .string ⟨#[74, 117, 110]⟩, .string ⟨#[74, 117, 108]⟩, .string ⟨#[65, 117, 103]⟩, .string ⟨#[83, 101, 112]⟩, .string ⟨#[79, 99, 116]⟩, .string ⟨#[78, 111, 118]⟩, .string ⟨#[68, 101, 99]⟩] = monV := rfl
set_option maxHeartbeats 2000000 in
theorem month_any (l : List UInt8) (w : World) (hl : l.length ≤ 100000) :
    Calls Tryz.prog 117 #[.string (str l)] w fun e w' => e = .returned (.int .i64 (monF l : Int)) ∧ Below w.heap.size w w' := by
  have hsz : (str l).size ≤ 100000 := hl
  have HL : Hid ((str l).size = l.length) := hid rfl
  have HMO := hid (fun w => months_any w)
  have HLO := hid (fun w => lower_any l w hl)
  have hix := index_mon
  obtain ⟨mv, hmv⟩ : ∃ v, monV = v := ⟨_, rfl⟩
  rw [hmv] at HMO hix
  have HIX := hid hix
  clear hix hmv
  go_enter Tryz.func117, Tryz.ntmps117
  go_wp2_with (go_at_call 133; (with_reducible refine (HMO.out _).mono ?_); rintro e w1 ⟨rfl, b1⟩)
  go_loopw [6] (fun i wr => ∃ k : Nat, k ≤ 12 ∧ i = .int .i64 (k : Int) ∧ Hid (monF l = monGo l k (12 - k)) ∧ Hid (Below w.heap.size w wr)) (fun i wr => 12 - (intOf i).toNat)
  case atStart => exact ⟨0, by omega, rfl, hid rfl, hid b1⟩
  case round =>
    obtain ⟨k, hk, rfl, hM, hB⟩ := hrel
    by_cases hlt : k < 12
    · have d1 : decide ((k : Int) < 12) = true := by simp; omega
      have d1' : decide (k < 12) = true := by simpa using hlt
      have hi := HIX.out k hlt
      have hM2 := hM.out
      rw [monGo_in hlt] at hM2
      by_cases h3 : (str l).size = 3
      · have d3 : (((str l).size : Int) == 3) = true := by rw [h3]; rfl
        have d3' : ((str l).size == 3) = true := by rw [h3]; rfl
        have HLM := hid (fun w => lower_any (monL k) w (by rw [monL_len hlt]; omega))
        cases hc : monC l k with
        | true =>
          have he := mon_eq hc
          have he2 := mon_alike hc
          unfold alikeL at he2
          rw [hc, if_pos rfl] at hM2
          have HM2 := hid hM2
          clear hM2 h3 hc hM
          go_wp2_with (first
            | (go_at_call 115; (with_reducible refine (HLO.out _).mono ?_); rintro e w2 ⟨rfl, b2⟩; have hB := hid (next hB.out b2); clear b2)
            | (go_at_call 115; (with_reducible refine (HLM.out _).mono ?_); rintro e w2 ⟨rfl, b2⟩; have hB := hid (next hB.out b2); clear b2))
          go_ret
          exact ⟨by rw [HM2.out]; rfl, hB.out⟩
        | false =>
          have he := mon_eq hc
          have he2 := mon_alike hc
          unfold alikeL at he2
          rw [hc, if_neg (by decide)] at hM2
          have HM2 := hid hM2
          clear hM2 h3 hc hM
          go_wp2_with (first
            | (go_at_call 115; (with_reducible refine (HLO.out _).mono ?_); rintro e w2 ⟨rfl, b2⟩; have hB := hid (next hB.out b2); clear b2)
            | (go_at_call 115; (with_reducible refine (HLM.out _).mono ?_); rintro e w2 ⟨rfl, b2⟩; have hB := hid (next hB.out b2); clear b2))
          go_roundw
          case rel => exact ⟨k + 1, by omega, by go_num, HM2, hB⟩
          case measure => simp [intOf]; omega
      · have d3 : (((str l).size : Int) == 3) = false := by simp; omega
        have d3' : ((str l).size == 3) = false := by simpa using h3
        rw [monC_len hlt (by rw [← HL.out]; exact h3), if_neg (by decide)] at hM2
        have HM2 := hid hM2
        clear hM2 h3 hM
        go_wp2
        go_roundw
        case rel => exact ⟨k + 1, by omega, by go_num, HM2, hB⟩
        case measure => simp [intOf]; omega
    · have d1 : decide ((k : Int) < 12) = false := by simp; omega
      have d1' : decide (k < 12) = false := by simpa using hlt
      have HM2 := hid (show monF l = 0 by rw [hM.out, show k = 12 by omega]; rfl)
      go_wp2
      go_ret
      exact ⟨by rw [HM2.out]; rfl, hB.out⟩
def namesV : ByteArray := ⟨#[74, 97, 110, 70, 101, 98, 77, 97, 114, 65, 112, 114, 77, 97, 121, 74, 117, 110, 74, 117, 108, 65, 117, 103, 83, 101, 112, 79, 99, 116, 78, 111, 118, 68, 101, 99]⟩
theorem names_cut (i : Nat) (h : i < 12) : namesV.extract (3 * i) (3 * i + 3) = str (monL i) := by
  obtain rfl | rfl | rfl | rfl | rfl | rfl | rfl | rfl | rfl | rfl | rfl | rfl : i = 0 ∨ i = 1 ∨ i = 2 ∨ i = 3 ∨ i = 4 ∨ i = 5 ∨ i = 6 ∨ i = 7 ∨ i = 8 ∨ i = 9 ∨ i = 10 ∨ i = 11 := by omega
  all_goals rfl
set_option maxHeartbeats 2000000 in
theorem rmonth_any (l : List UInt8) (w : World) (hl : l.length ≤ 100000) :
    Calls Tryz.prog 85 #[.string (str l)] w fun e w' => e = .returned (.int .i64 (monF l : Int)) ∧ Below w.heap.size w w' := by
  have hsz : (str l).size ≤ 100000 := hl
  go_enter Tryz.func85, Tryz.ntmps85
  go_wp2
  go_loopw [3] (fun i wr => ∃ k : Nat, k ≤ 12 ∧ i = .int .i64 (k : Int) ∧ Hid (monF l = monGo l k (12 - k)) ∧ Hid (Below w.heap.size w wr)) (fun i wr => 12 - (intOf i).toNat)
  case atStart => exact ⟨0, by omega, rfl, hid rfl, hid (Below.refl _ _)⟩
  case round =>
    obtain ⟨k, hk, rfl, hM, hB⟩ := hrel
    by_cases hlt : k < 12
    · have d1 : decide ((k : Int) < 12) = true := by simp; omega
      have d1' : decide (k < 12) = true := by simpa using hlt
      have hex := names_cut k hlt
      unfold namesV at hex
      have hM2 := hM.out
      rw [monGo_in hlt] at hM2
      have e0 : (0 : Int) ≤ 3 * (k : Int) := by omega
      have e1 : 3 * (k : Int) + 3 ≤ 36 := by omega
      have e2 : (3 * (k : Int)).toNat = 3 * k := by omega
      have e3 : (3 * (k : Int) + 3).toNat = 3 * k + 3 := by omega
      have e4 : 3 * k + 3 ≤ 36 := by omega
      have e5 : (0 : Int) ≤ 3 * (k : Int) + 3 := by omega
      have e6 : 3 * (k : Int) ≤ 3 * (k : Int) + 3 := by omega
      have hal := fun w => alike_any l (monL k) w hl
      cases hc : monC l k with
      | true =>
        have ha := mon_alike hc
        rw [ha] at hal
        rw [hc, if_pos rfl] at hM2
        have HM2 := hid hM2
        have HAL := hid hal
        clear hM2 hc hM ha hal
        go_wp2_with (go_at_call 17; (with_reducible refine (HAL.out _).mono ?_); rintro e w2 ⟨rfl, b2⟩; have hB := hid (next hB.out b2); clear b2)
        go_ret
        exact ⟨by rw [HM2.out]; rfl, hB.out⟩
      | false =>
        have ha := mon_alike hc
        rw [ha] at hal
        rw [hc, if_neg (by decide)] at hM2
        have HM2 := hid hM2
        have HAL := hid hal
        clear hM2 hc hM ha hal
        go_wp2_with (go_at_call 17; (with_reducible refine (HAL.out _).mono ?_); rintro e w2 ⟨rfl, b2⟩; have hB := hid (next hB.out b2); clear b2)
        go_roundw
        case rel => exact ⟨k + 1, by omega, by go_num, HM2, hB⟩
        case measure => simp [intOf]; omega
    · have d1 : decide ((k : Int) < 12) = false := by simp; omega
      have d1' : decide (k < 12) = false := by simpa using hlt
      have HM2 := hid (show monF l = 0 by rw [hM.out, show k = 12 by omega]; rfl)
      go_wp2
      go_ret
      exact ⟨by rw [HM2.out]; rfl, hB.out⟩
/-- The days of the week, small. -/
def dayL (i : Nat) : List UInt8 := ([[109, 111, 110], [116, 117, 101], [119, 101, 100], [116, 104, 117], [102, 114, 105], [115, 97, 116], [115, 117, 110]] : List (List UInt8)).getD i []
def DayL (i : Nat) : List UInt8 := ([[77, 111, 110], [84, 117, 101], [87, 101, 100], [84, 104, 117], [70, 114, 105], [83, 97, 116], [83, 117, 110]] : List (List UInt8)).getD i []
theorem day_small {i : Nat} (h : i < 7) : (DayL i).map smallU = dayL i := by
  obtain rfl | rfl | rfl | rfl | rfl | rfl | rfl : i = 0 ∨ i = 1 ∨ i = 2 ∨ i = 3 ∨ i = 4 ∨ i = 5 ∨ i = 6 := by omega
  all_goals decide +kernel
def weekGo (l : List UInt8) (i : Nat) : Nat → Bool
  | 0 => false
  | n + 1 => decide (l.map smallU = dayL i) || weekGo l (i + 1) n
/-- Is it a day of the week? -/
def weekF (l : List UInt8) : Bool := weekGo l 0 7
theorem weekGo_in {l : List UInt8} {k : Nat} (hk : k < 7) : weekGo l k (7 - k) = (decide (l.map smallU = dayL k) || weekGo l (k + 1) (7 - (k + 1))) := by
  rw [show 7 - k = (7 - (k + 1)) + 1 by omega, weekGo]
theorem index_week (i : Nat) (h : i < 7) (w : World) : (Instr.index 145 (.agg #[.string ⟨#[109, 111, 110]⟩, .string ⟨#[116, 117, 101]⟩, .string ⟨#[119, 101, 100]⟩, .string ⟨#[116, 104, 117]⟩, .string ⟨#[102, 114, 105]⟩, .string ⟨#[115, 97, 116]⟩, .string ⟨#[115, 117, 110]⟩]) (.int .i64 (i : Int))).run Tryz.prog w = .ok (.string (str (dayL i))) w := by
  obtain rfl | rfl | rfl | rfl | rfl | rfl | rfl : i = 0 ∨ i = 1 ∨ i = 2 ∨ i = 3 ∨ i = 4 ∨ i = 5 ∨ i = 6 := by omega
  all_goals kernel_rfl
set_option maxHeartbeats 2000000 in
theorem week_any (l : List UInt8) (w : World) (hl : l.length ≤ 100000) :
    Calls Tryz.prog 94 #[.string (str l)] w fun e w' => e = .returned (.bool (weekF l)) ∧ Below w.heap.size w w' := by
  have HLO := hid (fun w => lower_any l w hl)
  have HIX := hid index_week
  go_enter Tryz.func94, Tryz.ntmps94
  go_wp2
  go_loopw [6] (fun i wr => ∃ k : Nat, k ≤ 7 ∧ i = .int .i64 (k : Int) ∧ Hid (weekF l = weekGo l k (7 - k)) ∧ Hid (Below w.heap.size w wr)) (fun i wr => 7 - (intOf i).toNat)
  case atStart => exact ⟨0, by omega, rfl, hid rfl, hid (Below.refl _ _)⟩
  case round =>
    obtain ⟨k, hk, rfl, hM, hB⟩ := hrel
    by_cases hlt : k < 7
    · have d1 : decide ((k : Int) < 7) = true := by simp; omega
      have d1' : decide (k < 7) = true := by simpa using hlt
      have hi := HIX.out k hlt
      have hM2 := hM.out
      rw [weekGo_in hlt] at hM2
      have he : (str (l.map smallU) == str (dayL k)) = decide (l.map smallU = dayL k) := by rw [str_beq, Bool.eq_iff_iff, beq_iff_eq, decide_eq_true_eq]
      have he2 : (l.map smallU == dayL k) = decide (l.map smallU = dayL k) := by rw [Bool.eq_iff_iff, beq_iff_eq, decide_eq_true_eq]
      cases hc : decide (l.map smallU = dayL k) with
      | true =>
        rw [hc] at he he2 hM2
        rw [Bool.true_or] at hM2
        have HM2 := hid hM2
        clear hM2 hc hM
        go_wp2_with (go_at_call 115; (with_reducible refine (HLO.out _).mono ?_); rintro e w2 ⟨rfl, b2⟩; have hB := hid (next hB.out b2); clear b2)
        go_ret
        exact ⟨by rw [HM2.out]; rfl, hB.out⟩
      | false =>
        rw [hc] at he he2 hM2
        rw [Bool.false_or] at hM2
        have HM2 := hid hM2
        clear hM2 hc hM
        go_wp2_with (go_at_call 115; (with_reducible refine (HLO.out _).mono ?_); rintro e w2 ⟨rfl, b2⟩; have hB := hid (next hB.out b2); clear b2)
        go_roundw
        case rel => exact ⟨k + 1, by omega, by go_num, HM2, hB⟩
        case measure => simp [intOf]; omega
    · have d1 : decide ((k : Int) < 7) = false := by simp; omega
      have d1' : decide (k < 7) = false := by simpa using hlt
      have HM2 := hid (show weekF l = false by rw [hM.out, show k = 7 by omega]; rfl)
      go_wp2
      go_ret
      exact ⟨by rw [HM2.out]; rfl, hB.out⟩
end
section
open Go.RowKit Go.Shelf
set_option linter.unusedVariables false
instance (y m d : Nat) : Decidable (Vld y m d) := by unfold Vld; infer_instance
theorem okD_nat {y m d : Nat} (h : ¬ Vld y m d) : ¬ okD (y : Int) (m : Int) (d : Int) := by
  rintro ⟨a, b, c, h1, h2, h3, h4⟩
  obtain rfl : y = a := by omega
  obtain rfl : m = b := by omega
  obtain rfl : d = c := by omega
  exact h h4
/-- The day that a, b, c tell, and the error's number. -/
def dmy (y m d : Nat) : Int × Nat := if Vld y m d then (dayN y m d, 0) else (0, 4)
/-- The day that three texts tell, and the error's number. -/
def dayF (d m y : List UInt8) : Int × Nat := if numOk d = true ∧ numOk y = true ∧ d.length ≤ 2 ∧ y.length = 4 ∧ monF m ≠ 0 then dmy (numV y) (monF m) (numV d) else (0, 3)
theorem days_nat (y m d : Nat) (w : World) : Calls Tryz.prog 118 #[.int .i64 (y : Int), .int .i64 (m : Int), .int .i64 (d : Int)] w fun e w' => e = .returned (.tuple #[.int .i64 (dmy y m d).1, .int .i64 ((dmy y m d).2 : Int)]) ∧ w = w' := by
  unfold dmy
  by_cases h : Vld y m d
  · rw [if_pos h]; exact days_yes y m d w h
  · rw [if_neg h]; exact days_no y m d w (okD_nat h)
theorem dmy_range (y m d : Nat) : -719162 ≤ (dmy y m d).1 ∧ (dmy y m d).1 ≤ 2932896 := by
  unfold dmy
  split
  · rename_i h
    exact dayN_range h
  · exact ⟨by omega, by omega⟩
theorem dayF_bad {d m y : List UInt8} (h : ¬ (numOk d = true ∧ numOk y = true ∧ d.length ≤ 2 ∧ y.length = 4 ∧ monF m ≠ 0)) : dayF d m y = (0, 3) := by unfold dayF; rw [if_neg h]
theorem dayF_good {d m y : List UInt8} (h1 : numOk d = true) (h2 : numOk y = true) (h3 : d.length ≤ 2) (h4 : y.length = 4) (h5 : monF m ≠ 0) : dayF d m y = dmy (numV y) (monF m) (numV d) := by unfold dayF; rw [if_pos ⟨h1, h2, h3, h4, h5⟩]
theorem num_ok {l : List UInt8} (h : numOk l = true) (k : Nat) (hl : l.length ≤ k) (hk : k ≤ 9) : numV l < 1000000000 := by
  unfold numOk at h
  rw [Bool.and_eq_true] at h
  exact numV_lt9 h.1 rfl (by omega)
set_option maxHeartbeats 4000000 in
theorem day_any (d m y : List UInt8) (w : World) (hd : d.length ≤ 100000) (hm : m.length ≤ 100000) (hy : y.length ≤ 100000) :
    Calls Tryz.prog 95 #[.string (str d), .string (str m), .string (str y)] w fun e w' => e = .returned (.tuple #[.int .i64 (dayF d m y).1, .int .i64 ((dayF d m y).2 : Int)]) ∧ Below w.heap.size w w' := by
  have hnd : ∀ (b : Bool), numOk d = b → ∀ w, Calls Tryz.prog 116 #[.string (str d)] w fun e w' => ∃ X : Int, e = .returned (.tuple #[.int .i64 X, .bool b]) ∧ (numOk d = true → d.length ≤ 9 → X = numV d) ∧ w = w' := fun b hb w => by have := number_any d w hd; unfold NumPost at this; rw [hb] at this; rw [hb]; exact this
  have hny : ∀ (b : Bool), numOk y = b → ∀ w, Calls Tryz.prog 116 #[.string (str y)] w fun e w' => ∃ X : Int, e = .returned (.tuple #[.int .i64 X, .bool b]) ∧ (numOk y = true → y.length ≤ 9 → X = numV y) ∧ w = w' := fun b hb w => by have := number_any y w hy; unfold NumPost at this; rw [hb] at this; rw [hb]; exact this
  have hmo := fun w => month_any m w hm
  have hml := monF_le m
  have hsd : (str d).size ≤ 100000 := hd
  have hsy : (str y).size ≤ 100000 := hy
  by_cases h1 : numOk d = true
  · have HND := hid (hnd true h1)
    by_cases h2 : numOk y = true
    · have HNY := hid (hny true h2)
      by_cases h3 : 2 < (str d).size
      · have d3 : decide (2 < (str d).size) = true := by simpa using h3
        have d3' : decide ((2 : Int) < ((str d).size : Int)) = true := by simp; omega
        have HB := hid (dayF_bad (d := d) (m := m) (y := y) (by rintro ⟨_, _, h, _, _⟩; rw [str_size] at h3; omega))
        have HMO := hid hmo
        clear hnd hny hmo h1 h2 h3
        go_enter Tryz.func95, Tryz.ntmps95
        go_wp2_with (first
          | (go_at_call 116; (with_reducible refine (HND.out _).mono ?_); rintro e w1 ⟨X1, rfl, hX1, rfl⟩; have HX1 := hid hX1; clear hX1)
          | (go_at_call 116; (with_reducible refine (HNY.out _).mono ?_); rintro e w1 ⟨X2, rfl, hX2, rfl⟩; have HX2 := hid hX2; clear hX2)
          | (go_at_call 117; (with_reducible refine (HMO.out _).mono ?_); rintro e w2 ⟨rfl, b2⟩))
        go_ret2
        exact ⟨by rw [HB.out]; rfl, b2⟩
      · have d3 : decide (2 < (str d).size) = false := by simpa using h3
        have d3' : decide ((2 : Int) < ((str d).size : Int)) = false := by simp; omega
        by_cases h4 : (str y).size = 4
        · have d4 : (((str y).size : Int) != 4) = false := by rw [h4]; rfl
          have d4' : ((str y).size != 4) = false := by rw [h4]; rfl
          obtain ⟨k, hk⟩ : ∃ k, monF m = k := ⟨_, rfl⟩
          rw [hk] at hmo hml
          have HMO := hid hmo
          by_cases h5 : k = 0
          · have d5 : ((k : Int) == 0) = true := by simp; omega
            have d5' : (k == 0) = true := by simpa using h5
            have HB := hid (dayF_bad (d := d) (m := m) (y := y) (by rintro ⟨_, _, _, _, h⟩; omega))
            clear hnd hny hmo h1 h2 h3 h4 h5 hk
            go_enter Tryz.func95, Tryz.ntmps95
            go_wp2_with (first
              | (go_at_call 116; (with_reducible refine (HND.out _).mono ?_); rintro e w1 ⟨X1, rfl, hX1, rfl⟩; have HX1 := hid hX1; clear hX1)
              | (go_at_call 116; (with_reducible refine (HNY.out _).mono ?_); rintro e w1 ⟨X2, rfl, hX2, rfl⟩; have HX2 := hid hX2; clear hX2)
              | (go_at_call 117; (with_reducible refine (HMO.out _).mono ?_); rintro e w2 ⟨rfl, b2⟩))
            go_ret2
            exact ⟨by rw [HB.out]; rfl, b2⟩
          · have d5 : ((k : Int) == 0) = false := by simp; omega
            have d5' : (k == 0) = false := by simpa using h5
            have hg := dayF_good (d := d) (m := m) (y := y) h1 h2 (by rw [str_size] at h3; omega) (by rw [str_size] at h4; exact h4) (by omega)
            rw [hk] at hg
            rw [hg]
            have HD9 := hid (show d.length ≤ 9 by rw [str_size] at h3; omega)
            have HY9 := hid (show y.length ≤ 9 by rw [str_size] at h4; omega)
            have HDD := hid (fun w => days_nat (numV y) k (numV d) w)
            have H1 := hid h1
            have H2 := hid h2
            clear hnd hny hmo h1 h2 h3 h4 h5 hk hg
            go_enter Tryz.func95, Tryz.ntmps95
            go_wp2_with (first
              | (go_at_call 116; (with_reducible refine (HND.out _).mono ?_); rintro e w1 ⟨X1, rfl, hX1, rfl⟩; obtain rfl := hX1 H1.out HD9.out)
              | (go_at_call 116; (with_reducible refine (HNY.out _).mono ?_); rintro e w1 ⟨X2, rfl, hX2, rfl⟩; obtain rfl := hX2 H2.out HY9.out)
              | (go_at_call 117; (with_reducible refine (HMO.out _).mono ?_); rintro e w2 ⟨rfl, b2⟩)
              | (go_at_call 118; (with_reducible refine (HDD.out _).mono ?_); rintro e w3 ⟨rfl, rfl⟩))
            go_ret2
            exact ⟨rfl, b2⟩
        · have d4 : (((str y).size : Int) != 4) = true := by simp; omega
          have d4' : ((str y).size != 4) = true := by simpa using h4
          have HB := hid (dayF_bad (d := d) (m := m) (y := y) (by rintro ⟨_, _, _, h, _⟩; rw [str_size] at h4; omega))
          have HMO := hid hmo
          clear hnd hny hmo h1 h2 h3 h4
          go_enter Tryz.func95, Tryz.ntmps95
          go_wp2_with (first
            | (go_at_call 116; (with_reducible refine (HND.out _).mono ?_); rintro e w1 ⟨X1, rfl, hX1, rfl⟩; have HX1 := hid hX1; clear hX1)
            | (go_at_call 116; (with_reducible refine (HNY.out _).mono ?_); rintro e w1 ⟨X2, rfl, hX2, rfl⟩; have HX2 := hid hX2; clear hX2)
            | (go_at_call 117; (with_reducible refine (HMO.out _).mono ?_); rintro e w2 ⟨rfl, b2⟩))
          go_ret2
          exact ⟨by rw [HB.out]; rfl, b2⟩
    · have h2' : numOk y = false := by simpa using h2
      have HNY := hid (hny false h2')
      have HB := hid (dayF_bad (d := d) (m := m) (y := y) (by rintro ⟨_, h, _⟩; exact h2 h))
      have HMO := hid hmo
      clear hnd hny hmo h1 h2 h2'
      go_enter Tryz.func95, Tryz.ntmps95
      go_wp2_with (first
        | (go_at_call 116; (with_reducible refine (HND.out _).mono ?_); rintro e w1 ⟨X1, rfl, hX1, rfl⟩; have HX1 := hid hX1; clear hX1)
        | (go_at_call 116; (with_reducible refine (HNY.out _).mono ?_); rintro e w1 ⟨X2, rfl, hX2, rfl⟩; have HX2 := hid hX2; clear hX2)
        | (go_at_call 117; (with_reducible refine (HMO.out _).mono ?_); rintro e w2 ⟨rfl, b2⟩))
      go_ret2
      exact ⟨by rw [HB.out]; rfl, b2⟩
  · have h1' : numOk d = false := by simpa using h1
    have HND := hid (hnd false h1')
    have HNY := hid (hny _ rfl)
    have HB := hid (dayF_bad (d := d) (m := m) (y := y) (by rintro ⟨h, _⟩; exact h1 h))
    have HMO := hid hmo
    clear hnd hny hmo h1 h1'
    go_enter Tryz.func95, Tryz.ntmps95
    go_wp2_with (first
      | (go_at_call 116; (with_reducible refine (HND.out _).mono ?_); rintro e w1 ⟨X1, rfl, hX1, rfl⟩; have HX1 := hid hX1; clear hX1)
      | (go_at_call 116; (with_reducible refine (HNY.out _).mono ?_); rintro e w1 ⟨X2, rfl, hX2, rfl⟩; have HX2 := hid hX2; clear hX2)
      | (go_at_call 117; (with_reducible refine (HMO.out _).mono ?_); rintro e w2 ⟨rfl, b2⟩))
    go_ret2
    exact ⟨by rw [HB.out]; rfl, b2⟩
end
section
open Go.RowKit Go.Shelf
set_option linter.unusedVariables false
theorem rdays_nat (y m d : Nat) (w : World) : Calls Tryz.prog 86 #[.int .i64 (y : Int), .int .i64 (m : Int), .int .i64 (d : Int)] w fun e w' => e = .returned (.tuple #[.int .i64 (dmy y m d).1, .bool (decide (Vld y m d))]) ∧ w = w' := by
  unfold dmy
  by_cases h : Vld y m d
  · rw [if_pos h, decide_eq_true h]; exact rdays_yes y m d w h
  · rw [if_neg h, decide_eq_false h]; exact rdays_no y m d w (okD_nat h)
theorem rnum_no {l : List UInt8} (h : numOk l = false) (hl : l.length ≤ 100000) (w : World) : Calls Tryz.prog 84 #[.string (str l)] w fun e w' => e = .returned (.int .i64 (-1)) ∧ w = w' :=
  (rnumber_any l w hl).mono fun e w' ⟨X, he, h1, _, hw⟩ => ⟨by rw [he, h1 h], hw⟩
theorem rnum_yes {l : List UInt8} (h : numOk l = true) (hl : l.length ≤ 9) (w : World) : Calls Tryz.prog 84 #[.string (str l)] w fun e w' => e = .returned (.int .i64 (numV l : Int)) ∧ w = w' :=
  (rnumber_any l w (by omega)).mono fun e w' ⟨X, he, _, h2, hw⟩ => ⟨by rw [he, h2 h hl], hw⟩
theorem rnum_some {l : List UInt8} (hl : l.length ≤ 100000) (w : World) : Calls Tryz.prog 84 #[.string (str l)] w fun e w' => ∃ X : Int, e = .returned (.int .i64 X) ∧ w = w' :=
  (rnumber_any l w hl).mono fun e w' ⟨X, he, _, _, hw⟩ => ⟨X, he, hw⟩
set_option maxHeartbeats 4000000 in
theorem rday_any (d m y : List UInt8) (w : World) (hd : d.length ≤ 100000) (hm : m.length ≤ 100000) (hy : y.length ≤ 100000) :
    Calls Tryz.prog 54 #[.string (str d), .string (str m), .string (str y)] w fun e w' => e = .returned (.tuple #[.int .i64 (dayF d m y).1, .int .i64 ((dayF d m y).2 : Int)]) ∧ Below w.heap.size w w' := by
  have hmo := fun w => rmonth_any m w hm
  have hml := monF_le m
  have HW := hid (Below.refl w.heap.size w)
  have hsd : (str d).size ≤ 100000 := hd
  have hsy : (str y).size ≤ 100000 := hy
  by_cases h1 : numOk d = true
  · by_cases h2 : numOk y = true
    · by_cases h3 : 2 < (str d).size
      · have d3 : decide (2 < (str d).size) = true := by simpa using h3
        have d3' : decide ((2 : Int) < ((str d).size : Int)) = true := by simp; omega
        have HB := hid (dayF_bad (d := d) (m := m) (y := y) (by rintro ⟨_, _, h, _, _⟩; rw [str_size] at h3; omega))
        have HND := hid (fun w => rnum_some hd w)
        have HNY := hid (fun w => rnum_some hy w)
        clear hmo h1 h2 h3
        go_enter Tryz.func54, Tryz.ntmps54
        go_wp2_with (first
          | (go_at_call 84; (with_reducible refine (HND.out _).mono ?_); rintro e w1 ⟨X1, rfl, rfl⟩)
          | (go_at_call 84; (with_reducible refine (HNY.out _).mono ?_); rintro e w1 ⟨X2, rfl, rfl⟩))
        all_goals
          go_ret2
          exact ⟨by rw [HB.out]; rfl, by first | exact HW.out | exact b2⟩
      · have d3 : decide (2 < (str d).size) = false := by simpa using h3
        have d3' : decide ((2 : Int) < ((str d).size : Int)) = false := by simp; omega
        have hb := num_ok h1 2 (by rw [str_size] at h3; omega) (by omega)
        have HND := hid (fun w => rnum_yes h1 (by rw [str_size] at h3; omega) w)
        obtain ⟨a, ha⟩ : ∃ a, numV d = a := ⟨_, rfl⟩
        rw [ha] at HND hb
        by_cases h4 : (str y).size = 4
        · have d4 : (((str y).size : Int) != 4) = false := by rw [h4]; rfl
          have d4' : ((str y).size != 4) = false := by rw [h4]; rfl
          have hc := num_ok h2 4 (by rw [str_size] at h4; omega) (by omega)
          have HNY := hid (fun w => rnum_yes h2 (by rw [str_size] at h4; omega) w)
          obtain ⟨b, hb'⟩ : ∃ a, numV y = a := ⟨_, rfl⟩
          rw [hb'] at HNY hc
          obtain ⟨k, hk⟩ : ∃ k, monF m = k := ⟨_, rfl⟩
          rw [hk] at hmo hml
          have HMO := hid hmo
          by_cases h5 : k = 0
          · have d5 : ((k : Int) == 0) = true := by simp; omega
            have d5' : (k == 0) = true := by simpa using h5
            have HB := hid (dayF_bad (d := d) (m := m) (y := y) (by rintro ⟨_, _, _, _, h⟩; omega))
            clear hmo h1 h2 h3 h4 h5 hk ha hb'
            go_enter Tryz.func54, Tryz.ntmps54
            go_wp2_with (first
              | (go_at_call 84; (with_reducible refine (HND.out _).mono ?_); rintro e w1 ⟨rfl, rfl⟩)
              | (go_at_call 84; (with_reducible refine (HNY.out _).mono ?_); rintro e w1 ⟨rfl, rfl⟩)
              | (go_at_call 85; (with_reducible refine (HMO.out _).mono ?_); rintro e w2 ⟨rfl, b2⟩))
            all_goals
              go_ret2
              exact ⟨by rw [HB.out]; rfl, by first | exact HW.out | exact b2⟩
          · have d5 : ((k : Int) == 0) = false := by simp; omega
            have d5' : (k == 0) = false := by simpa using h5
            have hg := dayF_good (d := d) (m := m) (y := y) h1 h2 (by rw [str_size] at h3; omega) (by rw [str_size] at h4; exact h4) (by omega)
            rw [hk, ha, hb'] at hg
            rw [hg]
            have hdd := fun w => rdays_nat b k a w
            clear hmo h1 h2 h3 h4 h5 hk hg ha hb'
            unfold dmy at hdd ⊢
            by_cases hv : Vld b k a
            · rw [if_pos hv]
              rw [if_pos hv, decide_eq_true hv] at hdd
              have HDD := hid hdd
              clear hdd hv
              go_enter Tryz.func54, Tryz.ntmps54
              go_wp2_with (first
                | (go_at_call 84; (with_reducible refine (HND.out _).mono ?_); rintro e w1 ⟨rfl, rfl⟩)
                | (go_at_call 84; (with_reducible refine (HNY.out _).mono ?_); rintro e w1 ⟨rfl, rfl⟩)
                | (go_at_call 85; (with_reducible refine (HMO.out _).mono ?_); rintro e w2 ⟨rfl, b2⟩; have HW := hid (next HW.out b2); clear b2)
                | (go_at_call 86; (with_reducible refine (HDD.out _).mono ?_); rintro e w3 ⟨rfl, rfl⟩))
              go_ret2
              exact ⟨rfl, HW.out⟩
            · rw [if_neg hv]
              rw [if_neg hv, decide_eq_false hv] at hdd
              have HDD := hid hdd
              clear hdd hv
              go_enter Tryz.func54, Tryz.ntmps54
              go_wp2_with (first
                | (go_at_call 84; (with_reducible refine (HND.out _).mono ?_); rintro e w1 ⟨rfl, rfl⟩)
                | (go_at_call 84; (with_reducible refine (HNY.out _).mono ?_); rintro e w1 ⟨rfl, rfl⟩)
                | (go_at_call 85; (with_reducible refine (HMO.out _).mono ?_); rintro e w2 ⟨rfl, b2⟩; have HW := hid (next HW.out b2); clear b2)
                | (go_at_call 86; (with_reducible refine (HDD.out _).mono ?_); rintro e w3 ⟨rfl, rfl⟩))
              go_ret2
              exact ⟨rfl, HW.out⟩
        · have d4 : (((str y).size : Int) != 4) = true := by simp; omega
          have d4' : ((str y).size != 4) = true := by simpa using h4
          have HB := hid (dayF_bad (d := d) (m := m) (y := y) (by rintro ⟨_, _, _, h, _⟩; rw [str_size] at h4; omega))
          have HNY := hid (fun w => rnum_some hy w)
          clear hmo h1 h2 h3 h4 ha
          go_enter Tryz.func54, Tryz.ntmps54
          go_wp2_with (first
            | (go_at_call 84; (with_reducible refine (HND.out _).mono ?_); rintro e w1 ⟨rfl, rfl⟩)
            | (go_at_call 84; (with_reducible refine (HNY.out _).mono ?_); rintro e w1 ⟨X2, rfl, rfl⟩))
          all_goals
            go_ret2
            exact ⟨by rw [HB.out]; rfl, by first | exact HW.out | exact b2⟩
    · have h2' : numOk y = false := by simpa using h2
      have HND := hid (fun w => rnum_some hd w)
      have HNY := hid (fun w => rnum_no h2' hy w)
      have HB := hid (dayF_bad (d := d) (m := m) (y := y) (by rintro ⟨_, h, _⟩; exact h2 h))
      clear hmo h1 h2 h2'
      go_enter Tryz.func54, Tryz.ntmps54
      go_wp2_with (first
        | (go_at_call 84; (with_reducible refine (HND.out _).mono ?_); rintro e w1 ⟨X1, rfl, rfl⟩)
        | (go_at_call 84; (with_reducible refine (HNY.out _).mono ?_); rintro e w1 ⟨rfl, rfl⟩))
      all_goals
        go_ret2
        exact ⟨by rw [HB.out]; rfl, by first | exact HW.out | exact b2⟩
  · have h1' : numOk d = false := by simpa using h1
    have HND := hid (fun w => rnum_no h1' hd w)
    have HB := hid (dayF_bad (d := d) (m := m) (y := y) (by rintro ⟨h, _⟩; exact h1 h))
    clear hmo h1 h1'
    go_enter Tryz.func54, Tryz.ntmps54
    go_wp2_with (go_at_call 84; (with_reducible refine (HND.out _).mono ?_); rintro e w1 ⟨rfl, rfl⟩)
    all_goals
      go_ret2
      exact ⟨by rw [HB.out]; rfl, by first | exact HW.out | exact b2⟩
end
section
set_option linter.unusedVariables false
def blankB (x : UInt8) : Bool := decide (x.toNat = 32 ∨ x.toNat = 9)
/-- From a place to another one. -/
def cutL (l : List UInt8) (s k : Nat) : List UInt8 := (l.drop s).take (k - s)
/-- The words that are at their end ahead of a place, and where the one that goes on begins. -/
def stF (l : List UInt8) : Nat → List (List UInt8) × Option Nat
  | 0 => ([], none)
  | k + 1 => if blankB (l.getD k 0) = true then (match (stF l k).2 with | some s => ((stF l k).1 ++ [cutL l s k], none) | none => ((stF l k).1, none)) else ((stF l k).1, some ((stF l k).2.getD k))
/-- The words. -/
def wordsL (l : List UInt8) : List (List UInt8) := (stF l l.length).1 ++ (match (stF l l.length).2 with | some s => [l.drop s] | none => [])
theorem stF_none {l : List UInt8} {k : Nat} {ws : List (List UInt8)} (h : stF l k = (ws, none)) (hb : blankB (l.getD k 0) = true) : stF l (k + 1) = (ws, none) := by
  rw [stF, if_pos hb, h]
theorem stF_end {l : List UInt8} {k s : Nat} {ws : List (List UInt8)} (h : stF l k = (ws, some s)) (hb : blankB (l.getD k 0) = true) : stF l (k + 1) = (ws ++ [cutL l s k], none) := by
  rw [stF, if_pos hb, h]
theorem stF_on {l : List UInt8} {k : Nat} {ws : List (List UInt8)} {c : Option Nat} (h : stF l k = (ws, c)) (hb : blankB (l.getD k 0) = false) : stF l (k + 1) = (ws, some (c.getD k)) := by
  rw [stF, if_neg (by rw [hb]; decide), h]
theorem stF_run {l : List UInt8} {k : Nat} {ws : List (List UInt8)} {c : Option Nat} (h : stF l k = (ws, c)) : ∀ n, 1 ≤ n → (∀ j, j < n → blankB (l.getD (k + j) 0) = false) → stF l (k + n) = (ws, some (c.getD k)) := by
  intro n
  induction n with
  | zero => intro h1; omega
  | succ n ih =>
    intro _ hb
    by_cases hn : n = 0
    · subst hn
      exact stF_on h (by have := hb 0 (by omega); simpa using this)
    · have h1 := ih (by omega) (fun j hj => hb j (by omega))
      have := stF_on h1 (hb n (by omega))
      rw [show k + (n + 1) = k + n + 1 by omega, this]
      rfl
theorem stF_lt (l : List UInt8) : ∀ k s, (stF l k).2 = some s → s < k := by
  intro k
  induction k with
  | zero => intro s h; simp [stF] at h
  | succ k ih =>
    intro s h
    rw [stF] at h
    split at h
    · split at h <;> simp at h
    · simp only [Option.some.injEq] at h
      cases hc : (stF l k).2 with
      | none => rw [hc] at h; simp at h; omega
      | some t => rw [hc] at h; simp at h; have := ih t hc; omega
theorem stF_mono (l : List UInt8) (k : Nat) : (stF l k).1 <+: (stF l (k + 1)).1 := by
  rw [stF]
  split
  · split
    · exact List.prefix_append _ _
    · exact List.prefix_rfl
  · exact List.prefix_rfl
theorem stF_up (l : List UInt8) (k : Nat) : ∀ n, (stF l k).1 <+: (stF l (k + n)).1 := by
  intro n
  induction n with
  | zero => exact List.prefix_rfl
  | succ n ih => exact ih.trans (stF_mono l (k + n))
theorem stF_pre (l : List UInt8) {k : Nat} (hk : k ≤ l.length) : (stF l k).1 <+: wordsL l := by
  have h := stF_up l k (l.length - k)
  rw [show k + (l.length - k) = l.length by omega] at h
  exact h.trans (List.prefix_append _ _)
theorem stF_words (l : List UInt8) : ∀ k, k ≤ l.length → ∀ x ∈ (stF l k).1, x.length ≤ l.length ∧ x ≠ [] := by
  intro k
  induction k with
  | zero => intro _ x hx; simp [stF] at hx
  | succ k ih =>
    intro hk x hx
    have h0 := ih (by omega)
    rw [stF] at hx
    split at hx
    · split at hx
      · rename_i s hs
        rcases List.mem_append.1 hx with hx | hx
        · exact h0 x hx
        · rw [List.mem_singleton] at hx
          subst hx
          have h1 := stF_lt l k s hs
          unfold cutL
          constructor
          · rw [List.length_take, List.length_drop]; omega
          · intro he
            have := congrArg List.length he
            rw [List.length_take, List.length_drop] at this
            simp at this
            omega
      · exact h0 x hx
    · exact h0 x hx
theorem words_all (l : List UInt8) : ∀ x ∈ wordsL l, x.length ≤ l.length ∧ x ≠ [] := by
  intro x hx
  unfold wordsL at hx
  rcases List.mem_append.1 hx with hx | hx
  · exact stF_words l l.length (Nat.le_refl _) x hx
  · cases hc : (stF l l.length).2 with
    | none => rw [hc] at hx; cases hx
    | some s =>
      rw [hc] at hx
      rw [List.mem_singleton] at hx
      subst hx
      have := stF_lt l l.length s hc
      constructor
      · rw [List.length_drop]; omega
      · intro he
        have := congrArg List.length he
        rw [List.length_drop] at this
        simp at this
        omega
theorem stF_len (l : List UInt8) : ∀ k, (stF l k).1.length ≤ k := by
  intro k
  induction k with
  | zero => simp [stF]
  | succ k ih =>
    rw [stF]
    split
    · split
      · rw [List.length_append]; simp; omega
      · show (stF l k).1.length ≤ _
        omega
    · show (stF l k).1.length ≤ _
      omega
theorem words_len (l : List UInt8) : (wordsL l).length ≤ l.length + 1 := by
  unfold wordsL
  have := stF_len l l.length
  rw [List.length_append]
  split <;> simp <;> omega
theorem get_bang (l : List UInt8) (i : Nat) : (str l).get! i = l.getD i 0 := by
  show l.toArray[i]! = _
  rw [List.getD_eq_getElem?_getD]
  simp
  rfl
theorem rune_ascii (l : List UInt8) (k : Nat) (hk : k < l.length) (h : (l.getD k 0).toNat < 128) : Lib.decodeGo (str (l.drop k)) = ((l.getD k 0).toNat, 1) := by
  have h0 : ¬ (str (l.drop k)).size = 0 := by rw [str_size, List.length_drop]; omega
  unfold Lib.decodeGo
  rw [if_neg h0]
  unfold Utf8.decode
  have e : (str (l.drop k)).get! 0 = l.getD k 0 := by
    rw [get_bang, List.getD_eq_getElem?_getD, List.getElem?_drop, ← List.getD_eq_getElem?_getD]
    rfl
  simp only [Nat.add_zero, e]
  rw [if_pos h]
theorem rune_hi (l : List UInt8) (k : Nat) (hk : k < l.length) (h : ¬ (l.getD k 0).toNat < 128) : ∃ r sz, Lib.decodeGo (str (l.drop k)) = (r, sz) ∧ 128 ≤ r ∧ r < 2200000 ∧ 1 ≤ sz ∧ k + sz ≤ l.length ∧ ∀ j, j < sz → ¬ (l.getD (k + j) 0).toNat < 128 := by
  have h0 : ¬ (str (l.drop k)).size = 0 := by rw [str_size, List.length_drop]; omega
  unfold Lib.decodeGo
  rw [if_neg h0]
  unfold Utf8.decode
  have e : ∀ j, (str (l.drop k)).get! j = l.getD (k + j) 0 := fun j => by
    rw [get_bang, List.getD_eq_getElem?_getD, List.getElem?_drop, ← List.getD_eq_getElem?_getD]
  simp only [Nat.zero_add, e, str_size, List.length_drop, Nat.add_zero]
  have hb := (l.getD k 0).toNat_lt
  have b1 := (l.getD (k + 1) 0).toNat_lt
  have b2 := (l.getD (k + 2) 0).toNat_lt
  have b3 := (l.getD (k + 3) 0).toNat_lt
  have h1 : ∀ j, j < 1 → ¬ (l.getD (k + j) 0).toNat < 128 := by
    intro j hj
    obtain rfl : j = 0 := by omega
    exact h
  rw [if_neg h]
  have one : ∃ r sz, ((Utf8.runeError, 1) : Nat × Nat) = (r, sz) ∧ 128 ≤ r ∧ r < 2200000 ∧ 1 ≤ sz ∧ k + sz ≤ l.length ∧ ∀ j, j < sz → ¬ (l.getD (k + j) 0).toNat < 128 := ⟨_, _, rfl, by decide, by decide, by omega, by omega, h1⟩
  split
  · rename_i hc
    simp only [Bool.and_eq_true, decide_eq_true_eq, beq_iff_eq] at hc
    split
    · rename_i hr
      refine ⟨_, _, rfl, hr, by omega, by omega, by omega, fun j hj => ?_⟩
      obtain rfl | rfl : j = 0 ∨ j = 1 := by omega
      · exact h
      · omega
    · exact one
  · split
    · rename_i hc
      simp only [Bool.and_eq_true, decide_eq_true_eq, beq_iff_eq] at hc
      split
      · rename_i hr
        simp only [Bool.and_eq_true, decide_eq_true_eq] at hr
        refine ⟨_, _, rfl, by omega, by omega, by omega, by omega, fun j hj => ?_⟩
        obtain rfl | rfl | rfl : j = 0 ∨ j = 1 ∨ j = 2 := by omega
        · exact h
        · omega
        · omega
      · exact one
    · split
      · rename_i hc
        simp only [Bool.and_eq_true, decide_eq_true_eq, beq_iff_eq] at hc
        split
        · rename_i hr
          simp only [Bool.and_eq_true, decide_eq_true_eq] at hr
          refine ⟨_, _, rfl, by omega, by omega, by omega, by omega, fun j hj => ?_⟩
          obtain rfl | rfl | rfl | rfl : j = 0 ∨ j = 1 ∨ j = 2 ∨ j = 3 := by omega
          · exact h
          · omega
          · omega
          · omega
        · exact one
      · exact one
end
end Go.Proofs.YtonjadmldgloaaaGreatDoor.D16
