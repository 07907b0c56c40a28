/-
  AddrQuoted: the walk. A part of the proof: see the head of the text that ends in 'Law'.
-/
import Derived.Test.YtdanhdiinkgjnaaDoorAd20
namespace Go.Proofs.YtdanhdiinkgjnaaDoor
open Go.RowKit
set_option linter.unusedVariables false
attribute [local go_sem] Oper.semAt_some

/-- An octet, as a small letter. -/
def lowC (c : UInt8) : UInt8 := UInt8.ofNat (97 + c.toNat % 26)
theorem lowC_nat (c : UInt8) : (lowC c).toNat = 97 + c.toNat % 26 := by
  unfold lowC
  rw [UInt8.toNat_ofNat']
  have := Nat.mod_lt c.toNat (show 0 < 26 by decide)
  omega
theorem low_ok (l : List UInt8) : ∀ c ∈ l.map lowC, 97 ≤ c.toNat ∧ c.toNat ≤ 122 := fun c hc => by
  obtain ⟨x, _, rfl⟩ := List.mem_map.1 hc
  rw [lowC_nat]
  have := Nat.mod_lt x.toNat (show 0 < 26 by decide)
  omega
/-- What stands in the walk of a letter: its rest, its number, and its text. -/
theorem low_facts (x : UInt8) : ∃ m : Nat, m ≤ 25 ∧ Int.tmod (x.toNat : Int) 26 = (m : Int) ∧ (x.toNat : Int) % 26 = (m : Int) ∧ (lowC x).toNat = 97 + m := by
  refine ⟨x.toNat % 26, by have := Nat.mod_lt x.toNat (show 0 < 26 by decide); omega, ?_, by omega, lowC_nat x⟩
  rw [Int.tmod_eq_emod_of_nonneg (by omega)]
  omega
theorem low_str (X : World) (x : UInt8) (m : Nat) (h : (lowC x).toNat = 97 + m) : (convert 33 9 (.slice (some ⟨X.heap.size, 0, none⟩) 1 1)).run Tryd.prog (X.alloc (.cells #[.int .u8 (97 + (m : Int))] 5)) = .ok (.string (str [lowC x])) (X.alloc (.cells #[.int .u8 (97 + (m : Int))] 5)) := by
  have := one_str X (lowC x)
  rw [h] at this
  exact this
theorem lstQ (nm b t4 : List UInt8) (hb : ∀ c ∈ b, 97 ≤ c.toNat ∧ c.toNat ≤ 122) (h4 : quoT nm b = t4) (hl : t4.length ≤ 10000) (w : World) : Calls Tryd.prog 9 #[.string (str t4)] w fun e w' => ∃ A c, e = .returned (.slice A 2 c) ∧ Row w' A (([⟨nm, b, HOST⟩, ⟨[], [122], []⟩] : List Ad).flatMap adC) ∧ Below w.heap.size w w' :=
  (list_any t4 t4.length rfl w (by omega)).mono fun e w' ⟨A, m, c, h1, h2, h3, h5, _⟩ => by
    rw [← h4, quoted_list nm b hb] at h2 h3
    have h6 : m = 2 := h2.symm
    subst h6
    exact ⟨A, c, h1, Row.of_own h3, h5⟩
theorem samQ (nm b : List UInt8) (w : World) (A : Option Addr) (c : Nat) (h : Row w A (([⟨nm, b, HOST⟩, ⟨[], [122], []⟩] : List Ad).flatMap adC)) : Calls Tryd.prog 8 #[.slice A 2 c, .slice (some ⟨w.heap.size, 0, none⟩) 2 2] (w.alloc (.cells #[.string (str nm), .string (str b), .string ⟨#[104, 111, 115, 116]⟩, .string ⟨#[]⟩, .string ⟨#[122]⟩, .string ⟨#[]⟩] 35)) fun e w' => e = .returned (.bool true) ∧ Below w.heap.size w w' := by
  have hb : Below w.heap.size w (w.alloc (.cells #[.string (str nm), .string (str b), .string ⟨#[104, 111, 115, 116]⟩, .string ⟨#[]⟩, .string ⟨#[122]⟩, .string ⟨#[]⟩] 35)) := (Below.refl _ _).alloc (Nat.le_refl _) _
  exact (same_eq A _ 2 c 2 _ _ rfl (h.below hb) (Row.of_block (heap_alloc_new w _)) (by decide)).mono fun e w' k => ⟨k.1, next hb k.2⟩
set_option maxRecDepth 100000 in
set_option maxHeartbeats 4000000 in
theorem walkAddrQuoted (s0 s1 : List UInt8) (w : World) (hs0 : s0.length ≤ maxLen) (hs1 : s1.length ≤ maxLen) : Calls Tryd.prog 6 #[.string (str s0), .string (str s1)] w fun e w' => e = .returned (.bool true) ∧ Below w.heap.size w w' := by
  clear hs0 hs1
  have HF0 := hid (few_any s0 w)
  have HF1 := hid (few_any s1 w)
  obtain ⟨nm, hnm⟩ : ∃ l, fewL s0 = l := ⟨_, rfl⟩
  obtain ⟨bx, hbx⟩ : ∃ l, fewL s1 = l := ⟨_, rfl⟩
  have hn0 := fewL_len s0
  have hn1 := fewL_len s1
  rw [hnm] at hn0 HF0
  rw [hbx] at hn1 HF1
  obtain ⟨n, hn⟩ : ∃ n, nm.length = n := ⟨_, rfl⟩
  obtain ⟨p, hp⟩ : ∃ p, bx.length = p := ⟨_, rfl⟩
  have hszn : (str nm).size = n := hn
  have hszp : (str bx).size = p := hp
  have HNM := hid hn
  have HBX := hid hp
  have B0 := hid (Below.refl w.heap.size w)
  rw [hn] at hn0
  rw [hp] at hn1
  clear hnm hbx hn hp
  go_enter Tryd.func6, Tryd.ntmps6
  go_upto_region 2 with (first
    | (go_at_call 7; (with_reducible refine HF0.out.mono ?_); rintro e w1 ⟨rfl, rfl⟩)
    | (go_at_call 7; (with_reducible refine HF1.out.mono ?_); rintro e w1 ⟨rfl, rfl⟩))
  clear HF0 HF1
  go_wp2_with fail
  go_loopw [5, 6] (fun v5 v6 wr => ∃ k : Nat, k ≤ n ∧ v5 = .string (str (quo (nm.take k))) ∧ v6 = .int .i64 (k : Int) ∧ w = wr) (fun v5 v6 wr => n - (intOf v6).toNat)
  case atStart => exact ⟨0, Nat.zero_le _, rfl, rfl, rfl⟩
  case round =>
    obtain ⟨k, hk, rfl, rfl, rfl⟩ := hrel
    obtain ⟨q, hq⟩ : ∃ q, quo (nm.take k) = q := ⟨_, rfl⟩
    have hql : q.length ≤ 800 := by
      rw [← hq]
      have := quo_len (nm.take k)
      rw [List.length_take] at this
      omega
    rw [hq]
    have HQ := hid hq
    by_cases hlt : k < n
    · have d1 : decide ((k : Int) < (n : Int)) = true := by simp; omega
      have d1' : decide (k < n) = true := by simpa using hlt
      have hks : k < (str nm).size := by rw [hszn]; exact hlt
      have hkl : k < nm.length := by rw [HNM.out]; exact hlt
      obtain ⟨c, hc0⟩ : ∃ c, nm[k]'hkl = c := ⟨_, rfl⟩
      have hc : (str nm)[k]'hks = c := hc0
      have i0 : (0 : Int) ≤ (k : Int) := by omega
      have i1 : (k : Int) < ((str nm).size : Int) := by rw [hszn]; omega
      have i2 : (k : Int).toNat = k := by omega
      have i3 : ((k : Int) + 1).toNat = k + 1 := by omega
      have i4 : (k : Int) + 1 ≤ (n : Int) := by omega
      have i5 : (0 : Int) ≤ (k : Int) + 1 := by omega
      have hx : (str nm).extract k (k + 1) = str [c] := by
        rw [str_extract, show k + 1 - k = 1 by omega, List.drop_eq_getElem_cons hkl, hc0]; rfl
      have HT : Hid (quo (nm.take (k + 1)) = q ++ (if c.toNat = 34 ∨ c.toNat = 92 then [92, c] else [c])) := hid (by rw [take_next nm k hkl, quo_snoc, hc0, HQ.out])
      have z1 : (str q).size ≤ 800 := hql
      have z2 : (str (q ++ [92])).size ≤ 801 := by rw [str_size, List.length_append]; simp; omega
      have z3 : (str [c]).size ≤ 1 := Nat.le_refl _
      have a1 : str q ++ (⟨#[92]⟩ : ByteArray) = str (q ++ [92]) := str_append q [92]
      have a2 : str (q ++ [92]) ++ str [c] = str (q ++ [92, c]) := by rw [str_append, List.append_assoc]; rfl
      have a3 : str q ++ str [c] = str (q ++ [c]) := str_append _ _
      clear hc0 hkl hq
      by_cases h34 : c.toNat = 34
      · have q1 : ((c.toNat : Int) == 34) = true := by rw [h34]; rfl
        have HT2 : Hid (quo (nm.take (k + 1)) = q ++ [92, c]) := hid (by rw [HT.out, if_pos (.inl h34)])
        clear h34 HT HQ B0
        go_wp2_with fail
        go_roundw
        case rel => exact ⟨k + 1, by omega, by rw [HT2.out], by go_num, trivial⟩
        case measure => simp [intOf]; omega
      have q1 : ((c.toNat : Int) == 34) = false := ne_f h34
      by_cases h92 : c.toNat = 92
      · have q2 : ((c.toNat : Int) == 92) = true := by rw [h92]; rfl
        have HT2 : Hid (quo (nm.take (k + 1)) = q ++ [92, c]) := hid (by rw [HT.out, if_pos (.inr h92)])
        clear h34 h92 HT HQ B0
        go_wp2_with fail
        go_roundw
        case rel => exact ⟨k + 1, by omega, by rw [HT2.out], by go_num, trivial⟩
        case measure => simp [intOf]; omega
      · have q2 : ((c.toNat : Int) == 92) = false := ne_f h92
        have HT2 : Hid (quo (nm.take (k + 1)) = q ++ [c]) := hid (by rw [HT.out, if_neg (by omega)])
        clear h34 h92 HT HQ B0
        go_wp2_with fail
        go_roundw
        case rel => exact ⟨k + 1, by omega, by rw [HT2.out], by go_num, trivial⟩
        case measure => simp [intOf]; omega
    · have hkn : k = n := by omega
      subst hkn
      have d1 : decide ((k : Int) < (k : Int)) = false := by simp
      have d1' : decide (k < k) = false := by simp
      have HQ2 : Hid (quo nm = q) := hid (by rw [← HQ.out, List.take_of_length_le (by rw [HNM.out]; exact Nat.le_refl _)])
      clear HQ hq hlt hk
      go_wp2_with fail
      go_loopw [7, 8] (fun v7 v8 wr => ∃ j : Nat, j ≤ p ∧ j ≤ 20 ∧ v7 = .string (str ((bx.take j).map lowC)) ∧ v8 = .int .i64 (j : Int) ∧ Hid (Below w.heap.size w wr)) (fun v7 v8 wr => p - (intOf v8).toNat)
      case atStart => exact ⟨0, Nat.zero_le _, by omega, rfl, rfl, B0⟩
      case round =>
        clear B0
        obtain ⟨j, hj, hj20, rfl, rfl, B⟩ := hrel
        obtain ⟨b, hb⟩ : ∃ b, (bx.take j).map lowC = b := ⟨_, rfl⟩
        have hbl : b.length ≤ 20 := by rw [← hb, List.length_map, List.length_take]; omega
        have HBL : Hid (∀ c ∈ b, 97 ≤ c.toNat ∧ c.toNat ≤ 122) := hid (by rw [← hb]; exact low_ok _)
        rw [hb]
        have HB := hid hb
        clear hb
        by_cases hlt : j < p ∧ j < 20
        · have d2 : decide ((j : Int) < (p : Int)) = true := by simp; omega
          have d2' : decide (j < p) = true := by simp; omega
          have d3 : decide ((j : Int) < 20) = true := by simp; omega
          have d3' : decide (j < 20) = true := by simp; omega
          have hjs : j < (str bx).size := by rw [hszp]; exact hlt.1
          have hjl : j < bx.length := by rw [HBX.out]; exact hlt.1
          obtain ⟨x, hx0⟩ : ∃ x, bx[j]'hjl = x := ⟨_, rfl⟩
          have hx : (str bx)[j]'hjs = x := hx0
          obtain ⟨m, hm, t1, t2, t3⟩ := low_facts x
          have i0 : (0 : Int) ≤ (j : Int) := by omega
          have i1 : (j : Int) < ((str bx).size : Int) := by rw [hszp]; omega
          have i2 : (j : Int).toNat = j := by omega
          have kone := fun X => low_str X x m t3
          have z1 : (str b).size ≤ 20 := hbl
          have z3 : (str [lowC x]).size ≤ 1 := Nat.le_refl _
          have a3 : str b ++ str [lowC x] = str (b ++ [lowC x]) := str_append _ _
          have HT : Hid ((bx.take (j + 1)).map lowC = b ++ [lowC x]) := hid (by rw [take_next bx j hjl, List.map_append, HB.out, hx0]; rfl)
          have HJ := hid hlt
          clear hx0 hjl HB HBL t3 hlt
          go_wp2_with fail
          go_roundw
          case rel => exact ⟨j + 1, by have := HJ.out; omega, by have := HJ.out; omega, by rw [HT.out], by go_num, hid (below_alloc B.out _)⟩
          case measure => have := HJ.out; simp [intOf]; omega
        · by_cases hjp : j < p
          · have d2 : decide ((j : Int) < (p : Int)) = true := by simp; omega
            have d2' : decide (j < p) = true := by simp; omega
            have d3 : decide ((j : Int) < 20) = false := by simp; omega
            have d3' : decide (j < 20) = false := by simp; omega
            clear HB hlt hjp
            obtain ⟨t1, ht1⟩ : ∃ t, ([34] : List UInt8) ++ q = t := ⟨_, rfl⟩
            obtain ⟨t2, ht2⟩ : ∃ t, t1 ++ ([34, 32, 60] : List UInt8) = t := ⟨_, rfl⟩
            obtain ⟨t3, ht3⟩ : ∃ t, t2 ++ b = t := ⟨_, rfl⟩
            obtain ⟨t4, ht4⟩ : ∃ t, t3 ++ ([64, 104, 111, 115, 116, 62, 44, 32, 122] : List UInt8) = t := ⟨_, rfl⟩
            have a1 : (⟨#[34]⟩ : ByteArray) ++ str q = str t1 := by rw [← ht1]; exact str_append [34] q
            have a2 : str t1 ++ (⟨#[34, 32, 60]⟩ : ByteArray) = str t2 := by rw [← ht2]; exact str_append t1 [34, 32, 60]
            have a3 : str t2 ++ str b = str t3 := by rw [← ht3]; exact str_append t2 b
            have a4 : str t3 ++ (⟨#[64, 104, 111, 115, 116, 62, 44, 32, 122]⟩ : ByteArray) = str t4 := by rw [← ht4]; exact str_append t3 _
            have z0 : (str q).size ≤ 800 := hql
            have z1 : (str t1).size ≤ 801 := by rw [str_size, ← ht1, List.length_append]; simp; omega
            have z2 : (str t2).size ≤ 804 := by rw [str_size] at z1 ⊢; rw [← ht2, List.length_append]; simp; omega
            have zb : (str b).size ≤ 20 := hbl
            have z3 : (str t3).size ≤ 824 := by rw [str_size] at z2 ⊢; rw [← ht3, List.length_append]; omega
            have z4 : t4.length ≤ 10000 := by rw [str_size] at z3; rw [← ht4, List.length_append]; simp; omega
            have HL4 := hid (lstQ nm b t4 HBL.out (by rw [← ht4, ← ht3, ← ht2, ← ht1, ← HQ2.out]; rfl) z4)
            clear ht1 ht2 ht3 ht4 z4
            go_upto_region 15 with (go_at_call 9; refine (HL4.out _).mono ?_; rintro e w3 ⟨A3, c3, rfl, r3, b3⟩; have R := hid r3; have B := hid (next B.out b3); clear r3 b3)
            go_wp2_with (first
              | (go_at_call 8; refine (samQ nm b _ A3 c3 R.out).mono ?_; rintro e w4 ⟨rfl, b4⟩; have B := hid (next B.out b4); clear b4)
              | (go_at_call 11; refine (awake_any _).mono ?_; rintro e w5 ⟨rfl, b5⟩; have B := hid (next B.out b5); clear b5))
            go_ret
            exact ⟨rfl, B.out⟩
          · have d2 : decide ((j : Int) < (p : Int)) = false := by simp; omega
            have d2' : decide (j < p) = false := by simp; omega
            clear HB hlt hjp
            obtain ⟨t1, ht1⟩ : ∃ t, ([34] : List UInt8) ++ q = t := ⟨_, rfl⟩
            obtain ⟨t2, ht2⟩ : ∃ t, t1 ++ ([34, 32, 60] : List UInt8) = t := ⟨_, rfl⟩
            obtain ⟨t3, ht3⟩ : ∃ t, t2 ++ b = t := ⟨_, rfl⟩
            obtain ⟨t4, ht4⟩ : ∃ t, t3 ++ ([64, 104, 111, 115, 116, 62, 44, 32, 122] : List UInt8) = t := ⟨_, rfl⟩
            have a1 : (⟨#[34]⟩ : ByteArray) ++ str q = str t1 := by rw [← ht1]; exact str_append [34] q
            have a2 : str t1 ++ (⟨#[34, 32, 60]⟩ : ByteArray) = str t2 := by rw [← ht2]; exact str_append t1 [34, 32, 60]
            have a3 : str t2 ++ str b = str t3 := by rw [← ht3]; exact str_append t2 b
            have a4 : str t3 ++ (⟨#[64, 104, 111, 115, 116, 62, 44, 32, 122]⟩ : ByteArray) = str t4 := by rw [← ht4]; exact str_append t3 _
            have z0 : (str q).size ≤ 800 := hql
            have z1 : (str t1).size ≤ 801 := by rw [str_size, ← ht1, List.length_append]; simp; omega
            have z2 : (str t2).size ≤ 804 := by rw [str_size] at z1 ⊢; rw [← ht2, List.length_append]; simp; omega
            have zb : (str b).size ≤ 20 := hbl
            have z3 : (str t3).size ≤ 824 := by rw [str_size] at z2 ⊢; rw [← ht3, List.length_append]; omega
            have z4 : t4.length ≤ 10000 := by rw [str_size] at z3; rw [← ht4, List.length_append]; simp; omega
            have HL4 := hid (lstQ nm b t4 HBL.out (by rw [← ht4, ← ht3, ← ht2, ← ht1, ← HQ2.out]; rfl) z4)
            clear ht1 ht2 ht3 ht4 z4
            go_upto_region 15 with (go_at_call 9; refine (HL4.out _).mono ?_; rintro e w3 ⟨A3, c3, rfl, r3, b3⟩; have R := hid r3; have B := hid (next B.out b3); clear r3 b3)
            go_wp2_with (first
              | (go_at_call 8; refine (samQ nm b _ A3 c3 R.out).mono ?_; rintro e w4 ⟨rfl, b4⟩; have B := hid (next B.out b4); clear b4)
              | (go_at_call 11; refine (awake_any _).mono ?_; rintro e w5 ⟨rfl, b5⟩; have B := hid (next B.out b5); clear b5))
            go_ret
            exact ⟨rfl, B.out⟩
end Go.Proofs.YtdanhdiinkgjnaaDoor
