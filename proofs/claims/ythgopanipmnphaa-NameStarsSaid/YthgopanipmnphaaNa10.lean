/-
  The document's meets, which keeps what was asked. A part of the proof: see the head of the text that ends in 'Law'.
-/
import Derived.Test.YthgopanipmnphaaNa9
import Derived.Test.YthgopanipmnphaaNaPlain4
namespace Go.Proofs.Ythgopanipmnphaa
open Go.RowKit Go.Shelf
set_option linter.unusedVariables false

/-- What is kept is true. -/
def KOk (a b : List UInt8) (K : List UInt8) : Prop := K.length = (a.length + 1) * (b.length + 1) ∧ ∀ i k, i ≤ a.length → k ≤ b.length → ∃ v, K[i * (b.length + 1) + k]? = some v ∧ (v = 0 ∨ (v = 1 ∧ mt (b.drop k) (a.drop i) = true) ∨ (v = 2 ∧ mt (b.drop k) (a.drop i) = false))
theorem place_lt {a b i k : Nat} (hi : i ≤ a) (hk : k ≤ b) : i * (b + 1) + k < (a + 1) * (b + 1) := by
  have h1 : i * (b + 1) ≤ a * (b + 1) := Nat.mul_le_mul_right _ hi
  have h2 : (a + 1) * (b + 1) = a * (b + 1) + (b + 1) := Nat.succ_mul _ _
  omega
theorem place_inj {b i k i' k' : Nat} (hk : k ≤ b) (hk' : k' ≤ b) (h : i * (b + 1) + k = i' * (b + 1) + k') : i = i' ∧ k = k' := by
  have h1 : (i * (b + 1) + k) / (b + 1) = i := by
    rw [Nat.mul_comm, Nat.mul_add_div (by omega), Nat.div_eq_of_lt (by omega), Nat.add_zero]
  have h2 : (i' * (b + 1) + k') / (b + 1) = i' := by
    rw [Nat.mul_comm, Nat.mul_add_div (by omega), Nat.div_eq_of_lt (by omega), Nat.add_zero]
  have h3 : i = i' := by rw [← h1, ← h2, h]
  subst h3
  exact ⟨rfl, by omega⟩
theorem KOk.set {a b K : List UInt8} (h : KOk a b K) {i k : Nat} (hi : i ≤ a.length) (hk : k ≤ b.length) {r : Bool} (hr : mt (b.drop k) (a.drop i) = r) :
    KOk a b (K.set (i * (b.length + 1) + k) (if r = true then 1 else 2)) := by
  refine ⟨by rw [List.length_set]; exact h.1, fun i' k' hi' hk' => ?_⟩
  rw [List.getElem?_set]
  by_cases he : i * (b.length + 1) + k = i' * (b.length + 1) + k'
  · obtain ⟨rfl, rfl⟩ := place_inj hk hk' he
    rw [if_pos rfl, if_pos (by rw [h.1]; exact place_lt hi hk), hr]
    cases r with
    | true => exact ⟨1, rfl, .inr (.inl ⟨rfl, rfl⟩)⟩
    | false => exact ⟨2, rfl, .inr (.inr ⟨rfl, rfl⟩)⟩
  · rw [if_neg he]
    exact h.2 i' k' hi' hk'
/-- What a call leaves. -/
def MkI (w w' : World) (g : Nat) (a b : List UInt8) : Prop := ∃ K, OwnC w' g 5 (K.map B8) ∧ KOk a b K ∧ Below g w w'
theorem MkI.next {w w' w2 : World} {g : Nat} {a b : List UInt8} (h : MkI w w' g a b) (h2 : MkI w' w2 g a b) : MkI w w2 g a b := by
  obtain ⟨K, _, _, hb⟩ := h
  obtain ⟨K2, h3, h4, hb2⟩ := h2
  exact ⟨K2, h3, h4, hb.trans hb2⟩
theorem MkI.drew {w w' : World} {g : Nat} {a b : List UInt8} (h : MkI w w' g a b) : MkI w w'.drew g a b := by
  obtain ⟨K, h3, h4, hb⟩ := h
  exact ⟨K, h3, h4, bq hb 1⟩
theorem MkI.self {w w' : World} {g : Nat} {a b : List UInt8} (h : MkI w w' g a b) : MkI w' w' g a b := by
  obtain ⟨K, h3, h4, hb⟩ := h
  exact ⟨K, h3, h4, Below.refl _ _⟩
def MeetsC (a b : List UInt8) (i k : Nat) : Prop := ∀ (w : World) (g n c : Nat), n = (a.length + 1) * (b.length + 1) → MkI w w g a b →
  Calls Try.prog 21 #[.string (str a), .string (str b), .int .i64 i, .int .i64 k, .slice (some ⟨g, 0, none⟩) n c] w fun e w' => e = .returned (.bool (mt (b.drop k) (a.drop i))) ∧ MkI w w' g a b

theorem eatB_i (c x : UInt8) : eatB c x = (((c.toNat : Int) == 42) || ((x.toNat : Int) != 47)) := by
  unfold eatB
  have h1 : (c == 42) = ((c.toNat : Int) == 42) := by
    rw [Bool.eq_iff_iff, beq_iff_eq, beq_iff_eq, ← UInt8.toNat_inj]
    have e : (42 : UInt8).toNat = 42 := rfl
    omega
  have h2 : (x != 47) = ((x.toNat : Int) != 47) := by
    rw [Bool.eq_iff_iff, bne_iff_ne, bne_iff_ne, ne_eq, ← UInt8.toNat_inj]
    have e : (47 : UInt8).toNat = 47 := rfl
    omega
  rw [h1, h2]
theorem wB_i (c : UInt8) : wB c = (((c.toNat : Int) == 42) || ((c.toNat : Int) == 37)) := by
  unfold wB
  have h1 : (c == 42) = ((c.toNat : Int) == 42) := by
    rw [Bool.eq_iff_iff, beq_iff_eq, beq_iff_eq, ← UInt8.toNat_inj]
    have e : (42 : UInt8).toNat = 42 := rfl
    omega
  have h2 : (c == 37) = ((c.toNat : Int) == 37) := by
    rw [Bool.eq_iff_iff, beq_iff_eq, beq_iff_eq, ← UInt8.toNat_inj]
    have e : (37 : UInt8).toNat = 37 := rfl
    omega
  rw [h1, h2]

set_option maxRecDepth 20000 in
set_option maxHeartbeats 4000000 in
theorem meets_step (a b : List UInt8) (ha : a.length ≤ 100) (hb : b.length ≤ 100) (i k : Nat) (hi : i ≤ a.length) (hk : k ≤ b.length)
    (IH : ∀ i' k', i' ≤ a.length → k' ≤ b.length → (a.length - i') + (b.length - k') < (a.length - i) + (b.length - k) → MeetsC a b i' k') : MeetsC a b i k := by
  intro w g n c hn hI
  have HIH := hid IH
  have hza : (str a).size ≤ 100 := ha
  have hzb : (str b).size ≤ 100 := hb
  have HLA : Hid ((str a).size = a.length) := hid rfl
  have HLB : Hid ((str b).size = b.length) := hid rfl
  obtain ⟨q, hq⟩ : ∃ q, i * ((str b).size + 1) = q := ⟨_, rfl⟩
  have hqb : q ≤ 100 * 101 := by rw [← hq]; exact Nat.mul_le_mul (by omega) (by omega)
  have hw1 : IntKind.i64.wrap ((i : Int) * (((str b).size : Int) + 1)) = (q : Int) := by
    have : (i : Int) * (((str b).size : Int) + 1) = ((i * ((str b).size + 1) : Nat) : Int) := by simp
    rw [this, hq, IntKind.wrap_i64]
    omega
  have hqn : q + k < n := by rw [← hq, hn]; exact place_lt hi hk
  have hki : k ≤ 100 := by omega
  have HI := hid hI
  have HQ := hid hq
  have HN := hid hn
  obtain ⟨K, hO, hK, hB⟩ := hI
  obtain ⟨v, hv, hv2⟩ := hK.2 i k hi hk
  have hcell : w.cell? ⟨g, q + k, none⟩ = some (.int .u8 v.toNat) := hO.cell (by rw [List.getElem?_map, ← hq, str_size, hv]; rfl)
  have hqk0 : (0 : Int) ≤ (q : Int) + (k : Int) := by omega
  have hqk1 : (q : Int) + (k : Int) < (n : Int) := by omega
  have hqk2 : ((q : Int) + (k : Int)).toNat = q + k := by omega
  clear IH hq hn hO hB hK hv
  by_cases hv0 : v = 0
  · subst hv0
    clear hv2
    go_enter Try.func21, Try.ntmps21
    go_upto_if 33 with fail
    go_cut [12] (fun t wx => t = .bool (mt (b.drop k) (a.drop i)) ∧ Hid (MkI w wx g a b))
    case first =>
      clear hcell hqk0 hqk1 hqk2 hw1 hqb hqn
      by_cases hkm : k < (str b).size
      · have hkl : k < b.length := hkm
        have hd1 : ((k : Int) == ((str b).size : Int)) = false := by simp; omega
        have hd3 : (k == (str b).size) = false := by simp; omega
        obtain ⟨c0, hc0⟩ : ∃ x, ((str b)[k]'hkm) = x := ⟨_, rfl⟩
        have hbd : b.drop k = c0 :: b.drop (k + 1) := by rw [List.drop_eq_getElem_cons hkl]; exact congrArg (· :: _) hc0
        have hc0l := c0.toNat_lt
        obtain ⟨f42, h42⟩ : ∃ f, ((c0.toNat : Int) == 42) = f := ⟨_, rfl⟩
        obtain ⟨f37, h37⟩ : ∃ f, ((c0.toNat : Int) == 37) = f := ⟨_, rfl⟩
        have h42' : ((((str b)[k]'hkm).toNat : Int) == 42) = f42 := by rw [hc0]; exact h42
        have h37' : ((((str b)[k]'hkm).toNat : Int) == 37) = f37 := by rw [hc0]; exact h37
        have hwB : wB c0 = (f42 || f37) := by rw [wB_i, h42, h37]
        cases hw : wB c0 with
        | true =>
          rw [hw] at hwB
          cases f42 with
          | true =>
            clear hwB
            have p42 := beq_iff_eq.1 h42'
            obtain ⟨r1, hr1⟩ : ∃ r, mt (b.drop (k + 1)) (a.drop i) = r := ⟨_, rfl⟩
            have R1 := hid hr1
            have C1 : Hid (∀ (w : World) (g n c : Nat), n = (a.length + 1) * (b.length + 1) → MkI w w g a b → Calls Try.prog 21 #[.string (str a), .string (str b), .int .i64 i, .int .i64 ((k : Int) + 1), .slice (some ⟨g, 0, none⟩) n c] w fun e w' => e = .returned (.bool (mt (b.drop (k + 1)) (a.drop i))) ∧ MkI w w' g a b) := hid (fun w g n c hn hI => by
              have h := HIH.out i (k + 1) (by omega) (by rw [← HLB.out]; omega) (by rw [← HLB.out]; omega) w g n c hn hI
              rw [Int.natCast_succ] at h
              exact h)
            cases r1 with
            | true =>
              have HR : Hid (mt (b.drop k) (a.drop i) = true) := hid (by
                rw [hbd]
                cases hs : a.drop i with
                | nil => rw [mt_wild_nil _ hw, ← hs]; exact hr1
                | cons x s => rw [mt_wild _ hw, ← hs, hr1]; rfl)
              clear hr1 hbd hw
              go_wp2_with (go_at_call 21; (with_reducible refine (C1.out _ g n c HN.out HI.out.self).mono ?_); rw [R1.out]; rintro e w1 ⟨rfl, i1⟩; have I1 := hid i1; clear i1)
              all_goals (first | (exfalso; omega) | (go_meet; exact ⟨by rw [HR.out], hid (HI.out.next I1.out)⟩))
            | false =>
              by_cases hia : i < (str a).size
              · have hil : i < a.length := hia
                obtain ⟨x, hx⟩ : ∃ x, ((str a)[i]'hia) = x := ⟨_, rfl⟩
                have had : a.drop i = x :: a.drop (i + 1) := by rw [List.drop_eq_getElem_cons hil]; exact congrArg (· :: _) hx
                have hd2 : decide (i < (str a).size) = true := by simpa using hia
                obtain ⟨r2, hr2⟩ : ∃ r, mt (b.drop k) (a.drop (i + 1)) = r := ⟨_, rfl⟩
                have R2 := hid hr2
                have C2 : Hid (∀ (w : World) (g n c : Nat), n = (a.length + 1) * (b.length + 1) → MkI w w g a b → Calls Try.prog 21 #[.string (str a), .string (str b), .int .i64 ((i : Int) + 1), .int .i64 k, .slice (some ⟨g, 0, none⟩) n c] w fun e w' => e = .returned (.bool (mt (b.drop k) (a.drop (i + 1)))) ∧ MkI w w' g a b) := hid (fun w g n c hn hI => by
                  have h := HIH.out (i + 1) k (by omega) (by omega) (by omega) w g n c hn hI
                  rw [Int.natCast_succ] at h
                  exact h)
                have HR : Hid (mt (b.drop k) (a.drop i) = (eatB c0 x && r2)) := hid (by
                  rw [← hr2, had, hbd, mt_wild _ hw, ← had, hr1]
                  rfl)
                obtain ⟨f1, hf1⟩ : ∃ f, ((x.toNat : Int) != 47) = f := ⟨_, rfl⟩
                have hxl := x.toNat_lt
                have hf2 : ((((str a)[i]'hia).toNat : Int) != 47) = f1 := by rw [hx]; exact hf1
                have heat : Hid (eatB c0 x = (true || f1)) := hid (by rw [← hf1, eatB_i, h42])
                clear hr1 hbd hw had hr2 hx
                go_wp2_with (first
                  | (go_at_call 21; (with_reducible refine (C1.out _ g n c HN.out HI.out.self).mono ?_); rw [R1.out]; rintro e w1 ⟨rfl, i1⟩; have I1 := hid i1; clear i1)
                  | (go_at_call 21; (with_reducible refine (C2.out _ g n c HN.out I1.out.self).mono ?_); rw [R2.out]; rintro e w2 ⟨rfl, i2⟩; have I2 := hid i2; clear i2))
                all_goals (first | (exfalso; omega) | (go_meet; exact ⟨by rw [HR.out, heat.out]; simp [*], hid (HI.out.next (I1.out.next I2.out))⟩) | (go_meet; exact ⟨by rw [HR.out, heat.out]; simp [*], hid (HI.out.next I1.out)⟩))
              · have hd2 : decide (i < (str a).size) = false := by simpa using hia
                have HR : Hid (mt (b.drop k) (a.drop i) = false) := hid (by
                  have had : a.drop i = [] := List.drop_of_length_le (by rw [← HLA.out]; omega)
                  rw [had] at hr1
                  rw [had, hbd, mt_wild_nil _ hw]
                  exact hr1)
                clear hr1 hbd hw
                go_wp2_with (go_at_call 21; (with_reducible refine (C1.out _ g n c HN.out HI.out.self).mono ?_); rw [R1.out]; rintro e w1 ⟨rfl, i1⟩; have I1 := hid i1; clear i1)
                all_goals (first | (exfalso; omega) | (go_meet; exact ⟨by rw [HR.out], hid (HI.out.next I1.out)⟩))
          | false =>
            obtain rfl : f37 = true := by simpa using hwB.symm
            clear hwB
            have p42 := beq_eq_false_iff_ne.1 h42'
            have p37 := beq_iff_eq.1 h37'
            obtain ⟨r1, hr1⟩ : ∃ r, mt (b.drop (k + 1)) (a.drop i) = r := ⟨_, rfl⟩
            have R1 := hid hr1
            have C1 : Hid (∀ (w : World) (g n c : Nat), n = (a.length + 1) * (b.length + 1) → MkI w w g a b → Calls Try.prog 21 #[.string (str a), .string (str b), .int .i64 i, .int .i64 ((k : Int) + 1), .slice (some ⟨g, 0, none⟩) n c] w fun e w' => e = .returned (.bool (mt (b.drop (k + 1)) (a.drop i))) ∧ MkI w w' g a b) := hid (fun w g n c hn hI => by
              have h := HIH.out i (k + 1) (by omega) (by rw [← HLB.out]; omega) (by rw [← HLB.out]; omega) w g n c hn hI
              rw [Int.natCast_succ] at h
              exact h)
            cases r1 with
            | true =>
              have HR : Hid (mt (b.drop k) (a.drop i) = true) := hid (by
                rw [hbd]
                cases hs : a.drop i with
                | nil => rw [mt_wild_nil _ hw, ← hs]; exact hr1
                | cons x s => rw [mt_wild _ hw, ← hs, hr1]; rfl)
              clear hr1 hbd hw
              go_wp2_with (go_at_call 21; (with_reducible refine (C1.out _ g n c HN.out HI.out.self).mono ?_); rw [R1.out]; rintro e w1 ⟨rfl, i1⟩; have I1 := hid i1; clear i1)
              all_goals (first | (exfalso; omega) | (exfalso; rename_i hh; rw [h37'] at hh; exact absurd hh.2 (by decide)) | (go_meet; exact ⟨by rw [HR.out], hid (HI.out.next I1.out)⟩))
            | false =>
              by_cases hia : i < (str a).size
              · have hil : i < a.length := hia
                obtain ⟨x, hx⟩ : ∃ x, ((str a)[i]'hia) = x := ⟨_, rfl⟩
                have had : a.drop i = x :: a.drop (i + 1) := by rw [List.drop_eq_getElem_cons hil]; exact congrArg (· :: _) hx
                have hd2 : decide (i < (str a).size) = true := by simpa using hia
                obtain ⟨r2, hr2⟩ : ∃ r, mt (b.drop k) (a.drop (i + 1)) = r := ⟨_, rfl⟩
                have R2 := hid hr2
                have C2 : Hid (∀ (w : World) (g n c : Nat), n = (a.length + 1) * (b.length + 1) → MkI w w g a b → Calls Try.prog 21 #[.string (str a), .string (str b), .int .i64 ((i : Int) + 1), .int .i64 k, .slice (some ⟨g, 0, none⟩) n c] w fun e w' => e = .returned (.bool (mt (b.drop k) (a.drop (i + 1)))) ∧ MkI w w' g a b) := hid (fun w g n c hn hI => by
                  have h := HIH.out (i + 1) k (by omega) (by omega) (by omega) w g n c hn hI
                  rw [Int.natCast_succ] at h
                  exact h)
                have HR : Hid (mt (b.drop k) (a.drop i) = (eatB c0 x && r2)) := hid (by
                  rw [← hr2, had, hbd, mt_wild _ hw, ← had, hr1]
                  rfl)
                obtain ⟨f1, hf1⟩ : ∃ f, ((x.toNat : Int) != 47) = f := ⟨_, rfl⟩
                have hxl := x.toNat_lt
                have hf2 : ((((str a)[i]'hia).toNat : Int) != 47) = f1 := by rw [hx]; exact hf1
                have heat : Hid (eatB c0 x = (false || f1)) := hid (by rw [← hf1, eatB_i, h42])
                clear hr1 hbd hw had hr2 hx
                go_wp2_with (first
                  | (go_at_call 21; (with_reducible refine (C1.out _ g n c HN.out HI.out.self).mono ?_); rw [R1.out]; rintro e w1 ⟨rfl, i1⟩; have I1 := hid i1; clear i1)
                  | (go_at_call 21; (with_reducible refine (C2.out _ g n c HN.out I1.out.self).mono ?_); rw [R2.out]; rintro e w2 ⟨rfl, i2⟩; have I2 := hid i2; clear i2))
                all_goals (first | (exfalso; omega) | (exfalso; rename_i hh; rw [h37'] at hh; exact absurd hh.2 (by decide)) | (go_meet; exact ⟨by rw [HR.out, heat.out]; simp [*], hid (HI.out.next (I1.out.next I2.out))⟩) | (go_meet; exact ⟨by rw [HR.out, heat.out]; simp [*], hid (HI.out.next I1.out)⟩))
              · have hd2 : decide (i < (str a).size) = false := by simpa using hia
                have HR : Hid (mt (b.drop k) (a.drop i) = false) := hid (by
                  have had : a.drop i = [] := List.drop_of_length_le (by rw [← HLA.out]; omega)
                  rw [had] at hr1
                  rw [had, hbd, mt_wild_nil _ hw]
                  exact hr1)
                clear hr1 hbd hw
                go_wp2_with (go_at_call 21; (with_reducible refine (C1.out _ g n c HN.out HI.out.self).mono ?_); rw [R1.out]; rintro e w1 ⟨rfl, i1⟩; have I1 := hid i1; clear i1)
                all_goals (first | (exfalso; omega) | (exfalso; rename_i hh; rw [h37'] at hh; exact absurd hh.2 (by decide)) | (go_meet; exact ⟨by rw [HR.out], hid (HI.out.next I1.out)⟩))
        | false =>
          rw [hw] at hwB
          obtain ⟨rfl, rfl⟩ : f42 = false ∧ f37 = false := Bool.or_eq_false_iff.1 hwB.symm
          clear hwB
          by_cases hia : i < (str a).size
          · have hil : i < a.length := hia
            obtain ⟨x, hx⟩ : ∃ x, ((str a)[i]'hia) = x := ⟨_, rfl⟩
            have had : a.drop i = x :: a.drop (i + 1) := by rw [List.drop_eq_getElem_cons hil]; exact congrArg (· :: _) hx
            have hd2 : decide (i < (str a).size) = true := by simpa using hia
            have hxl := x.toNat_lt
            cases he : x == c0 with
            | true =>
              obtain ⟨r3, hr3⟩ : ∃ r, mt (b.drop (k + 1)) (a.drop (i + 1)) = r := ⟨_, rfl⟩
              have R3 := hid hr3
              have C3 : Hid (∀ (w : World) (g n c : Nat), n = (a.length + 1) * (b.length + 1) → MkI w w g a b → Calls Try.prog 21 #[.string (str a), .string (str b), .int .i64 ((i : Int) + 1), .int .i64 ((k : Int) + 1), .slice (some ⟨g, 0, none⟩) n c] w fun e w' => e = .returned (.bool (mt (b.drop (k + 1)) (a.drop (i + 1)))) ∧ MkI w w' g a b) := hid (fun w g n c hn hI => by
                have h := HIH.out (i + 1) (k + 1) (by omega) (by omega) (by omega) w g n c hn hI
                rw [Int.natCast_succ, Int.natCast_succ] at h
                exact h)
              have HR : Hid (mt (b.drop k) (a.drop i) = r3) := hid (by rw [had, hbd, mt_lit _ hw, he, ← hr3]; rfl)
              have e1 : ((((str a)[i]'hia).toNat : Int) == (((str b)[k]'hkm).toNat : Int)) = true := by
                rw [hx, hc0, beq_iff_eq, (beq_iff_eq.1 he)]
              have hwi : IntKind.i64.wrap ((i : Int) + 1) = (i : Int) + 1 := by rw [IntKind.wrap_i64]; omega
              have hwk : IntKind.i64.wrap ((k : Int) + 1) = (k : Int) + 1 := by rw [IntKind.wrap_i64]; omega
              clear he hr3 had hbd hw hx hc0 hd1
              go_upto_region 9 with fail
              refine wp_region_noPanic ?_
              refine wp_region_held_drew (S := (fun W => True)) (by kernel_rfl) (by first | assumption | trivial) (fun hHeld => ?_)
              refine wpAnyH_take (i := 0) (v := ?_) rfl (by kernel_rfl) (by kernel_rfl) (by kernel_rfl) (fun _ _ _ h => h) (Or.inl ⟨by kernel_rfl, ?_⟩) (by first | assumption | trivial) ?_
              rotate_left
              · (intro wS hSw; (try dsimp only at hSw); go_simp; try with_reducible rfl)
              (try simp only [List.getElem_toArray, List.getElem_cons_succ, List.getElem_cons_zero, Act.put, List.setIfInBounds_toArray, List.set_cons_zero, List.set_cons_succ])
              refine wpAnyH_take (i := 1) (v := ?_) rfl (by kernel_rfl) (by kernel_rfl) (by kernel_rfl) (fun _ _ _ h => h) (Or.inl ⟨by kernel_rfl, ?_⟩) (by first | assumption | trivial) ?_
              rotate_left
              · (intro wS hSw; (try dsimp only at hSw); go_simp; try with_reducible rfl)
              (try simp only [List.getElem_toArray, List.getElem_cons_succ, List.getElem_cons_zero, Act.put, List.setIfInBounds_toArray, List.set_cons_zero, List.set_cons_succ])
              refine wpAnyH_ready (rs := [2]) (by kernel_rfl) (by simp) ?_
              refine AllReadyH.cons rfl (fun K hK => ?_) AllReadyH.nil
              go_simp
              skip
              go_wp2_with fail
              refine hK.out _ _ (by first | assumption | trivial) (fun hHeld => ?_)
              clear hK K
              (try simp only [List.getElem_toArray, List.getElem_cons_succ, List.getElem_cons_zero, Act.put, List.setIfInBounds_toArray, List.set_cons_zero, List.set_cons_succ])
              refine wpAnyH_take (i := 3) (v := ?_) rfl (by kernel_rfl) (by kernel_rfl) (by kernel_rfl) (fun _ _ _ h => h) (Or.inl ⟨by kernel_rfl, ?_⟩) (by first | assumption | trivial) ?_
              rotate_left
              · (intro wS hSw; (try dsimp only at hSw); go_simp; try with_reducible rfl)
              (try simp only [List.getElem_toArray, List.getElem_cons_succ, List.getElem_cons_zero, Act.put, List.setIfInBounds_toArray, List.set_cons_zero, List.set_cons_succ])
              refine wpAnyH_take (i := 4) (v := ?_) rfl (by kernel_rfl) (by kernel_rfl) (by kernel_rfl) (fun _ _ _ h => h) (Or.inl ⟨by kernel_rfl, ?_⟩) (by first | assumption | trivial) ?_
              rotate_left
              · (intro wS hSw; (try dsimp only at hSw); go_simp; try with_reducible rfl)
              (try simp only [List.getElem_toArray, List.getElem_cons_succ, List.getElem_cons_zero, Act.put, List.setIfInBounds_toArray, List.set_cons_zero, List.set_cons_succ])
              refine wpAnyH_take (i := 5) (v := ?_) rfl (by kernel_rfl) (by kernel_rfl) (by kernel_rfl) (fun _ _ _ h => h) (Or.inl ⟨by kernel_rfl, ?_⟩) (by first | assumption | trivial) ?_
              rotate_left
              · (intro wS hSw; (try dsimp only at hSw); go_simp; try with_reducible rfl)
              (try simp only [List.getElem_toArray, List.getElem_cons_succ, List.getElem_cons_zero, Act.put, List.setIfInBounds_toArray, List.set_cons_zero, List.set_cons_succ])
              refine wpAnyH_take (i := 6) (v := ?_) rfl (by kernel_rfl) (by kernel_rfl) (by kernel_rfl) (fun _ _ _ h => h) (Or.inl ⟨by kernel_rfl, ?_⟩) (by first | assumption | trivial) ?_
              rotate_left
              · (intro wS hSw; (try dsimp only at hSw); go_simp; try with_reducible rfl)
              (try simp only [List.getElem_toArray, List.getElem_cons_succ, List.getElem_cons_zero, Act.put, List.setIfInBounds_toArray, List.set_cons_zero, List.set_cons_succ])
              refine wpAnyH_take (i := 7) (v := ?_) rfl (by kernel_rfl) (by kernel_rfl) (by kernel_rfl) (fun _ _ _ h => h) (Or.inl ⟨by kernel_rfl, ?_⟩) (by first | assumption | trivial) ?_
              rotate_left
              · (intro wS hSw; (try dsimp only at hSw); go_simp; try with_reducible rfl)
              (try simp only [List.getElem_toArray, List.getElem_cons_succ, List.getElem_cons_zero, Act.put, List.setIfInBounds_toArray, List.set_cons_zero, List.set_cons_succ])
              refine wpAnyH_take (i := 8) (v := ?_) rfl (by kernel_rfl) (by kernel_rfl) (by kernel_rfl) (fun _ _ _ h => h) (Or.inl ⟨by kernel_rfl, ?_⟩) (by first | assumption | trivial) ?_
              rotate_left
              · (intro wS hSw; (try dsimp only at hSw); go_simp; try with_reducible rfl)
              (try simp only [List.getElem_toArray, List.getElem_cons_succ, List.getElem_cons_zero, Act.put, List.setIfInBounds_toArray, List.set_cons_zero, List.set_cons_succ])
              refine wpAnyH_take (i := 9) (v := ?_) rfl (by kernel_rfl) (by kernel_rfl) (by kernel_rfl) (fun _ _ _ h => h) (Or.inl ⟨by kernel_rfl, ?_⟩) (by first | assumption | trivial) ?_
              rotate_left
              · (intro wS hSw; (try dsimp only at hSw); go_simp; try with_reducible rfl)
              (try simp only [List.getElem_toArray, List.getElem_cons_succ, List.getElem_cons_zero, Act.put, List.setIfInBounds_toArray, List.set_cons_zero, List.set_cons_succ])
              refine wpAnyH_take (i := 10) (v := ?_) rfl (by kernel_rfl) (by kernel_rfl) (by kernel_rfl) (fun _ _ _ h => h) (Or.inl ⟨by kernel_rfl, ?_⟩) (by first | assumption | trivial) ?_
              rotate_left
              · (intro wS hSw; (try dsimp only at hSw); go_simp; try with_reducible rfl)
              (try simp only [List.getElem_toArray, List.getElem_cons_succ, List.getElem_cons_zero, Act.put, List.setIfInBounds_toArray, List.set_cons_zero, List.set_cons_succ])
              refine wpAnyH_take (i := 11) (v := ?_) rfl (by kernel_rfl) (by kernel_rfl) (by kernel_rfl) (fun _ _ _ h => h) (Or.inl ⟨by kernel_rfl, ?_⟩) (by first | assumption | trivial) ?_
              rotate_left
              · (intro wS hSw; (try dsimp only at hSw); go_simp; try with_reducible rfl)
              (try simp only [List.getElem_toArray, List.getElem_cons_succ, List.getElem_cons_zero, Act.put, List.setIfInBounds_toArray, List.set_cons_zero, List.set_cons_succ])
              refine wpAnyH_take (i := 12) (v := ?_) rfl (by kernel_rfl) (by kernel_rfl) (by kernel_rfl) (fun _ _ _ h => h) (Or.inl ⟨by kernel_rfl, ?_⟩) (by first | assumption | trivial) ?_
              rotate_left
              · (intro wS hSw; (try dsimp only at hSw); go_simp; try with_reducible rfl)
              (try simp only [List.getElem_toArray, List.getElem_cons_succ, List.getElem_cons_zero, Act.put, List.setIfInBounds_toArray, List.set_cons_zero, List.set_cons_succ])
              refine wpAnyH_take (i := 13) (v := ?_) rfl (by kernel_rfl) (by kernel_rfl) (by kernel_rfl) (fun _ _ _ h => h) (Or.inl ⟨by kernel_rfl, ?_⟩) (by first | assumption | trivial) ?_
              rotate_left
              · (intro wS hSw; (try dsimp only at hSw); go_simp; try with_reducible rfl)
              (try simp only [List.getElem_toArray, List.getElem_cons_succ, List.getElem_cons_zero, Act.put, List.setIfInBounds_toArray, List.set_cons_zero, List.set_cons_succ])
              refine wpAnyH_take (i := 14) (v := ?_) rfl (by kernel_rfl) (by kernel_rfl) (by kernel_rfl) (fun _ _ _ h => h) (Or.inl ⟨by kernel_rfl, ?_⟩) (by first | assumption | trivial) ?_
              rotate_left
              · (intro wS hSw; (try dsimp only at hSw); go_simp; try with_reducible rfl)
              (try simp only [List.getElem_toArray, List.getElem_cons_succ, List.getElem_cons_zero, Act.put, List.setIfInBounds_toArray, List.set_cons_zero, List.set_cons_succ])
              refine wpAnyH_take (i := 15) (v := ?_) rfl (by kernel_rfl) (by kernel_rfl) (by kernel_rfl) (fun _ _ _ h => h) (Or.inl ⟨by kernel_rfl, ?_⟩) (by first | assumption | trivial) ?_
              rotate_left
              · (intro wS hSw; (try dsimp only at hSw); go_simp; try with_reducible rfl)
              (try simp only [List.getElem_toArray, List.getElem_cons_succ, List.getElem_cons_zero, Act.put, List.setIfInBounds_toArray, List.set_cons_zero, List.set_cons_succ])
              refine wpAnyH_take (i := 16) (v := ?_) rfl (by kernel_rfl) (by kernel_rfl) (by kernel_rfl) (fun _ _ _ h => h) (Or.inl ⟨by kernel_rfl, ?_⟩) (by first | assumption | trivial) ?_
              rotate_left
              · (intro wS hSw; (try dsimp only at hSw); go_simp; try with_reducible rfl)
              (try simp only [List.getElem_toArray, List.getElem_cons_succ, List.getElem_cons_zero, Act.put, List.setIfInBounds_toArray, List.set_cons_zero, List.set_cons_succ])
              refine wpAnyH_take (i := 17) (v := ?_) rfl (by kernel_rfl) (by kernel_rfl) (by kernel_rfl) (fun _ _ _ h => h) (Or.inl ⟨by kernel_rfl, ?_⟩) (by first | assumption | trivial) ?_
              rotate_left
              · (intro wS hSw; (try dsimp only at hSw); go_simp; try with_reducible rfl)
              (try simp only [List.getElem_toArray, List.getElem_cons_succ, List.getElem_cons_zero, Act.put, List.setIfInBounds_toArray, List.set_cons_zero, List.set_cons_succ])
              refine wpAnyH_take (i := 18) (v := ?_) rfl (by kernel_rfl) (by kernel_rfl) (by kernel_rfl) (fun _ _ _ h => h) (Or.inl ⟨by kernel_rfl, ?_⟩) (by first | assumption | trivial) ?_
              rotate_left
              · (intro wS hSw; (try dsimp only at hSw); go_simp; try with_reducible rfl)
              (try simp only [List.getElem_toArray, List.getElem_cons_succ, List.getElem_cons_zero, Act.put, List.setIfInBounds_toArray, List.set_cons_zero, List.set_cons_succ])
              refine wpAnyH_take (i := 19) (v := ?_) rfl (by kernel_rfl) (by kernel_rfl) (by kernel_rfl) (fun _ _ _ h => h) (Or.inl ⟨by kernel_rfl, ?_⟩) (by first | assumption | trivial) ?_
              rotate_left
              · (intro wS hSw; (try dsimp only at hSw); go_simp; try with_reducible rfl)
              (try simp only [List.getElem_toArray, List.getElem_cons_succ, List.getElem_cons_zero, Act.put, List.setIfInBounds_toArray, List.set_cons_zero, List.set_cons_succ])
              refine wpAnyH_take (i := 20) (v := ?_) rfl (by kernel_rfl) (by kernel_rfl) (by kernel_rfl) (fun _ _ _ h => h) (Or.inl ⟨by kernel_rfl, ?_⟩) (by first | assumption | trivial) ?_
              rotate_left
              · (intro wS hSw; (try dsimp only at hSw); go_simp; try with_reducible rfl)
              (try simp only [List.getElem_toArray, List.getElem_cons_succ, List.getElem_cons_zero, Act.put, List.setIfInBounds_toArray, List.set_cons_zero, List.set_cons_succ])
              refine wpAnyH_ready (rs := [21]) (by kernel_rfl) (by simp) ?_
              refine AllReadyH.cons rfl (fun K hK => ?_) AllReadyH.nil
              go_simp
              (go_at_call 21; (with_reducible refine (C3.out _ g n c HN.out HI.out.drew.self).mono ?_); rw [R3.out]; rintro e w1 ⟨rfl, i1⟩; have I1 := hid (HI.out.drew.next i1); clear i1)
              go_wp2_with fail
              refine hK.out _ _ (by first | assumption | trivial) (fun hHeld => ?_)
              clear hK K
              (try simp only [List.getElem_toArray, List.getElem_cons_succ, List.getElem_cons_zero, Act.put, List.setIfInBounds_toArray, List.set_cons_zero, List.set_cons_succ])
              refine wpAnyH_take (i := 22) (v := ?_) rfl (by kernel_rfl) (by kernel_rfl) (by kernel_rfl) (fun _ _ _ h => h) (Or.inl ⟨by kernel_rfl, ?_⟩) (by first | assumption | trivial) ?_
              rotate_left
              · (intro wS hSw; (try dsimp only at hSw); go_simp; try with_reducible rfl)
              (try simp only [List.getElem_toArray, List.getElem_cons_succ, List.getElem_cons_zero, Act.put, List.setIfInBounds_toArray, List.set_cons_zero, List.set_cons_succ])
              refine wpAnyH_take (i := 23) (v := ?_) rfl (by kernel_rfl) (by kernel_rfl) (by kernel_rfl) (fun _ _ _ h => h) (Or.inl ⟨by kernel_rfl, ?_⟩) (by first | assumption | trivial) ?_
              rotate_left
              · (intro wS hSw; (try dsimp only at hSw); go_simp; try with_reducible rfl)
              (try simp only [List.getElem_toArray, List.getElem_cons_succ, List.getElem_cons_zero, Act.put, List.setIfInBounds_toArray, List.set_cons_zero, List.set_cons_succ])
              refine wpAnyH_done (by kernel_rfl) ?_ _
              refine NoPanic.normal ?_
              clear hwi hwk
              go_wp2_with fail
              go_meet
              exact ⟨by rw [HR.out], hid I1.out⟩
            | false =>
              have HR : Hid (mt (b.drop k) (a.drop i) = false) := hid (by rw [had, hbd, mt_lit _ hw, he]; rfl)
              have e1 : ((((str a)[i]'hia).toNat : Int) == (((str b)[k]'hkm).toNat : Int)) = false := by
                rw [hx, hc0, beq_eq_false_iff_ne]
                intro h
                exact (beq_eq_false_iff_ne.1 he) (UInt8.toNat_inj.1 (by omega))
              clear he had hbd hw hx hc0 hd1
              go_upto_region 9 with fail
              refine wp_region_noPanic ?_
              refine wp_region_held_drew (S := (fun W => True)) (by kernel_rfl) (by first | assumption | trivial) (fun hHeld => ?_)
              refine wpAnyH_take (i := 0) (v := ?_) rfl (by kernel_rfl) (by kernel_rfl) (by kernel_rfl) (fun _ _ _ h => h) (Or.inl ⟨by kernel_rfl, ?_⟩) (by first | assumption | trivial) ?_
              rotate_left
              · (intro wS hSw; (try dsimp only at hSw); go_simp; try with_reducible rfl)
              (try simp only [List.getElem_toArray, List.getElem_cons_succ, List.getElem_cons_zero, Act.put, List.setIfInBounds_toArray, List.set_cons_zero, List.set_cons_succ])
              refine wpAnyH_take (i := 1) (v := ?_) rfl (by kernel_rfl) (by kernel_rfl) (by kernel_rfl) (fun _ _ _ h => h) (Or.inl ⟨by kernel_rfl, ?_⟩) (by first | assumption | trivial) ?_
              rotate_left
              · (intro wS hSw; (try dsimp only at hSw); go_simp; try with_reducible rfl)
              (try simp only [List.getElem_toArray, List.getElem_cons_succ, List.getElem_cons_zero, Act.put, List.setIfInBounds_toArray, List.set_cons_zero, List.set_cons_succ])
              refine wpAnyH_ready (rs := [2]) (by kernel_rfl) (by simp) ?_
              refine AllReadyH.cons rfl (fun K hK => ?_) AllReadyH.nil
              go_simp
              skip
              go_wp2_with fail
              refine hK.out _ _ (by first | assumption | trivial) (fun hHeld => ?_)
              clear hK K
              (try simp only [List.getElem_toArray, List.getElem_cons_succ, List.getElem_cons_zero, Act.put, List.setIfInBounds_toArray, List.set_cons_zero, List.set_cons_succ])
              refine wpAnyH_take (i := 3) (v := ?_) rfl (by kernel_rfl) (by kernel_rfl) (by kernel_rfl) (fun _ _ _ h => h) (Or.inl ⟨by kernel_rfl, ?_⟩) (by first | assumption | trivial) ?_
              rotate_left
              · (intro wS hSw; (try dsimp only at hSw); go_simp; try with_reducible rfl)
              (try simp only [List.getElem_toArray, List.getElem_cons_succ, List.getElem_cons_zero, Act.put, List.setIfInBounds_toArray, List.set_cons_zero, List.set_cons_succ])
              refine wpAnyH_take (i := 4) (v := ?_) rfl (by kernel_rfl) (by kernel_rfl) (by kernel_rfl) (fun _ _ _ h => h) (Or.inl ⟨by kernel_rfl, ?_⟩) (by first | assumption | trivial) ?_
              rotate_left
              · (intro wS hSw; (try dsimp only at hSw); go_simp; try with_reducible rfl)
              (try simp only [List.getElem_toArray, List.getElem_cons_succ, List.getElem_cons_zero, Act.put, List.setIfInBounds_toArray, List.set_cons_zero, List.set_cons_succ])
              refine wpAnyH_take (i := 5) (v := ?_) rfl (by kernel_rfl) (by kernel_rfl) (by kernel_rfl) (fun _ _ _ h => h) (Or.inl ⟨by kernel_rfl, ?_⟩) (by first | assumption | trivial) ?_
              rotate_left
              · (intro wS hSw; (try dsimp only at hSw); go_simp; try with_reducible rfl)
              (try simp only [List.getElem_toArray, List.getElem_cons_succ, List.getElem_cons_zero, Act.put, List.setIfInBounds_toArray, List.set_cons_zero, List.set_cons_succ])
              refine wpAnyH_take (i := 6) (v := ?_) rfl (by kernel_rfl) (by kernel_rfl) (by kernel_rfl) (fun _ _ _ h => h) (Or.inl ⟨by kernel_rfl, ?_⟩) (by first | assumption | trivial) ?_
              rotate_left
              · (intro wS hSw; (try dsimp only at hSw); go_simp; try with_reducible rfl)
              (try simp only [List.getElem_toArray, List.getElem_cons_succ, List.getElem_cons_zero, Act.put, List.setIfInBounds_toArray, List.set_cons_zero, List.set_cons_succ])
              refine wpAnyH_take (i := 7) (v := ?_) rfl (by kernel_rfl) (by kernel_rfl) (by kernel_rfl) (fun _ _ _ h => h) (Or.inl ⟨by kernel_rfl, ?_⟩) (by first | assumption | trivial) ?_
              rotate_left
              · (intro wS hSw; (try dsimp only at hSw); go_simp; try with_reducible rfl)
              (try simp only [List.getElem_toArray, List.getElem_cons_succ, List.getElem_cons_zero, Act.put, List.setIfInBounds_toArray, List.set_cons_zero, List.set_cons_succ])
              refine wpAnyH_take (i := 8) (v := ?_) rfl (by kernel_rfl) (by kernel_rfl) (by kernel_rfl) (fun _ _ _ h => h) (Or.inl ⟨by kernel_rfl, ?_⟩) (by first | assumption | trivial) ?_
              rotate_left
              · (intro wS hSw; (try dsimp only at hSw); go_simp; try with_reducible rfl)
              (try simp only [List.getElem_toArray, List.getElem_cons_succ, List.getElem_cons_zero, Act.put, List.setIfInBounds_toArray, List.set_cons_zero, List.set_cons_succ])
              refine wpAnyH_take (i := 9) (v := ?_) rfl (by kernel_rfl) (by kernel_rfl) (by kernel_rfl) (fun _ _ _ h => h) (Or.inl ⟨by kernel_rfl, ?_⟩) (by first | assumption | trivial) ?_
              rotate_left
              · (intro wS hSw; (try dsimp only at hSw); go_simp; try with_reducible rfl)
              (try simp only [List.getElem_toArray, List.getElem_cons_succ, List.getElem_cons_zero, Act.put, List.setIfInBounds_toArray, List.set_cons_zero, List.set_cons_succ])
              refine wpAnyH_take (i := 10) (v := ?_) rfl (by kernel_rfl) (by kernel_rfl) (by kernel_rfl) (fun _ _ _ h => h) (Or.inl ⟨by kernel_rfl, ?_⟩) (by first | assumption | trivial) ?_
              rotate_left
              · (intro wS hSw; (try dsimp only at hSw); go_simp; try with_reducible rfl)
              (try simp only [List.getElem_toArray, List.getElem_cons_succ, List.getElem_cons_zero, Act.put, List.setIfInBounds_toArray, List.set_cons_zero, List.set_cons_succ])
              refine wpAnyH_take (i := 11) (v := ?_) rfl (by kernel_rfl) (by kernel_rfl) (by kernel_rfl) (fun _ _ _ h => h) (Or.inl ⟨by kernel_rfl, ?_⟩) (by first | assumption | trivial) ?_
              rotate_left
              · (intro wS hSw; (try dsimp only at hSw); go_simp; try with_reducible rfl)
              (try simp only [List.getElem_toArray, List.getElem_cons_succ, List.getElem_cons_zero, Act.put, List.setIfInBounds_toArray, List.set_cons_zero, List.set_cons_succ])
              refine wpAnyH_take (i := 12) (v := ?_) rfl (by kernel_rfl) (by kernel_rfl) (by kernel_rfl) (fun _ _ _ h => h) (Or.inl ⟨by kernel_rfl, ?_⟩) (by first | assumption | trivial) ?_
              rotate_left
              · (intro wS hSw; (try dsimp only at hSw); go_simp; try with_reducible rfl)
              (try simp only [List.getElem_toArray, List.getElem_cons_succ, List.getElem_cons_zero, Act.put, List.setIfInBounds_toArray, List.set_cons_zero, List.set_cons_succ])
              refine wpAnyH_take (i := 13) (v := ?_) rfl (by kernel_rfl) (by kernel_rfl) (by kernel_rfl) (fun _ _ _ h => h) (Or.inl ⟨by kernel_rfl, ?_⟩) (by first | assumption | trivial) ?_
              rotate_left
              · (intro wS hSw; (try dsimp only at hSw); go_simp; try with_reducible rfl)
              (try simp only [List.getElem_toArray, List.getElem_cons_succ, List.getElem_cons_zero, Act.put, List.setIfInBounds_toArray, List.set_cons_zero, List.set_cons_succ])
              refine wpAnyH_take (i := 14) (v := undef) rfl (by kernel_rfl) (by kernel_rfl) (by kernel_rfl) (fun _ _ _ h => h) (Or.inr ⟨by kernel_rfl, rfl⟩) (by first | assumption | trivial) ?_
              (try simp only [List.getElem_toArray, List.getElem_cons_succ, List.getElem_cons_zero, Act.put, List.setIfInBounds_toArray, List.set_cons_zero, List.set_cons_succ])
              refine wpAnyH_take (i := 15) (v := undef) rfl (by kernel_rfl) (by kernel_rfl) (by kernel_rfl) (fun _ _ _ h => h) (Or.inr ⟨by kernel_rfl, rfl⟩) (by first | assumption | trivial) ?_
              (try simp only [List.getElem_toArray, List.getElem_cons_succ, List.getElem_cons_zero, Act.put, List.setIfInBounds_toArray, List.set_cons_zero, List.set_cons_succ])
              refine wpAnyH_take (i := 16) (v := undef) rfl (by kernel_rfl) (by kernel_rfl) (by kernel_rfl) (fun _ _ _ h => h) (Or.inr ⟨by kernel_rfl, rfl⟩) (by first | assumption | trivial) ?_
              (try simp only [List.getElem_toArray, List.getElem_cons_succ, List.getElem_cons_zero, Act.put, List.setIfInBounds_toArray, List.set_cons_zero, List.set_cons_succ])
              refine wpAnyH_take (i := 17) (v := undef) rfl (by kernel_rfl) (by kernel_rfl) (by kernel_rfl) (fun _ _ _ h => h) (Or.inr ⟨by kernel_rfl, rfl⟩) (by first | assumption | trivial) ?_
              (try simp only [List.getElem_toArray, List.getElem_cons_succ, List.getElem_cons_zero, Act.put, List.setIfInBounds_toArray, List.set_cons_zero, List.set_cons_succ])
              refine wpAnyH_take (i := 18) (v := undef) rfl (by kernel_rfl) (by kernel_rfl) (by kernel_rfl) (fun _ _ _ h => h) (Or.inr ⟨by kernel_rfl, rfl⟩) (by first | assumption | trivial) ?_
              (try simp only [List.getElem_toArray, List.getElem_cons_succ, List.getElem_cons_zero, Act.put, List.setIfInBounds_toArray, List.set_cons_zero, List.set_cons_succ])
              refine wpAnyH_take (i := 19) (v := undef) rfl (by kernel_rfl) (by kernel_rfl) (by kernel_rfl) (fun _ _ _ h => h) (Or.inr ⟨by kernel_rfl, rfl⟩) (by first | assumption | trivial) ?_
              (try simp only [List.getElem_toArray, List.getElem_cons_succ, List.getElem_cons_zero, Act.put, List.setIfInBounds_toArray, List.set_cons_zero, List.set_cons_succ])
              refine wpAnyH_take (i := 20) (v := undef) rfl (by kernel_rfl) (by kernel_rfl) (by kernel_rfl) (fun _ _ _ h => h) (Or.inr ⟨by kernel_rfl, rfl⟩) (by first | assumption | trivial) ?_
              (try simp only [List.getElem_toArray, List.getElem_cons_succ, List.getElem_cons_zero, Act.put, List.setIfInBounds_toArray, List.set_cons_zero, List.set_cons_succ])
              refine wpAnyH_ready (rs := [21]) (by kernel_rfl) (by simp) ?_
              refine AllReadyH.cons rfl (fun K hK => ?_) AllReadyH.nil
              go_simp
              skip
              go_wp2_with fail
              refine hK.out _ _ (by first | assumption | trivial) (fun hHeld => ?_)
              clear hK K
              (try simp only [List.getElem_toArray, List.getElem_cons_succ, List.getElem_cons_zero, Act.put, List.setIfInBounds_toArray, List.set_cons_zero, List.set_cons_succ])
              refine wpAnyH_take (i := 22) (v := ?_) rfl (by kernel_rfl) (by kernel_rfl) (by kernel_rfl) (fun _ _ _ h => h) (Or.inl ⟨by kernel_rfl, ?_⟩) (by first | assumption | trivial) ?_
              rotate_left
              · (intro wS hSw; (try dsimp only at hSw); go_simp; try with_reducible rfl)
              (try simp only [List.getElem_toArray, List.getElem_cons_succ, List.getElem_cons_zero, Act.put, List.setIfInBounds_toArray, List.set_cons_zero, List.set_cons_succ])
              refine wpAnyH_take (i := 23) (v := ?_) rfl (by kernel_rfl) (by kernel_rfl) (by kernel_rfl) (fun _ _ _ h => h) (Or.inl ⟨by kernel_rfl, ?_⟩) (by first | assumption | trivial) ?_
              rotate_left
              · (intro wS hSw; (try dsimp only at hSw); go_simp; try with_reducible rfl)
              (try simp only [List.getElem_toArray, List.getElem_cons_succ, List.getElem_cons_zero, Act.put, List.setIfInBounds_toArray, List.set_cons_zero, List.set_cons_succ])
              refine wpAnyH_done (by kernel_rfl) ?_ _
              refine NoPanic.normal ?_
              go_wp2_with fail
              go_meet
              exact ⟨by rw [HR.out], hid HI.out.drew⟩
          · have hd2 : decide (i < (str a).size) = false := by simpa using hia
            have HR : Hid (mt (b.drop k) (a.drop i) = false) := hid (by
              have had : a.drop i = [] := List.drop_of_length_le (by rw [← HLA.out]; omega)
              rw [had, hbd, mt_lit_nil _ hw])
            clear hbd hw hc0 hd1
            go_upto_region 9 with fail
            refine wp_region_noPanic ?_
            refine wp_region_held_drew (S := (fun W => True)) (by kernel_rfl) (by first | assumption | trivial) (fun hHeld => ?_)
            refine wpAnyH_take (i := 0) (v := ?_) rfl (by kernel_rfl) (by kernel_rfl) (by kernel_rfl) (fun _ _ _ h => h) (Or.inl ⟨by kernel_rfl, ?_⟩) (by first | assumption | trivial) ?_
            rotate_left
            · (intro wS hSw; (try dsimp only at hSw); go_simp; try with_reducible rfl)
            (try simp only [List.getElem_toArray, List.getElem_cons_succ, List.getElem_cons_zero, Act.put, List.setIfInBounds_toArray, List.set_cons_zero, List.set_cons_succ])
            refine wpAnyH_take (i := 1) (v := ?_) rfl (by kernel_rfl) (by kernel_rfl) (by kernel_rfl) (fun _ _ _ h => h) (Or.inl ⟨by kernel_rfl, ?_⟩) (by first | assumption | trivial) ?_
            rotate_left
            · (intro wS hSw; (try dsimp only at hSw); go_simp; try with_reducible rfl)
            (try simp only [List.getElem_toArray, List.getElem_cons_succ, List.getElem_cons_zero, Act.put, List.setIfInBounds_toArray, List.set_cons_zero, List.set_cons_succ])
            refine wpAnyH_ready (rs := [2]) (by kernel_rfl) (by simp) ?_
            refine AllReadyH.cons rfl (fun K hK => ?_) AllReadyH.nil
            go_simp
            skip
            go_wp2_with fail
            refine hK.out _ _ (by first | assumption | trivial) (fun hHeld => ?_)
            clear hK K
            (try simp only [List.getElem_toArray, List.getElem_cons_succ, List.getElem_cons_zero, Act.put, List.setIfInBounds_toArray, List.set_cons_zero, List.set_cons_succ])
            refine wpAnyH_take (i := 3) (v := ?_) rfl (by kernel_rfl) (by kernel_rfl) (by kernel_rfl) (fun _ _ _ h => h) (Or.inl ⟨by kernel_rfl, ?_⟩) (by first | assumption | trivial) ?_
            rotate_left
            · (intro wS hSw; (try dsimp only at hSw); go_simp; try with_reducible rfl)
            (try simp only [List.getElem_toArray, List.getElem_cons_succ, List.getElem_cons_zero, Act.put, List.setIfInBounds_toArray, List.set_cons_zero, List.set_cons_succ])
            refine wpAnyH_take (i := 4) (v := ?_) rfl (by kernel_rfl) (by kernel_rfl) (by kernel_rfl) (fun _ _ _ h => h) (Or.inl ⟨by kernel_rfl, ?_⟩) (by first | assumption | trivial) ?_
            rotate_left
            · (intro wS hSw; (try dsimp only at hSw); go_simp; try with_reducible rfl)
            (try simp only [List.getElem_toArray, List.getElem_cons_succ, List.getElem_cons_zero, Act.put, List.setIfInBounds_toArray, List.set_cons_zero, List.set_cons_succ])
            refine wpAnyH_take (i := 5) (v := undef) rfl (by kernel_rfl) (by kernel_rfl) (by kernel_rfl) (fun _ _ _ h => h) (Or.inr ⟨by kernel_rfl, rfl⟩) (by first | assumption | trivial) ?_
            (try simp only [List.getElem_toArray, List.getElem_cons_succ, List.getElem_cons_zero, Act.put, List.setIfInBounds_toArray, List.set_cons_zero, List.set_cons_succ])
            refine wpAnyH_take (i := 6) (v := undef) rfl (by kernel_rfl) (by kernel_rfl) (by kernel_rfl) (fun _ _ _ h => h) (Or.inr ⟨by kernel_rfl, rfl⟩) (by first | assumption | trivial) ?_
            (try simp only [List.getElem_toArray, List.getElem_cons_succ, List.getElem_cons_zero, Act.put, List.setIfInBounds_toArray, List.set_cons_zero, List.set_cons_succ])
            refine wpAnyH_take (i := 7) (v := undef) rfl (by kernel_rfl) (by kernel_rfl) (by kernel_rfl) (fun _ _ _ h => h) (Or.inr ⟨by kernel_rfl, rfl⟩) (by first | assumption | trivial) ?_
            (try simp only [List.getElem_toArray, List.getElem_cons_succ, List.getElem_cons_zero, Act.put, List.setIfInBounds_toArray, List.set_cons_zero, List.set_cons_succ])
            refine wpAnyH_take (i := 8) (v := undef) rfl (by kernel_rfl) (by kernel_rfl) (by kernel_rfl) (fun _ _ _ h => h) (Or.inr ⟨by kernel_rfl, rfl⟩) (by first | assumption | trivial) ?_
            (try simp only [List.getElem_toArray, List.getElem_cons_succ, List.getElem_cons_zero, Act.put, List.setIfInBounds_toArray, List.set_cons_zero, List.set_cons_succ])
            refine wpAnyH_take (i := 9) (v := undef) rfl (by kernel_rfl) (by kernel_rfl) (by kernel_rfl) (fun _ _ _ h => h) (Or.inr ⟨by kernel_rfl, rfl⟩) (by first | assumption | trivial) ?_
            (try simp only [List.getElem_toArray, List.getElem_cons_succ, List.getElem_cons_zero, Act.put, List.setIfInBounds_toArray, List.set_cons_zero, List.set_cons_succ])
            refine wpAnyH_take (i := 10) (v := undef) rfl (by kernel_rfl) (by kernel_rfl) (by kernel_rfl) (fun _ _ _ h => h) (Or.inr ⟨by kernel_rfl, rfl⟩) (by first | assumption | trivial) ?_
            (try simp only [List.getElem_toArray, List.getElem_cons_succ, List.getElem_cons_zero, Act.put, List.setIfInBounds_toArray, List.set_cons_zero, List.set_cons_succ])
            refine wpAnyH_take (i := 11) (v := undef) rfl (by kernel_rfl) (by kernel_rfl) (by kernel_rfl) (fun _ _ _ h => h) (Or.inr ⟨by kernel_rfl, rfl⟩) (by first | assumption | trivial) ?_
            (try simp only [List.getElem_toArray, List.getElem_cons_succ, List.getElem_cons_zero, Act.put, List.setIfInBounds_toArray, List.set_cons_zero, List.set_cons_succ])
            refine wpAnyH_take (i := 12) (v := ?_) rfl (by kernel_rfl) (by kernel_rfl) (by kernel_rfl) (fun _ _ _ h => h) (Or.inl ⟨by kernel_rfl, ?_⟩) (by first | assumption | trivial) ?_
            rotate_left
            · (intro wS hSw; (try dsimp only at hSw); go_simp; try with_reducible rfl)
            (try simp only [List.getElem_toArray, List.getElem_cons_succ, List.getElem_cons_zero, Act.put, List.setIfInBounds_toArray, List.set_cons_zero, List.set_cons_succ])
            refine wpAnyH_take (i := 13) (v := ?_) rfl (by kernel_rfl) (by kernel_rfl) (by kernel_rfl) (fun _ _ _ h => h) (Or.inl ⟨by kernel_rfl, ?_⟩) (by first | assumption | trivial) ?_
            rotate_left
            · (intro wS hSw; (try dsimp only at hSw); go_simp; try with_reducible rfl)
            (try simp only [List.getElem_toArray, List.getElem_cons_succ, List.getElem_cons_zero, Act.put, List.setIfInBounds_toArray, List.set_cons_zero, List.set_cons_succ])
            refine wpAnyH_take (i := 14) (v := undef) rfl (by kernel_rfl) (by kernel_rfl) (by kernel_rfl) (fun _ _ _ h => h) (Or.inr ⟨by kernel_rfl, rfl⟩) (by first | assumption | trivial) ?_
            (try simp only [List.getElem_toArray, List.getElem_cons_succ, List.getElem_cons_zero, Act.put, List.setIfInBounds_toArray, List.set_cons_zero, List.set_cons_succ])
            refine wpAnyH_take (i := 15) (v := undef) rfl (by kernel_rfl) (by kernel_rfl) (by kernel_rfl) (fun _ _ _ h => h) (Or.inr ⟨by kernel_rfl, rfl⟩) (by first | assumption | trivial) ?_
            (try simp only [List.getElem_toArray, List.getElem_cons_succ, List.getElem_cons_zero, Act.put, List.setIfInBounds_toArray, List.set_cons_zero, List.set_cons_succ])
            refine wpAnyH_take (i := 16) (v := undef) rfl (by kernel_rfl) (by kernel_rfl) (by kernel_rfl) (fun _ _ _ h => h) (Or.inr ⟨by kernel_rfl, rfl⟩) (by first | assumption | trivial) ?_
            (try simp only [List.getElem_toArray, List.getElem_cons_succ, List.getElem_cons_zero, Act.put, List.setIfInBounds_toArray, List.set_cons_zero, List.set_cons_succ])
            refine wpAnyH_take (i := 17) (v := undef) rfl (by kernel_rfl) (by kernel_rfl) (by kernel_rfl) (fun _ _ _ h => h) (Or.inr ⟨by kernel_rfl, rfl⟩) (by first | assumption | trivial) ?_
            (try simp only [List.getElem_toArray, List.getElem_cons_succ, List.getElem_cons_zero, Act.put, List.setIfInBounds_toArray, List.set_cons_zero, List.set_cons_succ])
            refine wpAnyH_take (i := 18) (v := undef) rfl (by kernel_rfl) (by kernel_rfl) (by kernel_rfl) (fun _ _ _ h => h) (Or.inr ⟨by kernel_rfl, rfl⟩) (by first | assumption | trivial) ?_
            (try simp only [List.getElem_toArray, List.getElem_cons_succ, List.getElem_cons_zero, Act.put, List.setIfInBounds_toArray, List.set_cons_zero, List.set_cons_succ])
            refine wpAnyH_take (i := 19) (v := undef) rfl (by kernel_rfl) (by kernel_rfl) (by kernel_rfl) (fun _ _ _ h => h) (Or.inr ⟨by kernel_rfl, rfl⟩) (by first | assumption | trivial) ?_
            (try simp only [List.getElem_toArray, List.getElem_cons_succ, List.getElem_cons_zero, Act.put, List.setIfInBounds_toArray, List.set_cons_zero, List.set_cons_succ])
            refine wpAnyH_take (i := 20) (v := undef) rfl (by kernel_rfl) (by kernel_rfl) (by kernel_rfl) (fun _ _ _ h => h) (Or.inr ⟨by kernel_rfl, rfl⟩) (by first | assumption | trivial) ?_
            (try simp only [List.getElem_toArray, List.getElem_cons_succ, List.getElem_cons_zero, Act.put, List.setIfInBounds_toArray, List.set_cons_zero, List.set_cons_succ])
            refine wpAnyH_ready (rs := [21]) (by kernel_rfl) (by simp) ?_
            refine AllReadyH.cons rfl (fun K hK => ?_) AllReadyH.nil
            go_simp
            skip
            go_wp2_with fail
            refine hK.out _ _ (by first | assumption | trivial) (fun hHeld => ?_)
            clear hK K
            (try simp only [List.getElem_toArray, List.getElem_cons_succ, List.getElem_cons_zero, Act.put, List.setIfInBounds_toArray, List.set_cons_zero, List.set_cons_succ])
            refine wpAnyH_take (i := 22) (v := ?_) rfl (by kernel_rfl) (by kernel_rfl) (by kernel_rfl) (fun _ _ _ h => h) (Or.inl ⟨by kernel_rfl, ?_⟩) (by first | assumption | trivial) ?_
            rotate_left
            · (intro wS hSw; (try dsimp only at hSw); go_simp; try with_reducible rfl)
            (try simp only [List.getElem_toArray, List.getElem_cons_succ, List.getElem_cons_zero, Act.put, List.setIfInBounds_toArray, List.set_cons_zero, List.set_cons_succ])
            refine wpAnyH_take (i := 23) (v := ?_) rfl (by kernel_rfl) (by kernel_rfl) (by kernel_rfl) (fun _ _ _ h => h) (Or.inl ⟨by kernel_rfl, ?_⟩) (by first | assumption | trivial) ?_
            rotate_left
            · (intro wS hSw; (try dsimp only at hSw); go_simp; try with_reducible rfl)
            (try simp only [List.getElem_toArray, List.getElem_cons_succ, List.getElem_cons_zero, Act.put, List.setIfInBounds_toArray, List.set_cons_zero, List.set_cons_succ])
            refine wpAnyH_done (by kernel_rfl) ?_ _
            refine NoPanic.normal ?_
            go_wp2_with fail
            go_meet
            exact ⟨by rw [HR.out], hid HI.out.drew⟩
      · have hkl : k = b.length := by have := HLB.out; omega
        have hd1 : ((k : Int) == ((str b).size : Int)) = true := by rw [beq_iff_eq]; have := HLB.out; omega
        have hd3 : (k == (str b).size) = true := by rw [beq_iff_eq]; have := HLB.out; omega
        obtain ⟨r, hr⟩ : ∃ r, ((i : Int) == ((str a).size : Int)) = r := ⟨_, rfl⟩
        have HR : Hid (mt (b.drop k) (a.drop i) = r) := hid (by
          rw [List.drop_of_length_le (by omega), mt_nil, ← hr, HLA.out, Bool.eq_iff_iff, List.isEmpty_iff, List.drop_eq_nil_iff, beq_iff_eq]
          omega)
        clear hkl
        go_wp2_with fail
        go_meet
        exact ⟨by rw [HR.out], hid HI.out⟩
    case rest =>
    obtain ⟨rfl, hJ⟩ := hcut
    obtain ⟨r, hr⟩ : ∃ r, mt (b.drop k) (a.drop i) = r := ⟨_, rfl⟩
    rw [hr]
    obtain ⟨K2, hO2, hK2, hB2⟩ := hJ.out
    have HR := hid hr
    have hgq : ∃ v, K2[q + k]? = some v := by
      obtain ⟨v, hv, _⟩ := hK2.2 i k hi hk
      exact ⟨v, by rw [← HQ.out, HLB.out]; exact hv⟩
    obtain ⟨v2, hv2⟩ := hgq
    have hcell2 : wc.cell? ⟨g, q + k, none⟩ = some (.int .u8 v2.toNat) := hO2.cell (by rw [List.getElem?_map, hv2]; rfl)
    have hfr2 := hO2.frozen (q + k)
    have HS2 := hid (hO2.set (q + k) (.int .u8 2))
    have HS1 := hid ((hO2.set (q + k) (.int .u8 2)).set (q + k) (.int .u8 1))
    have HK2 := hid hK2
    have HB2 := hid hB2
    clear hr hcell hO2 hK2 hB2 hv2
    cases r with
    | true =>
      go_wp2_with fail
      go_ret
      refine ⟨by rw [HR.out]; rfl, K2.set (q + k) 1, ?_, ?_, (HB2.out.setCell (p := ⟨g, q + k, none⟩) (Nat.le_refl _) _).setCell (p := ⟨g, q + k, none⟩) (Nat.le_refl _) _⟩
      · rw [List.map_set]
        have h := HS1.out
        rw [List.set_set] at h
        exact h
      · have h := HK2.out.set hi hk HR.out
        rw [← HLB.out, HQ.out] at h
        exact h
    | false =>
      go_wp2_with fail
      go_ret
      refine ⟨by rw [HR.out]; rfl, K2.set (q + k) 2, ?_, ?_, HB2.out.setCell (p := ⟨g, q + k, none⟩) (Nat.le_refl _) _⟩
      · rw [List.map_set]
        exact HS2.out
      · have h := HK2.out.set hi hk HR.out
        rw [← HLB.out, HQ.out] at h
        exact h
  · have hr : ∃ r : Bool, Hid (mt (b.drop k) (a.drop i) = r) ∧ ((v.toNat : Int) == 1) = r ∧ 0 < v.toNat := by
      rcases hv2 with h | ⟨rfl, h⟩ | ⟨rfl, h⟩
      · exact absurd h hv0
      · exact ⟨true, hid h, rfl, by decide⟩
      · exact ⟨false, hid h, rfl, by decide⟩
    obtain ⟨r, hr, hv1, hvp⟩ := hr
    have hd : decide (0 < v.toNat) = true := by simpa using hvp
    clear hv2 hv0
    go_enter Try.func21, Try.ntmps21
    go_wp2
    go_ret
    exact ⟨by rw [hr.out]; rfl, HI.out⟩
theorem meets_any (a b : List UInt8) (ha : a.length ≤ 100) (hb : b.length ≤ 100) : ∀ (d i k : Nat), (a.length - i) + (b.length - k) = d → i ≤ a.length → k ≤ b.length → MeetsC a b i k := by
  intro d
  induction d using Nat.strongRecOn with
  | _ d ih =>
    intro i k hd hi hk
    exact meets_step a b ha hb i k hi hk (fun i' k' hi' hk' hlt => ih _ (by omega) i' k' rfl hi' hk')
end Go.Proofs.Ythgopanipmnphaa
