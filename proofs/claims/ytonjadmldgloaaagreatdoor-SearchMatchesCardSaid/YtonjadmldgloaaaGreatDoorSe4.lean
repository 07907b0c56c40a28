/-
  Flags, as the document has them. A part of the proof: see the head of the text that ends in 'Law'.
-/
import Derived.Test.YtonjadmldgloaaaGreatDoorSe3
namespace Go.Proofs.YtonjadmldgloaaaGreatDoor
open Go.RowKit Go.Shelf
set_option linter.unusedVariables false

theorem told_none {s : List UInt8} (h : fivG s 0 5 = none) : toldF s = if (smallL s).all signB = true ∧ s.length ≤ 20 then smallL s else [] := by
  unfold toldF
  rw [five_find, h]
theorem told_some {s f : List UInt8} (h : fivG s 0 5 = some f) : toldF s = f := by
  unfold toldF
  rw [five_find, h]
theorem small_take (s : List UInt8) (k : Nat) (hk : k < s.length) : smallL (s.take (k + 1)) = smallL (s.take k) ++ [D16.smallU s[k]] := by
  rw [List.take_succ_eq_append_getElem hk]
  unfold smallL
  rw [List.map_append]
  rfl
theorem small_bad {s : List UInt8} {k : Nat} (hk : k < s.length) (h : signB (D16.smallU s[k]) = false) : (smallL s).all signB = false := by
  rw [List.all_eq_false]
  exact ⟨_, List.mem_map_of_mem (List.getElem_mem hk), by rw [h]; decide⟩
def fivA : Array Value := #[.string ⟨#[92, 65, 110, 115, 119, 101, 114, 101, 100]⟩, .string ⟨#[92, 68, 101, 108, 101, 116, 101, 100]⟩, .string ⟨#[92, 68, 114, 97, 102, 116]⟩, .string ⟨#[92, 70, 108, 97, 103, 103, 101, 100]⟩, .string ⟨#[92, 83, 101, 101, 110]⟩]
theorem fivA_at {i : Nat} (h : i < 5) : fivA.toList[i]? = some (.string (str (fivN i))) := by
  obtain rfl | rfl | rfl | rfl | rfl : i = 0 ∨ i = 1 ∨ i = 2 ∨ i = 3 ∨ i = 4 := by omega
  all_goals rfl
set_option maxRecDepth 100000 in
set_option maxHeartbeats 8000000 in
theorem rtold_any (s : List UInt8) (w : World) (hl : s.length ≤ 1000) :
    Calls Tryz.prog 46 #[.string (str s)] w fun e w' => e = .returned (.string (str (toldF s))) ∧ Below w.heap.size w w' := by
  have hsz : (str s).size ≤ 1000 := hl
  have HL : Hid ((str s).size = s.length) := hid rfl
  obtain ⟨w5, hw5⟩ : ∃ w5, w.alloc (.cells #[.string ⟨#[92, 65, 110, 115, 119, 101, 114, 101, 100]⟩, .string ⟨#[92, 68, 101, 108, 101, 116, 101, 100]⟩, .string ⟨#[92, 68, 114, 97, 102, 116]⟩, .string ⟨#[92, 70, 108, 97, 103, 103, 101, 100]⟩, .string ⟨#[92, 83, 101, 101, 110]⟩] 9) = w5 := ⟨_, rfl⟩
  have B5 : Hid (Below w.heap.size w w5) := hid (by rw [← hw5]; exact (Below.refl _ _).alloc (Nat.le_refl _) _)
  have H5 : OwnE w5 w.heap.size 9 fivA.toList := by rw [← hw5]; exact heap_alloc_new w _
  have HC := hid (fun (X : World) (b : Below w5.heap.size w5 X) (i : Nat) (hi : i < 5) => cells_keep b (H5.cell (fivA_at hi)))
  have HAL := hid (fun (i : Nat) (X : World) => D17.alike_any s (fivN i) X (by omega))
  clear H5
  go_enter Tryz.func46, Tryz.ntmps46
  go_wp2_with fail
  go_loopw [4] (fun i wr => ∃ k : Nat, k ≤ 5 ∧ i = .int .i64 (k : Int) ∧ Hid (fivG s 0 5 = fivG s k (5 - k)) ∧ Hid (Below w5.heap.size w5 wr)) (fun i wr => 5 - (intOf i).toNat)
  case atStart => exact ⟨0, by omega, rfl, hid rfl, hid (Below.refl _ _)⟩
  case round =>
    obtain ⟨k, hk, rfl, hM, hB⟩ := hrel
    by_cases hlt : k < 5
    · have d1 : decide ((k : Int) < 5) = true := by simp; omega
      have d1' : decide (k < 5) = true := by simpa using hlt
      have i0 : (0 : Int) ≤ (k : Int) := by omega
      have i1 : (k : Int) < 5 := by omega
      have i2 : (k : Int).toNat = k := by omega
      have x0 := HC.out _ hB.out k hlt
      have hM2 := hM.out
      rw [fivG_in hlt] at hM2
      cases hc : D16.alikeL s (fivN k) with
      | true =>
        have HA := hid (fun X => (by have := HAL.out k X; rw [show D17.alikeL s (fivN k) = D16.alikeL s (fivN k) from rfl, hc] at this; exact this : Calls Tryz.prog 17 #[.string (str s), .string (str (fivN k))] X fun e w' => e = .returned (.bool true) ∧ Below X.heap.size X w'))
        rw [hc, if_pos rfl] at hM2
        have HT := hid (told_some hM2)
        clear hM2 hc hM hw5
        go_wp2_with (go_at_call 17; (with_reducible refine (HA.out _).mono ?_); rintro e w6 ⟨rfl, b6⟩; have HB6 := hid (next hB.out b6); clear b6; have x6 := HC.out _ HB6.out k hlt; clear x0)
        go_ret
        exact ⟨by rw [HT.out]; rfl, past B5.out HB6.out⟩
      | false =>
        have HA := hid (fun X => (by have := HAL.out k X; rw [show D17.alikeL s (fivN k) = D16.alikeL s (fivN k) from rfl, hc] at this; exact this : Calls Tryz.prog 17 #[.string (str s), .string (str (fivN k))] X fun e w' => e = .returned (.bool false) ∧ Below X.heap.size X w'))
        rw [hc, if_neg (by decide)] at hM2
        have HM2 := hid hM2
        clear hM2 hc hM hw5
        go_wp2_with (go_at_call 17; (with_reducible refine (HA.out _).mono ?_); rintro e w6 ⟨rfl, b6⟩; have HB6 := hid (next hB.out b6); clear b6)
        go_roundw
        case rel => exact ⟨k + 1, by omega, by go_num, HM2, HB6⟩
        case measure => simp [intOf]; omega
    · have d1 : decide ((k : Int) < 5) = false := by simp; omega
      have d1' : decide (k < 5) = false := by simpa using hlt
      have HT := hid (told_none (show fivG s 0 5 = none by rw [hM.out, show k = 5 by omega]; rfl))
      have HB := hid (past B5.out hB.out)
      clear hM hB HAL HC hw5
      go_wp2_with fail
      go_loopw [5, 6, 7] (fun t i c wx => ∃ k : Nat, k ≤ (str s).size ∧ i = .int .i64 (k : Int) ∧ t = .string (str (smallL (s.take k))) ∧ Hid ((smallL (s.take k)).all signB = true) ∧ Hid (Below w.heap.size w wx)) (fun t i c wx => (str s).size - (intOf i).toNat)
      case atStart => exact ⟨0, by omega, rfl, rfl, hid rfl, HB⟩
      case round =>
        clear HB
        obtain ⟨k, hk, rfl, rfl, hA, hB⟩ := hrel
        rename World => wr
        by_cases hlt : k < (str s).size
        · have hd : decide (k < (str s).size) = true := by simpa using hlt
          have hll : k < s.length := by rwa [HL.out] at hlt
          obtain ⟨x, hx⟩ : ∃ x, (str s)[k]'hlt = x := ⟨_, rfl⟩
          have hgx : s[k]'hll = x := hx
          obtain ⟨y, hy⟩ : ∃ y, D16.smallU x = y := ⟨_, rfl⟩
          have HST := hid (small_take s k hll)
          have HBD := hid (fun h => small_bad (s := s) hll (by rw [hgx, hy]; exact h))
          rw [hgx, hy] at HST
          have hxl := x.toNat_lt
          obtain ⟨z, hz⟩ : ∃ z, y.toNat = z := ⟨_, rfl⟩
          obtain ⟨sg, hsg⟩ : ∃ sg, signB y = sg := ⟨_, rfl⟩
          have HSG := hid hsg
          have hsr : signR z = sg := by rw [← hz, sign_eq, hsg]
          have HZ := hid hz
          obtain ⟨u, hu⟩ : ∃ u, x.toNat = u := ⟨_, rfl⟩
          have hub : u < 256 := by omega
          have hzu : z = if 65 ≤ u ∧ u ≤ 90 then u + 32 else u := by
            rw [← hz, ← hy, ← hu]
            by_cases hc : 65 ≤ x.toNat ∧ x.toNat ≤ 90
            · rw [if_pos hc, D16.smallU_yes hc.1 hc.2]
            · rw [if_neg hc, D16.smallU_no hc]
          have i0 : (0 : Int) ≤ (k : Int) := by omega
          have i1 : (k : Int) < ((str s).size : Int) := by omega
          have i2 : (k : Int).toNat = k := by omega
          clear hgx hz hsg hy hxl
          obtain ⟨t, ht⟩ : ∃ t, smallL (s.take k) = t := ⟨_, rfl⟩
          have htl : (str t).size ≤ 1000 := by rw [← ht]; show (smallL (s.take k)).length ≤ 1000; rw [List.length_map, List.length_take]; omega
          rw [ht] at hA HST ⊢
          clear ht
          obtain ⟨t1, ht1⟩ : ∃ b, decide (65 ≤ u) = b := ⟨_, rfl⟩
          obtain ⟨t2, ht2⟩ : ∃ b, decide (u ≤ 90) = b := ⟨_, rfl⟩
          obtain ⟨tt, htt⟩ : ∃ b, (t1 && t2) = b := ⟨_, rfl⟩
          have j1 : decide ((65 : Int) ≤ (u : Int)) = t1 := by rw [← ht1, decide_eq_decide]; omega
          have j2 : decide ((u : Int) ≤ 90) = t2 := by rw [← ht2, decide_eq_decide]; omega
          go_upto_region 12 with fail
          go_cut [37] (fun t wx => t = .bool tt ∧ wr = wx)
          case first =>
            go_wp2_with fail
            all_goals (go_meet; exact ⟨by rw [← htt]; simp [*], rfl⟩)
          case rest =>
          obtain ⟨rfl, hw9⟩ := hcut
          subst hw9
          go_upto_if 37 with fail
          go_cut [7] (fun c wx => c = .int .u8 (z : Int) ∧ wr = wx)
          case first =>
            cases tt with
            | true =>
              rw [Bool.and_eq_true] at htt
              have hz2 : z = u + 32 := by rw [hzu, if_pos ⟨of_decide_eq_true (ht1.trans htt.1), of_decide_eq_true (ht2.trans htt.2)⟩]
              have hb2 : u ≤ 90 := of_decide_eq_true (ht2.trans htt.2)
              have HZ2 := hid hz2
              clear hzu hz2 ht1 ht2 htt j1 j2
              go_wp2_with fail
              go_meet
              exact ⟨by rw [HZ2.out]; go_num, rfl⟩
            | false =>
              have hz2 : z = u := by
                rw [hzu, if_neg]
                rintro ⟨h1, h2⟩
                rw [← ht1, ← ht2, decide_eq_true h1, decide_eq_true h2] at htt
                cases htt
              have HZ2 := hid hz2
              clear hzu hz2 ht1 ht2 htt j1 j2
              go_wp2_with fail
              go_meet
              exact ⟨by rw [HZ2.out], rfl⟩
          case rest =>
          obtain ⟨rfl, hw9⟩ := hcut
          subst hw9
          have hzb : z < 256 := by rw [hzu]; split <;> omega
          clear hzu ht1 ht2 htt hu hub hx j1 j2
          unfold signR at hsr
          obtain ⟨b1, h1⟩ : ∃ b, decide (97 ≤ z) = b := ⟨_, rfl⟩
          obtain ⟨b2, h2⟩ : ∃ b, decide (z ≤ 122) = b := ⟨_, rfl⟩
          obtain ⟨b3, h3⟩ : ∃ b, decide (48 ≤ z) = b := ⟨_, rfl⟩
          obtain ⟨b4, h4⟩ : ∃ b, decide (z ≤ 57) = b := ⟨_, rfl⟩
          obtain ⟨b5, h5⟩ : ∃ b, (z == 36) = b := ⟨_, rfl⟩
          obtain ⟨b6, h6⟩ : ∃ b, (z == 45) = b := ⟨_, rfl⟩
          obtain ⟨b7, h7⟩ : ∃ b, (z == 46) = b := ⟨_, rfl⟩
          obtain ⟨b8, h8⟩ : ∃ b, (z == 95) = b := ⟨_, rfl⟩
          have q1 : decide ((97 : Int) ≤ (z : Int)) = b1 := by rw [← h1, decide_eq_decide]; omega
          have q2 : decide ((z : Int) ≤ 122) = b2 := by rw [← h2, decide_eq_decide]; omega
          have q3 : decide ((48 : Int) ≤ (z : Int)) = b3 := by rw [← h3, decide_eq_decide]; omega
          have q4 : decide ((z : Int) ≤ 57) = b4 := by rw [← h4, decide_eq_decide]; omega
          have i5 : ((z : Int) == 36) = b5 := by rw [← h5, Bool.eq_iff_iff, beq_iff_eq, beq_iff_eq]; omega
          have i6 : ((z : Int) == 45) = b6 := by rw [← h6, Bool.eq_iff_iff, beq_iff_eq, beq_iff_eq]; omega
          have i7 : ((z : Int) == 46) = b7 := by rw [← h7, Bool.eq_iff_iff, beq_iff_eq, beq_iff_eq]; omega
          have i8 : ((z : Int) == 95) = b8 := by rw [← h8, Bool.eq_iff_iff, beq_iff_eq, beq_iff_eq]; omega
          rw [h1, h2, h3, h4, h5, h6, h7, h8] at hsr
          have HSR := hid hsr
          clear hsr
          go_upto_region 14 with fail
          go_cut [70] (fun t wx => t = .bool (!sg) ∧ wr = wx)
          case first =>
            go_wp2_with fail
            all_goals (go_meet; exact ⟨by rw [← HSR.out]; simp [*], rfl⟩)
          case rest =>
          obtain ⟨rfl, hw9⟩ := hcut
          subst hw9
          clear h1 h2 h3 h4 h5 h6 h7 h8 i5 i6 i7 i8 q1 q2 q3 q4 HSR
          cases sg with
          | false =>
            have HTE := hid (show toldF s = [] by rw [HT.out, if_neg (by rintro ⟨e, -⟩; rw [HBD.out HSG.out] at e; cases e)])
            go_wp2_with fail
            go_ret
            exact ⟨by rw [HTE.out]; rfl, hB.out⟩
          | true =>
            have hcv : (convert 28 9 (.slice (some ⟨wr.heap.size, 0, none⟩) 1 1)).run Tryz.prog (wr.alloc (.cells #[.int .u8 (z : Int)] 5)) = .ok (.string (str [y])) (wr.alloc (.cells #[.int .u8 (z : Int)] 5)) := by
              rw [← HZ.out]
              exact D16.strP 1 (Oct.of_block [y] (heap_alloc_new wr _) rfl)
            have HB2 := hid (next hB.out ((Below.refl _ wr).alloc (Nat.le_refl _) (.cells #[.int .u8 (z : Int)] 5)))
            have hx1 : (str [y]).size = 1 := rfl
            have hno : ¬ 9223372036854775807 < (str t).size + 1 := by omega
            have hap : str t ++ str [y] = str (t ++ [y]) := str_append t [y]
            have HA2 := hid (show (smallL (s.take (k + 1))).all signB = true by rw [HST.out, List.all_append, hA.out, List.all_cons, HSG.out]; rfl)
            clear HBD
            go_wp2_with fail
            go_roundw
            case rel => exact ⟨k + 1, by omega, by go_num, by rw [HST.out], HA2, HB2⟩
            case measure => simp [intOf]; omega
        · have hd : decide (k < (str s).size) = false := by simpa using hlt
          have hA2 := hA.out
          have e2 : s.take k = s := List.take_of_length_le (by have := HL.out; omega)
          rw [e2] at hA2 ⊢
          have hln : (str (smallL s)).size = s.length := by show (smallL s).length = _; rw [List.length_map]
          by_cases h20 : s.length ≤ 20
          · have d2 : decide (20 < (str (smallL s)).size) = false := by simp; omega
            have d3 : decide ((20 : Int) < ((str (smallL s)).size : Int)) = false := by simp; omega
            have HTE := hid (show toldF s = smallL s by rw [HT.out, if_pos ⟨hA2, h20⟩])
            obtain ⟨t, ht⟩ : ∃ t, smallL s = t := ⟨_, rfl⟩
            rw [ht] at d2 d3 HTE ⊢
            clear hA2 h20 e2 hln hA
            go_wp2_with fail
            go_ret
            exact ⟨by rw [HTE.out]; rfl, hB.out⟩
          · have d2 : decide (20 < (str (smallL s)).size) = true := by simp; omega
            have d3 : decide ((20 : Int) < ((str (smallL s)).size : Int)) = true := by simp; omega
            have HTE := hid (show toldF s = [] by rw [HT.out, if_neg (by rintro ⟨-, e⟩; exact h20 e)])
            obtain ⟨t, ht⟩ : ∃ t, smallL s = t := ⟨_, rfl⟩
            rw [ht] at d2 d3 ⊢
            clear hA2 h20 e2 hln hA
            go_wp2_with fail
            go_ret
            exact ⟨by rw [HTE.out]; rfl, hB.out⟩
set_option maxHeartbeats 4000000 in
theorem rfhas_any (A : Option Addr) (n c : Nat) (fl : List (List UInt8)) (s : List UInt8) (w : World) (hn : fl.length = n) (hb : n ≤ 24) (hr : Row w A (fl.map strV)) (hl : s.length ≤ 1000) :
    Calls Tryz.prog 25 #[.slice A n c, .string (str s)] w fun e w' => e = .returned (.bool (flagF fl s)) ∧ Below w.heap.size w w' := by
  unfold flagF
  have HT := hid (rtold_any s w hl)
  obtain ⟨t, ht⟩ : ∃ t, toldF s = t := ⟨_, rfl⟩
  rw [ht] at HT ⊢
  have HR := hid hr
  have HN := hid hn
  clear ht hr hn
  cases he : t.isEmpty with
  | true =>
    have e1 : (str t != (⟨#[]⟩ : ByteArray)) = false := by cases t with | nil => rfl | cons a r => cases he
    go_enter Tryz.func25, Tryz.ntmps25
    go_wp2_with (go_at_call 46; (with_reducible refine HT.out.mono ?_); rintro e w1 ⟨rfl, b1⟩; have B1 := hid b1; clear b1)
    go_loopw [6] (fun i wr => ∃ k : Nat, k ≤ n ∧ i = .int .i64 (k : Int) ∧ w1 = wr) (fun i wr => n - (intOf i).toNat)
    case atStart => exact ⟨0, Nat.zero_le _, rfl, rfl⟩
    case round =>
      obtain ⟨k, hk, rfl, rfl⟩ := hrel
      by_cases hlt : k < n
      · have d1 : decide ((k : Int) < (n : Int)) = true := by simp; omega
        have d1' : decide (k < n) = true := by simpa using hlt
        go_wp2_with fail
        go_roundw
        case rel => exact ⟨k + 1, by omega, by go_num, trivial⟩
        case measure => simp [intOf]; omega
      · have d1 : decide ((k : Int) < (n : Int)) = false := by simp; omega
        have d1' : decide (k < n) = false := by simpa using hlt
        go_wp2_with fail
        go_ret
        exact ⟨rfl, B1.out⟩
  | false =>
    have hne : t ≠ [] := by rintro rfl; cases he
    have e1 : (str t != (⟨#[]⟩ : ByteArray)) = true := by show (str t != str []) = true; rw [D16.str_bne, bne_iff_ne]; exact hne
    have e3 := he
    go_enter Tryz.func25, Tryz.ntmps25
    go_wp2_with (go_at_call 46; (with_reducible refine HT.out.mono ?_); rintro e w1 ⟨rfl, b1⟩; have B1 := hid b1; clear b1)
    go_loopw [6] (fun i wr => ∃ k : Nat, k ≤ n ∧ i = .int .i64 (k : Int) ∧ Hid (fl.contains t = (fl.drop k).contains t) ∧ w1 = wr) (fun i wr => n - (intOf i).toNat)
    case atStart => exact ⟨0, Nat.zero_le _, rfl, hid rfl, rfl⟩
    case round =>
      obtain ⟨k, hk, rfl, hM, rfl⟩ := hrel
      by_cases hlt : k < n
      · have d1 : decide ((k : Int) < (n : Int)) = true := by simp; omega
        have d1' : decide (k < n) = true := by simpa using hlt
        have i0 : (0 : Int) ≤ (k : Int) := by omega
        have i1 : (k : Int) < (n : Int) := by omega
        have i2 : (k : Int).toNat = k := by omega
        have hkl : k < fl.length := by rw [HN.out]; exact hlt
        obtain ⟨b, off, rfl, hc⟩ := str_at HR.out hkl
        have x0 := cells_keep B1.out (hc k hkl)
        obtain ⟨f, hf⟩ : ∃ f, fl[k]'hkl = f := ⟨_, rfl⟩
        have hM2 := hM.out
        rw [List.drop_eq_getElem_cons hkl, List.contains_cons, hf] at hM2
        rw [hf] at x0
        obtain ⟨eq, heq⟩ : ∃ eq, (str f == str t) = eq := ⟨_, rfl⟩
        have heq2 := beq_of_str heq
        have heq3 : (t == f) = eq := by rw [← heq2, Bool.eq_iff_iff, beq_iff_eq, beq_iff_eq]; exact eq_comm
        rw [heq3] at hM2
        cases eq with
        | true =>
          have HM2 := hid hM2
          clear hM2 hM hc hf heq3
          go_wp2_with fail
          go_ret
          exact ⟨by rw [HM2.out]; rfl, B1.out⟩
        | false =>
          have HM2 := hid hM2
          clear hM2 hM hc hf heq3
          go_wp2_with fail
          go_roundw
          case rel => exact ⟨k + 1, by omega, by go_num, hid (by rw [HM2.out, Bool.false_or]), trivial⟩
          case measure => simp [intOf]; omega
      · have d1 : decide ((k : Int) < (n : Int)) = false := by simp; omega
        have d1' : decide (k < n) = false := by simpa using hlt
        have HM2 := hid (show fl.contains t = false by rw [hM.out, List.drop_of_length_le (by rw [HN.out]; omega)]; rfl)
        go_wp2_with fail
        go_ret
        exact ⟨by rw [HM2.out]; rfl, B1.out⟩
end Go.Proofs.YtonjadmldgloaaaGreatDoor
