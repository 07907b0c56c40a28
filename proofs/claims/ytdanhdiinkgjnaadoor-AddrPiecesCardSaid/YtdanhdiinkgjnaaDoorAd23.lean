/-
  AddrPieces: the walk. A part of the proof: see the head of the text that ends in 'Law'.
-/
import Derived.Test.YtdanhdiinkgjnaaDoorAd22
import Derived.Test.YtdanhdiinkgjnaaDoorAdArg
namespace Go.Proofs.YtdanhdiinkgjnaaDoor
open Go.RowKit
set_option linter.unusedVariables false
attribute [local go_sem] Oper.semAt_some

theorem joinC_app (a b : List (List UInt8)) (h : a ≠ []) : joinC (a ++ b) = joinC a ++ b.flatMap (fun q => 44 :: q) := by
  cases a with
  | nil => exact absurd rfl h
  | cons p ps =>
    show p ++ (ps ++ b).flatMap (fun q => 44 :: q) = (p ++ ps.flatMap (fun q => 44 :: q)) ++ b.flatMap (fun q => 44 :: q)
    rw [List.flatMap_append, List.append_assoc]
theorem joinC_le (ps : List (List UInt8)) (k : Nat) : (joinC (ps.take k)).length ≤ (joinC ps).length := by
  by_cases h : ps.take k = []
  · rw [h]
    exact Nat.zero_le _
  · have e := joinC_app (ps.take k) (ps.drop k) h
    rw [List.take_append_drop] at e
    rw [e, List.length_append]
    omega
theorem wordsA_snoc (ws : List (List UInt8)) (w : List UInt8) : (wordsA (ws ++ [w])).length = (wordsA ws).length + (if w = [] then 0 else 1) := by
  unfold wordsA
  rw [List.filter_append, List.map_append, List.length_append]
  congr 1
  by_cases h : w = []
  · rw [if_pos h, List.filter_cons_of_neg (by simpa using h)]; rfl
  · rw [if_neg h, List.filter_cons_of_pos (by simpa using h)]; rfl
theorem wordsA_mem (ws : List (List UInt8)) : ∀ a ∈ wordsA ws, a.name = [] ∧ a.host = [] ∧ a.box ≠ [] := fun a ha => by
  unfold wordsA at ha
  obtain ⟨w, h1, rfl⟩ := List.mem_map.1 ha
  have := (List.mem_filter.1 h1).2
  exact ⟨rfl, rfl, by simpa using this⟩
theorem wordsA_len (ws : List (List UInt8)) : (wordsA ws).length ≤ ws.length := by
  unfold wordsA
  rw [List.length_map]
  exact List.length_filter_le _ _
theorem take_map_snoc (L : List (List UInt8)) (j : Nat) (hj : j < L.length) : (L.take (j + 1)).map low9 = (L.take j).map low9 ++ [low9 (L[j]'hj)] := by
  rw [List.take_succ_eq_append_getElem hj, List.map_append]; rfl
theorem low9_take (x : List UInt8) (k : Nat) (h : k = 9 ∨ k = x.length ∧ k ≤ 9) : (x.take k).map lowC = low9 x := by
  unfold low9
  rcases h with rfl | ⟨h, h2⟩
  · rfl
  · rw [List.take_of_length_le (by omega), List.take_of_length_le (by omega)]
set_option maxRecDepth 100000 in
set_option maxHeartbeats 8000000 in
theorem walkAddrPieces (s0 : List UInt8) (A1 : Option Addr) (n1 c1 : Nat) (L1 : List (List UInt8)) (w : World) (hs0 : s0.length ≤ maxLen) (hn1 : n1 ≤ c1) (hc1 : c1 ≤ maxLen) (hL1 : L1.length = n1) (hr1 : Row w A1 (L1.map SV)) (hk1 : ∀ a ∈ L1, a.length ≤ maxLen) :
    Calls Tryd.prog 5 #[.string (str s0), .slice A1 n1 c1] w fun e w' => e = .returned (.bool true) ∧ Below w.heap.size w w' := by
  clear hs0
  have HF := hid (few_any s0 w)
  obtain ⟨l, hl⟩ : ∃ l, fewL s0 = l := ⟨_, rfl⟩
  have hn := fewL_len s0
  rw [hl] at hn HF
  have HP := hid (fun X => pieces_any l l.length rfl X (by omega))
  have HLI := hid (fun X => list_any l l.length rfl X (by omega))
  have hj := pieces_join l
  obtain ⟨ps, hps⟩ : ∃ ps, piecesL l = ps := ⟨_, rfl⟩
  rw [hps] at HP HLI hj
  have HJ := hid hj
  have HN := hid hn
  have HR1 := hid hr1
  have HL1 := hid hL1
  have HK1 := hid hk1
  have hll : (str l == str l) = true := str_self l
  have hll2 : (str l != str l) = false := by rw [bne, str_self]; rfl
  have hn2 : n1 ≤ maxLen := by omega
  have HM2 := hid hn2
  clear hl hps hj hn hr1 hL1 hk1 hn1 hc1 hn2
  go_enter Tryd.func5, Tryd.ntmps5
  go_upto_region 4 with (first
    | (go_at_call 7; refine HF.out.mono ?_; rintro e w1 ⟨rfl, rfl⟩)
    | (go_at_call 12; refine (HP.out _).mono ?_; rintro e w2 ⟨A2, np, c2, rfl, h1, h2, h3, h4⟩; have HLP := hid h1; have RP := hid (Row.of_own h2); have B := hid h3; have HNP := hid h4; clear h1 h2 h3 h4))
  clear HF HP
  have hnp : np ≤ 401 := by have := HNP.out; have := HN.out; omega
  go_upto_block 0 with fail
  go_cut [5, 7] from 19 to 34 (fun s5 s7 wx => s5 = .string (str l) ∧ w2 = wx)
  case first =>
    go_wp2_with fail
    go_loopw [5, 7] (fun v5 v7 wr => ∃ k : Nat, k ≤ np ∧ v5 = .string (str (joinC (ps.take k))) ∧ v7 = .int .i64 (k : Int) ∧ w2 = wr) (fun v5 v7 wr => np - (intOf v7).toNat)
    case atStart => exact ⟨0, Nat.zero_le _, rfl, rfl, rfl⟩
    case round =>
      obtain ⟨k, hk, rfl, rfl, rfl⟩ := hrel
      obtain ⟨q, hq⟩ : ∃ q, joinC (ps.take k) = q := ⟨_, rfl⟩
      have hql : q.length ≤ 400 := by
        rw [← hq]
        have := joinC_le ps k
        rw [HJ.out] at this
        have := HN.out
        omega
      rw [hq]
      have HQ := hid hq
      clear hq
      by_cases hlt : k < np
      · have d1 : decide ((k : Int) < (np : Int)) = true := by simp; omega
        have d1' : decide (k < np) = true := by simpa using hlt
        have hkl : k < ps.length := by rw [HLP.out]; exact hlt
        obtain ⟨b, off, rfl, hc⟩ := row_at RP.out hkl
        obtain ⟨x, hx⟩ : ∃ x, ps[k]'hkl = x := ⟨_, rfl⟩
        have p0 := hc k hkl
        rw [hx] at p0
        unfold SV at p0
        have hxl : x.length ≤ 400 := by
          have h1 := joinC_le ps (k + 1)
          rw [HJ.out, List.take_succ_eq_append_getElem hkl, hx] at h1
          have h2 := HN.out
          by_cases h0 : ps.take k = []
          · rw [h0] at h1
            have e : joinC ([] ++ [x]) = x := by show x ++ [] = x; rw [List.append_nil]
            rw [e] at h1
            omega
          · rw [joinC_snoc _ _ h0, List.length_append] at h1
            omega
        have i0 : (0 : Int) ≤ (k : Int) := by omega
        have i1 : (k : Int) < (np : Int) := by omega
        have i2 : (k : Int).toNat = k := by omega
        have z1 : (str q).size ≤ 400 := hql
        have z2 : (str x).size ≤ 400 := hxl
        have z3 : (str (q ++ [44])).size ≤ 401 := by rw [str_size, List.length_append]; simp; omega
        have a1 : str q ++ (⟨#[44]⟩ : ByteArray) = str (q ++ [44]) := str_append q [44]
        have a2 : str (q ++ [44]) ++ str x = str (q ++ 44 :: x) := by rw [str_append, List.append_assoc]; rfl
        have a3 : str q ++ str x = str (q ++ x) := str_append _ _
        by_cases h0 : k = 0
        · subst h0
          have p0 : w2.cell? ⟨b, off, none⟩ = some (.string (str x)) := p0
          have HT : Hid (joinC (ps.take (0 + 1)) = q ++ x) := hid (by
            rw [List.take_succ_eq_append_getElem hkl, hx, ← HQ.out]
            show x ++ [] = [] ++ x
            simp)
          clear hc hx hkl HQ
          go_wp2_with fail
          go_roundw
          case rel => exact ⟨0 + 1, by omega, by rw [HT.out], by go_num, trivial⟩
          case measure => simp [intOf]; omega
        · have d5 : decide ((0 : Int) < (k : Int)) = true := by simp; omega
          have d5' : decide (0 < k) = true := by simp; omega
          have HT : Hid (joinC (ps.take (k + 1)) = q ++ 44 :: x) := hid (by
            rw [List.take_succ_eq_append_getElem hkl, hx, joinC_snoc _ _ (by intro e; have h9 := congrArg List.length e; rw [List.length_take, List.length_nil] at h9; omega), HQ.out, List.append_assoc]
            rfl)
          clear hc hx hkl HQ h0
          go_wp2_with fail
          go_roundw
          case rel => exact ⟨k + 1, by omega, by rw [HT.out], by go_num, trivial⟩
          case measure => simp [intOf]; omega
      · have hkn : k = np := by omega
        subst hkn
        have d1 : decide ((k : Int) < (k : Int)) = false := by simp
        have d1' : decide (k < k) = false := by simp
        have HQ2 : Hid (q = l) := hid (by rw [← HQ.out, List.take_of_length_le (by rw [HLP.out]; exact Nat.le_refl _)]; exact HJ.out)
        go_wp2_with fail
        go_meet
        exact ⟨by rw [HQ2.out], rfl⟩
  case rest =>
  obtain ⟨rfl, rfl⟩ := hcut
  clear RP HJ HNP
  have hlp : ps.length = np := HLP.out
  have hq0 : decide ((np : Int) < (np : Int)) = false := by simp
  go_upto_block 2 with (go_at_call 9; refine (HLI.out _).mono ?_; rintro e w3 ⟨A3, m3, c3, rfl, h1, h2, h3, h4⟩; rw [hlp] at h4; have hm3 : decide ((np : Int) < (m3 : Int)) = false := (by simp; omega); have hm3' : decide (np < m3) = false := (by simp; omega); have B := hid (next B.out h3); clear h1 h2 h3 h4)
  clear HLI hll hll2 hlp hq0
  go_cut [8, 9, 10, 11, 12] from 46 to 88 (fun s8 s9 s10 s11 s12 wx => ∃ ws : List (List UInt8), s8 = .string (str (textT ws)) ∧ s9 = .int .i64 ((wordsA ws).length : Int) ∧ Hid (ws.length ≤ 9 ∧ (∀ w ∈ ws, LowW w) ∧ ∀ w ∈ ws, w.length ≤ 9) ∧ Hid (Below w.heap.size w wx))
  case first =>
    clear hm3 hm3' hnp
    go_wp2_with fail
    go_loopw [8, 9, 10] (fun v8 v9 v10 wr => ∃ (j nn : Nat) (tx : List UInt8), j ≤ n1 ∧ j ≤ 9 ∧ nn ≤ j ∧ v8 = .string (str tx) ∧ v9 = .int .i64 (nn : Int) ∧ v10 = .int .i64 (j : Int) ∧ Hid (tx = textT ((L1.take j).map low9) ∧ nn = (wordsA ((L1.take j).map low9)).length) ∧ Hid (Below w.heap.size w wr)) (fun v8 v9 v10 wr => n1 - (intOf v10).toNat)
    case atStart => exact ⟨0, 0, [], Nat.zero_le _, by omega, Nat.le_refl _, rfl, rfl, rfl, hid ⟨rfl, rfl⟩, B⟩
    case round =>
      clear B
      obtain ⟨j, nn, tx, hj, hj9, hnn, rfl, rfl, rfl, HT, B⟩ := hrel
      have HW : Hid (((L1.take j).map low9).length ≤ 9 ∧ (∀ w ∈ (L1.take j).map low9, LowW w) ∧ ∀ w ∈ (L1.take j).map low9, w.length ≤ 9) := hid ⟨by rw [List.length_map, List.length_take]; omega, fun x hx => by obtain ⟨y, _, rfl⟩ := List.mem_map.1 hx; exact low9_ok y, fun x hx => by obtain ⟨y, _, rfl⟩ := List.mem_map.1 hx; exact low9_len y⟩
      have htx : tx.length ≤ 108 := by
        rw [HT.out.1]
        have h1 := textT_len _ HW.out.2.2
        have h2 := HW.out.1
        omega
      have hn1 : n1 ≤ maxLen := HM2.out
      by_cases hlt : j < n1 ∧ j < 9
      · have d2 : decide ((j : Int) < (n1 : Int)) = true := by simp; omega
        have d2' : decide (j < n1) = true := by simp; omega
        have d3 : decide ((j : Int) < 9) = true := by simp; omega
        have d3' : decide (j < 9) = true := by simp; omega
        have hjl : j < L1.length := by rw [HL1.out]; exact hlt.1
        obtain ⟨b, off, rfl, hc⟩ := row_at HR1.out hjl
        obtain ⟨x, hx⟩ : ∃ x, L1[j]'hjl = x := ⟨_, rfl⟩
        have hcx := hc j hjl
        rw [hx] at hcx
        unfold SV at hcx
        have HX := hid hcx
        have hxl : x.length ≤ maxLen := by rw [← hx]; exact HK1.out _ (List.getElem_mem hjl)
        have HSN : Hid ((L1.take (j + 1)).map low9 = (L1.take j).map low9 ++ [low9 x]) := hid (by rw [take_map_snoc L1 j hjl, hx])
        have HJJ := hid hlt
        have g0 : (0 : Int) ≤ (j : Int) := by omega
        have g1 : (j : Int) < (n1 : Int) := by omega
        have g2 : (j : Int).toNat = j := by omega
        obtain ⟨nx, hnx⟩ : ∃ nx, x.length = nx := ⟨_, rfl⟩
        have hszx : (str x).size = nx := hnx
        have HNX := hid hnx
        rw [hnx] at hxl
        clear hc hx hcx hlt HW hnx
        rename World => wo
        go_upto_block 4 with fail
        go_cut [11, 12] from 56 to 80 (fun s11 s12 wx => s11 = .string (str (low9 x)) ∧ Hid (Below w.heap.size w wx))
        case first =>
          clear HT HSN
          go_wp2_with fail
          go_loopw [11, 12] (fun v11 v12 wq => ∃ k2 : Nat, k2 ≤ nx ∧ k2 ≤ 9 ∧ v11 = .string (str ((x.take k2).map lowC)) ∧ v12 = .int .i64 (k2 : Int) ∧ Hid (Below w.heap.size w wq)) (fun v11 v12 wq => 9 - (intOf v12).toNat)
          case atStart => exact ⟨0, Nat.zero_le _, by omega, rfl, rfl, B⟩
          case round =>
            clear B
            obtain ⟨k2, hk2, hk29, rfl, rfl, B⟩ := hrel
            obtain ⟨y, hy⟩ : ∃ y, (x.take k2).map lowC = y := ⟨_, rfl⟩
            have hyl : y.length ≤ 9 := by rw [← hy, List.length_map, List.length_take]; omega
            rw [hy]
            have HY := hid hy
            have p0 := cells_keep B.out HX.out
            clear hy
            by_cases hlt : k2 < nx ∧ k2 < 9
            · have f2 : decide ((k2 : Int) < (nx : Int)) = true := by simp; omega
              have f2' : decide (k2 < nx) = true := by simp; omega
              have f3 : decide ((k2 : Int) < 9) = true := by simp; omega
              have f3' : decide (k2 < 9) = true := by simp; omega
              have hks : k2 < (str x).size := by rw [hszx]; exact hlt.1
              have hkl : k2 < x.length := by rw [HNX.out]; exact hlt.1
              obtain ⟨c, hc0⟩ : ∃ c, x[k2]'hkl = c := ⟨_, rfl⟩
              have hc : (str x)[k2]'hks = c := hc0
              obtain ⟨m, hm, t1, t2, t3⟩ := low_facts c
              have i0 : (0 : Int) ≤ (k2 : Int) := by omega
              have i1 : (k2 : Int) < ((str x).size : Int) := by rw [hszx]; omega
              have i2 : (k2 : Int).toNat = k2 := by omega
              have kone := fun X => low_str X c m t3
              have z1 : (str y).size ≤ 9 := hyl
              have z3 : (str [lowC c]).size ≤ 1 := Nat.le_refl _
              have a3 : str y ++ str [lowC c] = str (y ++ [lowC c]) := str_append _ _
              have HT2 : Hid ((x.take (k2 + 1)).map lowC = y ++ [lowC c]) := hid (by rw [take_next x k2 hkl, List.map_append, HY.out, hc0]; rfl)
              have HK2 := hid hlt
              clear hc0 hkl HY t3 hlt
              go_wp2_with fail
              go_roundw
              case rel => exact ⟨k2 + 1, by have := HK2.out; omega, by have := HK2.out; omega, by rw [HT2.out], by go_num, hid (below_alloc B.out _)⟩
              case measure => have := HK2.out; simp [intOf]; omega
            · by_cases hkp : k2 < nx
              · have f2 : decide ((k2 : Int) < (nx : Int)) = true := by simp; omega
                have f2' : decide (k2 < nx) = true := by simp; omega
                have f3 : decide ((k2 : Int) < 9) = false := by simp; omega
                have f3' : decide (k2 < 9) = false := by simp; omega
                have HE : Hid (low9 x = y) := hid (by rw [← HY.out, low9_take x k2 (.inl (by omega))])
                clear hlt hkp HY
                go_wp2_with fail
                go_meet
                exact ⟨by rw [HE.out], B⟩
              · have f2 : decide ((k2 : Int) < (nx : Int)) = false := by simp; omega
                have f2' : decide (k2 < nx) = false := by simp; omega
                have HE : Hid (low9 x = y) := hid (by rw [← HY.out, low9_take x k2 (.inr ⟨by rw [HNX.out]; omega, hk29⟩)])
                clear hlt hkp HY
                go_wp2_with fail
                go_meet
                exact ⟨by rw [HE.out], B⟩
        case rest =>
        obtain ⟨rfl, BB⟩ := hcut
        obtain ⟨y, hy⟩ : ∃ y, low9 x = y := ⟨_, rfl⟩
        have hyl : y.length ≤ 9 := by rw [← hy]; exact low9_len x
        rw [hy]
        have HSN2 : Hid ((L1.take (j + 1)).map low9 = (L1.take j).map low9 ++ [y]) := hid (by rw [HSN.out, hy])
        obtain ⟨y2, hy2⟩ : ∃ y2, y ++ ([32, 44, 32] : List UInt8) = y2 := ⟨_, rfl⟩
        have a1 : str y ++ (⟨#[32, 44, 32]⟩ : ByteArray) = str y2 := by rw [← hy2]; exact str_append y [32, 44, 32]
        have a2 : str tx ++ str y2 = str (tx ++ y2) := str_append tx y2
        have z1 : (str y).size ≤ 9 := hyl
        have z2 : (str y2).size ≤ 12 := by rw [str_size, ← hy2, List.length_append]; simp; omega
        have z3 : (str tx).size ≤ 108 := htx
        have HTX : Hid (tx ++ y2 = textT ((L1.take (j + 1)).map low9)) := hid (by rw [HSN2.out, textT_snoc, hy2, ← HT.out.1])
        by_cases hy0 : y = []
        · have hye : y.isEmpty = true := by rw [hy0]; rfl
          have HNW : Hid (nn = (wordsA ((L1.take (j + 1)).map low9)).length) := hid (by rw [HSN2.out, wordsA_snoc, if_pos hy0, ← HT.out.2]; rfl)
          clear hy hy0 HSN HSN2 HT hy2
          go_wp2_with fail
          go_roundw
          case rel => exact ⟨j + 1, nn, _, by have := HJJ.out; omega, by have := HJJ.out; omega, by omega, rfl, rfl, by go_num, hid ⟨HTX.out, HNW.out⟩, BB⟩
          case measure => have := HJJ.out; simp [intOf]; omega
        · have hye : y.isEmpty = false := by cases y with | nil => exact absurd rfl hy0 | cons a l => rfl
          have HNW : Hid (nn + 1 = (wordsA ((L1.take (j + 1)).map low9)).length) := hid (by rw [HSN2.out, wordsA_snoc, if_neg hy0, ← HT.out.2])
          clear hy hy0 HSN HSN2 HT hy2
          go_wp2_with fail
          go_roundw
          case rel => exact ⟨j + 1, nn + 1, _, by have := HJJ.out; omega, by have := HJJ.out; omega, by omega, rfl, by go_num, by go_num, hid ⟨HTX.out, HNW.out⟩, BB⟩
          case measure => have := HJJ.out; simp [intOf]; omega
      · have HEND : Hid (∃ ws : List (List UInt8), str tx = str (textT ws) ∧ (nn : Int) = ((wordsA ws).length : Int) ∧ (ws.length ≤ 9 ∧ (∀ w ∈ ws, LowW w) ∧ ∀ w ∈ ws, w.length ≤ 9)) := hid ⟨_, by rw [HT.out.1], by rw [HT.out.2], HW.out⟩
        by_cases hjp : j < n1
        · have d2 : decide ((j : Int) < (n1 : Int)) = true := by simp; omega
          have d2' : decide (j < n1) = true := by simp; omega
          have d3 : decide ((j : Int) < 9) = false := by simp; omega
          have d3' : decide (j < 9) = false := by simp; omega
          clear hlt hjp HT HW
          go_wp2_with fail
          go_meet
          obtain ⟨ws, h1, h2, h3⟩ := HEND.out
          exact ⟨ws, by rw [h1], by rw [h2], h3, B⟩
        · have d2 : decide ((j : Int) < (n1 : Int)) = false := by simp; omega
          have d2' : decide (j < n1) = false := by simp; omega
          clear hlt hjp HT HW
          go_wp2_with fail
          go_meet
          obtain ⟨ws, h1, h2, h3⟩ := HEND.out
          exact ⟨ws, by rw [h1], by rw [h2], h3, B⟩
  case rest =>
  obtain ⟨ws, rfl, rfl, HW, B⟩ := hcut
  clear hm3 hm3' hnp
  obtain ⟨tx, htx⟩ : ∃ tx, textT ws = tx := ⟨_, rfl⟩
  obtain ⟨nn, hnn⟩ : ∃ nn, (wordsA ws).length = nn := ⟨_, rfl⟩
  have htl : tx.length ≤ 108 := by
    rw [← htx]
    have h1 := textT_len _ HW.out.2.2
    have h2 := HW.out.1
    omega
  have hnl : nn ≤ 9 := by rw [← hnn]; exact Nat.le_trans (wordsA_len ws) HW.out.1
  have HLT := hid (fun X => list_any tx tx.length rfl X (by omega))
  have hli : listL tx = wordsA ws := by rw [← htx]; exact texts_list ws HW.out.2.1
  rw [hli] at HLT
  obtain ⟨ads, has⟩ : ∃ ads, wordsA ws = ads := ⟨_, rfl⟩
  rw [has] at hnn HLT
  have HAS : Hid (∀ a ∈ ads, a.name = [] ∧ a.host = [] ∧ a.box ≠ []) := hid (by rw [← has]; exact wordsA_mem ws)
  have HNN := hid hnn
  rw [htx, has, hnn]
  clear htx has hnn hli HW
  go_upto_region 26 with (go_at_call 9; refine (HLT.out _).mono ?_; rintro e w4 ⟨A4, m4, c4, rfl, h1, h2, h3, -⟩; have e4 := h1.symm.trans HNN.out; subst e4; have R4 := hid (Row.of_own h2); have B := hid (next B.out h3); clear h1 h2 h3)
  go_wp2_with fail
  go_loopw [14] (fun v14 wr => ∃ k : Nat, k ≤ m4 ∧ v14 = .int .i64 (k : Int) ∧ w4 = wr) (fun v14 wr => m4 - (intOf v14).toNat)
  case atStart => exact ⟨0, Nat.zero_le _, rfl, rfl⟩
  case round =>
    obtain ⟨k, hk, rfl, rfl⟩ := hrel
    by_cases hlt : k < m4
    · have d1 : decide ((k : Int) < (m4 : Int)) = true := by simp; omega
      have d1' : decide (k < m4) = true := by simpa using hlt
      have hkl : k < ads.length := by rw [HNN.out]; exact hlt
      obtain ⟨b, off, rfl, hc⟩ := ad_at R4.out hkl
      obtain ⟨x, hx⟩ : ∃ x, ads[k]'hkl = x := ⟨_, rfl⟩
      have p0 := hc k hkl
      have hax := HAS.out _ (List.getElem_mem hkl)
      rw [hx] at p0 hax
      obtain ⟨xn, xb, xh⟩ := x
      dsimp only [SV] at p0 hax
      obtain ⟨rfl, rfl, hne⟩ := hax
      obtain ⟨p1, p2, p3⟩ := p0
      have e0 : str [] = (⟨#[]⟩ : ByteArray) := rfl
      rw [e0] at p1 p3
      have hbe : xb.isEmpty = false := by cases xb with | nil => exact absurd rfl hne | cons a l => rfl
      have hbq : (str xb == (⟨#[]⟩ : ByteArray)) = false := by have := str_nil_ne xb; rw [hbe, bne] at this; simpa using this
      have i0 : (0 : Int) ≤ (k : Int) := by omega
      have i1 : (k : Int) < (m4 : Int) := by omega
      have i2 : (k : Int).toNat = k := by omega
      clear hc hx hkl hne HAS
      go_wp2_with fail
      go_roundw
      case rel => exact ⟨k + 1, by omega, by go_num, trivial⟩
      case measure => simp [intOf]; omega
    · have hkn : k = m4 := by omega
      subst hkn
      have d1 : decide ((k : Int) < (k : Int)) = false := by simp
      have d1' : decide (k < k) = false := by simp
      have dq : ((k : Int) == (k : Int)) = true := by simp
      clear HAS R4
      go_wp2_with (go_at_call 11; refine (awake_any _).mono ?_; rintro e w5 ⟨rfl, b5⟩; have B := hid (next B.out b5); clear b5)
      go_ret
      exact ⟨rfl, B.out⟩
end Go.Proofs.YtdanhdiinkgjnaaDoor
