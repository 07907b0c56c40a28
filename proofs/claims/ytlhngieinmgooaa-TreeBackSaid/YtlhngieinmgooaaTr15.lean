/-
  All pages are read again: the walk of tree.All. A part of the proof: see the head of the text that ends in 'Law'.
-/
import Derived.Test.YtlhngieinmgooaaTr14
import Derived.Test.YtlhngieinmgooaaTr7
namespace Go.Proofs.Ytlhngieinmgooaa
open Go.RowKit
set_option linter.unusedVariables false
set_option maxRecDepth 100000
attribute [local go_sem] Oper.semAt_some

/-- The pairs of pages, if they are those of any. -/
def allP (ls : List (List UInt8)) : Option (List Pa) := if ls.all isP = true then (if mayP (ls.flatMap pairsB) = true ∧ buildP (ls.flatMap pairsB) = ls then some (ls.flatMap pairsB) else none) else none
theorem pairsB_few (b : List UInt8) (h : isP b = true) : (pairsB b).length ≤ 7 := by
  unfold pairsB
  split
  · simp
  · rename_i h2
    unfold isP kindP at h
    simp [h2] at h
    rw [List.length_map, List.length_range]
    omega
theorem cut_lt (b : List UInt8) (a k : Nat) : valL (cutL b a k) < 256 ^ k := by
  have h := valL_lt (cutL b a k)
  refine Nat.lt_of_lt_of_le h (Nat.pow_le_pow_right (by omega) ?_)
  unfold cutL
  rw [List.length_take]
  omega
theorem pairsB_ok (b : List UInt8) : ∀ p ∈ pairsB b, p.ok := by
  intro p hp
  unfold pairsB at hp
  split at hp
  · cases hp
  · obtain ⟨i, -, rfl⟩ := List.mem_map.1 hp
    exact ⟨cut_lt b (2 + 16 * i) 8, cut_lt b (2 + 16 * i + 8) 8⟩
theorem flat_ok (ls : List (List UInt8)) : ∀ p ∈ ls.flatMap pairsB, p.ok := by
  intro p hp
  obtain ⟨b, -, h⟩ := List.mem_flatMap.1 hp
  exact pairsB_ok b p h
theorem one_pa (l : List Pa) : ∀ v ∈ l.flatMap paC, Value.oneCell' v = true := by
  intro v hv
  obtain ⟨p, -, h⟩ := List.mem_flatMap.1 hv
  simp only [paC, List.mem_cons, List.not_mem_nil, or_false] at h
  rcases h with rfl | rfl <;> rfl
set_option maxHeartbeats 8000000 in
theorem all_any (A : Option Addr) (n c : Nat) (ls : List (List UInt8)) (w : World) (hl : PIn w A ls) (hn : ls.length = n) (hs : n ≤ 99) :
    Calls Try.prog 14 #[.slice A n c] w fun e w' => Below w.heap.size w w' ∧ ((allP ls = none ∧ e = .returned (.tuple #[.slice none 0 0, .int .i64 3])) ∨
      (∃ l A1 q c1, allP ls = some l ∧ e = .returned (.tuple #[.slice A1 q c1, .int .i64 0]) ∧ l.length = q ∧ Row w' A1 (l.flatMap paC))) := by
  have HL := hid hl
  have HN := hid hn
  clear hl hn
  have I0 : Hid ((ls.take 0).all isP = true ∧ ((ls.take 0).flatMap pairsB).length = 0 ∧ Below w.heap.size w w ∧ w.ownsRow w.heap.size 48 2 (.slice none 0 0) 0 (((ls.take 0).flatMap pairsB).flatMap paC)) := hid ⟨rfl, rfl, Below.refl _ _, World.ownsRow_nil _ _ _ _⟩
  go_enter Try.func14, Try.ntmps14
  go_wp2_with fail
  go_loopw [4, 13] (fun v4 v13 wr => ∃ (j q : Nat) (A1 : Option Addr) (c1 : Nat), j ≤ n ∧ q ≤ 7 * j ∧ v4 = .slice A1 q c1 ∧ v13 = .int .i64 (j : Int) ∧ Hid ((ls.take j).all isP = true ∧ ((ls.take j).flatMap pairsB).length = q ∧ Below w.heap.size w wr ∧ wr.ownsRow w.heap.size 48 2 (.slice A1 q c1) q (((ls.take j).flatMap pairsB).flatMap paC))) (fun v4 v13 wr => n - (intOf v13).toNat)
  case atStart => exact ⟨0, 0, none, 0, Nat.zero_le _, Nat.zero_le _, rfl, rfl, I0⟩
  case round =>
    clear I0
    obtain ⟨j, q, A1, c1, hj, hq, rfl, rfl, HI⟩ := hrel
    rename World => wr
    by_cases hlt : j < n
    · have g1 := lt_t hlt
      have g1' := lt_nt hlt
      have q0 : (0 : Int) ≤ (j : Int) := by omega
      have q1 : (j : Int) < (n : Int) := by omega
      have q2 : (j : Int).toNat = j := by omega
      obtain ⟨b1, o1, rfl, r1⟩ := HL.out.at_ (by rw [HN.out]; omega)
      have hj1 : j < ls.length := by rw [HN.out]; exact hlt
      obtain ⟨B1, k1, d1, x1, hkd, p1⟩ := r1 j hj1
      obtain ⟨b, hb⟩ : ∃ b, ls[j] = b := ⟨_, rfl⟩
      rw [hb] at p1
      have x2 := cells_keep HI.out.2.2.1 x1
      have HR := hid (read_any B1 k1 d1 b wr (p1.below HI.out.2.2.1) hkd)
      have HT : Hid (ls.take (j + 1) = ls.take j ++ [b]) := hid (by rw [List.take_succ_eq_append_getElem hj1, hb])
      have HMB : Hid (b ∈ ls) := hid (hb ▸ List.getElem_mem hj1)
      clear r1 p1 hb x1
      cases hib : isP b with
      | false =>
        have HF : Hid (allP ls = none) := hid (by
          unfold allP
          rw [if_neg]
          intro h
          have := List.all_eq_true.1 h b HMB.out
          rw [hib] at this
          cases this)
        have HRF : Hid (Calls Try.prog 27 #[.slice B1 k1 d1] wr fun e w' => Below wr.heap.size wr w' ∧ e = .returned (.tuple #[.agg #[.slice none 0 0, .slice none 0 0, .bool false], .bool false])) := hid (HR.out.mono (by
          rintro e w' ⟨h1, ⟨h2, h3⟩ | ⟨h2, -⟩⟩
          · exact ⟨h1, h3⟩
          · rw [hib] at h2; cases h2))
        go_wp2_with (go_at_call 27; refine HRF.out.mono ?_; rintro e w3 ⟨b3, rfl⟩; have HB3 := hid b3; clear b3)
        go_ret2
        exact ⟨past (past HI.out.2.2.1 HB3.out) ((Below.refl _ w3).alloc (Nat.le_refl _) _), .inl ⟨HF.out, rfl⟩⟩
      | true =>
        have HRT : Hid (Calls Try.prog 27 #[.slice B1 k1 d1] wr fun e w' => Below wr.heap.size wr w' ∧ ∃ A3 m3 c3 A4 m4 c4 t, e = .returned (.tuple #[.agg #[.slice A3 m3 c3, .slice A4 m4 c4, .bool t], .bool true]) ∧ (pairsB b).length = m3 ∧ w'.ownsRow wr.heap.size 48 2 (.slice A3 m3 c3) m3 ((pairsB b).flatMap paC)) := hid (HR.out.mono (by
          rintro e w' ⟨h1, ⟨h2, h3⟩ | ⟨h2, A3, m3, c3, A4, m4, c4, h3, h4, h5, h6, h7⟩⟩
          · rw [hib] at h2; cases h2
          · exact ⟨h1, A3, m3, c3, A4, m4, c4, _, h3, h4, h6⟩))
        have HFW := hid (pairsB_few b hib)
        have HIB := hid hib
        clear HR hib
        go_wp2_with (first
          | (go_at_call 27; refine HRT.out.mono ?_; rintro e w3 ⟨b3, A3, m3, c3, A4, m4, c4, t, rfl, h4, h6⟩; have HB3 := hid b3; have H4 := hid h4; have H6 := hid h6; have hm7 : m3 ≤ 7 := by (have := HFW.out; omega)
             have HAL := hid ((Below.refl _ w3).alloc (Nat.le_refl _) (.cells #[.slice A3 m3 c3, .slice A4 m4 c4, .bool t] 66))
             have HBA := hid (past (past HI.out.2.2.1 HB3.out) HAL.out)
             clear b3 h4 h6)
          | (refine wpList_append_row _ rfl (.tmp 24) (.tmp 26) paT rfl w.heap.size (.slice A1 q c1) q (((ls.take j).flatMap pairsB).flatMap paC) rfl (own_below (own_below HI.out.2.2.2 HB3.out) HAL.out) A3 m3 c3 ((pairsB b).flatMap paC) rfl (by rw [paC_len, H4.out]) ((Row.of_own H6.out).below HAL.out) (one_pa _) (by simp only [maxLen]; omega) (by omega) HBA.out.size ?_
             intro A5 c5 w5 ho5 hg5 hh5
             have HO5 := hid ho5
             have HB5 := hid (HBA.out.grown hg5 HBA.out.size (own_base (own_below (own_below HI.out.2.2.2 HB3.out) HAL.out)))
             clear ho5 hg5 hh5))
        go_roundw
        case rel => exact ⟨j + 1, q + m3, A5, c5, by omega, by omega, rfl, by go_num, hid ⟨by rw [HT.out, List.all_append, HI.out.1]; simp [HIB.out], by rw [HT.out, List.flatMap_append, List.length_append, HI.out.2.1]; simp [H4.out], HB5.out, by rw [HT.out, List.flatMap_append, List.flatMap_append]; simpa using HO5.out⟩⟩
        case measure => simp [intOf]; omega
    · have g1 := lt_f hlt
      have g1' := lt_nf hlt
      have hjn : j = n := by omega
      subst hjn
      obtain ⟨l, hle⟩ : ∃ l, ls.flatMap pairsB = l := ⟨_, rfl⟩
      have hall := HI.out.1
      have hlen := HI.out.2.1
      have hb := HI.out.2.2.1
      have how := HI.out.2.2.2
      rw [List.take_of_length_le (by rw [HN.out]; omega)] at hall hlen how
      rw [hle] at hlen how
      have HAP : Hid (allP ls = if mayP l = true ∧ buildP l = ls then some l else none) := hid (by unfold allP; rw [if_pos hall, hle])
      have HLN := hid hlen
      have HB := hid hb
      have HO := hid how
      have hq7 : q ≤ 700 := by omega
      have hqc : q ≤ c1 := by
        rcases how.2 with ⟨h1, h2⟩ | ⟨g, cap, cur, h1, h2, h3, h4, h5⟩
        · omega
        · injection h1 with _ _ h9
          omega
      have hok : ∀ p ∈ l, p.ok := by rw [← hle]; exact flat_ok ls
      have HBD := hid (build_any A1 q c1 l wr (Row.of_own how) hlen hqc hq7 hok)
      clear hall hlen hb how hle HI hok
      cases hmb : mayP l with
      | false =>
        have HF : Hid (allP ls = none) := hid (by rw [HAP.out, if_neg]; rintro ⟨h, -⟩; rw [hmb] at h; cases h)
        have HBF : Hid (Calls Try.prog 7 #[.slice A1 q c1] wr fun e w' => Below wr.heap.size wr w' ∧ e = .returned (.tuple #[.slice none 0 0, .int .i64 1])) := hid (HBD.out.mono (by
          rintro e w' ⟨h1, ⟨-, h3⟩ | ⟨h2, -⟩⟩
          · exact ⟨h1, h3⟩
          · rw [hmb] at h2; cases h2))
        clear HBD hmb HAP
        go_wp2_with (go_at_call 7; refine HBF.out.mono ?_; rintro e w3 ⟨b3, rfl⟩; have HB3 := hid b3; clear b3)
        go_ret2
        exact ⟨past HB.out HB3.out, .inl ⟨HF.out, rfl⟩⟩
      | true =>
        have HBT : Hid (Calls Try.prog 7 #[.slice A1 q c1] wr fun e w' => Below wr.heap.size wr w' ∧ ∃ A3 m3 c3, e = .returned (.tuple #[.slice A3 m3 c3, .int .i64 0]) ∧ PIn w' A3 (buildP l) ∧ (buildP l).length = m3) := hid (HBD.out.mono (by
          rintro e w' ⟨h1, ⟨h2, -⟩ | ⟨-, A3, m3, c3, vs, h3, h4⟩⟩
          · rw [hmb] at h2; cases h2
          · exact ⟨h1, A3, m3, c3, h3, h4.pin, h4.pl⟩))
        have hmi := hmb
        have HFW : Hid ((buildP l).length ≤ 1000) := hid (by
          rw [build_len]
          have h600 : l.length ≤ 600 := by unfold mayP at hmi; simp at hmi; exact hmi.2
          have h1 := above7_le _ h600
          have h2 := pagesF_le (aboveN l.length 7) (aboveN l.length 7)
          omega)
        obtain ⟨t, ht⟩ : ∃ t, decide (buildP l = ls) = t := ⟨_, rfl⟩
        have HT : Hid (allP ls = if t = true then some l else none) := hid (by rw [HAP.out, ← ht]; simp [hmb])
        have HEQ := hid (fun (X : World) (A3 : Option Addr) (m3 c3 : Nat) (hp : PIn X A3 (buildP l)) (hx : PIn X A ls) (hm : (buildP l).length = m3) => eqfunc_any A3 A m3 c3 j c (buildP l) ls X hp hx hm HN.out (by rw [← hm]; exact HFW.out))
        rw [ht] at HEQ
        clear HBD hmb HAP hmi ht
        have HR := hid (Row.of_own HO.out)
        cases t with
        | true =>
          have HS : Hid (allP ls = some l) := hid (by rw [HT.out, if_pos rfl])
          clear HT
          go_wp2_with (first
            | (go_at_call 7; refine HBT.out.mono ?_; rintro e w3 ⟨b3, A3, m3, c3, rfl, h4, h5⟩; have HB3 := hid b3; have H4 := hid h4; have H5 := hid h5; clear b3 h4 h5)
            | (go_at_call 28; refine (HEQ.out _ A3 m3 c3 H4.out ((HL.out.below HB.out).below HB3.out) H5.out).mono ?_; rintro e w4 ⟨rfl, rfl⟩))
          go_ret2
          exact ⟨past HB.out HB3.out, .inr ⟨l, A1, q, c1, HS.out, rfl, HLN.out, HR.out.below HB3.out⟩⟩
        | false =>
          have HS : Hid (allP ls = none) := hid (by rw [HT.out, if_neg (by decide)])
          clear HT
          go_wp2_with (first
            | (go_at_call 7; refine HBT.out.mono ?_; rintro e w3 ⟨b3, A3, m3, c3, rfl, h4, h5⟩; have HB3 := hid b3; have H4 := hid h4; have H5 := hid h5; clear b3 h4 h5)
            | (go_at_call 28; refine (HEQ.out _ A3 m3 c3 H4.out ((HL.out.below HB.out).below HB3.out) H5.out).mono ?_; rintro e w4 ⟨rfl, rfl⟩))
          go_ret2
          exact ⟨past HB.out HB3.out, .inl ⟨HS.out, rfl⟩⟩
end Go.Proofs.Ytlhngieinmgooaa
