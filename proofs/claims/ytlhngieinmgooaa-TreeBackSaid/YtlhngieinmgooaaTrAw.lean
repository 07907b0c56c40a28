/-
  The law's pages, and the chapter's examples: walks; What is found of a laid tree; the examples, in plain Lean; The chapter's examples: the walk. A part of the proof: see the head of the text that ends in 'Law'.
-/
import Derived.Test.YtlhngieinmgooaaTrIs
import Derived.Test.YtlhngieinmgooaaTr23
namespace Go.Proofs.Ytlhngieinmgooaa
section
open Go.RowKit
set_option linter.unusedVariables false
set_option maxRecDepth 100000
attribute [local go_sem] Oper.semAt_some
/-- Of pages no more than is looked at. -/
def fewL (ls : List (List UInt8)) : List (List UInt8) := (ls.take 99).map fun l => l.take 130
theorem fewL_len (ls : List (List UInt8)) : (fewL ls).length = min 99 ls.length := by unfold fewL; rw [List.length_map, List.length_take]
theorem fewL_short (ls : List (List UInt8)) : ∀ l ∈ fewL ls, l.length ≤ 130 := by
  intro l hl
  obtain ⟨x, -, rfl⟩ := List.mem_map.1 hl
  rw [List.length_take]
  omega
theorem fewL_get (ls : List (List UInt8)) (j : Nat) (h1 : j < (fewL ls).length) (h2 : j < ls.length) : (fewL ls)[j]'h1 = (ls[j]'h2).take 130 := by
  have h3 : j < 99 := by rw [fewL_len] at h1; omega
  have e : (fewL ls)[j]? = some ((ls[j]'h2).take 130) := by
    show ((ls.take 99).map fun l => l.take 130)[j]? = _
    rw [List.getElem?_map, List.getElem?_take, if_pos h3, List.getElem?_eq_getElem h2]
    rfl
  rw [List.getElem?_eq_getElem h1] at e
  injection e
/-- Slices put in a row, of octets that stood ahead. -/
structure PgX (w0 W : World) (A : Option Addr) (j c : Nat) (ks : List (List UInt8)) : Prop where
  row : ∃ vs : List Value, W.ownsRow w0.heap.size 34 1 (.slice A j c) j vs ∧ vs.length = j ∧ ∀ (i : Nat) (h1 : i < vs.length) (h2 : i < ks.length), ∃ B k d, vs[i] = .slice B k d ∧ k ≤ d ∧ Oct w0 B k ks[i]
theorem PgX.pin {w0 W : World} {A : Option Addr} {j c : Nat} {ks : List (List UInt8)} (h : PgX w0 W A j c ks) (hk : ks.length = j) (hb : Below w0.heap.size w0 W) : PIn W A ks := by
  obtain ⟨vs, h1, h2, h3⟩ := h.row
  refine ⟨vs, by rw [h2, hk], Row.of_own h1, fun i k1 k2 => ?_⟩
  obtain ⟨B, k, d, e1, e2, e3⟩ := h3 i k1 k2
  exact ⟨B, k, d, e1, e2, e3.below hb⟩
set_option maxHeartbeats 8000000 in
theorem lpages_any (A : Option Addr) (n c : Nat) (ls : List (List UInt8)) (w : World) (hl : PIn w A ls) (hn : ls.length = n) (hc : n ≤ c) :
    Calls Try.prog 13 #[.slice A n c] w fun e w' => Below w.heap.size w w' ∧ ∃ A1 c1 B1 d1 m, e = .returned (.tuple #[.slice A1 m c1, .slice B1 m d1]) ∧ m ≤ 99 ∧ (fewL ls).length = m ∧ PIn w' A1 (fewL ls) ∧ Row w' B1 ((fewL ls).map SV) := by
  have HL := hid hl
  have HN := hid hn
  obtain ⟨m, hm⟩ : ∃ m, min 99 n = m := ⟨_, rfl⟩
  have HFL : Hid ((fewL ls).length = m) := hid (by rw [fewL_len, hn, hm])
  have hmn : m ≤ n := by omega
  have hm99 : m ≤ 99 := by omega
  have HFG : Hid (∀ (j : Nat) (h1 : j < (fewL ls).length) (h2 : j < ls.length), (fewL ls)[j]'h1 = (ls[j]'h2).take 130) := hid (fewL_get ls)
  have J0 : Hid (PgX w w none 0 0 (fewL ls) ∧ w.ownsRow w.heap.size 9 1 (.slice none 0 0) 0 (((fewL ls).take 0).map SV) ∧ Below w.heap.size w w) := hid ⟨⟨[], World.ownsRow_nil _ _ _ _, rfl, fun i h1 => absurd h1 (Nat.not_lt_zero _)⟩, World.ownsRow_nil _ _ _ _, Below.refl _ _⟩
  have haddr : 0 < n → ∃ b off, A = some ⟨b, off, none⟩ := fun h0 => by
    obtain ⟨b, off, hA, -⟩ := hl.at_ (by rw [hn]; exact h0)
    exact ⟨b, off, hA⟩
  have HAD := hid haddr
  clear hl hn haddr
  go_enter Try.func13, Try.ntmps13
  go_upto_if 10 with fail
  go_cut [0] (fun s0 wx => ∃ c', s0 = .slice A m c' ∧ w = wx)
  case first =>
    by_cases h99 : 99 < n
    · have g1 : decide ((99 : Int) < (n : Int)) = true := by rw [decide_eq_true_iff]; omega
      have g1n : decide (99 < n) = true := by simpa using h99
      have z1 : (99 : Int) ≤ (c : Int) := by omega
      have z2 : 99 ≤ c := by omega
      obtain ⟨b, off, rfl⟩ := HAD.out (by omega)
      obtain rfl : m = 99 := by omega
      clear hm
      go_wp2_with fail
      go_meet
      exact ⟨c, rfl, rfl⟩
    · have g1 : decide ((99 : Int) < (n : Int)) = false := by rw [decide_eq_false_iff_not]; omega
      have g1n : decide (99 < n) = false := by rw [decide_eq_false_iff_not]; exact h99
      obtain rfl : m = n := by omega
      clear hm
      go_wp2_with fail
      go_meet
      exact ⟨c, rfl, rfl⟩
  case rest =>
  obtain ⟨c', rfl, rfl⟩ := hcut
  clear hm HAD
  go_wp2_with fail
  go_loopw [4, 5, 6] (fun v4 v5 v6 wr => ∃ (j : Nat) (A1 : Option Addr) (c1 : Nat) (B1 : Option Addr) (d1 : Nat), j ≤ m ∧ v4 = .slice A1 j c1 ∧ v5 = .slice B1 j d1 ∧ v6 = .int .i64 (j : Int) ∧ Hid (PgX w wr A1 j c1 (fewL ls) ∧ wr.ownsRow w.heap.size 9 1 (.slice B1 j d1) j (((fewL ls).take j).map SV) ∧ Below w.heap.size w wr)) (fun v4 v5 v6 wr => m - (intOf v6).toNat)
  case atStart => exact ⟨0, none, 0, none, 0, Nat.zero_le _, rfl, rfl, rfl, J0⟩
  case round =>
    clear J0
    obtain ⟨j, A1, c1, B1, d1, hj, rfl, rfl, rfl, HI⟩ := hrel
    rename World => wr
    by_cases hlt : j < m
    · have g1 := lt_t hlt
      have g1' := lt_nt hlt
      have q0 : (0 : Int) ≤ (j : Int) := by omega
      have q1 : (j : Int) < (m : Int) := by omega
      have q2 : (j : Int).toNat = j := by omega
      have hj1 : j < ls.length := by rw [HN.out]; omega
      have hj2 : j < (fewL ls).length := by rw [HFL.out]; exact hlt
      obtain ⟨b1, o1, rfl, r1⟩ := HL.out.at_ (by rw [HN.out]; omega)
      obtain ⟨B, k, d, x1, hkd, p1⟩ := r1 j hj1
      have x2 := cells_keep HI.out.2.2 x1
      have hkl := p1.len
      obtain ⟨q, hq⟩ : ∃ q, min 130 k = q := ⟨_, rfl⟩
      have HPO : Hid (Oct w B q ((fewL ls)[j]'hj2)) := hid (by
        rw [HFG.out j hj2 hj1]
        rcases Nat.lt_or_ge 130 k with h | h
        · have := p1.take 130 (by omega)
          rw [show q = 130 by omega]
          exact this
        · rw [List.take_of_length_le (by rw [hkl]; exact h), show q = k by omega]
          exact p1)
      have had : 130 < k → ∃ b off, B = some ⟨b, off, none⟩ := fun h => by
        obtain ⟨b, off, hA, -⟩ := p1.at_ (by omega)
        exact ⟨b, off, hA⟩
      have HAD := hid had
      obtain ⟨x, hx⟩ : ∃ x, (fewL ls)[j]'hj2 = x := ⟨_, rfl⟩
      have HX : Hid (∃ h : j < (fewL ls).length, (fewL ls)[j]'h = x) := hid ⟨hj2, hx⟩
      rw [hx] at HPO
      clear hx had p1 hkl x1 r1
      go_upto_if 25 with fail
      go_cut [7] (fun s7 wx => ∃ d', s7 = .slice B q d' ∧ q ≤ d' ∧ wr = wx)
      case first =>
        by_cases h130 : 130 < k
        · have e1 : decide ((130 : Int) < (k : Int)) = true := by rw [decide_eq_true_iff]; omega
          have e1n : decide (130 < k) = true := by simpa using h130
          have z1 : (130 : Int) ≤ (d : Int) := by omega
          have z2 : 130 ≤ d := by omega
          obtain ⟨b, off, rfl⟩ := HAD.out h130
          obtain rfl : q = 130 := by omega
          clear hq
          go_wp2_with fail
          go_meet
          exact ⟨d, rfl, z2, rfl⟩
        · have e1 : decide ((130 : Int) < (k : Int)) = false := by rw [decide_eq_false_iff_not]; omega
          have e1n : decide (130 < k) = false := by rw [decide_eq_false_iff_not]; exact h130
          obtain rfl : q = k := by omega
          clear hq
          go_wp2_with fail
          go_meet
          exact ⟨d, rfl, hkd, rfl⟩
      case rest =>
      obtain ⟨d', rfl, hqd, rfl⟩ := hcut
      clear hq x2 HAD
      obtain ⟨vs, ho, hvl, hvs⟩ := HI.out.1.row
      have HO := hid ho
      have HVL := hid hvl
      have HVS := hid hvs
      have HXa := hid ((Below.refl wr.heap.size wr).alloc (Nat.le_refl _) (.cells #[.slice B q d'] 34))
      clear ho hvl hvs
      go_wp2_with (first
        | (refine wpList_append_row _ rfl (.tmp 28) (.tmp 30) pgsT rfl w.heap.size (.slice A1 j c1) j vs rfl (own_below HO.out HXa.out) (some ⟨wr.heap.size, 0, none⟩) 1 1 [.slice B q d'] rfl rfl (Row.of_block (heap_alloc_new wr (Obj.cells #[.slice B q d'] 34))) (by simp [Value.oneCell']) (by simp only [maxLen]; omega) (by omega) (past HI.out.2.2 HXa.out).size ?_
           intro A3 c3 w3 ho3 hg3 hh3
           have HB3 := hid ((past HI.out.2.2 HXa.out).grown hg3 (past HI.out.2.2 HXa.out).size (own_base (own_below HO.out HXa.out)))
           have HS3 := hid (own_grown (own_below HI.out.2.1 HXa.out) (own_below HO.out HXa.out) (by decide) hg3)
           have HO3 := hid ho3
           have hcv := strP d' (HPO.out.below HB3.out)
           have HX3 := hid ((Below.refl w3.heap.size w3).alloc (Nat.le_refl _) (.cells #[.string (str x)] 9))
           clear ho3 hg3 hh3)
        | (refine wpList_append_row _ rfl (.tmp 32) (.tmp 35) strT rfl w.heap.size (.slice B1 j d1) j (((fewL ls).take j).map SV) rfl (own_below HS3.out HX3.out) (some ⟨w3.heap.size, 0, none⟩) 1 1 [.string (str x)] rfl rfl (Row.of_block (heap_alloc_new w3 (Obj.cells #[.string (str x)] 9))) (by simp [Value.oneCell']) (by simp only [maxLen]; omega) (by omega) (past HB3.out HX3.out).size ?_
           intro A6 c6 w6 ho6 hg6 hh6
           have HFI : Hid (PgX w w6 A3 (j + 1) c3 (fewL ls) ∧ w6.ownsRow w.heap.size 9 1 (.slice A6 (j + 1) c6) (j + 1) (((fewL ls).take (j + 1)).map SV) ∧ Below w.heap.size w w6) := hid (by
             obtain ⟨hxl, hxe⟩ := HX.out
             refine ⟨⟨vs ++ [.slice B q d'], own_grown (own_below HO3.out HX3.out) (own_below HS3.out HX3.out) (by decide) hg6, by rw [List.length_append, HVL.out]; rfl, fun i h1 h2 => ?_⟩, ?_, (past HB3.out HX3.out).grown hg6 (past HB3.out HX3.out).size (own_base (own_below HS3.out HX3.out))⟩
             · rcases Nat.lt_or_ge i j with h3 | h3
               · have h4 : i < vs.length := by rw [HVL.out]; exact h3
                 rw [List.getElem_append_left h4]
                 exact HVS.out i h4 h2
               · have e : i = j := by rw [List.length_append, HVL.out, List.length_singleton] at h1; omega
                 subst e
                 refine ⟨B, q, d', ?_, hqd, by rw [hxe]; exact HPO.out⟩
                 rw [List.getElem_append_right (by rw [HVL.out]; exact Nat.le_refl _)]
                 simp
             · rw [List.take_succ_eq_append_getElem hxl, List.map_append, hxe]
               exact ho6)
           clear ho6 hg6 hh6))
      go_roundw
      case rel => exact ⟨j + 1, A3, c3, A6, c6, by omega, rfl, rfl, by go_num, HFI⟩
      case measure => simp [intOf]; omega
    · have g1 := lt_f hlt
      have g1' := lt_nf hlt
      have hjm : j = m := by omega
      subst hjm
      go_wp2_with fail
      go_ret2
      refine ⟨HI.out.2.2, A1, c1, B1, d1, j, rfl, hm99, HFL.out, HI.out.1.pin HFL.out HI.out.2.2, ?_⟩
      have h := Row.of_own HI.out.2.1
      rw [List.take_of_length_le (by rw [HFL.out]; exact Nat.le_refl _)] at h
      exact h
end
section
open Go.RowKit
set_option linter.unusedVariables false
set_option maxRecDepth 100000
attribute [local go_sem] Oper.semAt_some
def aw1 : List Pa := [⟨5, 9⟩]
theorem aw1_len : (buildP aw1).length = 1 := by rw [build_len]; decide
theorem aw8_len : (buildP (someP 8)).length = 3 := by rw [build_len]; decide
theorem aw8_ok : ∀ p ∈ someP 8, p.ok := by
  intro p hp
  obtain ⟨i, hi, rfl⟩ := List.mem_map.1 hp
  rw [List.mem_range] at hi
  exact ⟨by show i + 1 < _; omega, by show 3 * (i + 1) < _; omega⟩
theorem aw1_ok : ∀ p ∈ aw1, p.ok := by
  intro p hp
  rw [show aw1 = [⟨5, 9⟩] from rfl, List.mem_singleton] at hp
  subst hp
  exact ⟨by decide, by decide⟩
/-- A key of a laid tree is found. -/
theorem find_hit (l : List Pa) (hm : mayP l = true) (hok : ∀ p ∈ l, p.ok) (A : Option Addr) (n c : Nat) (p : Pa) (hp : p ∈ l) (hu : ∀ q ∈ l, q.key = p.key → q = p) (w : World) (hl : PIn w A (buildP l)) (hn : (buildP l).length = n) (h0 : 0 < n) (hs : n ≤ 200) :
    Calls Try.prog 17 #[.slice A n c, .int .u64 (p.key : Int)] w fun e w' => Below w.heap.size w w' ∧ e = .returned (.tuple #[.int .u64 (p.val : Int), .int .i64 (levN l.length : Int), .int .i64 0]) :=
  (find_any A n c p.key (buildP l) w hl hn h0 hs (build_good l hm hok)).mono fun e w' ⟨h1, v, m, x, h2, h3⟩ => ⟨h1, by
    rw [← hn] at h3
    rcases find_build l hm hok p.key v m x h3 with ⟨q, q1, q2, q3, q4, q5⟩ | ⟨q1, -⟩
    · have := hu q q1 q2
      subst this
      rw [h2, q3, q4, q5]
    · exact absurd rfl (q1 p hp)⟩
/-- No other key is. -/
theorem find_miss (l : List Pa) (hm : mayP l = true) (hok : ∀ p ∈ l, p.ok) (A : Option Addr) (n c key : Nat) (hk : ∀ p ∈ l, p.key ≠ key) (w : World) (hl : PIn w A (buildP l)) (hn : (buildP l).length = n) (h0 : 0 < n) (hs : n ≤ 200) :
    Calls Try.prog 17 #[.slice A n c, .int .u64 (key : Int)] w fun e w' => Below w.heap.size w w' ∧ ∃ v m : Nat, e = .returned (.tuple #[.int .u64 (v : Int), .int .i64 (m : Int), .int .i64 6]) ∧ 1 ≤ m ∧ m ≤ levN l.length :=
  (find_any A n c key (buildP l) w hl hn h0 hs (build_good l hm hok)).mono fun e w' ⟨h1, v, m, x, h2, h3⟩ => ⟨h1, by
    rw [← hn] at h3
    rcases find_build l hm hok key v m x h3 with ⟨q, q1, q2, -⟩ | ⟨-, q2, q3, q4⟩
    · exact absurd q2 (hk q q1)
    · subst q2
      exact ⟨v, m, h2, q3, q4⟩⟩
end
section
open Go.RowKit
set_option linter.unusedVariables false
set_option maxRecDepth 100000
attribute [local go_sem] Oper.semAt_some
set_option maxHeartbeats 4000000 in
theorem awake_any (w : World) : Calls Try.prog 12 #[] w fun e w' => e = .returned (.bool true) ∧ Below w.heap.size w w' := by
  have m1 : mayP aw1 = true := by decide
  have m8 : mayP (someP 8) = true := by decide
  obtain ⟨P1, hP1⟩ : ∃ P1, buildP aw1 = P1 := ⟨_, rfl⟩
  obtain ⟨P8, hP8⟩ : ∃ P8, buildP (someP 8) = P8 := ⟨_, rfl⟩
  have HB1 := hid (fun (W : World) (A : Option Addr) (hr : Row W A [.int .u64 5, .int .u64 9]) => (build_any A 1 1 aw1 W hr rfl (by omega) (by omega) aw1_ok).mono (R' := fun e w' => Below W.heap.size W w' ∧ ∃ A3 c3, e = .returned (.tuple #[.slice A3 1 c3, .int .i64 0]) ∧ PIn w' A3 P1) (by
    rintro e w' ⟨h1, ⟨h2, -⟩ | ⟨-, A3, k3, c3, vs, h3, h4⟩⟩
    · rw [m1] at h2; cases h2
    · have hk := h4.pl
      rw [aw1_len] at hk
      subst hk
      exact ⟨h1, A3, c3, h3, hP1 ▸ h4.pin⟩))
  have HB8 := hid (fun (W : World) (A : Option Addr) (c : Nat) (hr : Row W A ((someP 8).flatMap paC)) (hc : 8 ≤ c) => (build_any A 8 c (someP 8) W hr rfl hc (by omega) aw8_ok).mono (R' := fun e w' => Below W.heap.size W w' ∧ ∃ A3 c3, e = .returned (.tuple #[.slice A3 3 c3, .int .i64 0]) ∧ PIn w' A3 P8) (by
    rintro e w' ⟨h1, ⟨h2, -⟩ | ⟨-, A3, k3, c3, vs, h3, h4⟩⟩
    · rw [m8] at h2; cases h2
    · have hk := h4.pl
      rw [aw8_len] at hk
      subst hk
      exact ⟨h1, A3, c3, h3, hP8 ▸ h4.pin⟩))
  have HF5 := hid (fun (W : World) (A : Option Addr) (c : Nat) (hp : PIn W A P1) => (show Calls Try.prog 17 #[.slice A 1 c, .int .u64 5] W (fun e w' => Below W.heap.size W w' ∧ e = .returned (.tuple #[.int .u64 9, .int .i64 1, .int .i64 0])) from
    find_hit aw1 m1 aw1_ok A 1 c ⟨5, 9⟩ (List.mem_singleton.2 rfl) (fun q hq _ => List.mem_singleton.1 hq) W (hP1 ▸ hp) aw1_len (by omega) (by omega)))
  have HF6 := hid (fun (W : World) (A : Option Addr) (c : Nat) (hp : PIn W A P1) => (show Calls Try.prog 17 #[.slice A 1 c, .int .u64 6] W (fun e w' => Below W.heap.size W w' ∧ ∃ v : Nat, e = .returned (.tuple #[.int .u64 (v : Int), .int .i64 1, .int .i64 6])) from
    (find_miss aw1 m1 aw1_ok A 1 c 6 (fun p hp => by rw [List.mem_singleton.1 hp]; decide) W (hP1 ▸ hp) aw1_len (by omega) (by omega)).mono (by
      rintro e w' ⟨h1, v, m, h2, h3, h4⟩
      have : m = 1 := by
        have e1 : levN aw1.length = 1 := rfl
        omega
      subst this
      exact ⟨h1, v, h2⟩)))
  have HF8 := hid (fun (W : World) (A : Option Addr) (c : Nat) (hp : PIn W A P8) => (show Calls Try.prog 17 #[.slice A 3 c, .int .u64 8] W (fun e w' => Below W.heap.size W w' ∧ e = .returned (.tuple #[.int .u64 24, .int .i64 2, .int .i64 0])) from
    find_hit (someP 8) m8 aw8_ok A 3 c ⟨8, 24⟩ (by decide) (by decide) W (hP8 ▸ hp) aw8_len (by omega) (by omega)))
  have HSO := hid (fun W : World => (show Calls Try.prog 9 #[.int .i64 8] W _ from some_any 8 W (by omega)))
  have HPA := hid (fun W : World => (show Calls Try.prog 10 #[.int .i64 600] W (fun e w' => e = .returned (.int .i64 95) ∧ W = w') from (pages_any 600 W (by omega)).mono (by
    rintro e w' ⟨h1, h2⟩
    exact ⟨by rw [h1, show pagesI 600 = 95 by decide]; rfl, h2⟩)))
  clear hP1 hP8 m1 m8
  go_enter Try.func12, Try.ntmps12
  have hal := (Below.refl _ w).alloc (Nat.le_refl _) (.cells #[.int .u64 5, .int .u64 9] 48)
  have HAL := hid hal
  have HRW : Hid (Row (w.alloc (.cells #[.int .u64 5, .int .u64 9] 48)) (some ⟨w.heap.size, 0, none⟩) [.int .u64 5, .int .u64 9]) := hid (Row.of_block (heap_alloc_new w (Obj.cells #[.int .u64 5, .int .u64 9] 48)))
  clear hal
  go_wp2_with (first
    | (go_at_call 7; (with_reducible refine (HB1.out _ _ HRW.out).mono ?_); rintro e w1 ⟨b1, A1, c1, rfl, p1⟩; have B1 := hid (past HAL.out b1); have P1_ := hid p1; clear b1 p1)
    | (go_at_call 17; (with_reducible refine (HF5.out w1 A1 c1 P1_.out).mono ?_); rintro e w2 ⟨b2, rfl⟩; have B2 := hid (past B1.out b2); have P2_ := hid (P1_.out.below b2); clear b2)
    | (go_at_call 17; (with_reducible refine (HF6.out w2 A1 c1 P2_.out).mono ?_); rintro e w3 ⟨b3, v3, rfl⟩; have B3 := hid (past B2.out b3); clear b3)
    | (go_at_call 9; refine (HSO.out _).mono ?_; rintro e w4 ⟨A4, c4, rfl, o4, b4⟩; have B4 := hid (past B3.out b4); have R4 := hid (Row.of_own o4); have C4 := (own_cap o4).1; clear b4 o4)
    | (go_at_call 7; (with_reducible refine (HB8.out _ A4 c4 R4.out C4).mono ?_); rintro e w5 ⟨b5, A5, c5, rfl, p5⟩; have B5 := hid (past B4.out b5); have P5_ := hid p5; clear b5 p5)
    | (go_at_call 17; (with_reducible refine (HF8.out w5 A5 c5 P5_.out).mono ?_); rintro e w6 ⟨b6, rfl⟩; have B6 := hid (past B5.out b6); clear b6)
    | (go_at_call 10; refine (HPA.out _).mono ?_; rintro e w7 ⟨rfl, rfl⟩))
  go_ret
  exact ⟨rfl, B6.out⟩
end
end Go.Proofs.Ytlhngieinmgooaa
