/-
  LineBounds: the walk. A part of the proof: see the head of the text that ends in 'Law'.
-/
import Derived.Test.YtlddhgnecfgnkaaLiTwo
import Derived.Test.YtlddhgnecfgnkaaLiBPlain
import Derived.Test.YtlddhgnecfgnkaaLiLen
import Derived.Lib.AtoiErrMem
namespace Go.Proofs.Ytlddhgnecfgnkaa
open Go.RowKit
set_option linter.unusedVariables false
attribute [local go_sem] Oper.semAt_some

theorem one_strB (X : World) (x : UInt8) (fr : Nat × Nat) : (convert 28 9 (.slice (some ⟨X.heap.size, 0, none⟩) 1 1)).run Try.prog (X.alloc (.cells #[.int .u8 (x.toNat : Int)] 5 fr)) = .ok (.string (str [x])) (X.alloc (.cells #[.int .u8 (x.toNat : Int)] 5 fr)) :=
  run_string_oct 1 (Oct.of_block [x] (heap_alloc_new X _) rfl) Try.underlying28 Try.underlying5 Try.underlying9
theorem bw_oct (W : World) (e : TypeId) (y : List UInt8) : Oct (Lib.bytesWorld W e (str y)) (some ⟨W.heap.size, 0, none⟩) y.length y := by
  refine ⟨rfl, fun hne => ⟨W.heap.size, 0, rfl, fun i v hi => ?_⟩⟩
  have hlt : i < y.length := by
    rcases Nat.lt_or_ge i y.length with h | h
    · exact h
    · rw [List.getElem?_eq_none (by simpa using h)] at hi
      cases hi
  rw [Nat.zero_add, Lib.bytesWorld_cell W e (str y) i (by rw [str_size]; exact hlt), str_toList]
  rw [List.getElem?_map, List.getElem?_eq_getElem hlt] at hi
  simp at hi
  rw [← hi, List.getD_eq_getElem?_getD, List.getElem?_eq_getElem hlt]
  rfl
theorem oct_lt {w : World} {A : Option Addr} {n : Nat} {l : List UInt8} (h : Oct w A n l) : ∀ a, A = some a → l ≠ [] → a.block < w.heap.size := by
  intro a ha hne
  have hpos : 0 < l.length := List.length_pos_iff.2 hne
  obtain ⟨b, off, hA, hc⟩ := h.at_ (by rw [← h.1]; exact hpos)
  have h0 := hc 0 hpos
  rw [hA] at ha
  injection ha with ha
  subst ha
  rcases Nat.lt_or_ge b w.heap.size with hlt | hge
  · exact hlt
  · have hn : w.heap[b]? = none := Array.getElem?_eq_none hge
    simp [World.cell?, hn] at h0
def szOf : Value → Nat
  | .string b => b.size
  | _ => 0
theorem RSt.new {w w1 : World} {b : World} (hw : w.heap.size ≤ b.heap.size) (h : RdAt w1 b.heap.size b.heap.size (.slice none 0 0) (.slice none 0 0) nilR) : RSt w w1 b.heap.size nilR :=
  ⟨_, _, ⟨hw, h.cells, own_low h.ps hw, own_low h.hv hw⟩⟩

/-- Octets of a text are fed. -/
theorem feed_str (w0 X : World) (r q : Nat) (R Q : Rdr) (y : List UInt8) (c : Nat) (R' : Rdr) (xs : List Inp) (n : Nat) (h : Two w0 X r q R Q noU) (bel : Below w0.heap.size w0 X) (hG : GM w0) (hok : Rok R) (hy : y.length ≤ 100000) (hf : feedR R y = (R', xs)) (hn : xs.length = n) :
    Calls Try.prog 10 #[.pointer (some ⟨r, 0, none⟩), .slice (some ⟨X.heap.size, 0, none⟩) (str y).size c] (Lib.bytesWorld X 5 (str y)) fun e w' => ∃ A' c', e = .returned (.slice A' n c') ∧ TwoP w0 (Lib.bytesWorld X 5 (str y)) r q R' Q noU xs A' n c' w' := by
  have hb := Lib.bytesWorld_below X 5 (str y)
  have T := h.only (U' := fun g => g = X.heap.size) (Only.of_below hb) (fun g hg => .inr ⟨by omega, by rw [Lib.bytesWorld_size]; omega⟩)
  refine (feed_two w0 _ r q R Q _ (some ⟨X.heap.size, 0, none⟩) y.length c y T (next bel hb) hG hok (bw_oct X _ y) hy (fun a ha _ => .inr (by injection ha with ha; rw [← ha]))).mono ?_
  rintro e w' ⟨A', n', c', he, hP⟩
  have h1 := hP.len
  rw [hf] at hP h1
  dsimp only at hP h1
  rw [hn] at h1
  subst h1
  exact ⟨A', c', he, ⟨hP.len, hP.out, hP.two.only (U' := noU) (Only.refl _ _) (fun g hg => absurd hg id), hP.bel, hP.keep, fun V n xs k hU => hP.bytes V n xs k (fun g hg => absurd (hU g hg) id), hP.size⟩⟩



set_option maxRecDepth 100000 in
set_option maxHeartbeats 4000000 in
theorem walkLineBounds (k0 k1 : Nat) (A0 : Option Addr) (n0 c0 : Nat) (l0 : List UInt8) (w : World) (hk0 : (k0 : Int) ≤ IntKind.u8.max) (hk1 : (k1 : Int) ≤ IntKind.u8.max) (ho0 : Oct w A0 n0 l0) (hn0 : n0 ≤ c0) (hc0 : c0 ≤ maxLen) (hG : GM w) :
    Calls Try.prog 6 #[.int .u8 k0, .int .u8 k1, .slice A0 n0 c0] w fun e w' => e = .returned (.bool true) ∧ Below w.heap.size w w' := by
  have HG := hid hG
  have HA0 := hid (oct_lt ho0)
  have hk0' : k0 ≤ 255 := by
    have : IntKind.u8.max = 255 := by decide
    omega
  have hk1' : k1 ≤ 255 := by
    have : IntKind.u8.max = 255 := by decide
    omega
  obtain ⟨x, hx⟩ : ∃ x : UInt8, x.toNat = k0 := ⟨UInt8.ofNat k0, by simp; omega⟩
  subst hx
  clear hk0 hk1 hk0' hG
  go_enter Try.func6, Try.ntmps6
  go_upto_if 14 with fail
  go_cut [2] (fun s0 wx => (∃ (n : Nat) (l : List UInt8), s0 = .slice A0 n c0 ∧ Hid (n ≤ 300) ∧ Hid (Oct w A0 n l ∧ ∀ a, A0 = some a → l ≠ [] → a.block < w.heap.size)) ∧ w = wx)
  case first =>
    by_cases h : 300 < n0
    · have hd : decide ((300 : Int) < n0) = true := by simp; omega
      have hd' : decide (300 < n0) = true := by simpa using h
      have hc1 : (300 : Int) ≤ c0 := by omega
      have hc2 : ¬ c0 = 0 := by omega
      have HO : Hid (Oct w A0 300 (l0.take 300) ∧ ∀ a, A0 = some a → l0.take 300 ≠ [] → a.block < w.heap.size) := hid ⟨ho0.take 300 (by omega), fun a ha hne => HA0.out a ha (by intro e; rw [e] at hne; simp at hne)⟩
      clear ho0 HG
      go_wp2_with fail
      go_meet
      exact ⟨⟨300, _, rfl, hid (by omega), HO⟩, rfl⟩
    · have hd : decide ((300 : Int) < n0) = false := by simp; omega
      have hd' : decide (300 < n0) = false := by simpa using h
      have HO := hid (And.intro ho0 HA0.out)
      have HN := hid (show n0 ≤ 300 by omega)
      clear ho0 HG
      go_wp2_with fail
      go_meet
      exact ⟨⟨n0, _, rfl, HN, HO⟩, rfl⟩
  case rest =>
  obtain ⟨⟨n, l, rfl, HN, HO⟩, rfl⟩ := hcut
  clear ho0 hn0 hc0 HA0
  go_upto_region 4 with fail
  go_cut [47] from 18 to 47 (fun t wx => (∃ b : Bool, t = .bool b ∧ Hid (b = false → goodC x)) ∧ w = wx)
  case first =>
    have e : ∀ k : Nat, x.toNat ≠ k → ((x.toNat : Int) == (k : Int)) = false := fun k h => by rw [beq_eq_false_iff_ne]; omega
    by_cases h1 : x.toNat < 33
    · have c1 : decide ((x.toNat : Int) < 33) = true := by simp; omega
      have c1' : decide (x.toNat < 33) = true := by simpa using h1
      clear h1 e
      clear HG
      go_wp2_with fail
      go_meet
      exact ⟨⟨true, rfl, hid (by intro h; cases h)⟩, rfl⟩
    have c1 : decide ((x.toNat : Int) < 33) = false := by simp; omega
    have c1' : decide (x.toNat < 33) = false := by simpa using h1
    by_cases h2 : 126 < x.toNat
    · have c2 : decide (126 < (x.toNat : Int)) = true := by simp; omega
      have c2' : decide (126 < x.toNat) = true := by simpa using h2
      clear h1 h2 e
      clear HG
      go_wp2_with fail
      go_meet
      exact ⟨⟨true, rfl, hid (by intro h; cases h)⟩, rfl⟩
    have c2 : decide (126 < (x.toNat : Int)) = false := by simp; omega
    have c2' : decide (126 < x.toNat) = false := by simpa using h2
    by_cases h3 : x.toNat = 34
    · have c3 : ((x.toNat : Int) == 34) = true := by simp; omega
      clear h1 h2 h3 e
      clear HG
      go_wp2_with fail
      go_meet
      exact ⟨⟨true, rfl, hid (by intro h; cases h)⟩, rfl⟩
    have c3 : ((x.toNat : Int) == 34) = false := e 34 h3
    by_cases h4 : x.toNat = 40
    · have c4 : ((x.toNat : Int) == 40) = true := by simp; omega
      clear h1 h2 h3 h4 e
      clear HG
      go_wp2_with fail
      go_meet
      exact ⟨⟨true, rfl, hid (by intro h; cases h)⟩, rfl⟩
    have c4 : ((x.toNat : Int) == 40) = false := e 40 h4
    by_cases h5 : x.toNat = 41
    · have c5 : ((x.toNat : Int) == 41) = true := by simp; omega
      clear h1 h2 h3 h4 h5 e
      clear HG
      go_wp2_with fail
      go_meet
      exact ⟨⟨true, rfl, hid (by intro h; cases h)⟩, rfl⟩
    have c5 : ((x.toNat : Int) == 41) = false := e 41 h5
    by_cases h6 : x.toNat = 91
    · have c6 : ((x.toNat : Int) == 91) = true := by simp; omega
      clear h1 h2 h3 h4 h5 h6 e
      clear HG
      go_wp2_with fail
      go_meet
      exact ⟨⟨true, rfl, hid (by intro h; cases h)⟩, rfl⟩
    have c6 : ((x.toNat : Int) == 91) = false := e 91 h6
    by_cases h7 : x.toNat = 123
    · have c7 : ((x.toNat : Int) == 123) = true := by simp; omega
      clear h1 h2 h3 h4 h5 h6 h7 e
      clear HG
      go_wp2_with fail
      go_meet
      exact ⟨⟨true, rfl, hid (by intro h; cases h)⟩, rfl⟩
    have c7 : ((x.toNat : Int) == 123) = false := e 123 h7
    by_cases h8 : x.toNat = 125
    · have c8 : ((x.toNat : Int) == 125) = true := by simp; omega
      clear h1 h2 h3 h4 h5 h6 h7 h8 e
      clear HG
      go_wp2_with fail
      go_meet
      exact ⟨⟨true, rfl, hid (by intro h; cases h)⟩, rfl⟩
    have c8 : ((x.toNat : Int) == 125) = false := e 125 h8
    have HGD : Hid (goodC x) := hid ⟨by omega, by omega, h3, h4, h5, h6, h7, h8⟩
    clear h1 h2 h3 h4 h5 h6 h7 h8 e HG
    go_wp2_with fail
    go_meet
    exact ⟨⟨false, rfl, hid (fun _ => HGD.out)⟩, rfl⟩
  case rest =>
  obtain ⟨⟨bb, rfl, HBB⟩, rfl⟩ := hcut
  go_upto_if 47 with fail
  go_cut [7] (fun s7 wx => (∃ c : UInt8, s7 = .int .u8 (c.toNat : Int) ∧ Hid (goodC c)) ∧ w = wx)
  case first =>
    cases bb with
    | true =>
      clear HBB HG
      go_wp2_with fail
      go_meet
      exact ⟨⟨120, rfl, hid (by unfold goodC; decide)⟩, rfl⟩
    | false =>
      have HGD := hid (HBB.out rfl)
      clear HG HBB
      go_wp2_with fail
      go_meet
      exact ⟨⟨x, rfl, HGD⟩, rfl⟩
  case rest =>
  obtain ⟨⟨c, rfl, HC⟩, rfl⟩ := hcut
  obtain ⟨m, hm⟩ : ∃ m, k1 % 3 = m := ⟨_, rfl⟩
  have hm2 : m ≤ 2 := by omega
  have hr1 : Int.tmod (k1 : Int) 3 = (m : Int) := by rw [Int.tmod_eq_emod_of_nonneg (by omega)]; omega
  have hr2 : (k1 : Int) % 3 = (m : Int) := by omega
  have HK := hid hm
  clear hm
  have B0 := hid (Below.refl w.heap.size w)
  go_wp2_with fail
  go_loopw [8] (fun s X => ∃ j : Nat, j ≤ m + 597 ∧ s = .string (str (fillL c j)) ∧ Hid (Below w.heap.size w X)) (fun s X => 700 - szOf s)
  case atStart => exact ⟨0, by omega, rfl, B0⟩
  case round =>
    clear B0
    obtain ⟨j, hj, rfl, hI⟩ := hrel
    obtain ⟨s, hs⟩ : ∃ s, fillL c j = s := ⟨_, rfl⟩
    have hz0 : (str s).size = j + 2 := by rw [str_size, ← hs, fillL_len]
    have HZ := hid hz0
    have hz : (str s).size ≤ 700 := by omega
    rw [hs]
    have HS := hid hs
    by_cases hlt : j < m + 597
    · have d1 : decide (((str s).size : Int) < 600 + (m : Int) - 1) = true := by rw [decide_eq_true_iff]; omega
      have happ : str s ++ str [c] = str (s ++ [c]) := str_append s [c]
      have hz1 : (str [c]).size ≤ 1 := by rw [str_size]; simp
      have kone := one_strB wr c (0, 0)
      have HJ := hid hlt
      clear hs hz0 hlt hj
      go_wp2_with fail
      go_roundw
      case rel =>
        have := HJ.out
        exact ⟨j + 1, by omega, by rw [fillL_succ, HS.out], hid (below_alloc hI.out _)⟩
      case measure =>
        have := HZ.out
        have := HJ.out
        have h2 : (str (s ++ [c])).size = j + 3 := by rw [str_size, List.length_append, ← str_size, HZ.out]; rfl
        simp [szOf, h2]
        omega
    · have d1 : decide (((str s).size : Int) < 600 + (m : Int) - 1) = false := by rw [decide_eq_false_iff_not]; omega
      have hj2 : j = (m + 596) + 1 := by omega
      have hfeed : ∃ x : Inp, feedR nilR (s ++ [13, 10]) = (nilR, [x]) ∧ x.tag = [116] ∧ x.kind = if 600 < (m + 596) + 3 then 3 else 0 := by
        have := feed_fill c HC.out (m + 596) (by omega)
        rw [← hj2, hs] at this
        exact this
      obtain ⟨⟨xk, xt, xl⟩, hf1, hf2, hf3⟩ := hfeed
      dsimp only at hf2 hf3
      subst hf2
      have HF1 := hid hf1
      have HF3 := hid hf3
      obtain ⟨y, hy⟩ : ∃ y, s ++ [13, 10] = y := ⟨_, rfl⟩
      rw [hy] at HF1
      have happ : str s ++ (⟨#[13, 10]⟩ : ByteArray) = str y := by rw [← hy]; exact str_append s [13, 10]
      have hyl : y.length = (str s).size + 2 := by rw [← hy, str_size]; simp
      have HYL := hid hyl
      have kb := fun (W : World) => Lib.run_convert_string_bytes (P := Try.prog) W 9 28 5 (str y) Try.underlying9 Try.underlying28 Try.underlying5
      have B := hid hI.out
      have HM := hid hm2
      have HSZ : Hid ((str s).size = m + 599) := hid (by omega)
      clear hs hz0 hlt hj hj2 hf1 hf3 hy hyl hI
      go_upto_region 12 with (first
        | (go_at_call 9; have S1 := S.out; refine (new_any _).mono ?_; rintro e w2 ⟨rfl, s2, b2⟩; have T := hid (Two.new S1 b2 s2 B.out.size); have B := hid (next B.out b2); clear s2 b2 S1)
        | (go_at_call 9; refine (new_any _).mono ?_; rintro e w1 ⟨rfl, s1, b1⟩; have S := hid (RSt.new B.out.size s1); have B := hid (next B.out b1); clear s1 b1))
      have T0 := hid (T.out.below (Lib.bytesWorld_below _ 5 (str y)))
      have HFS := hid (fun (X : World) (c qq : Nat) (h : Two w X wr.heap.size qq nilR nilR noU) (bel : Below w.heap.size w X) => feed_str w X _ _ _ _ y c _ _ 1 h bel HG.out nilR_ok (by have := HYL.out; omega) HF1.out rfl)
      go_upto_region 13 with (go_at_call 10; refine (HFS.out _ _ _ T.out B.out).mono ?_; rintro e w3 ⟨A1, c1, rfl, hP⟩; have P := hid hP; clear hP)
      have B := hid P.out.bel
      have T := hid P.out.two
      obtain ⟨b1, off1, hA1, hcell1⟩ := P.out.out.row.cell (by omega)
      subst hA1
      obtain ⟨A2, c2, p0, p1, -, -⟩ := hcell1 0 (by simp)
      simp only [Nat.zero_mul, Nat.add_zero, List.getElem_cons_zero] at p0 p1
      have hst : str [116] = (⟨#[116]⟩ : ByteArray) := rfl
      rw [hst] at p1
      clear hcell1 hst HFS
      obtain ⟨⟨R', xs⟩, hfl⟩ : ∃ p, feedR nilR l = p := ⟨_, rfl⟩
      have HR1 := hid (fun (X : World) (r q : Nat) (Q : Rdr) (h : Two w X r q nilR Q noU) (bel : Below w.heap.size w X) => feed_two w X r q nilR Q noU A0 n c0 l h bel HG.out nilR_ok (HO.out.1.below bel) (by have := HN.out; omega) (fun a ha hne => .inl (HO.out.2 a ha hne)))
      rw [hfl] at HR1
      have HLN : Hid (xs.length ≤ 100000) := hid (by have h5 := feed_len l nilR; rw [hfl] at h5; dsimp only at h5; have := HN.out; have := HO.out.1.1; omega)
      have HTK : Hid (∀ x ∈ xs, x.l.length ≤ 100000) := hid (by have := feed_toks l nilR nilR_ok; rw [hfl] at this; exact this)
      obtain ⟨n5, hn5⟩ : ∃ n, xs.length = n := ⟨_, rfl⟩
      have HN5 := hid hn5
      have hww : ((R'.wait : Int) == (R'.wait : Int)) = true := by simp
      have HGX := hid (HG.out.below B.out)
      clear hfl hn5
      by_cases h600 : 600 < (str s).size
      · have d6 : decide ((600 : Int) < ((str s).size : Int)) = true := by simp; omega
        have d6' : decide (600 < (str s).size) = true := by simpa using h600
        obtain rfl : xk = 3 := by rw [HF3.out, if_pos (by have := HSZ.out; omega)]
        clear h600
        go_wp2_with (first
          | (go_at_call 10; have o4 := O4.out; refine (HR1.out _ _ _ _ T.out B.out).mono ?_; rintro e w5 ⟨A5, n5', c5, rfl, hP5⟩; have e5 := hP5.len.trans HN5.out; subst e5; have O4 := hid (hP5.keep _ _ _ _ _ o4); have O5 := hid hP5.out; have T := hid hP5.two; have B := hid hP5.bel; clear hP5 o4)
          | (go_at_call 10; refine (HR1.out _ _ _ _ T.out B.out).mono ?_; rintro e w4 ⟨A4, n4, c4, rfl, hP4⟩; have e4 := hP4.len.trans HN5.out; subst e4; have O4 := hid hP4.out; have T := hid hP4.two.swap; have B := hid hP4.bel; clear hP4)
          | (go_at_call 11; refine (same_eq _ _ _ _ _ _ _ xs _ O4.out.row O5.out.row (by rw [← HN5.out]; exact HLN.out) HTK.out).mono ?_; rintro e w6 ⟨rfl, b6⟩; have T := hid (T.out.below b6); have B := hid (next B.out b6); clear b6)
          | (go_at_call 12; refine (wait_two T.out.swap).mono ?_; rintro e w7 ⟨rfl, rfl⟩)
          | (go_at_call 12; refine (wait_two T.out).mono ?_; rintro e w8 ⟨rfl, rfl⟩)
          | (go_at_call 7; refine (awake_any _ (HG.out.below B.out)).mono ?_; rintro e w9 ⟨rfl, b9⟩; have B := hid (next B.out b9); clear b9))
        go_ret
        exact ⟨rfl, B.out⟩
      · have d6 : decide ((600 : Int) < ((str s).size : Int)) = false := by simp; omega
        have d6' : decide (600 < (str s).size) = false := by simpa using h600
        obtain rfl : xk = 0 := by rw [HF3.out, if_neg (by have := HSZ.out; omega)]
        clear h600
        go_wp2_with (first
          | (go_at_call 10; have o4 := O4.out; refine (HR1.out _ _ _ _ T.out B.out).mono ?_; rintro e w5 ⟨A5, n5', c5, rfl, hP5⟩; have e5 := hP5.len.trans HN5.out; subst e5; have O4 := hid (hP5.keep _ _ _ _ _ o4); have O5 := hid hP5.out; have T := hid hP5.two; have B := hid hP5.bel; clear hP5 o4)
          | (go_at_call 10; refine (HR1.out _ _ _ _ T.out B.out).mono ?_; rintro e w4 ⟨A4, n4, c4, rfl, hP4⟩; have e4 := hP4.len.trans HN5.out; subst e4; have O4 := hid hP4.out; have T := hid hP4.two.swap; have B := hid hP4.bel; clear hP4)
          | (go_at_call 11; refine (same_eq _ _ _ _ _ _ _ xs _ O4.out.row O5.out.row (by rw [← HN5.out]; exact HLN.out) HTK.out).mono ?_; rintro e w6 ⟨rfl, b6⟩; have T := hid (T.out.below b6); have B := hid (next B.out b6); clear b6)
          | (go_at_call 12; refine (wait_two T.out.swap).mono ?_; rintro e w7 ⟨rfl, rfl⟩)
          | (go_at_call 12; refine (wait_two T.out).mono ?_; rintro e w8 ⟨rfl, rfl⟩)
          | (go_at_call 7; refine (awake_any _ (HG.out.below B.out)).mono ?_; rintro e w9 ⟨rfl, b9⟩; have B := hid (next B.out b9); clear b9))
        go_ret
        exact ⟨rfl, B.out⟩
end Go.Proofs.Ytlddhgnecfgnkaa
