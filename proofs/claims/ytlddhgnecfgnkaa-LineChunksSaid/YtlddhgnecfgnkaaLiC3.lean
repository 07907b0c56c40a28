/-
  LineChunks: the walk. A part of the proof: see the head of the text that ends in 'Law'.
-/
import Derived.Test.YtlddhgnecfgnkaaLiC2
import Derived.Test.YtlddhgnecfgnkaaLiLen
namespace Go.Proofs.Ytlddhgnecfgnkaa
open Go.RowKit
set_option linter.unusedVariables false
attribute [local go_sem] Oper.semAt_some

theorem oct_ltC {w : World} {A : Option Addr} {n : Nat} {l : List UInt8} (h : Oct w A n l) : ∀ a, A = some a → l ≠ [] → a.block < w.heap.size := by
  intro a ha hne
  have hpos : 0 < l.length := List.length_pos_iff.2 hne
  obtain ⟨b, off, hA, hc⟩ := h.at_ (by rw [← h.1]; exact hpos)
  have h0 := hc 0 hpos
  rw [hA] at ha
  injection ha with ha
  subst ha
  rcases Nat.lt_or_ge b w.heap.size with hlt | hge
  · exact hlt
  · have hn : w.heap[b]? = none := Array.getElem?_eq_none hge
    simp [World.cell?, hn] at h0
theorem RSt.newC {w w1 : World} {b : World} (hw : w.heap.size ≤ b.heap.size) (h : RdAt w1 b.heap.size b.heap.size (.slice none 0 0) (.slice none 0 0) nilR) : RSt w w1 b.heap.size nilR :=
  ⟨_, _, ⟨hw, h.cells, own_low h.ps hw, own_low h.hv hw⟩⟩
theorem ChL.start {w X : World} {r s : Nat} {A : Option Addr} {n c tot : Nat} {L : List Sl} (h : ChkI w X n tot A c L) {X2 : World} (hb : Below X.heap.size X X2) (T : Two w X2 r s nilR nilR noU) : ChL w X2 r s A n c L 0 none 0 0 (.slice none 0 0) 0 :=
  ⟨T.only (Only.refl _ _) (fun g hg => by unfold ownU at hg; simp [Value.ownBlock] at hg), ⟨rfl, [], World.ownsRow_nil _ _ _ _, .nil⟩, rfl, World.ownsRow_nil _ _ _ _, own_below h.row hb, h.bel.trans (hb.mono h.bel.size)⟩
/-- At the end: what all pieces told, beside what all told at once. -/
structure EndC (w X : World) (r s : Nat) (R Q : Rdr) (U : Nat → Prop) (Aa : Option Addr) (na ca : Nat) (Ab : Option Addr) (nb cb : Nat) (xs : List Inp) : Prop where
  two : Two w X s r R Q U
  a : OutS X w.heap.size Aa na ca xs
  b : OutS X w.heap.size Ab nb cb xs
  bel : Below w.heap.size w X
theorem TwoP.ends {w X w4 w6 : World} {r s : Nat} {R Q : Rdr} {U : Nat → Prop} {Aa A' A6 : Option Addr} {na ca n' c' c6 : Nat} {xs : List Inp} {us : List Value} (h : TwoP w X s r R Q U xs A' n' c' w4) (ha : OutS X w.heap.size Aa na ca xs)
    (h3 : InsC w4 X.heap.size us xs) (e2 : n' = xs.length) (hw : w.heap.size ≤ X.heap.size)
    (ho : w6.ownsRow w.heap.size 45 3 (.slice A6 (0 + n') c6) (0 + n') ([] ++ us)) (hg : w4.grownBy w6 (Value.ownBlock (.slice none 0 0))) : EndC w w6 r s R Q U Aa na ca A6 (0 + n') c6 xs := by
  have hO : Only (fun g => Value.ownBlock (.slice none 0 0) = some g) w4 w6 := Only.of_grown hg (fun g e => e)
  have no : ∀ {p : Prop} (g : Nat), Value.ownBlock (.slice none 0 0) = some g → p := fun g e => by simp [Value.ownBlock] at e
  have kI : ∀ {b : Nat} {vs : List Value}, InsC w4 b vs xs → InsC w6 b vs xs := fun k => k.keep (fun v n ys q => own_only q hO (fun g _ hr => no g hr))
  obtain ⟨e1, vs, a2, a3⟩ := h.keep _ _ _ _ _ ha
  refine ⟨h.two.only (Only.of_grown hg (fun g e => no g e)) (fun g hg => .inl hg), ⟨e1, vs, own_only a2 hO (fun g _ hr => no g hr), kI a3⟩, ⟨by omega, us, ?_, (kI h3).low hw⟩, h.bel.grown hg h.bel.size (fun g hg => no g hg)⟩
  simpa using ho

set_option maxRecDepth 100000 in
set_option maxHeartbeats 4000000 in
theorem walkLineChunks (A0 : Option Addr) (n0 c0 : Nat) (L0 : List Sl) (w : World) (hn0 : n0 ≤ c0) (hc0 : c0 ≤ maxLen) (hL0 : L0.length = n0) (hr0 : Row w A0 (L0.map Sl.v)) (hk0 : ∀ a ∈ L0, Sl.ok w a ∧ a.c ≤ reachBytes) (hG : GM w) :
    Calls Try.prog 4 #[.slice A0 n0 c0] w fun e w' => e = .returned (.bool true) ∧ Below w.heap.size w w' := by
  have HC := hid (chunks_any A0 n0 c0 L0 w hn0 hc0 hL0 hr0 hk0)
  have HG := hid hG
  clear hn0 hc0 hL0 hr0 hk0 hG
  go_enter Try.func4, Try.ntmps4
  go_upto_region 2 with (go_at_call 8; refine HC.out.mono ?_; rintro e w1 ⟨A, n, c, tot, L, rfl, hn40, hI⟩; have I := hid hI; clear hI)
  clear HC
  go_upto_region 5 with (first
    | (go_at_call 9; have S1 := S.out; refine (new_any _).mono ?_; rintro e w3 ⟨rfl, s2, b2⟩; have T := hid (Two.new S1 b2 s2 (by have := I.out.bel.size; have := B1.out.size; omega)); have B := hid (next B1.out b2); clear s2 b2 S1)
    | (go_at_call 9; refine (new_any _).mono ?_; rintro e w2 ⟨rfl, s1, b1⟩; have S := hid (RSt.newC (w := w) I.out.bel.size s1); have B1 := hid b1; clear s1 b1))
  have F0 := hid (ChL.start I.out B.out T.out)
  clear S T B1
  have HLN := hid I.out.len
  have HPB : Hid (∀ (k : Nat) (hk : k < L.length), (catS (L.take k)).length + (L[k]'hk).l.length ≤ 9000) := hid (fun k hk => by
    have h1 := catS_le L (k + 1)
    rw [catS_take L k hk, List.length_append] at h1
    have h2 := I.out.total
    have h3 := I.out.small
    omega)
  have HOK := hid I.out.ok
  go_wp2_with fail
  go_loopw [5, 7, 8] (fun a v i X => ∃ (k na ca nl cl : Nat) (Aa Al : Option Addr), k ≤ n ∧ i = .int .i64 (k : Int) ∧ a = .slice Aa na ca ∧ v = .slice Al nl cl ∧ Hid (ChL w X w1.heap.size w2.heap.size A n c L k Aa na ca (.slice Al nl cl) nl)) (fun a v i X => n - (intOf i).toNat)
  case atStart => exact ⟨0, 0, 0, 0, 0, none, none, by omega, rfl, rfl, rfl, F0⟩
  case round =>
    clear F0
    obtain ⟨k, na, ca, nl, cl, Aa, Al, hk, rfl, rfl, rfl, F⟩ := hrel
    by_cases hlt : k < n
    · have d1 : decide ((k : Int) < (n : Int)) = true := by simp; omega
      have d1' : decide (k < n) = true := by simpa using hlt
      have hkL : k < L.length := by rw [HLN.out]; exact hlt
      have HKL := hid hkL
      have HPC : Hid (∀ X : World, X.ownsRow w.heap.size 28 1 (.slice A n c) n (L.map Sl.v) → ∃ b off, A = some ⟨b, off, none⟩ ∧ X.cell? ⟨b, off + k, none⟩ = some (L[k]'HKL.out).v) := hid (fun X h => by
        obtain ⟨b, off, hA, hc⟩ := Row.of_own h (by intro e; have := congrArg List.length e; simp at this; subst this; simp at hkL)
        exact ⟨b, off, hA, hc k _ (by rw [List.getElem?_map, List.getElem?_eq_getElem hkL]; rfl)⟩)
      obtain ⟨b, off, rfl, p0⟩ := HPC.out _ F.out.pcs
      have HPC2 : Hid (∀ X : World, X.ownsRow w.heap.size 28 1 (.slice (some ⟨b, off, none⟩) n c) n (L.map Sl.v) → X.cell? ⟨b, off + k, none⟩ = some (L[k]'HKL.out).v) := hid (fun X h => by
        obtain ⟨b2, off2, hA, hc⟩ := HPC.out X h
        injection hA with hA
        injection hA with e1 e2
        subst e1 e2
        exact hc)
      have hs0 := HOK.out _ (List.getElem_mem hkL)
      have hpb := HPB.out k hkL
      rw [F.out.len] at hpb
      obtain ⟨⟨sA, sn, sc, sl⟩, hx⟩ : ∃ x, L[k]'HKL.out = x := ⟨_, rfl⟩
      have HX := hid hx
      rw [hx] at p0 hs0 hpb HPC2
      obtain ⟨hs1, hs2, hs3⟩ := hs0
      simp only [Sl.v] at p0 hs1 hs2 hs3
      dsimp only at hpb
      have hsl : sl.length = sn := hs3.1
      rw [hsl] at hpb
      have i0 : (0 : Int) ≤ (k : Int) := by omega
      have i1 : (k : Int) < (n : Int) := by omega
      have i2 : (k : Int).toNat = k := by omega
      have hna : na ≤ nl := by
        have h1 := F.out.out.1
        have h2 := feed_len (catS (L.take k)) nilR
        have h3 := F.out.len
        omega
      have HFD := hid (feed_c w wr _ _ _ n c L k Aa na ca _ nl F.out sA sn sc sl HG.out hs3 (by omega) (oct_ltC hs3))
      have HO := hid hs3
      have HPB2 := hid hpb
      have HNA := hid hna
      have HKN := hid hlt
      have HSLN := hid hsl
      have HF := F
      clear hkL hx hs1 hs2 hs3 hpb hsl hna hlt
      go_upto_region 11 with (first
        | (go_at_call 10
           refine HFD.out.mono ?_
           rintro e w4 ⟨A', n', c', rfl, hP⟩
           have P := hid hP
           have hn' : n' ≤ sn := by rw [hP.new.1, ← HSLN.out]; exact feed_len _ _
           have HN' := hid hn'
           obtain ⟨e1, vs, r1, j1⟩ := hP.out
           obtain ⟨e2, us, r2, j2⟩ := hP.new
           have E2 := hid e2
           have R1 := hid r1
           have R2 := hid (Row.of_own r2)
           have J1 := hid j1
           have J2 := hid j2
           clear hP hn' e1 e2 r1 r2 j1 j2)
        | (refine wpList_append_row _ rfl (.tmp 25) (.tmp 31) inpS rfl w.heap.size (.slice Aa na ca) na vs rfl R1.out A' n' c' us rfl (by rw [J2.out.len, ← E2.out]) R2.out J2.out.one (by have := HNA.out; have := HN'.out; have := HPB2.out; simp only [maxLen]; omega) (by have := HNA.out; have := HN'.out; have := HPB2.out; omega) P.out.bel.size ?_
           intro A6 c6 w6 ho6 hg6 hh6
           have Q := hid (P.out.outs R1.out J1.out J2.out ho6 hg6)
           clear ho6 hg6 hh6))
      have q0 := HPC2.out _ Q.out.pcs
      simp only [Sl.v] at q0
      have HO6 := hid (HO.out.below Q.out.bel)
      clear HFD HPC HPC2 p0 P R1 R2 J1 J2 E2 HN' F HF
      go_wp2_with (
        refine wpList_append_row _ rfl (.tmp 33) (.tmp 37) u8S rfl w.heap.size (.slice Al nl cl) nl ((catS (L.take k)).map B8) rfl Q.out.all sA sn sc (sl.map B8) rfl HO6.out.cells_len HO6.out.2 (one_B8 _) (by have := HPB2.out; simp only [maxLen]; omega) (by have := HPB2.out; omega) Q.out.bel.size ?_
        intro A7 c7 w7 ho7 hg7 hh7
        have K := hid (FdQ.bytes HKL.out (m := sn) (A' := A6) (n' := na + n') (c' := c6) (by rw [HX.out]; exact Q.out) (by rw [HX.out]; exact HSLN.out) (by rw [HX.out]; exact ho7) hg7 hh7)
        clear ho7 hg7 hh7)
      go_roundw
      case rel => exact ⟨k + 1, _, _, _, _, _, _, by have := HKN.out; omega, by go_num, rfl, rfl, K⟩
      case measure => have := HKN.out; simp [intOf]; omega
    · have hkn : k = n := by omega
      subst hkn
      have d1 : decide ((k : Int) < (k : Int)) = false := by simp
      have d1' : decide (k < k) = false := by simp
      obtain ⟨l, hl⟩ : ∃ l, catS (L.take k) = l := ⟨_, rfl⟩
      have hl9 : l.length ≤ 9000 := by
        have h1 := catS_le L k
        have h2 := I.out.total
        have h3 := I.out.small
        rw [hl] at h1
        omega
      have f1 := F.out.two
      have f2 := F.out.out
      have f3 := F.out.len
      have f4 := F.out.all
      rw [hl] at f1 f2 f3 f4
      obtain ⟨R, hR⟩ : ∃ R, (feedR nilR l).1 = R := ⟨_, rfl⟩
      obtain ⟨xs, hxs⟩ : ∃ xs, (feedR nilR l).2 = xs := ⟨_, rfl⟩
      have HX9 : Hid (xs.length ≤ 9000) := hid (by rw [← hxs]; have := feed_len l nilR; omega)
      have HTK : Hid (∀ x ∈ xs, x.l.length ≤ 100000) := hid (by rw [← hxs]; exact feed_toks l nilR nilR_ok)
      have HFD := hid (feed_two w wr _ _ nilR _ (ownU (.slice Al nl cl)) Al nl cl l f1.swap F.out.bel HG.out nilR_ok ⟨f3, Row.of_own f4⟩ (by omega) (fun a ha _ => .inr (by subst ha; rfl)))
      rw [hR, hxs] at HFD
      rw [hxs] at f2
      have F2 := hid f2
      have B := hid F.out.bel
      clear hl hl9 f1 f2 f3 f4 hR hxs HPB HOK HLN F hlt hk I
      go_upto_region 13 with (first
        | (go_at_call 10
           refine HFD.out.mono ?_
           rintro e w4 ⟨A', n', c', rfl, hP⟩
           have en := hP.out.1.trans F2.out.1.symm
           subst en
           obtain ⟨e2, us, r2, j2⟩ := hP.out
           have P := hid hP
           have R2 := hid (Row.of_own r2)
           have HO2 := hid r2
           have J2 := hid j2
           have E2 := hid e2
           clear hP r2 j2 e2)
        | (refine wpList_append_row _ rfl (.tmp 39) (.tmp 42) inpS rfl w.heap.size (.slice none 0 0) 0 [] rfl (World.ownsRow_nil _ _ _ _) A' _ c' us rfl (by rw [J2.out.len, ← E2.out]) R2.out J2.out.one (by have := HX9.out; have := E2.out; simp only [maxLen]; omega) (by have := HX9.out; have := E2.out; omega) P.out.bel.size ?_
           intro A6 c6 w6 ho6 hg6 hh6
           have Q := hid (P.out.ends F2.out J2.out E2.out B.out.size ho6 hg6)
           clear ho6 hg6 hh6))
      clear HFD P R2 HO2 J2 E2 F2
      go_wp2_with (first
        | (go_at_call 11; refine (same_eq _ _ _ _ _ _ _ xs _ Q.out.a.row (by have := Q.out.b.row; rw [Nat.zero_add] at this; exact this) (by have := HX9.out; have := Q.out.a.1; omega) HTK.out).mono ?_; rintro e w7 ⟨rfl, b7⟩; have T := hid (Q.out.two.below b7); have B := hid (next Q.out.bel b7); clear b7)
        | (go_at_call 12; refine (wait_two T.out.swap).mono ?_; rintro e w8 ⟨rfl, rfl⟩)
        | (go_at_call 12; refine (wait_two T.out).mono ?_; rintro e w9 ⟨rfl, rfl⟩)
        | (go_at_call 7; refine (awake_any _ (HG.out.below B.out)).mono ?_; rintro e w9 ⟨rfl, b9⟩; have B := hid (next B.out b9); clear b9))
      go_ret
      exact ⟨rfl, B.out⟩
end Go.Proofs.Ytlddhgnecfgnkaa
