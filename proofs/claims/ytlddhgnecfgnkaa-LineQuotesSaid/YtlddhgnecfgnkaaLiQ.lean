/-
  LineQuotes: the walk. A part of the proof: see the head of the text that ends in 'Law'.
-/
import Derived.Test.YtlddhgnecfgnkaaLi27
import Derived.Test.YtlddhgnecfgnkaaLiQPlain
namespace Go.Proofs.Ytlddhgnecfgnkaa
open Go.RowKit
set_option linter.unusedVariables false
attribute [local go_sem] Oper.semAt_some

/-- What Tokens answers to pieces that are right. -/
def TokQ (b0 : Nat) (X : World) (out : List Tk) (n : Nat) (e : Ending) (w' : World) : Prop := ∃ A c, e = .returned (.tuple #[.slice A n c, .int .i64 0]) ∧ TkRow w' A n out ∧ Below X.heap.size X w'
theorem tokens_lit (X : World) (C : Array Value) (ps : List Pc) (n m : Nat) (out : List Tk) (fr : Nat × Nat) (r : Nat) (hr : X.heap.size = r) (hC : C.toList = ps.flatMap pcC) (hn : ps.length = n) (hm : out.length = m) (hs : szP ps ≤ 50000) (ho : tokensL ps = some out) :
    Calls Try.prog 13 #[.slice (some ⟨r, 0, none⟩) n n] (X.alloc (.cells C 40 fr)) (TokQ 0 X out m) := by
  subst hr
  have hb : Below X.heap.size X (X.alloc (.cells C 40 fr)) := (Below.refl _ _).alloc (Nat.le_refl _) _
  have h := tokens_any (some ⟨X.heap.size, 0, none⟩) n n ps (X.alloc (.cells C 40 fr)) ⟨hn, by
    have := Row.of_block (heap_alloc_new X (.cells C 40 fr))
    rw [hC] at this
    exact this⟩ hs
  rw [ho] at h
  refine h.mono ?_
  rintro e w' ⟨h1, A, c, h2, h3⟩
  subst hm
  exact ⟨A, c, h2, ⟨rfl, Row.of_own h3⟩, next hb h1⟩
theorem want_row (X : World) (s : List UInt8) (fr : Nat × Nat) : TkRow (X.alloc (.cells #[.int .i64 0, .string ⟨#[116]⟩, .int .i64 2, .string ⟨#[40]⟩, .int .i64 1, .string (str s), .int .i64 3, .string ⟨#[41]⟩, .int .i64 0, .string ⟨#[120]⟩] 34 fr)) (some ⟨X.heap.size, 0, none⟩) 5 (wantL s) :=
  ⟨rfl, Row.of_block (heap_alloc_new X _)⟩
theorem one_str (X : World) (x : UInt8) (fr : Nat × Nat) : (convert 28 9 (.slice (some ⟨X.heap.size, 0, none⟩) 1 1)).run Try.prog (X.alloc (.cells #[.int .u8 (x.toNat : Int)] 5 fr)) = .ok (.string (str [x])) (X.alloc (.cells #[.int .u8 (x.toNat : Int)] 5 fr)) :=
  run_string_oct 1 (Oct.of_block [x] (heap_alloc_new X _) rfl) Try.underlying28 Try.underlying5 Try.underlying9
/-- How far the text is written. -/
structure QlI (w X : World) (l : List UInt8) (k : Nat) (a q : List UInt8) : Prop where
  bel : Below w.heap.size w X
  ea : keptL (l.take k) = a
  eq : escL a = q
theorem QlI.len {w X : World} {l : List UInt8} {k : Nat} {a q : List UInt8} (h : QlI w X l k a q) : a.length ≤ k ∧ q.length ≤ 2 * k := by
  have h1 := kept_len (l.take k)
  have h2 := escL_len a
  have h3 := List.length_take_le k l
  rw [h.ea] at h1
  rw [h.eq] at h2
  omega
theorem QlI.skip {w X : World} {l : List UInt8} {k : Nat} {a q : List UInt8} (h : QlI w X l k a q) (hk : k < l.length) (hx : keepC (l[k]'hk) = false) : QlI w X l (k + 1) a q :=
  ⟨h.bel, by rw [kept_take l k hk, hx, h.ea]; simp, h.eq⟩
theorem QlI.more {w X X' : World} {l : List UInt8} {k : Nat} {a q : List UInt8} (h : QlI w X l k a q) (hk : k < l.length) (hx : keepC (l[k]'hk) = true) (hb : Below w.heap.size w X') (q' : List UInt8) (hq : q' = q ++ escL [l[k]'hk]) : QlI w X' l (k + 1) (a ++ [l[k]'hk]) q' :=
  ⟨hb, by rw [kept_take l k hk, hx, h.ea]; simp, by rw [escL_append, h.eq, hq]⟩


set_option maxRecDepth 100000 in
set_option maxHeartbeats 4000000 in
theorem walkLineQuotes (A0 : Option Addr) (n0 c0 : Nat) (l0 : List UInt8) (w : World) (ho0 : Oct w A0 n0 l0) (hn0 : n0 ≤ c0) (hc0 : c0 ≤ maxLen) (hG : GM w) :
    Calls Try.prog 5 #[.slice A0 n0 c0] w fun e w' => e = .returned (.bool true) ∧ Below w.heap.size w w' := by
  have HG := hid hG
  clear hG
  go_enter Try.func5, Try.ntmps5
  go_upto_if 14 with fail
  go_cut [0] (fun s0 wx => (∃ (n : Nat) (l : List UInt8), s0 = .slice A0 n c0 ∧ Hid (n ≤ 150) ∧ Hid (Oct w A0 n l)) ∧ w = wx)
  case first =>
    by_cases h : 150 < n0
    · have hd : decide ((150 : Int) < n0) = true := by simp; omega
      have hd' : decide (150 < n0) = true := by simpa using h
      have hc1 : (150 : Int) ≤ c0 := by omega
      have hc2 : ¬ c0 = 0 := by omega
      have HO := hid (ho0.take 150 (by omega))
      clear ho0
      go_wp2_with fail
      go_meet
      exact ⟨⟨150, _, rfl, hid (by omega), HO⟩, rfl⟩
    · have hd : decide ((150 : Int) < n0) = false := by simp; omega
      have hd' : decide (150 < n0) = false := by simpa using h
      have HO := hid ho0
      have HN := hid (show n0 ≤ 150 by omega)
      clear ho0
      go_wp2_with fail
      go_meet
      exact ⟨⟨n0, _, rfl, HN, HO⟩, rfl⟩
  case rest =>
    obtain ⟨⟨n, l, rfl, HN, HO⟩, rfl⟩ := hcut
    clear ho0 hn0 hc0
    have HLN := hid HO.out.1
    have F0 : Hid (QlI w w l 0 [] []) := hid ⟨Below.refl _ _, rfl, rfl⟩
    go_wp2_with fail
    go_loopw [3, 4, 5] (fun s q i X => ∃ (k : Nat) (a b : List UInt8), k ≤ n ∧ s = .string (str a) ∧ q = .string (str b) ∧ i = .int .i64 (k : Int) ∧ Hid (QlI w X l k a b)) (fun s q i X => n - (intOf i).toNat)
    case atStart => exact ⟨0, [], [], by omega, rfl, rfl, rfl, F0⟩
    case round =>
      clear F0
      obtain ⟨k, a, b, hk, rfl, rfl, rfl, F⟩ := hrel
      have hn := HN.out
      by_cases hlt : k < n
      · have d1 : decide ((k : Int) < (n : Int)) = true := by simp; omega
        have d1' : decide (k < n) = true := by simpa using hlt
        obtain ⟨cb, co, rfl, hcell⟩ := (HO.out.below F.out.bel).at_ (by omega)
        have HJL := hid (show k < l.length by rw [HLN.out]; exact hlt)
        have p0 := hcell k HJL.out
        obtain ⟨x, hx⟩ : ∃ x, l[k]'HJL.out = x := ⟨_, rfl⟩
        rw [hx] at p0
        have HX := hid hx
        have i0 : (0 : Int) ≤ (k : Int) := by omega
        have i1 : (k : Int) < (n : Int) := by omega
        have i2 : (k : Int).toNat = k := by omega
        have hl1 := F.out.len.1
        have hl2 := F.out.len.2
        have hz1 : (str a).size ≤ 200 := by rw [str_size]; omega
        have hz2 : (str b).size ≤ 400 := by rw [str_size]; omega
        have kone := fun (X : World) => one_str X x (0, 0)
        have kone2 := one_str (wr.alloc (.cells #[.int .u8 (x.toNat : Int)] 5)) x (0, 0)
        rw [World.size_alloc] at kone2
        clear hcell hx
        by_cases h32 : x.toNat < 32
        · have c1 : decide ((x.toNat : Int) < 32) = true := by simp; omega
          have c1' : decide (x.toNat < 32) = true := by simpa using h32
          have HKP : Hid (keepC x = false) := hid (by unfold keepC; simp; omega)
          clear h32
          go_wp2_with fail
          go_roundw
          case rel => exact ⟨k + 1, a, b, by omega, rfl, rfl, by go_num, hid (F.out.skip HJL.out (by rw [HX.out]; exact HKP.out))⟩
          case measure => simp [intOf]; omega
        have c1 : decide ((x.toNat : Int) < 32) = false := by simp; omega
        have c1' : decide (x.toNat < 32) = false := by simpa using h32
        by_cases h127 : x.toNat = 127
        · have c2 : ((x.toNat : Int) == 127) = true := by simp; omega
          have HKP : Hid (keepC x = false) := hid (by unfold keepC; simp; omega)
          clear h32 h127
          go_wp2_with fail
          go_roundw
          case rel => exact ⟨k + 1, a, b, by omega, rfl, rfl, by go_num, hid (F.out.skip HJL.out (by rw [HX.out]; exact HKP.out))⟩
          case measure => simp [intOf]; omega
        have c2 : ((x.toNat : Int) == 127) = false := by simp; omega
        have HKP : Hid (keepC x = true) := hid (by unfold keepC; simp; omega)
        by_cases h34 : x.toNat = 34
        · have c3 : ((x.toNat : Int) == 34) = true := by simp; omega
          have HE : Hid (b ++ [92, x] = b ++ escL [x]) := hid (by simp [escL, h34])
          have hap2 : str b ++ ⟨#[92]⟩ = str (b ++ [92]) := str_append b [92]
          have hz6 : (str (b ++ [92])).size ≤ 400 := by rw [str_size]; simp; omega
          have hap3 : str (b ++ [92]) ++ str [x] = str (b ++ [92, x]) := by rw [str_append]; simp
          clear h32 h127 h34
          have hap1 : str a ++ str [x] = str (a ++ [x]) := str_append a [x]
          have hz3 : (str (a ++ [x])).size ≤ 400 := by rw [str_size, List.length_append, List.length_singleton]; omega
          have hz5 : (str [x]).size ≤ 1 := by rw [str_size]; simp
          have hz4 : (str (b ++ [92, x])).size ≤ 400 := by rw [str_size]; simp; omega
          have K0 := fun (X' : World) (hb : Below w.heap.size w X') => F.out.more HJL.out (by rw [HX.out]; exact HKP.out) hb (b ++ [92, x]) (by rw [HX.out]; exact HE.out)
          rw [HX.out] at K0
          have K := hid K0
          clear K0
          go_wp2_with fail
          go_roundw
          case rel => exact ⟨k + 1, a ++ [x], (b ++ [92, x]), by omega, rfl, rfl, by go_num, hid (K.out _ (below_alloc (below_alloc F.out.bel _) _))⟩
          case measure => simp [intOf]; omega
        have c3 : ((x.toNat : Int) == 34) = false := by simp; omega
        by_cases h92 : x.toNat = 92
        · have c4 : ((x.toNat : Int) == 92) = true := by simp; omega
          have HE : Hid (b ++ [92, x] = b ++ escL [x]) := hid (by simp [escL, h92])
          have hap2 : str b ++ ⟨#[92]⟩ = str (b ++ [92]) := str_append b [92]
          have hz6 : (str (b ++ [92])).size ≤ 400 := by rw [str_size]; simp; omega
          have hap3 : str (b ++ [92]) ++ str [x] = str (b ++ [92, x]) := by rw [str_append]; simp
          clear h32 h127 h34 h92
          have hap1 : str a ++ str [x] = str (a ++ [x]) := str_append a [x]
          have hz3 : (str (a ++ [x])).size ≤ 400 := by rw [str_size, List.length_append, List.length_singleton]; omega
          have hz5 : (str [x]).size ≤ 1 := by rw [str_size]; simp
          have hz4 : (str (b ++ [92, x])).size ≤ 400 := by rw [str_size]; simp; omega
          have K0 := fun (X' : World) (hb : Below w.heap.size w X') => F.out.more HJL.out (by rw [HX.out]; exact HKP.out) hb (b ++ [92, x]) (by rw [HX.out]; exact HE.out)
          rw [HX.out] at K0
          have K := hid K0
          clear K0
          go_wp2_with fail
          go_roundw
          case rel => exact ⟨k + 1, a ++ [x], (b ++ [92, x]), by omega, rfl, rfl, by go_num, hid (K.out _ (below_alloc (below_alloc F.out.bel _) _))⟩
          case measure => simp [intOf]; omega
        · have c4 : ((x.toNat : Int) == 92) = false := by simp; omega
          have HE : Hid (b ++ [x] = b ++ escL [x]) := hid (by simp [escL, h34, h92])
          have hap3 : str b ++ str [x] = str (b ++ [x]) := str_append _ _
          clear h32 h127 h34 h92
          have hap1 : str a ++ str [x] = str (a ++ [x]) := str_append a [x]
          have hz3 : (str (a ++ [x])).size ≤ 400 := by rw [str_size, List.length_append, List.length_singleton]; omega
          have hz5 : (str [x]).size ≤ 1 := by rw [str_size]; simp
          have hz4 : (str (b ++ [x])).size ≤ 400 := by rw [str_size]; simp; omega
          have K0 := fun (X' : World) (hb : Below w.heap.size w X') => F.out.more HJL.out (by rw [HX.out]; exact HKP.out) hb (b ++ [x]) (by rw [HX.out]; exact HE.out)
          rw [HX.out] at K0
          have K := hid K0
          clear K0
          go_wp2_with fail
          go_roundw
          case rel => exact ⟨k + 1, a ++ [x], (b ++ [x]), by omega, rfl, rfl, by go_num, hid (K.out _ (below_alloc (below_alloc F.out.bel _) _))⟩
          case measure => simp [intOf]; omega
      · have d1 : decide ((k : Int) < (n : Int)) = false := by simp; omega
        have d1' : decide (k < n) = false := by simpa using hlt
        have hl1 := F.out.len.1
        have hl2 := F.out.len.2
        have hz2 : (str b).size ≤ 400 := by rw [str_size]; omega
        have B := hid F.out.bel
        have HKA : Hid (∀ c ∈ a, keepC c = true) := hid (by rw [← F.out.ea]; exact kept_all _)
        have HEB := hid F.out.eq
        have HA : Hid (a.length ≤ 150) := hid (by omega)
        obtain ⟨y1, hy1⟩ : ∃ y, [116, 32, 40, 34] ++ b = y := ⟨_, rfl⟩
        obtain ⟨y2, hy2⟩ : ∃ y, y1 ++ [34, 41, 32, 120] = y := ⟨_, rfl⟩
        have happ1 : (⟨#[116, 32, 40, 34]⟩ : ByteArray) ++ str b = str y1 := by rw [← hy1]; exact str_append [116, 32, 40, 34] b
        have happ2 : str y1 ++ (⟨#[34, 41, 32, 120]⟩ : ByteArray) = str y2 := by rw [← hy2]; exact str_append _ _
        have hz5 : (str y1).size ≤ 500 := by rw [← hy1, str_size]; simp; rw [str_size] at hz2; omega
        have HT1 := hid (fun (X : World) fr r hr => tokens_lit X #[.bool false, .string (str y2)] (quotL a) 1 5 (wantL a) fr r hr (by rw [← hy2, ← hy1, ← HEB.out]; rfl) rfl rfl (quot_sz a HA.out) (tok_quot a HKA.out))
        clear hy1 hy2
        have HT2 := hid (fun (X : World) fr r hr => tokens_lit X #[.bool false, .string ⟨#[116, 32, 40]⟩, .bool true, .string (str a), .bool false, .string ⟨#[41, 32, 120]⟩] (litL a) 3 5 (wantL a) fr r hr rfl rfl rfl (lit_sz a HA.out) (tok_lit a))
        have HW := hid (fun (X : World) fr => want_row X a fr)
        clear F hlt hl1 hl2
        go_upto_region 14 with fail
        have B := hid (below_alloc B.out (.cells #[.int .i64 0, .string ⟨#[116]⟩, .int .i64 2, .string ⟨#[40]⟩, .int .i64 1, .string (str a), .int .i64 3, .string ⟨#[41]⟩, .int .i64 0, .string ⟨#[120]⟩] 34))
        have T0 := hid (HW.out wr (0, 0))
        have HG := hid (HG.out.below B.out)
        go_upto_region 15 with (go_at_call 13; (with_reducible refine (HT1.out _ _ _ (World.size_alloc _ _)).mono ?_); rintro e w1 ⟨A1, c1, rfl, t1, b1⟩; have T0 := hid (T0.out.below b1); have B := hid (next B.out b1); have HG := hid (HG.out.below b1); have T1 := hid t1; clear t1 b1)
        clear HT1 happ1 happ2 hz5
        go_upto_region 16 with (go_at_call 13; (with_reducible refine (HT2.out _ _ _ rfl).mono ?_); rintro e w2 ⟨A2, c2, rfl, t2, b2⟩; have T0 := hid (T0.out.below b2); have T1 := hid (T1.out.below b2); have B := hid (next B.out b2); have HG := hid (HG.out.below b2); have T2 := hid t2; clear t2 b2)
        clear HT2
        go_wp2_with (first
          | (go_at_call 14; (with_reducible refine (toks_eq A1 _ 5 c1 5 (wantL a) _ T1.out T0.out (by decide)).mono ?_); rintro e w3 ⟨rfl, b3⟩; have T0 := hid (T0.out.below b3); have T2 := hid (T2.out.below b3); have B := hid (next B.out b3); have HG := hid (HG.out.below b3); clear b3)
          | (go_at_call 14; (with_reducible refine (toks_eq A2 _ 5 c2 5 (wantL a) _ T2.out T0.out (by decide)).mono ?_); rintro e w4 ⟨rfl, b4⟩; have B := hid (next B.out b4); have HG := hid (HG.out.below b4); clear b4)
          | (go_at_call 7; (with_reducible refine (awake_any _ HG.out).mono ?_); rintro e w5 ⟨rfl, b5⟩; have B := hid (next B.out b5); clear b5))
        go_ret
        exact ⟨rfl, B.out⟩
end Go.Proofs.Ytlddhgnecfgnkaa
