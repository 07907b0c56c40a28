/-
  The chapter's examples. A part of the proof: see the head of the text that ends in 'Law'.
-/
import Derived.Test.YtlddhgnecfgnkaaLi25
import Derived.Lib.SlBytesConst
namespace Go.Proofs.Ytlddhgnecfgnkaa
open Go.RowKit
set_option linter.unusedVariables false
attribute [local go_sem] Oper.semAt_some

def RSt (w0 X : World) (r : Nat) (R : Rdr) : Prop := ∃ VP VH, RdAt X w0.heap.size r VP VH R
theorem RSt.below {w0 X X' : World} {r : Nat} {R : Rdr} (h : RSt w0 X r R) (hb : Below X.heap.size X X') : RSt w0 X' r R := by
  obtain ⟨VP, VH, h⟩ := h
  exact ⟨VP, VH, h.below hb⟩
/-- What was told lies in memory of the call's own. -/
def OutS (X : World) (b0 : Nat) (A : Option Addr) (n c : Nat) (xs : List Inp) : Prop := n = xs.length ∧ ∃ vs, X.ownsRow b0 45 3 (.slice A n c) n vs ∧ InsC X b0 vs xs
theorem OutS.below {X X' : World} {b0 : Nat} {A : Option Addr} {n c : Nat} {xs : List Inp} (h : OutS X b0 A n c xs) (hb : Below X.heap.size X X') : OutS X' b0 A n c xs := by
  obtain ⟨h1, vs, h2, h3⟩ := h
  exact ⟨h1, vs, own_below h2 hb, h3.past hb⟩
theorem OutS.row {X : World} {b0 : Nat} {A : Option Addr} {n c : Nat} {xs : List Inp} (h : OutS X b0 A n c xs) : InRow X b0 A n xs := by
  obtain ⟨h1, vs, h2, h3⟩ := h
  exact ⟨h1, vs, Row.of_own h2, h3⟩
/-- What Feed leaves. -/
def FeedP (w0 X : World) (r : Nat) (R' : Rdr) (xs : List Inp) (e : Ending) (w' : World) : Prop := ∃ A n c, e = .returned (.slice A n c) ∧ n = xs.length ∧ OutS w' X.heap.size A n c xs ∧ RSt w0 w' r R' ∧ Below w0.heap.size w0 w' ∧ ∀ b A n c xs, OutS X b A n c xs → OutS w' b A n c xs
theorem feed_lit (w0 X : World) (r : Nat) (R R' : Rdr) (xs : List Inp) (C : Array Value) (l : List UInt8) (n : Nat) (h : RSt w0 X r R) (bel : Below w0.heap.size w0 X) (hG : GM w0) (hok : Rok R) (hC : C = (l.map B8).toArray) (hn : l.length = n) (hn2 : n ≤ 100000) (hf : feedR R l = (R', xs)) (fr : Nat × Nat) :
    Calls Try.prog 10 #[.pointer (some ⟨r, 0, none⟩), .slice (some ⟨X.heap.size, 0, none⟩) n n] (X.alloc (.cells C 5 fr)) (FeedP w0 X r R' xs) := by
  obtain ⟨VP, VH, h⟩ := h
  have hb : Below X.heap.size X (X.alloc (.cells C 5 fr)) := (Below.refl _ _).alloc (Nat.le_refl _) _
  have ho : Oct (X.alloc (.cells C 5 fr)) (some ⟨X.heap.size, 0, none⟩) n l := by
    subst hn
    exact Oct.of_block l (heap_alloc_new X _) hC
  have := feed_any w0 (X.alloc (.cells C 5 fr)) r VP VH R (some ⟨X.heap.size, 0, none⟩) n n l (h.below hb) (next bel hb) hG hok ho hn2 (fun a ha _ hm => by
    injection ha with ha
    subst ha
    have := (h.mine _ hm).2
    dsimp only at this
    omega)
  rw [hf] at this
  refine this.mono ?_
  rintro e w' ⟨A, n', c, vs, he, hn', ho', hi, VP', VH', h1, h2⟩
  have hb2 : Below w0.heap.size w0 w' := (next bel hb).trans (h2.below (h.below hb) (by have := bel.size; simp; omega))
  refine ⟨A, n', c, he, hn', ⟨hn', vs, own_low ho' (by simp), hi.low (by simp)⟩, ⟨VP', VH', h1⟩, hb2, fun b A n c xs k => ?_⟩
  obtain ⟨k1, us, k2, k3⟩ := k.below hb
  exact ⟨k1, us, (h.below hb).row h2 k2 (by decide) (by decide) (by decide), k3.keep (fun v n ys q => (h.below hb).row h2 q (by decide) (by decide) (by decide))⟩
def I1 : List Inp := [⟨0, [97], [⟨0, [97]⟩, ⟨0, [78, 79, 79, 80]⟩]⟩]
def R2 : Rdr := ⟨[⟨false, [97, 32, 76, 79, 71, 73, 78, 32]⟩], [], false, 11, 1, 3⟩
def I2 : List Inp := [⟨1, [], []⟩]
def I3 : List Inp := [⟨0, [97], [⟨0, [97]⟩, ⟨0, [76, 79, 71, 73, 78]⟩, ⟨1, [106, 111, 101]⟩, ⟨0, [120]⟩]⟩]
def I4 : List Inp := [⟨2, [97], []⟩]
theorem fx1 : feedR nilR [97, 32, 78, 79, 79, 80, 13, 10] = (nilR, I1) := by kernel_rfl
theorem fx2 : feedR nilR [97, 32, 76, 79, 71, 73, 78, 32, 123, 51, 125, 10] = (R2, I2) := by kernel_rfl
theorem fx3 : feedR R2 [106, 111, 101, 32, 120, 10] = (nilR, I3) := by kernel_rfl
theorem fx4 : feedR nilR [97, 32, 32, 98, 10] = (nilR, I4) := by kernel_rfl
theorem R2_ok : Rok R2 := by
  have := feed_ok [97, 32, 76, 79, 71, 73, 78, 32, 123, 51, 125, 10] nilR nilR_ok
  rw [fx2] at this
  exact this
theorem lit_in (X : World) (k : Int) (tg : ByteArray) (tc : Array Value) (x : Inp) (n : Nat) (h1 : (x.kind : Int) = k) (h2 : str x.tag = tg) (h3 : tc.toList = x.l.flatMap tkC) (hn : x.l.length = n) (hm : n ≤ 1000) :
    InRow ((X.alloc (.cells tc 34)).alloc (.cells #[.int .i64 k, .string tg, .slice (some ⟨X.heap.size, 0, none⟩) n n] 45)) X.heap.size (some ⟨X.heap.size + 1, 0, none⟩) 1 [x] := by
  subst h1 h2 hn
  refine ⟨rfl, [.int .i64 (x.kind : Int), .string (str x.tag), .slice (some ⟨X.heap.size, 0, none⟩) x.l.length x.l.length], ?_, .cons _ _ x [] [] ?_ .nil⟩
  · have := Row.of_block (heap_alloc_new (X.alloc (.cells tc 34)) (.cells #[.int .i64 (x.kind : Int), .string (str x.tag), .slice (some ⟨X.heap.size, 0, none⟩) x.l.length x.l.length] 45))
    rw [World.size_alloc] at this
    exact this
  · have := World.ownsRow_lit (e := 34) (size := 2) (base := X.heap.size) X tc x.l.length (Nat.le_refl _) (by simp only [maxLen]; omega) (by rw [← Array.length_toList, h3]; clear h3; induction x.l with | nil => rfl | cons a l ih => simp [tkC, ih]; omega)
    rw [h3] at this
    exact own_below this ((Below.refl _ _).alloc (Nat.le_refl _) _)
theorem lit_in0 (X : World) (k : Int) (tg : ByteArray) (x : Inp) (h1 : (x.kind : Int) = k) (h2 : str x.tag = tg) (h3 : x.l = []) : InRow (X.alloc (.cells #[.int .i64 k, .string tg, .slice none 0 0] 45)) X.heap.size (some ⟨X.heap.size, 0, none⟩) 1 [x] := by
  subst h1 h2
  obtain ⟨xk, xt, xl⟩ := x
  dsimp only at h3
  subst h3
  exact ⟨rfl, _, Row.of_block (heap_alloc_new X _), .cons none 0 ⟨xk, xt, []⟩ [] [] (World.ownsRow_nil _ _ _ _) .nil⟩
theorem same1 (X : World) (b : Nat) (A : Option Addr) (c : Nat) (h : OutS X b A 1 c I1) : Calls Try.prog 11 #[.slice A 1 c, .slice (some ⟨X.heap.size + 1, 0, none⟩) 1 1] ((X.alloc (.cells #[.int .i64 0, .string ⟨#[97]⟩, .int .i64 0, .string ⟨#[78, 79, 79, 80]⟩] 34)).alloc (.cells #[.int .i64 0, .string ⟨#[97]⟩, .slice (some ⟨X.heap.size, 0, none⟩) 2 2] 45)) fun e w' => e = .returned (.bool true) ∧ Below X.heap.size X w' := by
  have hb : Below X.heap.size X ((X.alloc (.cells #[.int .i64 0, .string ⟨#[97]⟩, .int .i64 0, .string ⟨#[78, 79, 79, 80]⟩] 34)).alloc (.cells #[.int .i64 0, .string ⟨#[97]⟩, .slice (some ⟨X.heap.size, 0, none⟩) 2 2] 45)) := ((Below.refl _ _).alloc (Nat.le_refl _) _).alloc (by simp) _
  exact (same_eq A _ b X.heap.size 1 c 1 I1 _ (h.below hb).row (lit_in X 0 ⟨#[97]⟩ _ ⟨0, [97], [⟨0, [97]⟩, ⟨0, [78, 79, 79, 80]⟩]⟩ 2 rfl rfl rfl rfl (by decide)) (by decide) (by intro x hx; simp [I1] at hx; subst hx; decide)).mono fun e w' k => ⟨k.1, next hb k.2⟩
theorem same2 (X : World) (b : Nat) (A : Option Addr) (c : Nat) (h : OutS X b A 1 c I2) : Calls Try.prog 11 #[.slice A 1 c, .slice (some ⟨X.heap.size, 0, none⟩) 1 1] (X.alloc (.cells #[.int .i64 1, .string ⟨#[]⟩, .slice none 0 0] 45)) fun e w' => e = .returned (.bool true) ∧ Below X.heap.size X w' := by
  have hb : Below X.heap.size X (X.alloc (.cells #[.int .i64 1, .string ⟨#[]⟩, .slice none 0 0] 45)) := (Below.refl _ _).alloc (Nat.le_refl _) _
  exact (same_eq A _ b X.heap.size 1 c 1 I2 _ (h.below hb).row (lit_in0 X 1 ⟨#[]⟩ ⟨1, [], []⟩ rfl rfl rfl) (by decide) (by intro x hx; simp [I2] at hx; subst hx; decide)).mono fun e w' k => ⟨k.1, next hb k.2⟩
theorem same3 (X : World) (b : Nat) (A : Option Addr) (c : Nat) (h : OutS X b A 1 c I3) : Calls Try.prog 11 #[.slice A 1 c, .slice (some ⟨X.heap.size + 1, 0, none⟩) 1 1] ((X.alloc (.cells #[.int .i64 0, .string ⟨#[97]⟩, .int .i64 0, .string ⟨#[76, 79, 71, 73, 78]⟩, .int .i64 1, .string ⟨#[106, 111, 101]⟩, .int .i64 0, .string ⟨#[120]⟩] 34)).alloc (.cells #[.int .i64 0, .string ⟨#[97]⟩, .slice (some ⟨X.heap.size, 0, none⟩) 4 4] 45)) fun e w' => e = .returned (.bool true) ∧ Below X.heap.size X w' := by
  have hb : Below X.heap.size X ((X.alloc (.cells #[.int .i64 0, .string ⟨#[97]⟩, .int .i64 0, .string ⟨#[76, 79, 71, 73, 78]⟩, .int .i64 1, .string ⟨#[106, 111, 101]⟩, .int .i64 0, .string ⟨#[120]⟩] 34)).alloc (.cells #[.int .i64 0, .string ⟨#[97]⟩, .slice (some ⟨X.heap.size, 0, none⟩) 4 4] 45)) := ((Below.refl _ _).alloc (Nat.le_refl _) _).alloc (by simp) _
  exact (same_eq A _ b X.heap.size 1 c 1 I3 _ (h.below hb).row (lit_in X 0 ⟨#[97]⟩ _ ⟨0, [97], [⟨0, [97]⟩, ⟨0, [76, 79, 71, 73, 78]⟩, ⟨1, [106, 111, 101]⟩, ⟨0, [120]⟩]⟩ 4 rfl rfl rfl rfl (by decide)) (by decide) (by intro x hx; simp [I3] at hx; subst hx; decide)).mono fun e w' k => ⟨k.1, next hb k.2⟩
theorem same4 (X : World) (b : Nat) (A : Option Addr) (c : Nat) (h : OutS X b A 1 c I4) : Calls Try.prog 11 #[.slice A 1 c, .slice (some ⟨X.heap.size, 0, none⟩) 1 1] (X.alloc (.cells #[.int .i64 2, .string ⟨#[97]⟩, .slice none 0 0] 45)) fun e w' => e = .returned (.bool true) ∧ Below X.heap.size X w' := by
  have hb : Below X.heap.size X (X.alloc (.cells #[.int .i64 2, .string ⟨#[97]⟩, .slice none 0 0] 45)) := (Below.refl _ _).alloc (Nat.le_refl _) _
  exact (same_eq A _ b X.heap.size 1 c 1 I4 _ (h.below hb).row (lit_in0 X 2 ⟨#[97]⟩ ⟨2, [97], []⟩ rfl rfl rfl) (by decide) (by intro x hx; simp [I4] at hx; subst hx; decide)).mono fun e w' k => ⟨k.1, next hb k.2⟩
set_option maxRecDepth 100000 in
set_option maxHeartbeats 4000000 in
theorem awake_any (w : World) (hG : GM w) : Calls Try.prog 7 #[] w fun e w' => e = .returned (.bool true) ∧ Below w.heap.size w w' := by
  have kc := fun (w : World) (C : Array Value) (n c : Nat) => Lib.run_convert_bytes_const (P := Try.prog) w 28 5 C n c Try.underlying28 Try.underlying5
  have HG := hid hG
  clear hG
  go_enter Try.func7, Try.ntmps7
  go_upto_region 5 with (first
    | (go_at_call 9; refine (new_any _).mono ?_; rintro e w1 ⟨rfl, s1, b1⟩; have S := hid (show RSt w w1 w.heap.size nilR from ⟨_, _, s1⟩); have B := hid b1; clear s1 b1)
    | (go_at_call 10; refine (feed_lit w w1 _ nilR nilR I1 _ [97, 32, 78, 79, 79, 80, 13, 10] 8 S.out B.out HG.out nilR_ok rfl rfl (by decide) fx1 _).mono ?_; rintro e w2 ⟨A1, n1, c1, rfl, hn1, o1, s2, b2, -⟩; obtain rfl : n1 = 1 := hn1; have S := hid s2; have B := hid b2; have O1 := hid o1; clear o1 s2 b2))
  go_upto_region 6 with (go_at_call 10; refine (feed_lit w w2 _ nilR R2 I2 _ [97, 32, 76, 79, 71, 73, 78, 32, 123, 51, 125, 10] 12 S.out B.out HG.out nilR_ok rfl rfl (by decide) fx2 _).mono ?_; rintro e w3 ⟨A2, n2, c2, rfl, hn2, o2, s3, b3, k3⟩; obtain rfl : n2 = 1 := hn2; have S := hid s3; have B := hid b3; have O1 := hid (k3 _ _ _ _ _ O1.out); have O2 := hid o2; clear o2 s3 b3 k3)
  obtain ⟨VP3, VH3, q3⟩ := S.out
  go_upto_region 7 with (go_at_call 12; refine (waits_any q3).mono ?_; rintro e w4 ⟨rfl, rfl⟩)
  clear q3
  go_upto_region 8 with (go_at_call 10; refine (feed_lit w w3 _ R2 nilR I3 _ [106, 111, 101, 32, 120, 10] 6 S.out B.out HG.out R2_ok rfl rfl (by decide) fx3 _).mono ?_; rintro e w4 ⟨A3, n3, c3, rfl, hn3, o3, s4, b4, k4⟩; obtain rfl : n3 = 1 := hn3; have S := hid s4; have B := hid b4; have O1 := hid (k4 _ _ _ _ _ O1.out); have O2 := hid (k4 _ _ _ _ _ O2.out); have O3 := hid o3; clear o3 s4 b4 k4)
  go_upto_region 9 with (go_at_call 10; refine (feed_lit w w4 _ nilR nilR I4 _ [97, 32, 32, 98, 10] 5 S.out B.out HG.out nilR_ok rfl rfl (by decide) fx4 _).mono ?_; rintro e w5 ⟨A4, n4, c4, rfl, hn4, o4, s5, b5, k5⟩; obtain rfl : n4 = 1 := hn4; have B := hid b5; have O1 := hid (k5 _ _ _ _ _ O1.out); have O2 := hid (k5 _ _ _ _ _ O2.out); have O3 := hid (k5 _ _ _ _ _ O3.out); have O4 := hid o4; clear o4 s5 b5 k5)
  go_wp2_with (first
    | (go_at_call 11; (with_reducible refine (same1 _ _ A1 c1 O1.out).mono ?_); rintro e w6 ⟨rfl, b6⟩; have B := hid (next B.out b6); have O2 := hid (O2.out.below b6); have O3 := hid (O3.out.below b6); have O4 := hid (O4.out.below b6); clear b6)
    | (go_at_call 11; (with_reducible refine (same2 _ _ A2 c2 O2.out).mono ?_); rintro e w7 ⟨rfl, b7⟩; have B := hid (next B.out b7); have O3 := hid (O3.out.below b7); have O4 := hid (O4.out.below b7); clear b7)
    | (go_at_call 11; (with_reducible refine (same3 _ _ A3 c3 O3.out).mono ?_); rintro e w8 ⟨rfl, b8⟩; have B := hid (next B.out b8); have O4 := hid (O4.out.below b8); clear b8)
    | (go_at_call 11; (with_reducible refine (same4 _ _ A4 c4 O4.out).mono ?_); rintro e w9 ⟨rfl, b9⟩; have B := hid (next B.out b9); clear b9))
  go_ret
  exact ⟨rfl, B.out⟩
theorem walkLineNumbers (w : World) (hG : GM w) : Calls Try.prog 3 #[] w fun e w' => e = .returned (.bool true) ∧ Below w.heap.size w w' := by
  have HA := hid (awake_any w hG)
  clear hG
  go_enter Try.func3, Try.ntmps3
  go_wp2_with (go_at_call 7; refine HA.out.mono ?_; rintro e w1 ⟨rfl, b1⟩; have B := hid b1; clear b1)
  go_ret
  exact ⟨rfl, B.out⟩
end Go.Proofs.Ytlddhgnecfgnkaa
