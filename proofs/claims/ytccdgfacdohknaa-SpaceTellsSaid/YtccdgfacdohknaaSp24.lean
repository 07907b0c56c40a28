/-
  The calls of SpaceDoes, their answers' numbers as letters. A part of the proof: see the head of the text that ends in 'Law'.
-/
import Derived.Test.YtccdgfacdohknaaCarry
import Derived.Test.YtccdgfacdohknaaSp23
namespace Go.Proofs.Ytccdgfacdohknaa
open Go.RowKit Go.Shelf
set_option linter.unusedVariables false

/-- Take at any number. -/
def takeZ (o : Option (List Bool)) (k : Int) : (List Bool × Nat) × List Nat := if k < 0 then (([], 1), []) else takeF o k.toNat
theorem takeZ_any (N : Int) (A : Option Addr) (n c : Nat) (bits : List UInt8) (k : Int) (w : World) (o : Option (List Bool)) (hf : FlO N bits o) (ho : Oct w A n bits) (hN : -9223372036854775808 ≤ N ∧ N ≤ 9223372036854775807) (hn : n ≤ 4096) (hk : k ≤ 9223372036854775807) :
    Calls Try.prog 8 #[.agg #[.int .i64 N, .slice A n c], .int .i64 k] w (TkE w (takeZ o k).1.1 (takeZ o k).1.2 (takeZ o k).2) := by
  unfold takeZ
  by_cases h : k < 0
  · rw [if_pos h]
    exact (take_bad N A n c bits k w ho hN hn (.inr h)).mono fun e w' h => TakePost.tke (T := (([], 1), [])) h
  · rw [if_neg h]
    obtain ⟨m, rfl⟩ : ∃ m : Nat, k = m := ⟨k.toNat, by omega⟩
    rw [Int.toNat_natCast]
    exact (take_any N A n c bits m w o hf ho hN hn (by omega)).mono fun e w' h => h.tke
/-- A space and an error, the numbers as letters. -/
def SpE (w : World) (f : List Bool) (E : Nat) (e : Ending) (w' : World) : Prop :=
  ∃ A' c' N2 n2, Hid (N2 = f.length ∧ n2 = (f.length + 7) / 8) ∧ e = .returned (.tuple #[.agg #[.int .i64 (N2 : Nat), .slice A' n2 c'], .int .i64 E]) ∧ Oct w' A' n2 (packL f) ∧ Below w.heap.size w w'
theorem SpPost.spe {w : World} {r : List Bool × Nat} {e : Ending} {w' : World} (h : SpPost w r e w') : SpE w r.1 r.2 e w' := by
  obtain ⟨A', c', he, ho, hb⟩ := h
  exact ⟨A', c', _, _, hid ⟨rfl, rfl⟩, he, ho, hb⟩
/-- What Turn hands back, of a space. -/
def turnO : Option (List Bool) → List Int → Bool → Nat → List Bool × Nat
  | none, _, _, _ => ([], 1)
  | some l, ps, u, e => turnF l ps u e
theorem turn_any (N : Int) (A : Option Addr) (n c : Nat) (bits : List UInt8) (w : World) (B : Option Addr) (nb cb : Nat) (ps : List Int) (u : Bool) (e : Nat) (o : Option (List Bool)) (hf : FlO N bits o) (ho : Oct w A n bits) (hN : -9223372036854775808 ≤ N ∧ N ≤ 9223372036854775807) (hn : n ≤ 4096) (hB : Row w B (ps.map (Value.int .i64))) (hps : ps.length = nb) (hnb : nb ≤ 100000) :
    Calls Try.prog 24 #[.agg #[.int .i64 N, .slice A n c], .slice B nb cb, .bool u, .int .i64 e] w (SpPost w (turnO o ps u e)) := by
  cases o with
  | none => exact turn_bad N A n c bits w B nb cb u e ho hN hn (mayB_bad hf)
  | some l =>
    obtain ⟨h1, h2, h3⟩ := hf
    subst h1
    subst h3
    exact turn_good l A n c w B nb cb ps u e ho h2 hB hps hnb
theorem give_any (N : Int) (A : Option Addr) (n c : Nat) (bits : List UInt8) (w : World) (B : Option Addr) (nb cb : Nat) (ps : List Int) (o : Option (List Bool)) (hf : FlO N bits o) (ho : Oct w A n bits) (hN : -9223372036854775808 ≤ N ∧ N ≤ 9223372036854775807) (hn : n ≤ 4096) (hB : IRow w B nb ps) (hnb : nb ≤ 100000) :
    Calls Try.prog 9 #[.agg #[.int .i64 N, .slice A n c], .slice B nb cb] w (SpE w (turnO o ps true 6).1 (turnO o ps true 6).2) :=
  (give_of N A n c bits w B nb cb _ _ ho hB.2 (fun W ho' hB' => turn_any N A n c bits W B nb cb ps true 6 o hf ho' hN hn hB' hB.1 hnb)).mono fun e w' h => h.spe
theorem mark_any (N : Int) (A : Option Addr) (n c : Nat) (bits : List UInt8) (w : World) (B : Option Addr) (nb cb : Nat) (ps : List Int) (o : Option (List Bool)) (hf : FlO N bits o) (ho : Oct w A n bits) (hN : -9223372036854775808 ≤ N ∧ N ≤ 9223372036854775807) (hn : n ≤ 4096) (hB : IRow w B nb ps) (hnb : nb ≤ 100000) :
    Calls Try.prog 10 #[.agg #[.int .i64 N, .slice A n c], .slice B nb cb] w (SpE w (turnO o ps false 15).1 (turnO o ps false 15).2) :=
  (mark_of N A n c bits w B nb cb _ _ ho hB.2 (fun W ho' hB' => turn_any N A n c bits W B nb cb ps false 15 o hf ho' hN hn hB' hB.1 hnb)).mono fun e w' h => h.spe
/-- The document's flags. -/
theorem flags_none (N : Int) (A : Option Addr) (n c : Nat) (bits : List UInt8) (w : World) (hf : FlO N bits none) (ho : Oct w A n bits) (hn : n ≤ 100000) (hN : -9223372036854775808 ≤ N ∧ N ≤ 9223372036854775807) :
    Calls Try.prog 11 #[.agg #[.int .i64 N, .slice A n c]] w fun e w' => e = .returned (.tuple #[.slice none 0 0, .bool false]) ∧ Below w.heap.size w w' :=
  (flags_any N A n c bits w ho hn hN).mono fun e w' h => by
    rcases h with ⟨l, _, _, hl, _⟩ | ⟨_, he, hb⟩
    · exact absurd ⟨l, hl⟩ hf
    · exact ⟨he, hb⟩
theorem flags_some (N : Int) (A : Option Addr) (n c : Nat) (bits : List UInt8) (w : World) (l : List Bool) (hf : FlO N bits (some l)) (ho : Oct w A n bits) (hn : n ≤ 100000) (hN : -9223372036854775808 ≤ N ∧ N ≤ 9223372036854775807) :
    Calls Try.prog 11 #[.agg #[.int .i64 N, .slice A n c]] w fun e w' => ∃ A' n' c', Hid (n' = l.length) ∧ e = .returned (.tuple #[.slice A' n' c', .bool true]) ∧ BRow w' A' n' l ∧ Below w.heap.size w w' :=
  (flags_any N A n c bits w ho hn hN).mono fun e w' h => by
    rcases h with ⟨l', A', c', hl, he, hr, hb⟩ | ⟨hno, _, _⟩
    · obtain rfl := Ok5.uniq hl hf
      exact ⟨A', _, c', hid rfl, he, hr, hb⟩
    · exact absurd ⟨l, hf⟩ hno
/-- The document's Take. -/
theorem refTake_e (l : List Bool) (A : Option Addr) (n c k : Nat) (w : World) (ho : BRow w A n l) (hn : n ≤ 100000) :
    Calls Try.prog 14 #[.slice A n c, .int .i64 k] w fun e w' => ∃ A1 n1 c1 A2 n2 c2, Hid (n1 = l.length ∧ n2 = (takeL l k).length) ∧ e = .returned (.tuple #[.slice A1 n1 c1, .slice A2 n2 c2, .bool ((takeL l k).length == k)]) ∧ BRow w' A1 n1 (markF l (takeL l k)) ∧ IRow w' A2 n2 ((takeL l k).map Int.ofNat) ∧ Below w.heap.size w w' :=
  (refTake_any l A n c k w ho hn).mono fun e w' ⟨A1, c1, A2, c2, he, h1, h2, hb⟩ => ⟨A1, _, c1, A2, _, c2, hid ⟨rfl, rfl⟩, he, h1, h2, hb⟩
theorem of_e (l : List Bool) (A : Option Addr) (n c : Nat) (w : World) (ho : BRow w A n l) (hn : n ≤ 100000) :
    Calls Try.prog 15 #[.slice A n c] w fun e w' => ∃ A' N2 n2 c', Hid (N2 = l.length ∧ n2 = (l.length + 7) / 8) ∧ e = .returned (.agg #[.int .i64 (N2 : Nat), .slice A' n2 c']) ∧ Oct w' A' n2 (packL l) ∧ Below w.heap.size w w' :=
  (of_any l A n c w ho hn).mono fun e w' ⟨A', c', he, ho', hb⟩ => ⟨A', _, _, c', hid ⟨rfl, rfl⟩, he, ho', hb⟩
theorem refTurn_e (l : List Bool) (A : Option Addr) (n c : Nat) (w : World) (B : Option Addr) (nb cb : Nat) (ps : List Int) (used : Bool) (e : Nat) (ho : BRow w A n l) (hn : n ≤ 100000) (hB : IRow w B nb ps) (hnb : nb ≤ 100000) :
    Calls Try.prog 17 #[.slice A n c, .slice B nb cb, .bool used, .int .i64 e] w fun e' w' => ∃ A' n' c', Hid (n' = (turnF l ps used e).1.length) ∧ e' = .returned (.tuple #[.slice A' n' c', .int .i64 (turnF l ps used e).2]) ∧ BRow w' A' n' (turnF l ps used e).1 ∧ Below w.heap.size w w' :=
  (refTurn_any l A n c w B nb cb ps used e ho hn hB hnb).mono fun e w' ⟨A', c', he, ho', hb⟩ => ⟨A', _, c', hid rfl, he, ho', hb⟩
/-- Two spaces of the same flags are the same. -/
theorem same_e (f : List Bool) (N M n m : Nat) (A B : Option Addr) (c d : Nat) (w : World) (hN : N = f.length) (hM : M = f.length) (ha : Oct w A n (packL f)) (hb : Oct w B m (packL f)) :
    Calls Try.prog 12 #[.agg #[.int .i64 N, .slice A n c], .agg #[.int .i64 M, .slice B m d]] w fun e w' => e = .returned (.bool true) ∧ Below w.heap.size w w' := by
  subst hN
  subst hM
  exact (same_any f.length f.length A B n c m d _ _ w ha hb).mono fun e w' ⟨he, hb⟩ => ⟨by rw [he]; simp, hb⟩
theorem same_zero (N n : Nat) (A : Option Addr) (c : Nat) (w : World) (hN : N = ([] : List Bool).length) (ha : Oct w A n (packL [])) :
    Calls Try.prog 12 #[.agg #[.int .i64 N, .slice A n c], .agg #[.int .i64 0, .slice none 0 0]] w fun e w' => e = .returned (.bool true) ∧ Below w.heap.size w w' := by
  subst hN
  exact (same_any (([] : List Bool).length : Nat) 0 A none n c 0 0 _ [] w ha (Oct.nil _ _)).mono fun e w' ⟨he, hb⟩ => ⟨by rw [he]; rfl, hb⟩
end Go.Proofs.Ytccdgfacdohknaa
