/-
  The library's Collect over the iterator; Free. A part of the proof: see the head of the text that ends in 'Law'.
-/
import Derived.Test.YtccdgfacdohknaaSp15
namespace Go.Proofs.Ytccdgfacdohknaa
open Go.RowKit Go.Shelf
set_option linter.unusedVariables false

theorem slice_of_own {w : World} {base n : Nat} {e : TypeId} {v : Value} {xs : List Value} (h : w.ownsRow base e 1 v n xs) : ∃ A c, v = .slice A n c := by
  rcases h.2 with ⟨rfl, rfl⟩ | ⟨g, cap, cur, rfl, _⟩
  · exact ⟨none, 0, rfl⟩
  · exact ⟨_, _, rfl⟩
def FrPost (w : World) (q : List Nat) (e : Ending) (w' : World) : Prop := ∃ A' c', e = .returned (.slice A' q.length c') ∧ IRow w' A' q.length (q.map Int.ofNat) ∧ Below w.heap.size w w'

set_option maxRecDepth 100000 in
set_option maxHeartbeats 1000000 in
theorem collect_any (Bf : Nat) (l : List Bool) (A : Option Addr) (n c : Nat) (w : World) (ho : Oct w A n (packL l)) (hl : l.length ≤ 2048) (w0 : World) (hb : Below w.heap.size w w0)
    (h0 : w0.cell? ⟨Bf, 0, none⟩ = some (.int .i64 l.length)) (h1 : w0.cell? ⟨Bf, 1, none⟩ = some (.slice A n c)) (hB : Bf < w0.heap.size) :
    Calls Try.prog 29 #[.func (.func 30) #[] #[.pointer (some ⟨Bf, 0, none⟩)]] w0 (FrPost w0 (freeL l l.length)) := by
  have hc : Calls Try.prog 32 #[.slice none 0 0, .func (.func 30) #[] #[.pointer (some ⟨Bf, 0, none⟩)]] w0 (FrPost w0 (freeL l l.length)) :=
    (callsIn_wide (n := 6)).1 ((appendSeq_in 6 (by omega) Bf l A n c w ho hl w0 hb h0 h1 hB).mono fun e W' ⟨v, he, hr, _, hb'⟩ => by
      obtain ⟨A', c', rfl⟩ := slice_of_own hr
      exact ⟨A', c', he, irow_nat rfl (Row.of_own hr), hb'⟩)
  have HC := hid hc
  clear hc h0 h1
  go_enter Try.func29, Try.ntmps29
  go_wp2_with (go_at_call 32; refine HC.out.mono ?_; rintro e w' ⟨A', c', rfl, hr, hb'⟩)
  go_ret
  exact ⟨A', c', rfl, hr, hb'⟩

set_option maxHeartbeats 1000000 in
theorem free_bad (N : Int) (A : Option Addr) (n c : Nat) (bits : List UInt8) (w : World) (ho : Oct w A n bits) (hN : -9223372036854775808 ≤ N ∧ N ≤ 9223372036854775807) (hn : n ≤ 4096) (hm : mayB N bits = false) :
    Calls Try.prog 22 #[.agg #[.int .i64 N, .slice A n c]] w (FrPost w []) := by
  have o1 := hid (ho.alloc (Obj.cells #[.int .i64 N, .slice A n c] 24))
  have HN := hid hN
  have HB := hid ((Below.refl _ w).alloc (Nat.le_refl _) (Obj.cells #[.int .i64 N, .slice A n c] 24))
  have H1 := hid hm
  clear ho hN hm
  go_enter Try.func22, Try.ntmps22
  go_wp2_with (go_at_call 21; refine (may_any N A n c bits _ o1.out HN.out (by omega)).mono ?_; rw [H1.out]; rintro e w1 ⟨rfl, hb1⟩; have B1 := hid (next HB.out hb1); clear hb1)
  go_ret
  exact ⟨none, 0, rfl, IRow.nil _ _, B1.out⟩

set_option maxHeartbeats 1000000 in
theorem free_good (l : List Bool) (A : Option Addr) (n c : Nat) (w : World) (ho : Oct w A n (packL l)) (hl : l.length ≤ 2048) :
    Calls Try.prog 22 #[.agg #[.int .i64 l.length, .slice A n c]] w (FrPost w (freeL l l.length)) := by
  have hn : n ≤ 4096 := by have := ho.len; rw [packL_length] at this; omega
  have o1 := hid (ho.alloc (Obj.cells #[.int .i64 l.length, .slice A n c] 24))
  have HO := hid ho
  have HB := hid ((Below.refl _ w).alloc (Nat.le_refl _) (Obj.cells #[.int .i64 l.length, .slice A n c] 24))
  have K0 := hid (Bx.new_ w l.length A n c 24)
  have H1 := hid (mayB_ok (N := l.length) (bits := packL l) ⟨rfl, hl, rfl⟩)
  clear ho
  go_enter Try.func22, Try.ntmps22
  go_wp2_with (first
    | (go_at_call 21; refine (may_any l.length A n c (packL l) _ o1.out (by omega) (by omega)).mono ?_; rw [H1.out]; rintro e w1 ⟨rfl, hb1⟩; have K1 := K0.out.keep hb1; have B1 := hid (next HB.out hb1); clear hb1)
    | (go_at_call 23; refine (free_any l.length A n c w1).mono ?_; rintro e w2 ⟨rfl, rfl⟩; have K2 := hid (Bx.new_ w1 l.length A n c 24); have B2 := hid (B1.out.alloc B1.out.size (Obj.cells #[.int .i64 l.length, .slice A n c] 24)))
    | (go_at_call 29; refine (collect_any w1.heap.size l A n c w HO.out hl _ B2.out K2.out.1 K2.out.2 (by simp)).mono ?_; rintro e w3 ⟨A', c', rfl, hr, hb3⟩; have B3 := hid (next B2.out hb3); clear hb3))
  go_ret
  exact ⟨A', c', rfl, hr, B3.out⟩
end Go.Proofs.Ytccdgfacdohknaa
