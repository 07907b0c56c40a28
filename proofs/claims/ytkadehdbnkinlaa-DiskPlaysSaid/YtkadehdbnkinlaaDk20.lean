/-
  The chapter's examples. A part of the proof: see the head of the text that ends in 'Law'.
-/
import Derived.Test.YtkadehdbnkinlaaDk19
namespace Go.Proofs.Ytkadehdbnkinlaa
open Go.RowKit
set_option linter.unusedVariables false
attribute [local go_sem] Oper.semAt_some

/-- What was read lies in memory of its own. -/
structure Kp (W : World) (d hb g : Nat) (s : List UInt8) : Prop where
  own : OwnE W g 64 (s.map B8)
  nh : g ≠ hb
  nd : g ≠ d
theorem Kp.lets {W w' : World} {d hb g : Nat} {s : List UInt8} (h : Kp W d hb g s) (hL : Lets d hb W w') : Kp w' d hb g s := ⟨h.own.lets hL h.nd h.nh (by decide), h.nh, h.nd⟩
theorem Kp.below {W w' : World} {d hb g : Nat} {s : List UInt8} (h : Kp W d hb g s) (hL : Below W.heap.size W w') : Kp w' d hb g s := ⟨h.own.below hL, h.nh, h.nd⟩
theorem St.kp {w0 W : World} {d hb g : Nat} {D : Dsk} {s : List UInt8} (h : St w0 W d hb D) (ho : OwnE W g 64 (s.map B8)) (hn : g ≠ hb) : Kp W d hb g s := by
  obtain ⟨V, hV⟩ := h.at_
  exact ⟨ho, hn, ho.type_ne hV.cells (by decide)⟩
/-- A sector of one octet. -/
def secA (c : UInt8) : List UInt8 := List.replicate 128 c
theorem secA_len (c : UInt8) : (secA c).length = 128 := List.length_replicate
theorem str_self (l : List UInt8) : (str l == str l) = true := by
  show (l.toArray == l.toArray) = true
  simp
theorem all_st {w0 W : World} {d hb : Nat} {D : Dsk} (h : St w0 W d hb D) (c : UInt8) :
    Calls Try.prog 9 #[.int .u8 c.toNat] W fun e w' => ∃ g, e = .returned (.slice (some ⟨g, 0, none⟩) 128 128) ∧ OwnC w' g 5 ((secA c).map B8) ∧ St w0 w' d hb D ∧ Below W.heap.size W w' :=
  (all_any c W).mono fun e w' ⟨he, ho, hb⟩ => ⟨_, he, ho, h.below hb, hb⟩
theorem write_good {w0 W : World} {d hb : Nat} {D D' : Dsk} {m : Nat} (h : St w0 W d hb D) (i : Int) (g : Nat) (s : List UInt8) (hs : s.length = 128) (hr : OwnC W g 5 (s.map B8)) (hw : D.waits.length ≤ 100000) (he : writeD D i s = (D', m)) :
    Calls Try.prog 8 #[.pointer (some ⟨d, 0, none⟩), .int .i64 i, .slice (some ⟨g, 0, none⟩) 128 128] W fun e w' => e = .returned (.int .i64 (m : Int)) ∧ St w0 w' d hb D' ∧ Lets d hb W w' := by
  have := write_st h i g s hs hr hw
  rw [he] at this
  exact this
theorem read_good {w0 W : World} {d hb : Nat} {D : Dsk} {s : List UInt8} (h : St w0 W d hb D) (k : Nat) (hk : k < D.has.length) (hoff : D.off = false) (hw : D.waits.length ≤ 100000) (he : readD D k = s) :
    Calls Try.prog 11 #[.pointer (some ⟨d, 0, none⟩), .int .i64 (k : Int)] W fun e w' => ∃ g, e = .returned (.tuple #[.slice (some ⟨g, 0, none⟩) 128 128, .int .i64 0]) ∧ Kp w' d hb g s ∧ St w0 w' d hb D ∧ Below W.heap.size W w' := by
  have := read_st h k hk hoff hw
  rw [he] at this
  exact this.mono fun e w' ⟨g, h1, h2, h3, h4, h5⟩ => ⟨g, h1, h4.kp h2 h3, h4, h5⟩
theorem has_good {w0 W : World} {d hb : Nat} {D : Dsk} {s : List UInt8} (h : St w0 W d hb D) (k : Nat) (hk : k < D.has.length) (he : D.has.getD k [] = s) :
    Calls Try.prog 25 #[.pointer (some ⟨d, 0, none⟩), .int .i64 (k : Int)] W fun e w' => ∃ g, e = .returned (.tuple #[.slice (some ⟨g, 0, none⟩) 128 128, .int .i64 0]) ∧ Kp w' d hb g s ∧ St w0 w' d hb D ∧ Below W.heap.size W w' := by
  have := has_st h k hk
  rw [he] at this
  exact this.mono fun e w' ⟨g, h1, h2, h3, h4, h5⟩ => ⟨g, h1, h4.kp h2 h3, h4, h5⟩
theorem flush_good {w0 W : World} {d hb : Nat} {D D' : Dsk} {m : Nat} (h : St w0 W d hb D) (hw : D.waits.length ≤ 100000) (he : flushD D = (D', m)) :
    Calls Try.prog 10 #[.pointer (some ⟨d, 0, none⟩)] W fun e w' => e = .returned (.int .i64 (m : Int)) ∧ St w0 w' d hb D' ∧ Lets d hb W w' := by
  have := flush_st h hw
  rw [he] at this
  exact this
theorem power_good {w0 W : World} {d hb : Nat} {D : Dsk} {b : Bool} (h : St w0 W d hb D) (hb' : (!D.off) = b) :
    Calls Try.prog 16 #[.pointer (some ⟨d, 0, none⟩)] W fun e w' => e = .returned (.bool b) ∧ W = w' := hb' ▸ power_st h
theorem cut_good {w0 W : World} {d hb : Nat} {D D' : Dsk} (h : St w0 W d hb D) (hw : D.waits.length ≤ 100000) (he : cutD D [false, true] = D') :
    Calls Try.prog 12 #[.pointer (some ⟨d, 0, none⟩), .slice (some ⟨W.heap.size, 0, none⟩) 2 2] (W.alloc (.cells #[.bool false, .bool true] 4)) fun e w' => e = .returned (.tuple #[]) ∧ St w0 w' d hb D' ∧ Lets d hb W w' := by
  have hA : Below W.heap.size W (W.alloc (.cells #[.bool false, .bool true] 4)) := (Below.refl _ _).alloc (Nat.le_refl _) _
  have hd : d < W.heap.size := by
    obtain ⟨V, hV⟩ := h.at_
    exact hV.cells.lt
  have hbl := h.hbl
  have hnew : (W.alloc (.cells #[.bool false, .bool true] 4)).heap[W.heap.size]? = some (.cells #[.bool false, .bool true] 4 (0, 0)) := heap_alloc_new W _
  have := cut_st (h.below hA) hw (some ⟨W.heap.size, 0, none⟩) 2 2 [false, true] rfl (OwnE.row (xs := [.bool false, .bool true]) hnew) (fun a ha => by
    obtain rfl : ⟨W.heap.size, 0, none⟩ = a := by injection ha
    refine ⟨?_, ?_, fun cur fr hc => ?_⟩
    · show W.heap.size ≠ d; omega
    · show W.heap.size ≠ hb; omega
    · rw [hnew] at hc
      cases hc)
  rw [he] at this
  exact this.mono fun e w' ⟨h1, h2, h3⟩ => ⟨h1, h2, (Lets.of_below hA).trans h3⟩
/-- The examples' disks. -/
def dkA (h : List (List UInt8)) (q : List Iss) (b : Int) (o : Bool) : Dsk := ⟨h, q, b, o, [], 2⟩
theorem ex1 (z s : List UInt8) : writeD (dkA [z, z] [] (-1) false) 1 s = (dkA [z, z] [(1, s)] (-1) false, 0) := rfl
theorem ex2 (z s : List UInt8) : readD (dkA [z, z] [(1, s)] (-1) false) 1 = s := rfl
theorem ex3 (z s : List UInt8) : flushD (dkA [z, z] [(1, s)] (-1) false) = (dkA [z, s] [] (-1) false, 0) := rfl
theorem ex4 (z s p : List UInt8) : writeD (dkA [z, s] [] (-1) false) 0 p = (dkA [z, s] [(0, p)] (-1) false, 0) := rfl
theorem ex5 (z s p q : List UInt8) : writeD (dkA [z, s] [(0, p)] (-1) false) 0 q = (dkA [z, s] [(0, p), (0, q)] (-1) false, 0) := rfl
theorem ex6 (z s p q : List UInt8) : cutD (dkA [z, s] [(0, p), (0, q)] (-1) false) [false, true] = dkA [q, s] [] (-1) true := rfl
theorem ex7 (q s r : List UInt8) : writeD (dkA [q, s] [] 1 false) 0 r = (dkA [q, s] [(0, r)] 0 false, 0) := rfl
theorem ex8 (q s r t : List UInt8) : writeD (dkA [q, s] [(0, r)] 0 false) 0 t = (dkA [q, s] [(0, r)] 0 true, 10) := rfl
end Go.Proofs.Ytkadehdbnkinlaa
