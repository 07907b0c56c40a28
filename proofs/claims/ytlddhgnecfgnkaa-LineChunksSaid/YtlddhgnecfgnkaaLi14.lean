/-
  What a reader's words leave; octets of a literal. A part of the proof: see the head of the text that ends in 'Law'.
-/
import Derived.Test.YtlddhgnecfgnkaaLi13
namespace Go.Proofs.Ytlddhgnecfgnkaa
open Go.RowKit
set_option linter.unusedVariables false
attribute [local go_sem] Oper.semAt_some

/-- Nothing but a reader's blocks is changed; its blocks then are these, or new ones. -/
structure Mv (W w' : World) (r : Nat) (VP VH VP' VH' : Value) : Prop where
  o : Only (RM r VP VH) W w'
  n : ∀ g, RM r VP' VH' g → RM r VP VH g ∨ W.heap.size ≤ g
theorem Mv.refl (W : World) (r : Nat) (VP VH : Value) : Mv W W r VP VH VP VH := ⟨Only.refl _ _, fun g h => .inl h⟩
theorem Mv.trans {a b c : World} {r : Nat} {P0 H0 P1 H1 P2 H2 : Value} (h : Mv a b r P0 H0 P1 H1) (k : Mv b c r P1 H1 P2 H2) : Mv a c r P0 H0 P2 H2 :=
  ⟨h.o.trans k.o h.n, fun g hg => by
    rcases k.n g hg with h1 | h1
    · exact h.n g h1
    · exact .inr (Nat.le_trans h.o.size h1)⟩
theorem Mv.of_below {a b : World} {r : Nat} {P0 H0 : Value} (h : Below a.heap.size a b) : Mv a b r P0 H0 P0 H0 := ⟨Only.of_below h, fun g hg => .inl hg⟩
theorem Mv.below {a b : World} {b0 r : Nat} {P0 H0 P1 H1 : Value} {R : Rdr} (h : Mv a b r P0 H0 P1 H1) (hR : RdAt a b0 r P0 H0 R) (hb : b0 ≤ a.heap.size) : Below b0 a b := h.o.below hb (fun g hg => (hR.mine g hg).1)
theorem rm_r {r : Nat} {VP VH : Value} : RM r VP VH r := .inl rfl
/-- A number of the reader's is laid. -/
theorem RdAt.num {W : World} {b0 r : Nat} {VP VH : Value} {R R' : Rdr} (h : RdAt W b0 r VP VH R) (i : Nat) (v : Value) (hs : [VP, VH, .bool R.over, .int .i64 (R.size : Int), .int .i64 (R.lits : Int), .int .i64 (R.wait : Int)].set i v = [VP, VH, .bool R'.over, .int .i64 (R'.size : Int), .int .i64 (R'.lits : Int), .int .i64 (R'.wait : Int)]) (h1 : R'.ps = R.ps) (h2 : R'.hv = R.hv) :
    RdAt (W.setCell ⟨r, i, none⟩ v) b0 r VP VH R' ∧ Mv W (W.setCell ⟨r, i, none⟩ v) r VP VH VP VH := by
  have hc := h.cells.set i v
  rw [hs] at hc
  exact ⟨⟨h.r0, hc, by rw [h1]; exact row_far h.ps h.nr.1 _, by rw [h2]; exact row_far h.hv h.nr.2 _⟩, ⟨Only.of_set W ⟨r, i, none⟩ v rm_r, fun g hg => .inl hg⟩⟩
/-- What comes is dropped. -/
theorem RdAt.drop {W : World} {b0 r : Nat} {VP VH : Value} {R : Rdr} (h : RdAt W b0 r VP VH R) : RdAt (W.setCell ⟨r, 1, none⟩ (.slice none 0 0)) b0 r VP (.slice none 0 0) { R with hv := [] } ∧ Mv W (W.setCell ⟨r, 1, none⟩ (.slice none 0 0)) r VP VH VP (.slice none 0 0) :=
  ⟨⟨h.r0, h.cells.set 1 _, row_far h.ps h.nr.1 _, World.ownsRow_nil _ _ _ _⟩, ⟨Only.of_set W ⟨r, 1, none⟩ _ rm_r, fun g hg => by
    rcases hg with e | e | e
    · exact .inl (.inl e)
    · exact .inl (.inr (.inl e))
    · simp [Value.ownBlock] at e⟩⟩
theorem RdAt.ph {W : World} {b0 r : Nat} {VP VH : Value} {R : Rdr} (h : RdAt W b0 r VP VH R) (g : Nat) (hg : VP.ownBlock = some g) : VH.ownBlock ≠ some g := own_types h.ps h.hv (by decide) g hg
/-- An octet more. -/
theorem RdAt.addH {W w3 : World} {b0 r n : Nat} {VP : Value} {AH A3 : Option Addr} {cH c3 : Nat} {R : Rdr} {c : UInt8} (h : RdAt W b0 r VP (.slice AH n cH) R) (hn : R.hv.length = n)
    (ho : w3.ownsRow b0 5 1 (.slice A3 (n + 1) c3) (n + 1) (R.hv.map B8 ++ [B8 c])) (hg : (W.alloc (.cells #[B8 c] 5)).grownBy w3 (Value.ownBlock (.slice AH n cH)))
    (hh : Value.ownBlock (.slice A3 (n + 1) c3) = Value.ownBlock (.slice AH n cH) ∨ Value.ownBlock (.slice A3 (n + 1) c3) = some (W.alloc (.cells #[B8 c] 5)).heap.size) :
    OwnE w3 r 48 [VP, .slice AH n cH, .bool R.over, .int .i64 (R.size : Int), .int .i64 (R.lits : Int), .int .i64 (R.wait : Int)] ∧ RdAt (w3.setCell ⟨r, 1, none⟩ (.slice A3 (n + 1) c3)) b0 r VP (.slice A3 (n + 1) c3) { R with hv := R.hv ++ [c] } ∧ Mv W (w3.setCell ⟨r, 1, none⟩ (.slice A3 (n + 1) c3)) r VP (.slice AH n cH) VP (.slice A3 (n + 1) c3) := by
  have hA : Below W.heap.size W (W.alloc (.cells #[B8 c] 5)) := (Below.refl _ _).alloc (Nat.le_refl _) _
  have e1 := (h.cells.below hA).grown hg h.nr.2
  have hO : Only (RM r VP (.slice AH n cH)) W w3 := (Only.of_below hA).trans (Only.of_grown (T := RM r VP (.slice AH n cH)) hg (fun g e => .inr (.inr e))) (fun g h => .inl h)
  have hp : w3.ownsRow b0 40 2 VP R.ps.length (R.ps.flatMap pcC) := own_only (T := fun g => Value.ownBlock (.slice AH n cH) = some g) (own_below h.ps hA) (Only.of_grown hg (fun g e => e)) (fun g hg e => h.ph g hg e)
  have hne : Value.ownBlock (.slice A3 (n + 1) c3) ≠ some r := e1.row_ne ho (by decide)
  refine ⟨e1, ⟨h.r0, e1.set 1 _, row_far hp h.nr.1 _, ?_⟩, ⟨hO.trans (Only.of_set (T := RM r VP (.slice AH n cH)) w3 ⟨r, 1, none⟩ _ rm_r) (fun g h => .inl h), fun g hg => ?_⟩⟩
  · have := row_far (i := 1) ho hne (.slice A3 (n + 1) c3)
    show World.ownsRow _ _ _ _ _ (R.hv ++ [c]).length ((R.hv ++ [c]).map B8)
    rw [List.length_append, List.length_singleton, hn, List.map_append]
    exact this
  · rcases hg with e | e | e
    · exact .inl (.inl e)
    · exact .inl (.inr (.inl e))
    · rcases hh with e2 | e2
      · exact .inl (.inr (.inr (e2 ▸ e)))
      · rw [e2] at e
        injection e with e
        simp at e
        exact .inr (by omega)
theorem pcS : SliceT Try.prog 41 40 (.agg #[.bool false, .string ⟨#[]⟩]) 2 24 := ⟨Try.underlying41, by kernel_rfl, rfl, by decide⟩
/-- A piece more. -/
theorem RdAt.addP {W w3 : World} {b0 r n : Nat} {VH : Value} {AP A3 : Option Addr} {cP c3 : Nat} {R : Rdr} {p : Pc} {lit : Bool} {s : ByteArray} (h : RdAt W b0 r (.slice AP n cP) VH R) (hn : R.ps.length = n) (hlit : p.lit = lit) (hps : str p.s = s)
    (ho : w3.ownsRow b0 40 2 (.slice A3 (n + 1) c3) (n + 1) (R.ps.flatMap pcC ++ [.bool lit, .string s])) (hg : (W.alloc (.cells #[.bool lit, .string s] 40)).grownBy w3 (Value.ownBlock (.slice AP n cP)))
    (hh : Value.ownBlock (.slice A3 (n + 1) c3) = Value.ownBlock (.slice AP n cP) ∨ Value.ownBlock (.slice A3 (n + 1) c3) = some (W.alloc (.cells #[.bool lit, .string s] 40)).heap.size) :
    OwnE w3 r 48 [.slice AP n cP, VH, .bool R.over, .int .i64 (R.size : Int), .int .i64 (R.lits : Int), .int .i64 (R.wait : Int)] ∧ w3.ownsRow b0 5 1 VH R.hv.length (R.hv.map B8) ∧ RdAt (w3.setCell ⟨r, 0, none⟩ (.slice A3 (n + 1) c3)) b0 r (.slice A3 (n + 1) c3) VH { R with ps := R.ps ++ [p] } ∧ Mv W (w3.setCell ⟨r, 0, none⟩ (.slice A3 (n + 1) c3)) r (.slice AP n cP) VH (.slice A3 (n + 1) c3) VH := by
  subst hlit
  subst hps
  have hA : Below W.heap.size W (W.alloc (.cells #[.bool p.lit, .string (str p.s)] 40)) := (Below.refl _ _).alloc (Nat.le_refl _) _
  have e1 := (h.cells.below hA).grown hg h.nr.1
  have hO : Only (RM r (.slice AP n cP) VH) W w3 := (Only.of_below hA).trans (Only.of_grown (T := RM r (.slice AP n cP) VH) hg (fun g e => .inr (.inl e))) (fun g h => .inl h)
  have hp : w3.ownsRow b0 5 1 VH R.hv.length (R.hv.map B8) := own_only (T := fun g => Value.ownBlock (.slice AP n cP) = some g) (own_below h.hv hA) (Only.of_grown hg (fun g e => e)) (fun g hg e => h.ph g e hg)
  have hne : Value.ownBlock (.slice A3 (n + 1) c3) ≠ some r := e1.row_ne ho (by decide)
  refine ⟨e1, hp, ⟨h.r0, e1.set 0 _, ?_, row_far hp h.nr.2 _⟩, ⟨hO.trans (Only.of_set (T := RM r (.slice AP n cP) VH) w3 ⟨r, 0, none⟩ _ rm_r) (fun g h => .inl h), fun g hg => ?_⟩⟩
  · have := row_far (i := 0) ho hne (.slice A3 (n + 1) c3)
    show World.ownsRow _ _ _ _ _ (R.ps ++ [p]).length ((R.ps ++ [p]).flatMap pcC)
    rw [List.length_append, List.length_singleton, hn, List.flatMap_append]
    simpa [pcC] using this
  · rcases hg with e | e | e
    · exact .inl (.inl e)
    · rcases hh with e2 | e2
      · exact .inl (.inr (.inl (e2 ▸ e)))
      · rw [e2] at e
        injection e with e
        simp at e
        exact .inr (by omega)
    · exact .inl (.inr (.inr e))
end Go.Proofs.Ytlddhgnecfgnkaa
