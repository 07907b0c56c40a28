/-
  JournalAll: what is handed in. A part of the proof: see the head of the text that ends in 'Law'.
-/
import Derived.Test.YtpppmijohfjigaaJn28
import Derived.Test.YtpppmijohfjigaaJnArg
namespace Go.Proofs.Ytpppmijohfjigaa
open Go.ChangeShapes Go.WideShapes Go.ChangeAt Go.RowKit
set_option linter.unusedVariables false
set_option maxRecDepth 100000
abbrev FailA : Type := Nat × SlOf Bool
def boolC (b : Bool) : List Value := [.bool b]
def failA (a : FailA) : List Value := [.int .u16 (a.1 : Int)] ++ [a.2.val]
def okFail (W : World) (a : FailA) : Prop := (a.1 : Int) ≤ IntKind.u16.max ∧ a.2.Ok boolC (fun _ => True) W
theorem rd_fail {H : Type} {enc : TypeId × Value → H} {W : World} : RdAs enc Try.prog W 42 failA (okFail W) := by
  have R := rd_struct2 Try.underlying42 (rd_uint (enc := enc) (W := W) (k := .u16) rfl Try.underlying39) (rd_slice Try.underlying40 (rd_bool Try.underlying4) 1 (by kernel_rfl) (fun _ => rfl)) ⟨rfl, by kernel_rfl, by kernel_rfl⟩
  exact R
theorem arg_fails {H : Type} {enc : TypeId × Value → H} {W : World} {r : Reach} {b0 : Nat} {v : Value} {d : DataW H} {p : List MemPlace} (hval : Value.okWide Try.prog W r b0 32 v) (h : DataW.Trod enc Try.prog W 0 (fun _ => true) true 32 v d p) :
    ∃ s : SlOf FailA, v = s.val ∧ s.Ok failA (okFail W) W :=
  arg_sl Try.underlying32 rd_fail 2 (by kernel_rfl) (fun _ => rfl) hval h
theorem flat_bool (l : List Bool) : l.flatMap boolC = l.map boolV := by
  induction l with
  | nil => rfl
  | cons a r ih => rw [List.flatMap_cons, List.map_cons, ih]; rfl
def failV (a : FailA) : FailV := ⟨a.1, a.2.A, a.2.n, a.2.c, a.2.l⟩
theorem flat_fails (l : List FailA) : (l.map failV).flatMap failC = l.flatMap failA := by
  induction l with
  | nil => rfl
  | cons a r ih => rw [List.map_cons, List.flatMap_cons, List.flatMap_cons, ih]; rfl
theorem fails_of {W : World} {s : SlOf FailA} (h : s.Ok failA (okFail W) W) : FailsIn W s.A s.n (s.l.map failV) := by
  refine ⟨by rw [List.length_map]; exact h.len, by rw [flat_fails]; exact h.row, ?_, ?_, ?_⟩
  all_goals (intro v hv; obtain ⟨a, ha, rfl⟩ := List.mem_map.1 hv; have g := h.good a ha)
  · have h1 : IntKind.u16.max = 65535 := by decide
    have h2 := g.1
    rw [h1] at h2
    show a.1 < 65536
    omega
  · exact g.2.len
  · rw [← flat_bool]; exact g.2.row
theorem walkJournalAll (s1 s2 : SlOf PutA) (s3 : SlOf FailA) (w : World) (h1 : s1.Ok putA (okPut w) w) (h2 : s2.Ok putA (okPut w) w) (h3 : s3.Ok failA (okFail w) w) :
    Calls Try.prog 4 #[s1.val, s2.val, s3.val] w fun e w' => e = .returned (.bool true) ∧ Below w.heap.size w w' :=
  all_walk s1.A s2.A s3.A s1.n s2.n s3.n s1.c s2.c s3.c _ _ _ w (puts_of h1) h1.nc (puts_of h2) h2.nc (fails_of h3)
end Go.Proofs.Ytpppmijohfjigaa
