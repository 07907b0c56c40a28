/-
  DiskPlays: both ways. A part of the proof: see the head of the text that ends in 'Law'.
-/
import Derived.Test.YtkadehdbnkinlaaDk34
namespace Go.Proofs.Ytkadehdbnkinlaa
open Go.RowKit
set_option linter.unusedVariables false

theorem walkDiskPlays (x : Int) (s : SlOf ActV) (w : World) (hx : in64 x) (hs : s.Ok actC (fun a => in64 a.1 ∧ in64 a.2.1 ∧ True ∧ True ∧ a.2.2.2.2.Ok (fun b : Bool => [.bool b]) (fun _ => True) w) w) :
    Calls Try.prog 6 #[.int .i64 x, s.val] w fun e w' => e = .returned (.bool true) ∧ Below w.heap.size w w' := by
  by_cases h : x < 1 ∨ 2048 < x
  · exact playsNo x h s.A s.n s.c w
  · obtain ⟨n, rfl⟩ : ∃ n : Nat, x = (n : Int) := ⟨x.toNat, by omega⟩
    exact playsW n (by omega) (by omega) s.n s.c s.A s.l w ⟨hs.nc, hs.cm, hs.len, hs.row, hs.good⟩
end Go.Proofs.Ytkadehdbnkinlaa
