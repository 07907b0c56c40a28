/-
  A line that is at its end, whatever it is. A part of the proof: see the head of the text that ends in 'Law'.
-/
import Derived.Test.YtlddhgnecfgnkaaLi17
import Derived.Test.YtlddhgnecfgnkaaLi18
import Derived.Test.YtlddhgnecfgnkaaLi19
import Derived.Test.YtlddhgnecfgnkaaLi20
namespace Go.Proofs.Ytlddhgnecfgnkaa
open Go.RowKit
set_option linter.unusedVariables false

theorem line_any (w0 W : World) (r : Nat) (VP VH : Value) (R : Rdr) (h : RdAt W w0.heap.size r VP VH R) (bel : Below w0.heap.size w0 W) (hG : GM w0) (hw : R.wait = 0) (hok : Rok R) :
    Calls Try.prog 16 #[.pointer (some ⟨r, 0, none⟩)] W (LinePost w0 W r VP VH (lineR R).1 (lineR R).2) := by
  by_cases hov : R.over = true
  · exact line_over w0 W r VP VH R h bel hG hw hok hov
  have hov : R.over = false := by simpa using hov
  by_cases hbig : 600 < R.size + (lineS R).length
  · exact line_big w0 W r VP VH R h bel hG hw hok hov hbig
  cases hann : annL (lineS R) with
  | none => exact line_none w0 W r VP VH R h bel hG hw hok hov hbig hann
  | some ni =>
    obtain ⟨m, i⟩ := ni
    by_cases hbg : 4000 < m ∨ R.lits = 4
    · exact line_more w0 W r VP VH R h bel hG hw hok hov hbig m i hann hbg
    · by_cases hm0 : m = 0
      · exact line_lit0 w0 W r VP VH R h bel hG hw hok hov hbig m i hann hbg hm0
      · exact line_lit1 w0 W r VP VH R h bel hG hw hok hov hbig m i hann hbg hm0
end Go.Proofs.Ytlddhgnecfgnkaa
