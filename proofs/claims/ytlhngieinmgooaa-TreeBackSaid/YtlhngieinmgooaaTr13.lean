/-
  tree.read, whole. A part of the proof: see the head of the text that ends in 'Law'.
-/
import Derived.Test.YtlhngieinmgooaaTr12
namespace Go.Proofs.Ytlhngieinmgooaa
open Go.RowKit
set_option linter.unusedVariables false
set_option maxRecDepth 100000

theorem read_any (A : Option Addr) (n c : Nat) (b : List UInt8) (w : World) (ho : Oct w A n b) (hnc : n ≤ c) :
    Calls Try.prog 27 #[.slice A n c] w fun e w' => Below w.heap.size w w' ∧ RdR w w' b e := by
  by_cases h128 : n = 128
  · subst h128
    by_cases h2 : octA b 0 = 2
    · by_cases hm : 12 < octA b 1 ∨ octA b 1 = 0
      · exact read_many2 A c b w ho hnc h2 hm
      · by_cases hp : pageP (b.take (sizeP b)) = b
        · exact read_good2 A c b w ho hnc h2 (by omega) hp
        · exact read_bad2 A c b w ho hnc h2 (by omega) hp
    · by_cases h1 : octA b 0 = 1
      · by_cases hm : 7 < octA b 1
        · exact read_many1 A c b w ho hnc h1 hm
        · by_cases hp : pageP (b.take (sizeP b)) = b
          · exact read_good1 A c b w ho hnc h1 (by omega) hp
          · exact read_bad1 A c b w ho hnc h1 (by omega) hp
      · exact read_kind A c b w ho hnc h1 h2
  · exact read_len A n c b w ho h128
end Go.Proofs.Ytlhngieinmgooaa
