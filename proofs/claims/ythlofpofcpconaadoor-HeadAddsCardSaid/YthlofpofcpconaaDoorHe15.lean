/-
  A line without its end; the library's TrimSuffix and Trim at these. A part of the proof: see the head of the text that ends in 'Law'.
-/
import Derived.Test.YthlofpofcpconaaDoorHe14
import Derived.Shelf.Strings.SlTrimAscii
namespace Go.Proofs.YthlofpofcpconaaDoor
open Go.RowKit Go.Shelf
set_option linter.unusedVariables false

theorem string_k (B b : Nat) (l : List UInt8) (w : World) (h : BldAt B b l w) (hBw : B ≤ w.heap.size) :
    Calls Tryd.prog 45 #[.pointer (some ⟨b, 0, none⟩)] w fun e w' => e = .returned (.string (str l)) ∧ Below B w w' ∧ Lib.OthersKept 5 (some b) w w' :=
  (Tryd.Builder_String_any_k B b l w (.of h) hBw).mono fun e w' ⟨h1, _, h2, h3⟩ => ⟨h1, h2, h3⟩
theorem trim_any (l : List UInt8) (w : World) (hl : l.length ≤ 100000000000) : Calls Tryd.prog 44 #[.string (str l), .string ⟨#[32, 9]⟩] w fun e w' => e = .returned (.string (str (trimB l))) ∧ Below w.heap.size w w' :=
  (Any.strings_Trim_laid Tryd.lays160 (by kernel_rfl) (str l) ⟨#[32, 9]⟩ w (by rw [str_size]; omega) (by decide) (Go.Proofs.ascii_of_all (by decide))).mono fun e w' ⟨h1, h2⟩ => ⟨by rw [h1, str_toList]; rfl, h2⟩
/-- Without one octet at its end. -/
def off1 (l : List UInt8) (k : UInt8) : List UInt8 := if l.getLast? = some k then l.dropLast else l
theorem trimSuffix_one (l : List UInt8) (k : UInt8) : Lib.trimSuffix l [k] = off1 l k := by
  unfold Lib.trimSuffix off1 Lib.hasSuffix
  have h : ([k].isSuffixOf l = true) ↔ l.getLast? = some k := by
    rw [List.isSuffixOf_iff_suffix]
    constructor
    · rintro ⟨i, rfl⟩
      simp
    · intro h
      rcases List.eq_nil_or_concat l with rfl | ⟨i, c, rfl⟩
      · cases h
      · rw [List.concat_eq_append, List.getLast?_concat] at h
        injection h with h
        subst h
        exact ⟨i, by rw [List.concat_eq_append]⟩
  by_cases hk : l.getLast? = some k
  · rw [if_pos (h.2 hk), if_pos hk, List.dropLast_eq_take]
    rfl
  · rw [if_neg (fun e => hk (h.1 e)), if_neg hk]
theorem suffix_any (l : List UInt8) (k : UInt8) (w : World) (hl : l.length ≤ 100000000000) : Calls Tryd.prog 42 #[.string (str l), .string ⟨#[k]⟩] w fun e w' => e = .returned (.string (str (off1 l k))) ∧ w = w' :=
  (Tryd.strings_TrimSuffix (str l) ⟨#[k]⟩ w (by rw [str_size]; omega)).mono fun e w' ⟨h1, h2⟩ => ⟨by
    rw [h1, str_toList]
    exact congrArg (fun z => Ending.returned (.string (str z))) (trimSuffix_one l k), h2.symm⟩
end Go.Proofs.YthlofpofcpconaaDoor
