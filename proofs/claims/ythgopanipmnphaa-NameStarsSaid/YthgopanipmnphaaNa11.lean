/-
  The document's Meets. A part of the proof: see the head of the text that ends in 'Law'.
-/
import Derived.Test.YthgopanipmnphaaNa10
namespace Go.Proofs.Ythgopanipmnphaa
open Go.RowKit Go.Shelf
set_option linter.unusedVariables false

theorem bytesT : SliceT Try.prog 37 5 (.int .u8 0) 1 1 := ⟨Try.underlying37, by kernel_rfl, rfl, by omega⟩
theorem boolsT : SliceT Try.prog 35 4 (.bool false) 1 1 := ⟨Try.underlying35, by kernel_rfl, rfl, by omega⟩
/-- Does a pattern meet a name? -/
def metB (s p : List UInt8) : Bool := isL s && decide (p.length ≤ 60) && mt (inboxL p) (toldL s)
theorem isL_len {l : List UInt8} (h : isL l = true) : l.length ≤ 60 := (of_decide_eq_true h).2.1
theorem KOk.init (a b : List UInt8) : KOk a b (List.replicate ((a.length + 1) * (b.length + 1)) 0) :=
  ⟨by simp, fun i k hi hk => ⟨0, by rw [List.getElem?_replicate, if_pos (place_lt hi hk)], .inl rfl⟩⟩

set_option maxHeartbeats 1000000 in
theorem refMeets_any (s p : List UInt8) (w : World) (hs : s.length ≤ 1000) (hp : p.length ≤ 1000) :
    Calls Try.prog 9 #[.string (str s), .string (str p)] w fun e w' => e = .returned (.bool (metB s p)) ∧ Below w.heap.size w w' := by
  have B := hid (Below.refl w.heap.size w)
  have hzp : (str p).size ≤ 1000 := hp
  cases h1 : isL s with
  | false =>
    have hu : metB s p = false := by unfold metB; rw [h1]; rfl
    have H1 := hid h1
    rw [hu]
    clear h1 hu
    go_enter Try.func9, Try.ntmps9
    go_wp2_with (go_at_call 18; (with_reducible refine (refIs_any s _ (by omega)).mono ?_); rw [H1.out]; rintro e w1 ⟨rfl, b1⟩; ((first | replace B := B.far b1 | replace B := hid (B.out.below b1) | skip)); clear b1)
    go_ret
    exact ⟨rfl, B.out⟩
  | true =>
    have H1 := hid h1
    by_cases h60 : 60 < (str p).size
    · have hd : decide (60 < (str p).size) = true := by simpa using h60
      have hu : metB s p = false := by
        unfold metB
        rw [h1, decide_eq_false (p := p.length ≤ 60) (by rw [str_size] at h60; omega)]
        rfl
      rw [hu]
      clear h1 hu
      go_enter Try.func9, Try.ntmps9
      go_wp2_with (go_at_call 18; (with_reducible refine (refIs_any s _ (by omega)).mono ?_); rw [H1.out]; rintro e w1 ⟨rfl, b1⟩; ((first | replace B := B.far b1 | replace B := hid (B.out.below b1) | skip)); clear b1)
      go_ret
      exact ⟨rfl, B.out⟩
    · have hd : decide (60 < (str p).size) = false := by simpa using h60
      have hpl : p.length ≤ 60 := by rw [str_size] at h60; omega
      have hu : metB s p = mt (inboxL p) (toldL s) := by
        unfold metB
        rw [h1, decide_eq_true hpl]
        rfl
      have hsl := isL_len h1
      have T1 := hid (fun w => refTold_any s w (by omega))
      have I1 := hid (fun w => refInbox_any p w (by omega))
      have hla : (toldL s).length ≤ 60 := by rw [toldL_length]; exact hsl
      have hlb : (inboxL p).length ≤ 60 := by rw [inboxL_length]; exact hpl
      rw [hu]
      clear h1 hu
      generalize toldL s = a at *
      generalize inboxL p = b at *
      have hza : (str a).size ≤ 60 := hla
      have hzb : (str b).size ≤ 60 := hlb
      obtain ⟨n, hn⟩ : ∃ n, ((str a).size + 1) * ((str b).size + 1) = n := ⟨_, rfl⟩
      have hnb : n ≤ 61 * 61 := by rw [← hn]; exact Nat.mul_le_mul (by omega) (by omega)
      have hw1 : IntKind.i64.wrap ((((str a).size : Int) + 1) * (((str b).size : Int) + 1)) = (n : Int) := by
        have : (((str a).size : Int) + 1) * (((str b).size : Int) + 1) = ((((str a).size + 1) * ((str b).size + 1) : Nat) : Int) := by simp
        rw [this, hn, IntKind.wrap_i64]
        omega
      have HN := hid hn
      have HN2 : Hid (n = (a.length + 1) * (b.length + 1)) := hid hn.symm
      have HM : Hid (∀ (w : World) (g n c : Nat), n = (a.length + 1) * (b.length + 1) → MkI w w g a b → Calls Try.prog 21 #[.string (str a), .string (str b), .int .i64 0, .int .i64 0, .slice (some ⟨g, 0, none⟩) n c] w fun e w' => e = .returned (.bool (mt b a)) ∧ MkI w w' g a b) := hid (meets_any a b (by omega) (by omega) (a.length + b.length) 0 0 (by omega) (by omega) (by omega))
      obtain ⟨i0, hi0, hz0, hz1, hz2⟩ := info_parts bytesT.info
      have Hz1 := hid hz1
      have Hz2 := hid hz2
      have Hi0 := hid hi0
      have Hz0 := hid hz0
      clear hz1 hz2 hi0 hz0 hn
      go_enter Try.func9, Try.ntmps9
      go_wp2_with (first
        | (go_at_call 18; (with_reducible refine (refIs_any s _ (by omega)).mono ?_); rw [H1.out]; rintro e w1 ⟨rfl, b1⟩; ((first | replace B := B.far b1 | replace B := hid (B.out.below b1) | skip)); clear b1)
        | (go_at_call 19; (with_reducible refine (T1.out _).mono ?_); rintro e w2 ⟨rfl, b1⟩; ((first | replace B := B.far b1 | replace B := hid (B.out.below b1) | skip)); clear b1)
        | (go_at_call 20; (with_reducible refine (I1.out _).mono ?_); rintro e w3 ⟨rfl, b1⟩; ((first | replace B := B.far b1 | replace B := hid (B.out.below b1) | skip)); clear b1)
        | (refine wpList_make_full _ rfl (.tmp 27) (.tmp 27) 37 rfl w3.heap.size 5 i0 (.int .u8 0) 1 Try.underlying37 Hi0.out Hz0.out Hz1.out .i64 .i64 n n n rfl rfl rfl rfl (by rw [Hz2.out]; omega) (by unfold maxLen; omega) (Nat.le_refl _) ?_
           intro w4 ho4 hg4
           have b4 := (Below.refl _ _).grown hg4 (Nat.le_refl _) (fun k hk => by cases hk)
           have hbs := B.out.size
           rw [made_one _ rfl] at ho4
           have r4 : OwnC w4 w3.heap.size 5 ((List.replicate n (0 : UInt8)).map B8) := by
             have hpos : 0 < n := by rw [← HN.out]; exact Nat.mul_pos (by omega) (by omega)
             obtain ⟨g, hg, _, og⟩ := own_row ho4 hpos
             injection hg with hg
             injection hg with hg
             subst hg
             rw [List.map_replicate]
             exact og
           have M4 : Hid (MkI w4 w4 w3.heap.size a b) := hid ⟨_, r4, by rw [← HN.out]; exact KOk.init a b, Below.refl _ _⟩
           ((first | replace B := B.far b4 | replace B := hid (B.out.below b4) | skip))
           clear hg4 ho4 b4 r4)
        | (go_at_call 21; (with_reducible refine (HM.out _ _ n n HN2.out M4.out).mono ?_); rintro e w5 ⟨rfl, m5⟩; obtain ⟨K5, _, _, b5⟩ := m5; have B5 := hid (B.out.trans (b5.mono hbs)); clear b5))
      go_ret
      exact ⟨rfl, B5.out⟩
end Go.Proofs.Ythgopanipmnphaa
