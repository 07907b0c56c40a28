/-
  Steps: what each is in memory, and what they do with a disk; journal.all walked. A part of the proof: see the head of the text that ends in 'Law'.
-/
import Derived.Test.YtpppmijohfjigaaJn5
namespace Go.Proofs.Ytpppmijohfjigaa
open Go.RowKit
set_option linter.unusedVariables false
set_option maxRecDepth 100000
attribute [local go_sem] Oper.semAt_some

/-- Octets that no word about the disk changes. -/
def OctD (d hb : Nat) (W : World) (A : Option Addr) (n : Nat) (l : List UInt8) : Prop :=
  l.length = n ∧ (l ≠ [] → ∃ g off cur T fr, A = some ⟨g, off, none⟩ ∧ g ≠ d ∧ g ≠ hb ∧ (T ≠ 101 ∧ T ≠ 54) ∧ W.heap[g]? = some (.cells cur T fr) ∧ ∀ j u, (l.map B8)[j]? = some u → cur[off + j]? = some u)
theorem OctD.oct {d hb : Nat} {W : World} {A : Option Addr} {n : Nat} {l : List UInt8} (h : OctD d hb W A n l) : Oct W A n l :=
  ⟨h.1, fun hne => by
    obtain ⟨g, off, cur, T, fr, hA, -, -, -, hc, hu⟩ := h.2 (by intro e; subst e; exact hne rfl)
    exact ⟨g, off, hA, fun j v hv => by rw [cell_of_row W g (off + j) cur T fr hc]; exact hu j v hv⟩⟩
theorem OctD.lets {d hb : Nat} {W w' : World} {A : Option Addr} {n : Nat} {l : List UInt8} (h : OctD d hb W A n l) (hL : Lets d hb W w') : OctD d hb w' A n l :=
  ⟨h.1, fun hne => by
    obtain ⟨g, off, cur, T, fr, hA, h1, h2, h3, hc, hu⟩ := h.2 hne
    exact ⟨g, off, cur, T, fr, hA, h1, h2, h3, hL.block g cur T fr h1 h2 h3.1 hc, hu⟩⟩
theorem OctD.below {d hb : Nat} {W w' : World} {A : Option Addr} {n : Nat} {l : List UInt8} (h : OctD d hb W A n l) (hb' : Below W.heap.size W w') : OctD d hb w' A n l :=
  h.lets (Lets.of_below hb')
theorem OctD.of_own {d hb g : Nat} {W : World} {T : TypeId} {l : List UInt8} (h : OwnE W g T (l.map B8)) (h1 : g ≠ d) (h2 : g ≠ hb) (h3 : T ≠ 101 ∧ T ≠ 54) : OctD d hb W (some ⟨g, 0, none⟩) l.length l :=
  ⟨rfl, fun _ => ⟨g, 0, _, T, _, rfl, h1, h2, h3, h, fun j u hu => by rw [Nat.zero_add]; simpa using hu⟩⟩
/-- Nothing but steps has changed. -/
def KeepF (W W' : World) : Prop := ∀ (g : Nat) (cur : Array Value) (T : TypeId) (fr : Nat × Nat), T ≠ 54 → W.heap[g]? = some (.cells cur T fr) → W'.heap[g]? = some (.cells cur T fr)
theorem KeepF.grown {W W' : World} {b0 s n : Nat} {v : Value} {xs : List Value} (hr : W.ownsRow b0 54 s v n xs) (hg : W.grownBy W' v.ownBlock) : KeepF W W' := fun g cur T fr hT h =>
  (hg.block g (lt_of_heap h) (fun e => by
    obtain ⟨c2, hc⟩ := own_type hr g e.symm
    rw [h] at hc
    injection hc with hc
    injection hc with _ ht
    exact hT ht)).trans h
theorem OctD.keepF {d hb : Nat} {W w' : World} {A : Option Addr} {n : Nat} {l : List UInt8} (h : OctD d hb W A n l) (hk : KeepF W w') : OctD d hb w' A n l :=
  ⟨h.1, fun hne => by
    obtain ⟨g, off, cur, T, fr, hA, h1, h2, h3, hc, hu⟩ := h.2 hne
    exact ⟨g, off, cur, T, fr, hA, h1, h2, h3, hk g cur T fr h3.2 hc, hu⟩⟩
theorem St.ty_d {w0 W : World} {d hb g : Nat} {D : Dsk} {T : TypeId} {xs : List Value} (h : St w0 W d hb D) (ho : OwnE W g T xs) (hT : T ≠ 94) : g ≠ d := by
  obtain ⟨V, hV⟩ := h.at_
  exact ho.type_ne hV.cells hT
theorem St.ty_h {w0 W : World} {d hb g : Nat} {D : Dsk} {T : TypeId} {xs : List Value} (h : St w0 W d hb D) (ho : OwnE W g T xs) (hT : T ≠ 99) : g ≠ hb := by
  obtain ⟨V, hV⟩ := h.at_
  exact ho.type_ne hV.sect hT
theorem OwnE.lets_ty {w0 W w' : World} {d hb g : Nat} {D : Dsk} {T : TypeId} {xs : List Value} (ho : OwnE W g T xs) (h : St w0 W d hb D) (hL : Lets d hb W w') (h1 : T ≠ 94) (h2 : T ≠ 99) (h3 : T ≠ 101) : OwnE w' g T xs :=
  ho.lets hL (h.ty_d ho h1) (h.ty_h ho h2) h3
theorem own_lets_ty {w0 W W' : World} {d hb n size b0 : Nat} {D : Dsk} {e : TypeId} {v : Value} {xs : List Value} (hr : W.ownsRow b0 e size v n xs) (h : St w0 W d hb D) (hL : Lets d hb W W') (h1 : e ≠ 94) (h2 : e ≠ 99) (h3 : e ≠ 101) : W'.ownsRow b0 e size v n xs := by
  refine ⟨hr.1, ?_⟩
  obtain ⟨V, hV⟩ := h.at_
  rcases hr.2 with hq | ⟨k, cap, cur, e2, k1, k2, k3⟩
  · exact .inl hq
  · refine .inr ⟨k, cap, cur, e2, k1, hL.block k cur e _ ?_ ?_ h3 k2, k3⟩
    · rintro rfl
      rw [show W.heap[k]? = _ from hV.cells] at k2
      injection k2 with k2
      injection k2 with _ k2
      exact h1 k2.symm
    · rintro rfl
      rw [show W.heap[k]? = _ from hV.sect] at k2
      injection k2 with k2
      injection k2 with _ k2
      exact h2 k2.symm
/-- A step: a write, or a flush. -/
inductive Stp
  | wr (i : Int) (s : List UInt8)
  | fl
def stepD (D : Dsk) : Stp → Dsk × Nat
  | .wr i s => writeD D i s
  | .fl => flushD D
/-- Steps, till one fails. -/
def runD : List Stp → Dsk → Dsk × Nat
  | [], D => (D, 0)
  | s :: r, D => if (stepD D s).2 = 0 then runD r (stepD D s).1 else stepD D s
theorem runD_append : ∀ (a b : List Stp) (D : Dsk), runD (a ++ b) D = if (runD a D).2 = 0 then runD b (runD a D).1 else runD a D
  | [], b, D => by simp [runD]
  | s :: r, b, D => by
    rw [List.cons_append, runD, runD]
    by_cases h : (stepD D s).2 = 0
    · rw [if_pos h, if_pos h, runD_append r b]
    · rw [if_neg h, if_neg h, if_neg h]
theorem step_waits (D : Dsk) (s : Stp) : (stepD D s).1.waits.length ≤ D.waits.length + 1 := by
  have hs : (spendD D).waits = D.waits := by unfold spendD; split <;> (try split) <;> (try split) <;> rfl
  cases s with
  | wr i s =>
    show (writeD D i s).1.waits.length ≤ _
    unfold writeD
    split
    · split
      · simp
      · rw [hs]; omega
    · show D.waits.length ≤ _; omega
  | fl =>
    show (flushD D).1.waits.length ≤ _
    unfold flushD
    split
    · simp
    · rw [hs]; omega
def wrF (b1 b2 b3 : Nat) : Value := .func (.func 74) #[] #[.pointer (some ⟨b1, 0, none⟩), .pointer (some ⟨b2, 0, none⟩), .pointer (some ⟨b3, 0, none⟩)]
def flF (d : Nat) : Value := .func (.func 21) #[.pointer (some ⟨d, 0, none⟩)] #[]
/-- A step as it lies in memory. -/
def StepV (d hb : Nat) (W : World) (v : Value) : Stp → Prop
  | .fl => v = flF d
  | .wr i s => s.length = 128 ∧ ∃ b1 b2 b3 A c, v = wrF b1 b2 b3 ∧ OwnE W b1 33 [.pointer (some ⟨d, 0, none⟩)] ∧ OwnE W b2 3 [.int .i64 i] ∧ OwnE W b3 24 [.slice A 128 c] ∧ 128 ≤ c ∧ OctD d hb W A 128 s
theorem StepV.below {d hb : Nat} {W w' : World} {v : Value} {s : Stp} (h : StepV d hb W v s) (hb' : Below W.heap.size W w') : StepV d hb w' v s := by
  cases s with
  | fl => exact h
  | wr i s =>
    obtain ⟨h0, b1, b2, b3, A, c, hv, h1, h2, h3, h4, h5⟩ := h
    exact ⟨h0, b1, b2, b3, A, c, hv, h1.below hb', h2.below hb', h3.below hb', h4, h5.below hb'⟩
theorem StepV.keepF {d hb : Nat} {W w' : World} {v : Value} {s : Stp} (h : StepV d hb W v s) (hk : KeepF W w') : StepV d hb w' v s := by
  cases s with
  | fl => exact h
  | wr i s =>
    obtain ⟨h0, b1, b2, b3, A, c, hv, h1, h2, h3, h4, h5⟩ := h
    exact ⟨h0, b1, b2, b3, A, c, hv, hk _ _ _ _ (by decide) h1, hk _ _ _ _ (by decide) h2, hk _ _ _ _ (by decide) h3, h4, h5.keepF hk⟩
theorem StepV.lets {w0 : World} {d hb : Nat} {D : Dsk} {W w' : World} {v : Value} {s : Stp} (h : StepV d hb W v s) (hS : St w0 W d hb D) (hL : Lets d hb W w') : StepV d hb w' v s := by
  cases s with
  | fl => exact h
  | wr i s =>
    obtain ⟨h0, b1, b2, b3, A, c, hv, h1, h2, h3, h4, h5⟩ := h
    exact ⟨h0, b1, b2, b3, A, c, hv, h1.lets_ty hS hL (by decide) (by decide) (by decide), h2.lets_ty hS hL (by decide) (by decide) (by decide), h3.lets_ty hS hL (by decide) (by decide) (by decide), h4, h5.lets hL⟩
theorem write_d {w0 W : World} {d hb : Nat} {D : Dsk} (h : St w0 W d hb D) (i : Int) (A : Option Addr) (c : Nat) (s : List UInt8) (ho : OctD d hb W A 128 s) (hc : 128 ≤ c) (hw : D.waits.length ≤ 100000) :
    Calls Try.prog 19 #[.pointer (some ⟨d, 0, none⟩), .int .i64 i, .slice A 128 c] W fun e w' => e = .returned (.int .i64 ((writeD D i s).2 : Int)) ∧ St w0 w' d hb (writeD D i s).1 ∧ Lets d hb W w' := by
  obtain ⟨V, hV⟩ := h.at_
  have hs := ho.1
  by_cases hi : 0 ≤ i ∧ i < D.has.length
  · by_cases hon : onD D = true
    · obtain ⟨g, off, cur, T, fr, rfl, h1, h2, h3, hg, hu⟩ := ho.2 (by intro e; rw [e] at hs; cases hs)
      have hbm : ¬ Mine d hb V g := by
        rintro (e | e | e)
        · exact h1 e
        · exact h2 e
        · rcases hV.wait.2 with ⟨e2, _⟩ | ⟨g', cap, cur', e2, _, hg', _⟩
          · rw [e2] at e; simp [Value.ownBlock] at e
          · rw [e2] at e
            obtain rfl : g' = g := by simpa [Value.ownBlock] using e
            rw [hg] at hg'
            injection hg' with hg'
            injection hg' with _ ht
            exact h3.1 ht
      have hran : W.rangeAt g off (s.map B8) := fun j v hv => by rw [cell_of_row W g (off + j) cur T fr hg]; exact hu j v hv
      refine (write_on hV i hi g off c hc s hs hran hbm hon hw).mono ?_
      rintro e w' ⟨rfl, V', k1, k2, k3⟩
      rw [show writeD D i s = ({ spendD D with waits := D.waits ++ [(i, s)] }, 0) by unfold writeD; rw [if_pos hi, if_pos hon]]
      exact ⟨rfl, h.of_only hV k1 k2 (fun e => by simp at e), Lets.of_only hV k2⟩
    · refine (write_off hV i hi _ _ (by simpa using hon)).mono ?_
      rintro e w' ⟨rfl, k1, k2⟩
      rw [show writeD D i s = (spendD D, 10) by unfold writeD; rw [if_pos hi, if_neg hon]]
      exact ⟨rfl, h.of_only hV k1 k2 (fun e => h.nl V hV (by rw [← spend_waits D]; exact e)), Lets.of_only hV k2⟩
  · refine (write_no hV i hi _ _ _).mono ?_
    rintro e w' ⟨rfl, rfl⟩
    rw [show writeD D i s = (D, 4) by unfold writeD; rw [if_neg hi]]
    exact ⟨rfl, h, Lets.refl _ _ _⟩
/-- journal.write. -/
theorem jwrite_any (d : Nat) (i : Int) (A : Option Addr) (n c : Nat) (W : World) :
    Calls Try.prog 47 #[.pointer (some ⟨d, 0, none⟩), .int .i64 i, .slice A n c] W fun e w' => ∃ b1 b2 b3, e = .returned (wrF b1 b2 b3) ∧ OwnE w' b1 33 [.pointer (some ⟨d, 0, none⟩)] ∧ OwnE w' b2 3 [.int .i64 i] ∧ OwnE w' b3 24 [.slice A n c] ∧ Below W.heap.size W w' := by
  have a1 := (Below.refl _ W).alloc (Nat.le_refl _) (.cells #[.pointer (some ⟨d, 0, none⟩)] 33)
  have o1 : OwnE (W.alloc (.cells #[.pointer (some ⟨d, 0, none⟩)] 33)) W.heap.size 33 [.pointer (some ⟨d, 0, none⟩)] := OwnE.new_ W _ _
  obtain ⟨W1, hW1⟩ : ∃ W1, W.alloc (.cells #[.pointer (some ⟨d, 0, none⟩)] 33) = W1 := ⟨_, rfl⟩
  have s1 : W1.heap.size = W.heap.size + 1 := by rw [← hW1]; simp
  rw [hW1] at a1 o1
  have a2 := (Below.refl _ W1).alloc (Nat.le_refl _) (.cells #[.int .i64 i] 3)
  have o2 : OwnE (W1.alloc (.cells #[.int .i64 i] 3)) W1.heap.size 3 [.int .i64 i] := OwnE.new_ W1 _ _
  obtain ⟨W2, hW2⟩ : ∃ W2, W1.alloc (.cells #[.int .i64 i] 3) = W2 := ⟨_, rfl⟩
  have s2 : W2.heap.size = W.heap.size + 2 := by rw [← hW2]; simp; omega
  rw [hW2] at a2 o2
  have a3 := (Below.refl _ W2).alloc (Nat.le_refl _) (.cells #[.slice A n c] 24)
  have o3 : OwnE (W2.alloc (.cells #[.slice A n c] 24)) W2.heap.size 24 [.slice A n c] := OwnE.new_ W2 _ _
  have HF : Hid (∀ w', W2.alloc (.cells #[.slice A n c] 24) = w' → OwnE w' W.heap.size 33 [.pointer (some ⟨d, 0, none⟩)] ∧ OwnE w' (W.heap.size + 1) 3 [.int .i64 i] ∧ OwnE w' (W.heap.size + 2) 24 [.slice A n c] ∧ Below W.heap.size W w') := hid (by
    rintro w' rfl
    rw [s1] at o2
    rw [s2] at o3
    exact ⟨(o1.below a2).below a3, o2.below a3, o3, past (past a1 a2) a3⟩)
  subst hW1 hW2
  clear a1 o1 s1 a2 o2 s2 a3 o3
  go_enter Try.func47, Try.ntmps47
  go_wp2_with fail
  go_ret
  exact ⟨_, _, _, rfl, HF.out _ rfl⟩
theorem jclo_any {w0 W : World} {d hb : Nat} {D : Dsk} (h : St w0 W d hb D) (b1 b2 b3 : Nat) (i : Int) (A : Option Addr) (c : Nat) (s : List UInt8) (h1 : OwnE W b1 33 [.pointer (some ⟨d, 0, none⟩)]) (h2 : OwnE W b2 3 [.int .i64 i]) (h3 : OwnE W b3 24 [.slice A 128 c]) (hc : 128 ≤ c) (ho : OctD d hb W A 128 s) (hw : D.waits.length ≤ 100000) :
    Calls Try.prog 74 #[.pointer (some ⟨b1, 0, none⟩), .pointer (some ⟨b2, 0, none⟩), .pointer (some ⟨b3, 0, none⟩)] W fun e w' => e = .returned (.int .i64 ((writeD D i s).2 : Int)) ∧ St w0 w' d hb (writeD D i s).1 ∧ Lets d hb W w' := by
  have HW := hid (write_d h i A c s ho hc hw)
  have x1 := h1.cell (j := 0) rfl
  have x2 := h2.cell (j := 0) rfl
  have x3 := h3.cell (j := 0) rfl
  clear h h1 h2 h3 ho
  go_enter Try.func74, Try.ntmps74
  go_wp2_with (go_at_call 19; refine HW.out.mono ?_; rintro e w1 ⟨rfl, k1, k2⟩; have HK1 := hid k1; have HK2 := hid k2; clear k1 k2)
  go_ret
  exact ⟨rfl, HK1.out, HK2.out⟩
end Go.Proofs.Ytpppmijohfjigaa
