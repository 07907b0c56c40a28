/-
  JournalAll and JournalSettles: what their walks lean on. A part of the proof: see the head of the text that ends in 'Law'.
-/
import Derived.Test.YtpppmijohfjigaaJnAw
namespace Go.Proofs.Ytpppmijohfjigaa
open Go.RowKit
set_option linter.unusedVariables false
set_option maxRecDepth 100000

theorem PutsT.strs {W W' : World} {n b0 s k : Nat} {A : Option Addr} {vs : List PuV} {v : Value} {xs : List Value} (h : PutsT W A n vs) (hr : W.ownsRow b0 9 s v k xs) (hg : W.grownBy W' v.ownBlock) : PutsT W' A n vs := by
  have hk : ∀ (T : TypeId), T ≠ 9 → ∀ (g : Nat) (cur : Array Value) (fr : Nat × Nat), W.heap[g]? = some (.cells cur T fr) → W'.heap[g]? = some (.cells cur T fr) := fun T hT g cur fr hh => (hg.block g (lt_of_heap hh) (fun e => by
    obtain ⟨c2, hc⟩ := own_type hr g e.symm
    rw [hh] at hc
    injection hc with hc
    injection hc with _ ht
    exact hT ht)).trans hh
  exact ⟨h.len, h.row.keep (hk _ (by decide)), h.ol, fun v hv => (h.oc v hv).keep (hk _ (by decide)), h.i64, h.cap⟩
theorem runD_waits : ∀ (ss : List Stp) (D : Dsk), (runD ss D).1.waits.length ≤ D.waits.length + ss.length
  | [], D => by simp [runD]
  | s :: r, D => by
    have h1 := step_waits D s
    rw [runD]
    split
    · have h2 := runD_waits r (stepD D s).1
      rw [List.length_cons]
      omega
    · rw [List.length_cons]
      omega
theorem settle_len (l : List Iss) : (settleS l).length = l.length + 3 := by
  unfold settleS homeS tailS
  rw [List.length_append, List.length_map]
  rfl
theorem commit_len (l : List Iss) : (commitS l).length = 2 * l.length + 6 := by
  unfold commitS
  rw [List.length_append, List.length_append, settle_len, putS_wr]
  unfold wrS
  rw [List.length_map, putI_len]
  show l.length + 3 + (l.length + 3) = _
  omega
theorem commit_w (D : Dsk) (l : List Iss) (h : l.length ≤ 42) : (commitD D l).1.waits.length ≤ D.waits.length + 90 := by
  unfold commitD
  split
  · exact Nat.le_add_right _ _
  · have h1 := runD_waits (commitS l) D
    rw [commit_len] at h1
    omega
theorem recover_w (D : Dsk) : (recoverD D).1.waits.length ≤ D.waits.length + 43 := by
  unfold recoverD
  split
  · exact Nat.le_add_right _ _
  · split
    · exact Nat.le_add_right _ _
    · split
      · rename_i l hl
        have h1 := runD_waits (settleS l) D
        have h2 := (mayJ_true (toldD_may hl).1).l40
        rw [settle_len] at h1
        show (runD (settleS l) D).1.waits.length ≤ _
        omega
      · split
        · exact Nat.le_add_right _ _
        · have h1 := runD_waits formatS D
          have h2 : formatS.length = 2 := rfl
          show (runD formatS D).1.waits.length ≤ _
          omega
/-- A disk of which nothing waits, on, without a budget, its head empty. -/
structure Base (D : Dsk) : Prop where
  off : D.off = false
  w : D.waits = []
  bud : D.bud = -1
  len : D.has.length = 60
  hd : D.has.getD 0 [] = zer
theorem Base.old {D : Dsk} (h : Base D) : OldS 60 (fun i => D.has.getD i []) D.has := ⟨h.len, h.hd, fun _ _ _ => rfl⟩
theorem base_made : Base (madeD 60) := by
  have h := (made_ok 60 (by omega)).2
  exact ⟨h.off, h.w, h.bud, h.len, h.old.hd⟩
theorem base_commit {l : List Iss} (hm : mayJ l ((60 : Nat) : Int) = true) : (commitD (madeD 60) l).2 = 0 ∧ Base (commitD (madeD 60) l).1 := by
  have h := base_made
  obtain ⟨-, -, h3, h4⟩ := commit_safe hm (madeD 60) h.off h.w h.old (by omega)
  have h5 := h3 h.bud
  obtain ⟨c1, c2, c3⟩ := h4 h5
  exact ⟨h5, c1.off, c2, c1.bud h.bud, c3.len, c3.hd⟩
/-- From the commit on. -/
structure JA (ok : Bool) (was : Nat → List UInt8) (l : List Iss) (D : Dsk) : Prop where
  bad : Bad (JQ ok 60 was l) D
  w : D.waits.length ≤ 200
/-- Behind a cut, the power on again. -/
structure JR (ok : Bool) (was : Nat → List UInt8) (l : List Iss) (D : Dsk) : Prop where
  off : D.off = false
  w : D.waits = []
  q : JQ ok 60 was l D.has
/-- At the end. -/
structure JE (ok : Bool) (was : Nat → List UInt8) (l : List Iss) (D : Dsk) : Prop where
  off : D.off = false
  w : D.waits = []
  len : D.has.length = 60
  again : recoverD D = (D, 0, 0)
  is : (∀ i, 41 ≤ i → i < 60 → D.has.getD i [] = newO l was i) ∨ (ok = false ∧ ∀ i, 41 ≤ i → i < 60 → D.has.getD i [] = was i)
theorem ja_commit {D : Dsk} {l : List Iss} (b : Int) (h : Base D) (hm : mayJ l ((60 : Nat) : Int) = true) : ∃ ok : Bool, ((commitD { D with bud := b } l).2 = if ok = true then 0 else 10) ∧ JA ok (fun i => D.has.getD i []) l (commitD { D with bud := b } l).1 := by
  obtain ⟨h1, h2, -, -⟩ := commit_safe hm { D with bud := b } h.off h.w h.old (by omega)
  refine ⟨decide ((commitD { D with bud := b } l).2 = 0), ?_, h2, ?_⟩
  · rcases h1 with e | e
    · rw [e]; rfl
    · rw [e]; rfl
  · have h3 := commit_w { D with bud := b } l (by have := (mayJ_true hm).l40; omega)
    have h4 : ({ D with bud := b } : Dsk).waits.length = 0 := by show D.waits.length = 0; rw [h.w]; rfl
    omega
theorem JA.cut {ok : Bool} {was : Nat → List UInt8} {l : List Iss} {D : Dsk} (h : JA ok was l D) (ks : List Bool) : JA ok was l (cutD D ks) := ⟨bad_cut h.bad ks, Nat.zero_le _⟩
theorem JA.on {ok : Bool} {was : Nat → List UInt8} {l : List Iss} {D : Dsk} (h : JA ok was l D) : JR ok was l (onD' D) ∧ (onD' D).bud = -1 := ⟨⟨rfl, rfl, (show JQ ok 60 was l D.has from bad_now h.bad)⟩, rfl⟩
theorem JR.ja {ok : Bool} {was : Nat → List UInt8} {l : List Iss} {D : Dsk} (h : JR ok was l D) : JA ok was l D := ⟨bad_q h.w h.q, by rw [h.w]; exact Nat.zero_le _⟩
theorem JR.budget {ok : Bool} {was : Nat → List UInt8} {l : List Iss} {D : Dsk} (h : JR ok was l D) (b : Int) : JR ok was l { D with bud := b } := ⟨h.off, h.w, h.q⟩
theorem JR.recov {ok : Bool} {was : Nat → List UInt8} {l : List Iss} {D : Dsk} (h : JR ok was l D) (hm : mayJ l ((60 : Nat) : Int) = true) : JA ok was l (recoverD D).1 :=
  ⟨(recover_safe hm D h.off h.w h.q (by omega) (by omega)).1, by have := recover_w D; rw [h.w] at this; exact Nat.le_trans this (by show 0 + 43 ≤ 200; omega)⟩
theorem JR.end_ {ok : Bool} {was : Nat → List UInt8} {l : List Iss} {D : Dsk} (h : JR ok was l D) (hm : mayJ l ((60 : Nat) : Int) = true) (hb : D.bud = -1) : (recoverD D).2.2 = 0 ∧ JE ok was l (recoverD D).1 := by
  obtain ⟨h1, h2, h3, h4⟩ := (recover_safe hm D h.off h.w h.q (by omega) (by omega)).2 hb
  refine ⟨h1, h3, h2, ?_, ?_, ?_⟩
  · rcases h4 with k | ⟨-, k⟩
    · exact k.len
    · exact k.len
  · rcases h4 with k | ⟨-, k⟩
    · exact rec_zer h2 h3 (by rw [k.len]; omega) k.hd
    · exact rec_zer h2 h3 (by rw [k.len]; omega) k.hd
  · rcases h4 with k | ⟨e, k⟩
    · exact .inl k.home
    · exact .inr ⟨e, k.home⟩
/-- One failure: how many are done till then, and what a cut keeps. -/
structure FailV where
  N : Nat
  A : Option Addr
  n : Nat
  c : Nat
  ks : List Bool
def failC (f : FailV) : List Value := [.int .u16 (f.N : Int), .slice f.A f.n f.c]
structure FailsIn (w : World) (A : Option Addr) (n : Nat) (fs : List FailV) : Prop where
  len : fs.length = n
  row : Row w A (fs.flatMap failC)
  u16 : ∀ f ∈ fs, f.N < 65536
  kl : ∀ f ∈ fs, f.ks.length = f.n
  kr : ∀ f ∈ fs, Row w f.A (f.ks.map boolV)
theorem fail_len (l : List FailV) : (l.flatMap failC).length = l.length * 2 := by
  induction l with
  | nil => rfl
  | cons x r ih => simp only [List.flatMap_cons, List.length_append, List.length_cons, ih, failC, List.length_nil]; omega
theorem fail_at {w : World} {A : Option Addr} {l : List FailV} (h : Row w A (l.flatMap failC)) {k : Nat} (hk : k < l.length) : ∃ b off, A = some ⟨b, off, none⟩ ∧ ∀ (j : Nat) (hj : j < l.length),
    w.cell? ⟨b, off + j * 2, none⟩ = some (.int .u16 ((l[j]'hj).N : Int)) ∧ w.cell? ⟨b, off + j * 2 + 1, none⟩ = some (.slice (l[j]'hj).A (l[j]'hj).n (l[j]'hj).c) := by
  obtain ⟨b, off, hA, hc⟩ := h (by intro e; have := congrArg List.length e; rw [fail_len, List.length_nil] at this; omega)
  refine ⟨b, off, hA, fun j hj => ?_⟩
  have g := fun i hi => flatMap_get failC 2 (fun _ => rfl) l j i hj hi
  exact ⟨hc (j * 2 + 0) _ ((g 0 (by omega)).trans rfl), hc (j * 2 + 1) _ ((g 1 (by omega)).trans rfl)⟩
def SV2 (s : List UInt8) : Value := .string (str s)
theorem sv2_take (h : List (List UInt8)) (j : Nat) (hj : j < h.length) : (h.take j).map SV2 ++ [SV2 (h.getD j [])] = (h.take (j + 1)).map SV2 := by
  rw [List.take_succ_eq_append_getElem hj, List.map_append, List.getD_eq_getElem?_getD, List.getElem?_eq_getElem hj]
  rfl
theorem lastD_take (l : List Iss) (i j : Nat) (hj : j < l.length) : lastD (l.take (j + 1)) i = if (l[j]).1 = (i : Int) then some (l[j]).2 else lastD (l.take j) i := by
  rw [List.take_succ_eq_append_getElem hj, lastD_snoc]
theorem lastD_eq (l : List Iss) (i j : Nat) (hj : j < l.length) (a : Int) (s : List UInt8) (e : l[j] = (a, s)) (h : a = (i : Int)) : lastD (l.take (j + 1)) i = some s := by
  rw [lastD_take l i j hj, e]
  exact if_pos h
theorem lastD_ne (l : List Iss) (i j : Nat) (hj : j < l.length) (a : Int) (s : List UInt8) (e : l[j] = (a, s)) (h : ¬ a = (i : Int)) : lastD (l.take (j + 1)) i = lastD (l.take j) i := by
  rw [lastD_take l i j hj, e]
  exact if_neg h
theorem beq_str {a b : List UInt8} {e : Bool} (h : (str a == str b) = e) : (a == b) = e := by
  rw [← h, str_eqv]
  by_cases hab : a = b
  · rw [hab, decide_eq_true rfl]; exact beq_self_eq_true b
  · rw [decide_eq_false hab]; exact beq_eq_false_iff_ne.2 hab
theorem was_cell {W : World} {base n c b o : Nat} {h : List (List UInt8)} (hr : W.ownsRow base 9 1 (.slice (some ⟨b, o, none⟩) n c) n (h.map SV2)) {j : Nat} (hj : j < h.length) : W.cell? ⟨b, o + j, none⟩ = some (.string (str (h.getD j []))) := by
  obtain ⟨b2, o2, e, hc⟩ := Row.of_own hr (by intro e; have := congrArg List.length e; rw [List.length_map, List.length_nil] at this; omega)
  injection e with e
  injection e with e1 e2
  subst e1 e2
  refine hc j _ ?_
  rw [List.getElem?_map, List.getElem?_eq_getElem hj, List.getD_eq_getElem?_getD, List.getElem?_eq_getElem hj]
  rfl
end Go.Proofs.Ytpppmijohfjigaa
