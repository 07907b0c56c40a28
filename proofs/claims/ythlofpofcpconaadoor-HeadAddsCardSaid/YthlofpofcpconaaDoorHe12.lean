/-
  The line that ends a header: the program's walk. A part of the proof: see the head of the text that ends in 'Law'.
-/
import Derived.Test.YthlofpofcpconaaDoorHe11
namespace Go.Proofs.YthlofpofcpconaaDoor
open Go.RowKit Go.Shelf
set_option linter.unusedVariables false
attribute [local go_sem] Oper.semAt_some

/-- The first empty line, or what stands for it. -/
def endR : List (List UInt8) → List UInt8
  | [] => [13, 10]
  | x :: r => if emptyB x = true then x else endR r
def endFold (l : List UInt8) {m : Nat} (pre : List (Pr m)) : Option (Pr m) := pre.foldl (fun e p => if emptyB (lineL l p.val) = true then some p else e) none
def endC (l : List UInt8) {m : Nat} : Option (Pr m) → List UInt8
  | none => [13, 10]
  | some p => lineL l p.val
theorem endFold_c (l : List UInt8) {m : Nat} : ∀ (pre : List (Pr m)) (o : Option (Pr m)), endC l (pre.foldl (fun e p => if emptyB (lineL l p.val) = true then some p else e) o) = ((pre.map (·.val)).map (lineL l)).foldl (fun e x => if emptyB x = true then x else e) (endC l o)
  | [], o => rfl
  | p :: pre, o => by
    rw [List.foldl_cons, endFold_c l pre, List.map_cons, List.map_cons, List.foldl_cons]
    congr 1
    split <;> rfl
theorem upto_end : ∀ (ls : List (List UInt8)), (upto ls).foldl (fun e x => if emptyB x = true then x else e) [13, 10] = endR ls
  | [] => rfl
  | x :: r => by
    unfold upto endR
    by_cases h : emptyB x = true
    · rw [if_pos h, if_pos h, List.foldl_cons, if_pos h]
      rfl
    · rw [if_neg h, if_neg h, List.foldl_cons, if_neg h]
      exact upto_end r
theorem endFold_end (l : List UInt8) {m : Nat} (pre : List (Pr m)) (h : pre.map (·.val) = posL (l.take (splitL l))) : endC (l.take (splitL l)) (endFold (l.take (splitL l)) pre) = endR (cutL l) := by
  unfold endFold
  rw [endFold_c, h, lines_of, cut_head]
  exact upto_end _
theorem endFold_snoc (l : List UInt8) {m : Nat} (pre : List (Pr m)) (p : Pr m) : endFold l (pre ++ [p]) = if emptyB (lineL l p.val) = true then some p else endFold l pre := by
  unfold endFold
  rw [List.foldl_append]
  rfl
/-- The slice that stands for it. -/
def endV (A : Option Addr) (c g : Nat) {m : Nat} : Option (Pr m) → Value
  | none => .slice (some ⟨g, 0, none⟩) 2 2
  | some p => .slice (A.map (·.add p.val.1)) (p.val.2 - p.val.1) (c - p.val.1)
theorem endV_some (b off c g : Nat) {m : Nat} (p : Pr m) : endV (some ⟨b, off, none⟩) c g (some p) = .slice (some ⟨b, off + p.val.1, none⟩) (p.val.2 - p.val.1) (c - p.val.1) := by
  unfold endV
  dsimp only
  rw [Option.map_some, Addr.add_mid]
def LaidF (W : World) (B : Nat) (cs : Array Value) (t : TypeId) (fr : Nat × Nat) : Prop := W.heap[B]? = some (.cells cs t fr)
theorem laidF_own {β : Type} (B : Nat) (cs : Array Value) (t : TypeId) (fr : Nat × Nat) : Own (fun (_ : β) W => LaidF W B cs t fr) := fun s X Y row hs hg hr =>
  (hg.block B (lt_of_heap hs) (fun e' => by obtain ⟨o, ho, hc⟩ := hr B e'.symm; rw [show X.heap[B]? = _ from hs] at ho; cases ho; cases hc)).trans hs
set_option maxRecDepth 100000 in
set_option maxHeartbeats 8000000 in
theorem end_any (A : Option Addr) (n c : Nat) (l : List UInt8) (w : World) (ho : Oct w A n l) (hnc : n ≤ c) (hl : n ≤ 100000) :
    Calls Tryd.prog 31 #[.slice A n c] w fun e w' => ∃ A' k c', e = .returned (.slice A' k c') ∧ k ≤ c' ∧ Oct w' A' k (endR (cutL l)) ∧ Below w.heap.size w w' := by
  have HO := hid ho
  have HN : Hid (l.length = n) := hid ho.1
  have HNC := hid hnc
  obtain ⟨m, hm⟩ : ∃ m, splitL l = m := ⟨_, rfl⟩
  have hmn : m ≤ n := by rw [← hm, ← HN.out]; exact split_le l
  have HSP := hid (split_any A n c l w HO.out HNC.out hl)
  rw [hm] at HSP
  obtain ⟨l2, hl2⟩ : ∃ l2, l.take m = l2 := ⟨_, rfl⟩
  have HOM : Hid (Oct w A m l2) := hid (by rw [← hl2]; exact ho.take m hmn)
  have HEN : Hid (∀ pre : List (Pr m), pre.map (·.val) = posL l2 → endC l2 (endFold l2 pre) = endR (cutL l)) := hid (fun pre h => by
    subst hm hl2
    exact endFold_end l pre h)
  clear ho hnc hm hl2
  have m0 : (0 : Int) ≤ (m : Int) := by omega
  have m1 : (m : Int) ≤ (n : Int) := by omega
  have m2 : (m : Int).toNat = m := by omega
  have m3 : m ≤ c := by have := HNC.out; omega
  have m4 : (m : Int) ≤ (c : Int) := by omega
  refine (callsIn_wide (n := 8)).1 (callsIn_of_wp_marks Tryd.func31 rfl trivial ?_ rfl)
  simp only [Tryd.ntmps31, List.size_toArray, List.length_cons, List.length_nil, Nat.reduceAdd, Nat.reduceSub, Array.replicate_succ, Array.replicate_zero, List.push_toArray, List.append_toArray, List.nil_append, List.cons_append]
  refine wpIn_wide.2 ?_
  go_wp2_with (first
    | (go_at_call 18; refine HSP.out.mono ?_; rintro e w5 ⟨rfl, b5⟩; have kc := Go.Joins.run_convert_bytes_const_at (w5.alloc (.cells #[.slice A m c] 22)) 22 5 #[.int .u8 13, .int .u8 10] 2 2 (w5.heap.size + 1) (by simp) Tryd.underlying22 Tryd.underlying5)
    | (go_at_call 33; refine (lines_any A m c _).mono ?_; rintro e w6 ⟨rfl, rfl⟩))
  obtain ⟨w0, hw0⟩ : ∃ w0, ((w5.alloc (.cells #[.slice A m c] 22)).alloc (.cells #[.int .u8 13, .int .u8 10] 5 (2, 3))).alloc (.cells #[.slice (some ⟨w5.heap.size + 1, 0, none⟩) 2 2] 22) = w0 := ⟨_, rfl⟩
  have hs0 : w0.heap.size = w5.heap.size + 1 + 1 + 1 := by rw [← hw0]; simp
  have hs5 : w.heap.size ≤ w5.heap.size := b5.size
  have B0 : Below w.heap.size w w0 := by rw [← hw0]; exact ((b5.alloc hs5 _).alloc (by simp; omega) _).alloc (by simp; omega) _
  have X0 : Boxed w0 w5.heap.size 22 (.slice A m c) := by rw [← hw0]; exact ((Boxed.new w5 _ _).alloc _).alloc _
  have X1 : LaidF w0 (w5.heap.size + 1) #[.int .u8 13, .int .u8 10] 5 (2, 3) := by
    rw [← hw0]
    have h := heap_alloc_new (w5.alloc (.cells #[.slice A m c] 22)) (.cells #[.int .u8 13, .int .u8 10] 5 (2, 3))
    rw [World.size_alloc] at h
    exact (((Below.refl _ _).alloc (Nat.le_refl _) _).block _ (lt_of_heap h)).trans h
  have X2 : Boxed w0 (w5.heap.size + 1 + 1) 22 (.slice (some ⟨w5.heap.size + 1, 0, none⟩) 2 2) := by
    rw [← hw0]
    have := Boxed.new ((w5.alloc (.cells #[.slice A m c] 22)).alloc (.cells #[.int .u8 13, .int .u8 10] 5 (2, 3))) 22 (.slice (some ⟨w5.heap.size + 1, 0, none⟩) 2 2)
    rwa [World.size_alloc, World.size_alloc] at this
  have B1 : Below w.heap.size w (w0.alloc (.cells #[.slice A m c] 22)) := B0.alloc B0.size _
  have BX : Boxed (w0.alloc (.cells #[.slice A m c] 22)) (w5.heap.size + 1 + 1 + 1) 22 (.slice A m c) := by
    have := Boxed.new w0 22 (.slice A m c)
    rwa [hs0] at this
  have HFOLD := hid (show ∀ (pre : List (Pr m)) (x : Pr m), endFold l2 (pre ++ [x]) = if emptyB (lineL l2 x.val) = true then some x else endFold l2 pre from fun pre x => endFold_snoc l2 pre x)
  have X1' : LaidF (w0.alloc (.cells #[.slice A m c] 22)) (w5.heap.size + 1) #[.int .u8 13, .int .u8 10] 5 (2, 3) := (((Below.refl _ _).alloc (Nat.le_refl _) _).block _ (lt_of_heap X1)).trans X1
  rw [hw0]
  refine (wpIn_wide (n := 8)).1 ?_
  refine wpIn_rangeFunc_ownG rfl (by omega) (gf := 47) (lb := #[.pointer (some ⟨w5.heap.size + 1 + 1 + 1, 0, none⟩)]) rfl trivial (enters_of Tryd.func47 (by kernel_rfl) rfl)
    (lines_stops (8 - 1) (by omega) (w5.heap.size + 1 + 1 + 1) l2 A m c w HOM.out m3 (by omega) _ B1 BX.cell (by simp [hs0])) kpf_t (kpf_b (by simp; omega) (by simp [hs0])) (Below.refl _ _) (fun _ => rfl)
    (fun (pre : List (Pr m)) W => ((Boxed W w5.heap.size 22 (.slice A m c) ∧ Boxed W (w5.heap.size + 1 + 1) 22 (endV A c (w5.heap.size + 1) (endFold l2 pre))) ∧ (LaidF W (w5.heap.size + 1) #[.int .u8 13, .int .u8 10] 5 (2, 3) ∧ Boxed W (w5.heap.size + 1 + 1 + 1) 22 (.slice A m c))) ∧ Below w.heap.size w W)
    (fun c' (pre : List (Pr m)) W => False)
    (OwnFrom.and (OwnFrom.and (OwnFrom.and (Own.from (boxed_own _ _ (fun _ => .slice A m c)) _) (Own.from (boxed_own _ _ (fun (pre : List (Pr m)) => endV A c (w5.heap.size + 1) (endFold l2 pre))) _)) (OwnFrom.and (Own.from (laidF_own _ _ _ _) _) (Own.from (boxed_own _ _ (fun _ => .slice A m c)) _))) (ownFrom_below (Nat.le_refl _) (by simp; omega)))
    (fun _ _ _ _ _ hs _ _ => hs)
    ⟨⟨⟨X0.alloc _, X2.alloc _⟩, X1', BX⟩, B1⟩
    ?a1 ?assign ?body ?done ?stop
  case a1 => exact (fun x => { tmps := #[.slice A n c, undef, .slice none 0 0, .pointer (some ⟨w5.heap.size, 0, none⟩), .pointer (some ⟨w5.heap.size + 1 + 1, 0, none⟩), I64 x.val.1, I64 x.val.2, .slice A n c, .slice A n c, .int .i64 (m : Int), .slice A m c, .slice (some ⟨w5.heap.size + 1, 0, none⟩) 2 2, .slice (some ⟨w5.heap.size + 1, 0, none⟩) 2 2, .slice A m c, .func (.func 47) #[] #[.pointer (some ⟨w5.heap.size + 1 + 1 + 1, 0, none⟩)], I64 x.val.1, I64 x.val.2, undef, undef, undef, undef, undef, undef, undef, undef, undef, undef], defers := [] })
  case assign =>
    intro lq x W K hK
    dsimp only [I64, prV] at hK ⊢
    gi_wp2
    exact hK
  case body =>
    rintro lq pre ⟨⟨i, j⟩, hij⟩ W ⟨⟨⟨x0, x2⟩, x1, x3⟩, hB⟩ hlt
    dsimp only [I64]
    have c0 := x0.cell
    have c2 := x2.cell
    have f2 := x2.frozen
    obtain ⟨b, off, rfl, -⟩ := (HOM.out.below hB).at_ (by omega)
    have HM := hid (oct_mid (HOM.out.below hB) i j hij.1 hij.2)
    have e0 : (0 : Int) ≤ (i : Int) := by omega
    have e1 : (i : Int) ≤ (j : Int) := by omega
    have e2 : (j : Int) ≤ (m : Int) := by omega
    have e2' : (j : Int) ≤ (c : Int) := by omega
    have e3 : (i : Int).toNat = i := by omega
    have e4 : (j : Int).toNat = j := by omega
    have e5 : ¬ c = i := by omega
    have e6 : j ≤ c := by omega
    have e7 : i ≤ j := by omega
    have HE := hid (fun dd => empty_any (some ⟨b, off + i, none⟩) (j - i) dd (lineL l2 (i, j)) W HM.out)
    obtain ⟨t, ht⟩ : ∃ t, emptyB (lineL l2 (i, j)) = t := ⟨_, rfl⟩
    rw [ht] at HE
    obtain ⟨ev, hev⟩ : ∃ ev, endV (m := m) (some ⟨b, off, none⟩) c (w5.heap.size + 1) (endFold l2 pre) = ev := ⟨_, rfl⟩
    have hvs : ∃ B k d, ev = .slice B k d := by
      rw [← hev]
      cases endFold l2 pre with
      | none => exact ⟨_, _, _, rfl⟩
      | some p => exact ⟨_, _, _, rfl⟩
    rw [hev] at x2 c2
    obtain ⟨eB, ek, ed, rfl⟩ := hvs
    cases t with
    | false =>
      gi_wp2_with (refine ⟨trivial, ?_⟩; gi_at_call 34; refine (callsIn_wide.2 (HE.out _)).mono ?_; rintro e w3 ⟨rfl, rfl⟩)
      refine ⟨KeepsFrom.refl _ _, ⟨Below.refl _ _, fun _ => rfl⟩, ?_⟩
      dsimp only
      rw [HFOLD.out, if_neg (by rw [ht]; decide), hev]
      exact ⟨⟨⟨x0, x2⟩, x1, x3⟩, hB⟩
    | true =>
      gi_wp2_with (refine ⟨trivial, ?_⟩; gi_at_call 34; refine (callsIn_wide.2 (HE.out _)).mono ?_; rintro e w3 ⟨rfl, rfl⟩)
      refine ⟨(KeepsOthers.setCell _ _ _).from _, kpf_of ((Below.refl w.heap.size W).setCell (p := ⟨w5.heap.size + 1 + 1, 0, none⟩) (by simp; omega) _) (heap_setCell_other W ⟨w5.heap.size + 1 + 1, 0, none⟩ (w5.heap.size + 1 + 1 + 1) _ (by simp)), ?_⟩
      dsimp only
      rw [HFOLD.out, if_pos ht, endV_some]
      exact ⟨⟨⟨x0.other (by omega) _, x2.set _⟩, (heap_setCell_other W ⟨w5.heap.size + 1 + 1, 0, none⟩ (w5.heap.size + 1) _ (by simp)).trans x1, x3.other (by omega) _⟩, hB.setCell (p := ⟨w5.heap.size + 1 + 1, 0, none⟩) (by simp; omega) _⟩
  case done =>
    rintro D q W hD hys ⟨⟨⟨x0, x2⟩, x1, x3⟩, hB⟩ hK
    have c2 := x2.cell
    have HF := hid (HEN.out q hys)
    have hB2 := hB.trans (belowK_b (w := w) (Nat.le_refl _) W D _ (.deferred none) (by simp at hD; omega) hK rfl rfl)
    have HR : Hid (∃ A' k c', endV A c (w5.heap.size + 1) (endFold l2 q) = .slice A' k c' ∧ k ≤ c' ∧ Oct (W.putObj D (.deferred none)) A' k (endR (cutL l))) := hid (by
      rw [← HF.out]
      cases hq : endFold l2 q with
      | none =>
        refine ⟨_, _, _, rfl, Nat.le_refl _, ?_⟩
        refine Oct.of_block (l := [13, 10]) (fr := (2, 3)) (t := 5) (cs := #[.int .u8 13, .int .u8 10]) ?_ rfl
        have hD1 : w5.heap.size + 1 ≠ D := by simp [hs0] at hD; omega
        exact (World.putObj_heap_other hD1).trans x1
      | some p =>
        obtain ⟨⟨i, j⟩, hij⟩ := p
        obtain ⟨b, off, rfl, -⟩ := HOM.out.at_ (by omega)
        exact ⟨_, _, _, endV_some b off c _ _, by dsimp only; omega, oct_mid (HOM.out.below hB2) i j hij.1 hij.2⟩)
    obtain ⟨A', k, c', hv, hk, hoct⟩ := HR.out
    rw [hv] at c2
    go_wp2
    refine ⟨by simp, .inl ⟨_, _, rfl, run_takeDeferred hK, ?_⟩⟩
    exact ⟨_, results_tmp rfl _ _ _, A', k, c', rfl, hk, hoct, hB2⟩
  case stop =>
    rintro D c' pre W _ _ h _
    exact h.elim
end Go.Proofs.YthlofpofcpconaaDoor
