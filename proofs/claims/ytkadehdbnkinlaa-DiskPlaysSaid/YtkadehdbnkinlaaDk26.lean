/-
  The document's disk: what it is in memory, and its small words. A part of the proof: see the head of the text that ends in 'Law'.
-/
import Derived.Test.YtkadehdbnkinlaaDk24
namespace Go.Proofs.Ytkadehdbnkinlaa
open Go.RowKit
set_option linter.unusedVariables false
attribute [local go_sem] Oper.semAt_some

def wtC (p : Iss) : List Value := [.int .i64 p.1, SV p.2]
/-- The document's disk at m. -/
structure RfAt (W : World) (b0 m : Nat) (VH VL : Value) (D : Dsk) : Prop where
  m0 : b0 ≤ m
  cells : OwnE W m 53 [VH, VL, .int .i64 D.bud, .bool D.off]
  hs : W.ownsRow b0 9 1 VH D.has.length (D.has.map SV)
  ls : W.ownsRow b0 56 2 VL D.waits.length (D.waits.flatMap wtC)
  wl : ∀ p ∈ D.waits, 0 ≤ p.1 ∧ p.1 < D.has.length
  nb : D.has.length ≤ 2048
  bd : -1 ≤ D.bud ∧ D.bud ≤ 9223372036854775807
/-- What a word about the document's disk leaves as it was. -/
structure RLets (w0 W w' : World) : Prop where
  bel : Below w0.heap.size W w'
  block : ∀ (k : Nat) (cur : Array Value) (T : TypeId) (fr : Nat × Nat), T ≠ 53 → T ≠ 9 → T ≠ 56 → W.heap[k]? = some (.cells cur T fr) → w'.heap[k]? = some (.cells cur T fr)
theorem RLets.refl (w0 W : World) : RLets w0 W W := ⟨Below.refl _ _, fun _ _ _ _ _ _ _ h => h⟩
theorem RLets.trans {w0 a b c : World} (h : RLets w0 a b) (k : RLets w0 b c) : RLets w0 a c := ⟨h.bel.trans k.bel, fun i cur T fr h1 h2 h3 hk => k.block i cur T fr h1 h2 h3 (h.block i cur T fr h1 h2 h3 hk)⟩
theorem RLets.of_below {w0 a b : World} (h : Below a.heap.size a b) (hs : w0.heap.size ≤ a.heap.size) : RLets w0 a b := ⟨h.mono hs, fun k cur T fr _ _ _ hk => (h.block k (lt_of_heap hk)).trans hk⟩
def RMine (m : Nat) (VH VL : Value) (g : Nat) : Prop := g = m ∨ VH.ownBlock = some g ∨ VL.ownBlock = some g
theorem own_type {W : World} {b0 n size : Nat} {e : TypeId} {v : Value} {xs : List Value} (h : W.ownsRow b0 e size v n xs) (g : Nat) (hg : v.ownBlock = some g) : ∃ cur, W.heap[g]? = some (.cells cur e (0, 0)) := by
  rcases h.2 with ⟨e2, _⟩ | ⟨k, cap, cur, e2, _, hk, _⟩
  · rw [e2] at hg; simp [Value.ownBlock] at hg
  · rw [e2] at hg
    obtain rfl : k = g := by simpa [Value.ownBlock] using hg
    exact ⟨cur, hk⟩
theorem RfAt.mine {W : World} {b0 m : Nat} {VH VL : Value} {D : Dsk} (h : RfAt W b0 m VH VL D) (g : Nat) (hg : RMine m VH VL g) : b0 ≤ g ∧ ∃ cur T, W.heap[g]? = some (.cells cur T (0, 0)) ∧ (T = 53 ∨ T = 9 ∨ T = 56) := by
  rcases hg with rfl | hg | hg
  · exact ⟨h.m0, _, _, h.cells, .inl rfl⟩
  · obtain ⟨cur, hc⟩ := own_type h.hs g hg
    exact ⟨own_base h.hs g hg, cur, _, hc, .inr (.inl rfl)⟩
  · obtain ⟨cur, hc⟩ := own_type h.ls g hg
    exact ⟨own_base h.ls g hg, cur, _, hc, .inr (.inr rfl)⟩
theorem RLets.of_only {w0 W w' : World} {m : Nat} {VH VL : Value} {D : Dsk} (h : RfAt W w0.heap.size m VH VL D) (hO : Only (RMine m VH VL) W w') (hs : w0.heap.size ≤ W.heap.size) : RLets w0 W w' :=
  ⟨hO.below hs (fun g hg => (h.mine g hg).1), fun k cur T fr h1 h2 h3 hk => (hO.block k (lt_of_heap hk) (fun hm => by
    obtain ⟨_, cur', T', hc, ht⟩ := h.mine k hm
    rw [hk] at hc
    injection hc with hc
    injection hc with _ e
    subst e
    rcases ht with e | e | e
    · exact h1 e
    · exact h2 e
    · exact h3 e)).trans hk⟩
theorem own_only {W w' : World} {b0 n size : Nat} {e : TypeId} {v : Value} {xs : List Value} {T : Nat → Prop} (h : W.ownsRow b0 e size v n xs) (hO : Only T W w') (hT : ∀ g, v.ownBlock = some g → ¬ T g) : w'.ownsRow b0 e size v n xs := by
  refine ⟨h.1, ?_⟩
  rcases h.2 with hq | ⟨k, cap, cur, e2, h1, h2, h3⟩
  · exact .inl hq
  · exact .inr ⟨k, cap, cur, e2, h1, (hO.block k (lt_of_heap h2) (hT k (by rw [e2]; rfl))).trans h2, h3⟩
theorem RfAt.below {W w' : World} {b0 m : Nat} {VH VL : Value} {D : Dsk} (h : RfAt W b0 m VH VL D) (hb : Below W.heap.size W w') : RfAt w' b0 m VH VL D :=
  ⟨h.m0, h.cells.below hb, own_below h.hs hb, own_only h.ls (Only.of_below (T := fun _ => False) hb) (fun _ _ h => h), h.wl, h.nb, h.bd⟩
/-- The document's disk, made behind w0. -/
def RSt (w0 W : World) (m : Nat) (D : Dsk) : Prop := ∃ VH VL, RfAt W w0.heap.size m VH VL D
theorem RSt.below {w0 W w' : World} {m : Nat} {D : Dsk} (h : RSt w0 W m D) (hb : Below W.heap.size W w') : RSt w0 w' m D := by
  obtain ⟨VH, VL, h⟩ := h
  exact ⟨VH, VL, h.below hb⟩
theorem RSt.lets {w0 W w' : World} {d hb m : Nat} {D D' : Dsk} (h : RSt w0 W m D) (hs : St w0 W d hb D') (hL : Lets d hb W w') : RSt w0 w' m D := by
  obtain ⟨VH, VL, h⟩ := h
  obtain ⟨V, hV⟩ := hs.at_
  have hd : ∀ (g : Nat) (cur : Array Value) (T : TypeId) (fr : Nat × Nat), W.heap[g]? = some (.cells cur T fr) → (T = 53 ∨ T = 9 ∨ T = 56) → w'.heap[g]? = some (.cells cur T fr) := by
    intro g cur T fr hg ht
    refine hL.block g cur T fr ?_ ?_ ?_ hg
    · rintro rfl
      rw [show W.heap[g]? = _ from hV.cells] at hg
      injection hg with hg
      injection hg with _ e
      subst e
      revert ht
      decide
    · rintro rfl
      rw [show W.heap[g]? = _ from hV.sect] at hg
      injection hg with hg
      injection hg with _ e
      subst e
      revert ht
      decide
    · rintro rfl
      revert ht
      decide
  refine ⟨VH, VL, h.m0, hd _ _ _ _ h.cells (.inl rfl), ⟨h.hs.1, ?_⟩, ⟨h.ls.1, ?_⟩, h.wl, h.nb, h.bd⟩
  · rcases h.hs.2 with hq | ⟨k, cap, cur, e2, h1, h2, h3⟩
    · exact .inl hq
    · exact .inr ⟨k, cap, cur, e2, h1, hd _ _ _ _ h2 (.inr (.inl rfl)), h3⟩
  · rcases h.ls.2 with hq | ⟨k, cap, cur, e2, h1, h2, h3⟩
    · exact .inl hq
    · exact .inr ⟨k, cap, cur, e2, h1, hd _ _ _ _ h2 (.inr (.inr rfl)), h3⟩
theorem St.rlets {w0 W w' : World} {d hb : Nat} {D : Dsk} (h : St w0 W d hb D) (hL : RLets w0 W w') : St w0 w' d hb D := by
  obtain ⟨V, hV⟩ := h.at_
  refine ⟨⟨V, hV.d0, hV.h0, hL.block _ _ _ _ (by decide) (by decide) (by decide) hV.cells, hL.block _ _ _ _ (by decide) (by decide) (by decide) hV.sect, ⟨hV.wait.1, ?_⟩, hV.len, hV.wlen, hV.nb, hV.bd⟩, h.bel.trans hL.bel⟩
  rcases hV.wait.2 with hq | ⟨k, cap, cur, e2, h1, h2, h3⟩
  · exact .inl hq
  · exact .inr ⟨k, cap, cur, e2, h1, hL.block _ _ _ _ (by decide) (by decide) (by decide) h2, h3⟩
theorem OwnE.rlets {w0 W w' : World} {g : Nat} {T : TypeId} {xs : List Value} (h : OwnE W g T xs) (hL : RLets w0 W w') (h1 : T ≠ 53) (h2 : T ≠ 9) (h3 : T ≠ 56) : OwnE w' g T xs := hL.block _ _ _ _ h1 h2 h3 h
theorem RfAt.mh {W : World} {b0 m : Nat} {VH VL : Value} {D : Dsk} (h : RfAt W b0 m VH VL D) : VH.ownBlock ≠ some m := h.cells.row_ne h.hs (by decide)
theorem RfAt.ml {W : World} {b0 m : Nat} {VH VL : Value} {D : Dsk} (h : RfAt W b0 m VH VL D) : VL.ownBlock ≠ some m := h.cells.row_ne h.ls (by decide)
theorem RfAt.hl {W : World} {b0 m : Nat} {VH VL : Value} {D : Dsk} (h : RfAt W b0 m VH VL D) (g : Nat) (hg : VH.ownBlock = some g) : VL.ownBlock ≠ some g := by
  intro e
  obtain ⟨c1, h1⟩ := own_type h.hs g hg
  obtain ⟨c2, h2⟩ := own_type h.ls g e
  rw [h1] at h2
  injection h2 with h2
  injection h2 with _ ht
  exact absurd ht (by decide)
theorem RfAt.bud_set {W : World} {b0 m : Nat} {VH VL : Value} {D : Dsk} (h : RfAt W b0 m VH VL D) (k : Int) (hk : -1 ≤ k ∧ k ≤ 9223372036854775807) : RfAt (W.setCell ⟨m, 2, none⟩ (.int .i64 k)) b0 m VH VL { D with bud := k } :=
  ⟨h.m0, h.cells.set 2 _, row_far h.hs h.mh _, row_far h.ls h.ml _, h.wl, h.nb, hk⟩
theorem RfAt.off_set {W : World} {b0 m : Nat} {VH VL : Value} {D : Dsk} (h : RfAt W b0 m VH VL D) (k : Bool) : RfAt (W.setCell ⟨m, 3, none⟩ (.bool k)) b0 m VH VL { D with off := k } :=
  ⟨h.m0, h.cells.set 3 _, row_far h.hs h.mh _, row_far h.ls h.ml _, h.wl, h.nb, h.bd⟩
theorem RfAt.wait_nil {W : World} {b0 m : Nat} {VH VL : Value} {D : Dsk} (h : RfAt W b0 m VH VL D) : RfAt (W.setCell ⟨m, 1, none⟩ (.slice none 0 0)) b0 m VH (.slice none 0 0) { D with waits := [] } :=
  ⟨h.m0, h.cells.set 1 _, row_far h.hs h.mh _, World.ownsRow_nil _ _ _ _, (fun p hp => by cases hp), h.nb, h.bd⟩
theorem rm_m {m : Nat} {VH VL : Value} : RMine m VH VL m := .inl rfl
/-- A word's answer about the document's disk. -/
def RPost (w0 W : World) (m : Nat) (D' : Dsk) (v : Value) (e : Ending) (w' : World) : Prop := e = .returned v ∧ RSt w0 w' m D' ∧ RLets w0 W w'
theorem ron_any {w0 W : World} {m : Nat} {D : Dsk} (h : RSt w0 W m D) (hs : w0.heap.size ≤ W.heap.size) :
    Calls Try.prog 24 #[.pointer (some ⟨m, 0, none⟩)] W (RPost w0 W m (onD' D) (.tuple #[])) := by
  obtain ⟨VH, VL, h⟩ := h
  have x1 := h.cells.cell (j := 1) rfl
  have x2 := h.cells.cell (j := 2) rfl
  have x3 := h.cells.cell (j := 3) rfl
  have f1 := h.cells.frozen 1
  have f2 := h.cells.frozen 2
  have f3 := h.cells.frozen 3
  have h1 := h.wait_nil
  have h2 := h1.bud_set (-1) (by omega)
  have h3 := h2.off_set false
  have H3 := hid h3
  have HL := hid (RLets.of_only h (((Only.of_set (T := RMine m VH VL) W ⟨m, 1, none⟩ (.slice none 0 0) rm_m).trans (Only.of_set (T := RMine m VH VL) _ ⟨m, 2, none⟩ (.int .i64 (-1)) rm_m) (fun g h => .inl h)).trans (Only.of_set (T := RMine m VH VL) _ ⟨m, 3, none⟩ (.bool false) rm_m) (fun g h => .inl h)) hs)
  clear h h1 h2 h3 hs
  go_enter Try.func24, Try.ntmps24
  go_wp2
  go_end0
  exact ⟨rfl, ⟨VH, .slice none 0 0, H3.out⟩, HL.out⟩
theorem rfails_any {w0 W : World} {m : Nat} {D : Dsk} (h : RSt w0 W m D) (hs : w0.heap.size ≤ W.heap.size) :
    Calls Try.prog 35 #[.pointer (some ⟨m, 0, none⟩)] W (RPost w0 W m (spendD D) (.bool (!onD D))) := by
  obtain ⟨VH, VL, h⟩ := h
  have x2 := h.cells.cell (j := 2) rfl
  have x3 := h.cells.cell (j := 3) rfl
  have f2 := h.cells.frozen 2
  have f3 := h.cells.frozen 3
  have bd := h.bd
  obtain ⟨has, waits, bud, off, ys, cp⟩ := D
  dsimp only at x2 x3 bd
  cases off with
  | true =>
    have h3 := hid (h.off_set true)
    have HL := hid (RLets.of_only h (Only.of_set (T := RMine m VH VL) W ⟨m, 3, none⟩ (.bool true) rm_m) hs)
    clear h hs
    go_enter Try.func35, Try.ntmps35
    go_wp2
    go_ret
    exact ⟨rfl, ⟨VH, VL, h3.out⟩, HL.out⟩
  | false =>
    by_cases b0 : bud = 0
    · subst b0
      have h3 := hid (h.off_set true)
      have HL := hid (RLets.of_only h (Only.of_set (T := RMine m VH VL) W ⟨m, 3, none⟩ (.bool true) rm_m) hs)
      clear h hs
      go_enter Try.func35, Try.ntmps35
      go_wp2
      go_ret
      exact ⟨rfl, ⟨VH, VL, h3.out⟩, HL.out⟩
    · have d0 : (bud == 0) = false := by simpa using b0
      have eon : onD ⟨has, waits, bud, false, ys, cp⟩ = true := by unfold onD; simp [b0]
      rw [eon]
      by_cases b1 : 0 < bud
      · have d1 : decide (0 < bud) = true := by simpa using b1
        have e1 : IntKind.i64.wrap (bud - 1) = bud - 1 := by rw [IntKind.wrap_i64]; omega
        have es : spendD ⟨has, waits, bud, false, ys, cp⟩ = ⟨has, waits, bud - 1, false, ys, cp⟩ := by unfold spendD; dsimp only; rw [if_neg (by decide), if_neg b0, if_pos b1]
        rw [es]
        have h3 := hid (h.bud_set (bud - 1) (by omega))
        have HL := hid (RLets.of_only h (Only.of_set (T := RMine m VH VL) W ⟨m, 2, none⟩ (.int .i64 (bud - 1)) rm_m) hs)
        clear h hs es eon
        go_enter Try.func35, Try.ntmps35
        go_wp2
        go_ret
        exact ⟨rfl, ⟨VH, VL, h3.out⟩, HL.out⟩
      · have d1 : decide (0 < bud) = false := by simpa using b1
        have es : spendD ⟨has, waits, bud, false, ys, cp⟩ = ⟨has, waits, bud, false, ys, cp⟩ := by unfold spendD; dsimp only; rw [if_neg (by decide), if_neg b0, if_neg b1]
        rw [es]
        have h3 := hid h
        have HL := hid (RLets.refl w0 W)
        clear h hs es eon
        go_enter Try.func35, Try.ntmps35
        go_wp2
        go_ret
        exact ⟨rfl, ⟨VH, VL, h3.out⟩, HL.out⟩
end Go.Proofs.Ytkadehdbnkinlaa
