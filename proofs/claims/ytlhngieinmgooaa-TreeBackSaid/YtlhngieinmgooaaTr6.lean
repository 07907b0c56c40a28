/-
  What a round of a level keeps. A part of the proof: see the head of the text that ends in 'Law'.
-/
import Derived.Test.YtlhngieinmgooaaTr5
namespace Go.Proofs.Ytlhngieinmgooaa
open Go.RowKit
set_option linter.unusedVariables false
set_option maxRecDepth 100000

theorem chunks_stL (lv : List Kd) : (stL lv.length).map (fun x => (lv.drop x).take 12) = chunks 12 lv := by
  apply List.ext_getElem
  · rw [List.length_map, stL_len, chunks_len 12 (by omega)]
    omega
  · intro i h1 h2
    rw [List.getElem_map]
    have e : (stL lv.length)[i]'(by rw [List.length_map] at h1; exact h1) = 12 * i := by unfold stL; rw [List.getElem_map, List.getElem_range]
    rw [e]
    exact (chunks_get 12 (by omega) i lv h2).symm
def LaidF (W : World) (B : Nat) (cs : Array Value) (t : TypeId) (fr : Nat × Nat) : Prop := W.heap[B]? = some (.cells cs t fr)
/-- Every block of cells of another type lies as it lay. -/
def KT (t : TypeId) (W W' : World) : Prop := ∀ (B : Nat) (cs : Array Value) (T : TypeId) (fr : Nat × Nat), T ≠ t → W.heap[B]? = some (.cells cs T fr) → W'.heap[B]? = some (.cells cs T fr)
theorem KT.trans {t : TypeId} {A B C : World} (h : KT t A B) (k : KT t B C) : KT t A C := fun b cs T fr h1 h2 => k b cs T fr h1 (h b cs T fr h1 h2)
theorem KT.below {t : TypeId} {W W' : World} (h : Below W.heap.size W W') : KT t W W' := fun B cs T fr _ h2 => (h.block B (lt_of_heap h2)).trans h2
theorem KT.grown {W W' : World} {base n size : Nat} {t : TypeId} {v : Value} {xs : List Value} (hr : W.ownsRow base t size v n xs) (hg : W.grownBy W' v.ownBlock) : KT t W W' := fun B cs T fr h1 h2 => by
  refine (hg.block B (lt_of_heap h2) (fun e => ?_)).trans h2
  obtain ⟨cur, hh⟩ := own_type hr B e.symm
  rw [h2] at hh
  injection hh with hh
  injection hh with _ ht
  exact h1 ht
theorem KT.set {W : World} {b : Nat} {t : TypeId} {v : Value} (h : Boxed W b t v) (u : Value) : KT t W (W.setCell ⟨b, 0, none⟩ u) := fun B cs T fr h1 h2 => by
  have hne : b ≠ B := by
    rintro rfl
    rw [show W.heap[b]? = _ from h] at h2
    injection h2 with h2
    injection h2 with _ ht
    exact h1 ht.symm
  exact (heap_setCell_other W ⟨b, 0, none⟩ B u (by intro e; exact hne (by simpa using e.symm))).trans h2
theorem KT.turn {t : TypeId} {W W' : World} {row : Option Nat} (hg : W.grownBy W' row) (hr : ∀ r, row = some r → ∃ o : Obj, W.heap[r]? = some o ∧ o.isCells = false) : KT t W W' := fun B cs T fr h1 h2 =>
  (hg.block B (lt_of_heap h2) (fun e => by obtain ⟨o, ho, hc⟩ := hr B e.symm; rw [h2] at ho; cases ho; cases hc)).trans h2
theorem KT.owns {t T : TypeId} {W W' : World} (h : KT t W W') (hT : T ≠ t) {base size n : Nat} {v : Value} {xs : List Value} (ho : W.ownsRow base T size v n xs) : W'.ownsRow base T size v n xs := by
  refine ⟨ho.1, ?_⟩
  rcases ho.2 with h1 | ⟨g, cap, cur, hv, hg, hh, r⟩
  · exact .inl h1
  · exact .inr ⟨g, cap, cur, hv, hg, h g cur T _ hT hh, r⟩
theorem KT.boxed {t T : TypeId} {W W' : World} (h : KT t W W') (hT : T ≠ t) {B : Nat} {v : Value} (hb : Boxed W B T v) : Boxed W' B T v := h B _ T _ hT hb
theorem KT.out {t : TypeId} {W W' : World} (h : KT t W W') (h1 : 5 ≠ t) (h2 : 34 ≠ t) {b0 m c : Nat} {A : Option Addr} {vs : List Value} {pgs : List (List UInt8)} (ho : OutI b0 W A m c vs pgs) : OutI b0 W' A m c vs pgs :=
  ⟨h.owns h2 ho.own, ho.vl, ho.pl, fun j k1 k2 => by
    obtain ⟨g, e1, e2, e3, e4⟩ := ho.rows j k1 k2
    exact ⟨g, e1, h g _ _ _ h1 e2, e3, e4⟩⟩
/-- Whatever is no cells and lies below lies as it lay. -/
def Oth (b : Nat) (ws W : World) : Prop := ∀ k o, k < b → ws.heap[k]? = some o → o.isCells = false → W.heap[k]? = some o
theorem Oth.then_ {b : Nat} {ws W W' : World} (h : Oth b ws W) (k : KeepsOthers W W') : Oth b ws W' := fun i o h1 h2 h3 => k.same i o (h i o h1 h2 h3) h3
theorem keeps_below {W W' : World} (h : Below W.heap.size W W') : KeepsOthers W W' := KeepsOthers.of_grownBy (grown_of_below h) (fun j o e => by cases e)
theorem keeps_grown {W W' : World} {base n size : Nat} {t : TypeId} {v : Value} {xs : List Value} (hr : W.ownsRow base t size v n xs) (hg : W.grownBy W' v.ownBlock) : KeepsOthers W W' := KeepsOthers.of_grownBy hg (fun j o e ho => by
  obtain ⟨cur, hh⟩ := own_type hr j e
  rw [hh] at ho
  injection ho with ho
  subst ho
  rfl)
/-- A level under way. -/
structure BrI (w ws : World) (bo bn Bf gl m0 : Nat) (cur : Array Value) (sl : Value) (pgs : List (List UInt8)) (W : World) (cn co : List (List Kd)) (A : Option Addr) (c : Nat) (vs : List Value) (B : Option Addr) (d : Nat) : Prop where
  xo : Boxed W bo 24 (.slice A (m0 + co.length) c)
  xn : Boxed W bn 50 (.slice B cn.length d)
  xf : Boxed W Bf 50 sl
  xf2 : Boxed W (Bf + 1) 3 (.int .i64 12)
  lay : LaidF W gl cur 57 (0, 0)
  out : OutI w.heap.size W A (m0 + co.length) c vs (pgs ++ co.map fun c => pageP (innerL c))
  nxt : W.ownsRow ws.heap.size 57 2 (.slice B cn.length d) cn.length ((kidsK m0 cn).flatMap kdC)
  bel : Below w.heap.size w W
  oth : Oth ws.heap.size ws W
section
variable {w ws : World} {bo bn Bf gl m0 : Nat} {cur : Array Value} {sl : Value} {pgs : List (List UInt8)} {W : World} {cn co : List (List Kd)} {A : Option Addr} {c : Nat} {vs : List Value} {B : Option Addr} {d : Nat}
theorem BrI.kt {W' : World} {t : TypeId} (h : BrI w ws bo bn Bf gl m0 cur sl pgs W cn co A c vs B d) (k : KT t W W') (h1 : 5 ≠ t) (h2 : 34 ≠ t) (h3 : 24 ≠ t) (h4 : 50 ≠ t) (h5 : 57 ≠ t) (h6 : 3 ≠ t) (hb : Below w.heap.size w W') (ho : Oth ws.heap.size ws W') : BrI w ws bo bn Bf gl m0 cur sl pgs W' cn co A c vs B d :=
  ⟨k.boxed h3 h.xo, k.boxed h4 h.xn, k.boxed h4 h.xf, k.boxed h6 h.xf2, k gl cur _ _ h5 h.lay, k.out h1 h2 h.out, k.owns h5 h.nxt, hb, ho⟩
theorem BrI.below {W' : World} (h : BrI w ws bo bn Bf gl m0 cur sl pgs W cn co A c vs B d) (hb : Below W.heap.size W W') : BrI w ws bo bn Bf gl m0 cur sl pgs W' cn co A c vs B d :=
  h.kt (t := 999999) (KT.below hb) (by decide) (by decide) (by decide) (by decide) (by decide) (by decide) (past h.bel hb) (h.oth.then_ (keeps_below hb))
theorem BrI.turn {W' : World} {row : Option Nat} (h : BrI w ws bo bn Bf gl m0 cur sl pgs W cn co A c vs B d) (hws : w.heap.size ≤ ws.heap.size) (hg : W.grownBy W' row) (hr : ∀ r, row = some r → ws.heap.size ≤ r ∧ ∃ o : Obj, W.heap[r]? = some o ∧ o.isCells = false) : BrI w ws bo bn Bf gl m0 cur sl pgs W' cn co A c vs B d :=
  h.kt (t := 999999) (KT.turn hg (fun r e => (hr r e).2)) (by decide) (by decide) (by decide) (by decide) (by decide) (by decide)
    (h.bel.grown hg h.bel.size (fun k e => Nat.le_trans hws (hr k e).1))
    (fun k o h1 h2 h3 => (hg.block k (lt_of_heap (h.oth k o h1 h2 h3)) (fun e => by have := (hr k e.symm).1; omega)).trans (h.oth k o h1 h2 h3))
/-- A kid more. -/
theorem BrI.nput {W' : World} {B' : Option Addr} {d' : Nat} {ck : List Kd} (h : BrI w ws bo bn Bf gl m0 cur sl pgs W cn co A c vs B d) (hgl : gl < ws.heap.size) (hwb : w.heap.size ≤ bn) (hws : w.heap.size ≤ ws.heap.size) (hfn : Bf ≠ bn)
    (hg : W.grownBy W' (Value.ownBlock (.slice B cn.length d))) (ho : W'.ownsRow ws.heap.size 57 2 (.slice B' (cn.length + 1) d') (cn.length + 1) ((kidsK m0 cn).flatMap kdC ++ kdC ⟨leastK ck, m0 + cn.length⟩)) :
    BrI w ws bo bn Bf gl m0 cur sl pgs (W'.setCell ⟨bn, 0, none⟩ (.slice B' (cn.length + 1) d')) (cn ++ [ck]) co A c vs B' d' ∧ KeepsOthers W (W'.setCell ⟨bn, 0, none⟩ (.slice B' (cn.length + 1) d')) ∧ Below w.heap.size W (W'.setCell ⟨bn, 0, none⟩ (.slice B' (cn.length + 1) d')) := by
  have k1 : KT 57 W W' := KT.grown h.nxt hg
  have hxn := k1.boxed (by decide) h.xn
  have k2 := KT.set hxn (.slice B' (cn.length + 1) d')
  have ko : KeepsOthers W (W'.setCell ⟨bn, 0, none⟩ (.slice B' (cn.length + 1) d')) := (keeps_grown h.nxt hg).trans (KeepsOthers.setCell _ _ _)
  have hlen : (cn ++ [ck]).length = cn.length + 1 := by rw [List.length_append]; rfl
  refine ⟨⟨k2.boxed (by decide) (k1.boxed (by decide) h.xo), ?_, ?_, k2.boxed (by decide) (k1.boxed (by decide) h.xf2), ?_, k2.out (by decide) (by decide) (k1.out (by decide) (by decide) h.out), ?_, ?_, h.oth.then_ ko⟩, ko, ((Below.refl _ W).grown hg h.bel.size (fun k e => Nat.le_trans hws (own_base h.nxt k e))).setCell (p := ⟨bn, 0, none⟩) hwb _⟩
  · rw [hlen]; exact hxn.set _
  · exact (k1.boxed (by decide) h.xf).other hfn _
  · refine k2 gl cur _ _ (by decide) ?_
    exact (hg.block gl (lt_of_heap h.lay) (fun e => by have := own_base h.nxt gl e.symm; omega)).trans h.lay
  · rw [hlen, kidsK_snoc, List.flatMap_append, show [(⟨leastK ck, m0 + cn.length⟩ : Kd)].flatMap kdC = kdC ⟨leastK ck, m0 + cn.length⟩ by simp]
    exact k2.owns (by decide) ho
  · exact (h.bel.grown hg h.bel.size (fun k e => Nat.le_trans hws (own_base h.nxt k e))).setCell (p := ⟨bn, 0, none⟩) hwb _
/-- A page more. -/
theorem BrI.oput {W' : World} {A' : Option Addr} {c' : Nat} {ck : List Kd} {v : Value} (h : BrI w ws bo bn Bf gl m0 cur sl pgs W cn co A c vs B d) (hwb : w.heap.size ≤ bo) (hv : PgOwn W w.heap.size v (pageP (innerL ck)))
    (hg : W.grownBy W' (Value.ownBlock (.slice A (m0 + co.length) c))) (ho : W'.ownsRow w.heap.size 34 1 (.slice A' (m0 + co.length + 1) c') (m0 + co.length + 1) (vs ++ [v])) :
    BrI w ws bo bn Bf gl m0 cur sl pgs (W'.setCell ⟨bo, 0, none⟩ (.slice A' (m0 + co.length + 1) c')) cn (co ++ [ck]) A' c' (vs ++ [v]) B d ∧ KeepsOthers W (W'.setCell ⟨bo, 0, none⟩ (.slice A' (m0 + co.length + 1) c')) ∧ Below w.heap.size W (W'.setCell ⟨bo, 0, none⟩ (.slice A' (m0 + co.length + 1) c')) := by
  have k1 : KT 34 W W' := KT.grown h.out.own hg
  have hxo := k1.boxed (by decide) h.xo
  have k2 := KT.set hxo (.slice A' (m0 + co.length + 1) c')
  have ko : KeepsOthers W (W'.setCell ⟨bo, 0, none⟩ (.slice A' (m0 + co.length + 1) c')) := (keeps_grown h.out.own hg).trans (KeepsOthers.setCell _ _ _)
  have hlen : m0 + (co ++ [ck]).length = m0 + co.length + 1 := by rw [List.length_append]; rfl
  refine ⟨⟨?_, k2.boxed (by decide) (k1.boxed (by decide) h.xn), k2.boxed (by decide) (k1.boxed (by decide) h.xf), k2.boxed (by decide) (k1.boxed (by decide) h.xf2), k2 gl cur _ _ (by decide) (k1 gl cur _ _ (by decide) h.lay), ?_, k2.owns (by decide) (k1.owns (by decide) h.nxt), ?_, h.oth.then_ ko⟩, ko, ((Below.refl _ W).grown hg h.bel.size (own_base h.out.own)).setCell (p := ⟨bo, 0, none⟩) hwb _⟩
  · rw [hlen]; exact hxo.set _
  · rw [hlen, List.map_append, ← List.append_assoc]
    exact k2.out (by decide) (by decide) (h.out.put hv ho hg)
  · exact (h.bel.grown hg h.bel.size (own_base h.out.own)).setCell (p := ⟨bo, 0, none⟩) hwb _
end
/-- Blocks for rounds' deferred calls, all without any. -/
def DefI (b : Nat) (ds : List Nat) (W : World) : Prop := ds.Nodup ∧ ∀ D ∈ ds, b ≤ D ∧ W.heap[D]? = some (.deferred (some []))
def defL (ds : List Nat) : List Deferred := ds.map fun D => { target := .collected D, args := #[] }
theorem leaves_all {F : Fence} {n : Nat} {P : Program} {fn : Func} {tmps : Array Value} {R : Ending → World → Prop} (b : Nat) : ∀ (ds : List Nat) (W : World), DefI b ds W → (∀ W', KT 999999 W W' → Below b W W' → LeavesIn F n P fn tmps R [] .returning W') → LeavesInM F n P fn tmps R (defL ds) .returning W
  | [], W, _, h => h W (fun _ _ _ _ _ h2 => h2) (Below.refl _ _)
  | D :: r, W, hd, h => by
    have hD := hd.2 D (List.mem_cons_self ..)
    have hn := List.nodup_cons.1 hd.1
    have hk : KT 999999 W (W.putObj D (.deferred none)) := fun B cs T fr _ h2 => (World.putObj_heap_other (by rintro rfl; rw [hD.2] at h2; cases h2)).trans h2
    have hb : Below b W (W.putObj D (.deferred none)) := ⟨rfl, rfl, rfl, by simp, fun k hk => World.putObj_heap_other (by omega)⟩
    refine ⟨by simp, .inl ⟨D, _, rfl, run_takeDeferred hD.2, ?_⟩⟩
    refine leaves_all b r _ ⟨hn.2, fun E hE => ?_⟩ (fun W' k1 k2 => h W' (hk.trans k1) (hb.trans k2))
    have hE' := hd.2 E (List.mem_cons_of_mem _ hE)
    exact ⟨hE'.1, (World.putObj_heap_other (by rintro rfl; exact hn.1 hE)).trans hE'.2⟩
end Go.Proofs.Ytlhngieinmgooaa
