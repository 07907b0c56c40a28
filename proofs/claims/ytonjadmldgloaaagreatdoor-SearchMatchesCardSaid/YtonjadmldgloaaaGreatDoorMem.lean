/-
  What a call that changes blocks of its own leaves as it was; rows that a call made; more words for memory that several layers share. No program is in sight. A part of the proof: see the head of the text that ends in 'Law'.
-/
import Derived.Test.YtonjadmldgloaaaGreatDoorExact
namespace Go.Proofs.YtonjadmldgloaaaGreatDoor
open Go.RowKit
set_option linter.unusedVariables false

/-- Nothing but blocks of T is changed; blocks may be added. -/
structure Only (T : Nat → Prop) (w w' : World) : Prop where
  os : w'.os = w.os
  tape : w'.tape = w.tape
  output : w'.output = w.output
  size : w.heap.size ≤ w'.heap.size
  block : ∀ k, k < w.heap.size → ¬ T k → w'.heap[k]? = w.heap[k]?
theorem Only.refl (T : Nat → Prop) (w : World) : Only T w w := ⟨rfl, rfl, rfl, Nat.le_refl _, fun _ _ _ => rfl⟩
theorem Only.trans {T T' : Nat → Prop} {a b c : World} (h : Only T a b) (h2 : Only T' b c) (ht : ∀ g, T' g → T g ∨ a.heap.size ≤ g) : Only T a c :=
  ⟨h2.os.trans h.os, h2.tape.trans h.tape, h2.output.trans h.output, Nat.le_trans h.size h2.size, fun k hk hn =>
    (h2.block k (Nat.lt_of_lt_of_le hk h.size) (fun h3 => by rcases ht k h3 with h4 | h4; exact hn h4; omega)).trans (h.block k hk hn)⟩
theorem Only.of_below {T : Nat → Prop} {a b : World} (h : Below a.heap.size a b) : Only T a b := ⟨h.os, h.tape, h.output, h.size, fun k hk _ => h.block k hk⟩
theorem Only.of_grown {T : Nat → Prop} {a b : World} {row : Option Nat} (h : a.grownBy b row) (hr : ∀ g, row = some g → T g) : Only T a b :=
  ⟨h.os, h.tape, h.output, h.size, fun k hk hn => h.block k hk (fun e => hn (hr k e.symm))⟩
theorem Only.of_set {T : Nat → Prop} (a : World) (p : Addr) (v : Value) (hp : T p.block) : Only T a (a.setCell p v) :=
  ⟨rfl, rfl, rfl, by simp, fun k hk hn => heap_setCell_other a p k v (fun e => hn (e ▸ hp))⟩
theorem Only.below {T : Nat → Prop} {a b : World} {B : Nat} (h : Only T a b) (hB : B ≤ a.heap.size) (ht : ∀ g, T g → B ≤ g) : Below B a b :=
  ⟨h.os, h.tape, h.output, h.size, fun k hk => h.block k (by omega) (fun h1 => by have := ht k h1; omega)⟩

theorem OwnE.type_ne {w : World} {g h : Nat} {T U : TypeId} {xs ys : List Value} (a : OwnE w g T xs) (b : OwnE w h U ys) (hTU : T ≠ U) : g ≠ h := by
  rintro rfl
  have := (show w.heap[g]? = _ from a).symm.trans b
  simp at this
  exact hTU this.2
theorem OwnE.row_ne {w : World} {g b0 n size : Nat} {T e : TypeId} {v : Value} {xs ys : List Value} (a : OwnE w g T xs) (h : w.ownsRow b0 e size v n ys) (hTe : T ≠ e) : v.ownBlock ≠ some g := by
  rcases h.2 with ⟨rfl, _⟩ | ⟨k, cap, cur, rfl, _, hk, _⟩
  · simp [Value.ownBlock]
  · intro e'
    obtain rfl : k = g := by simpa [Value.ownBlock] using e'
    have := (show w.heap[k]? = _ from a).symm.trans hk
    simp at this
    exact hTe this.2
theorem row_far {w : World} {b0 n size b i : Nat} {e : TypeId} {v : Value} {xs : List Value} (h : w.ownsRow b0 e size v n xs) (hb : v.ownBlock ≠ some b) (u : Value) : (w.setCell ⟨b, i, none⟩ u).ownsRow b0 e size v n xs := by
  refine ⟨h.1, ?_⟩
  rcases h.2 with hq | ⟨k, cap, cur, rfl, h1, h2, h3⟩
  · exact .inl hq
  · refine .inr ⟨k, cap, cur, rfl, h1, ?_, h3⟩
    exact (heap_setCell_other w ⟨b, i, none⟩ k u (fun e => hb (by simp [Value.ownBlock, e]))).trans h2
theorem row_only {T : Nat → Prop} {W w' : World} {A : Option Addr} {xs : List Value} (h : Row W A xs) (hO : Only T W w') (hA : ∀ a, A = some a → ¬ T a.block) : Row w' A xs := fun hx => by
  obtain ⟨b, off, rfl, hc⟩ := h hx
  refine ⟨b, off, rfl, fun j v hv => ?_⟩
  have h1 := hc j v hv
  have := hO.block b (World.block_lt_of_cell? W _ h1) (hA _ rfl)
  simp only [World.cell?, this] at h1 ⊢
  exact h1
theorem own_type {W : World} {b0 n size : Nat} {e : TypeId} {v : Value} {xs : List Value} (h : W.ownsRow b0 e size v n xs) (g : Nat) (hg : v.ownBlock = some g) : ∃ cur, W.heap[g]? = some (.cells cur e (0, 0)) := by
  rcases h.2 with ⟨e2, _⟩ | ⟨k, cap, cur, e2, _, hk, _⟩
  · rw [e2] at hg; simp [Value.ownBlock] at hg
  · rw [e2] at hg
    obtain rfl : k = g := by simpa [Value.ownBlock] using hg
    exact ⟨cur, hk⟩
theorem own_only {W w' : World} {b0 n size : Nat} {e : TypeId} {v : Value} {xs : List Value} {T : Nat → Prop} (h : W.ownsRow b0 e size v n xs) (hO : Only T W w') (hT : ∀ g, v.ownBlock = some g → ¬ T g) : w'.ownsRow b0 e size v n xs := by
  refine ⟨h.1, ?_⟩
  rcases h.2 with hq | ⟨k, cap, cur, e2, h1, h2, h3⟩
  · exact .inl hq
  · exact .inr ⟨k, cap, cur, e2, h1, (hO.block k (lt_of_heap h2) (hT k (by rw [e2]; rfl))).trans h2, h3⟩
theorem own_slice {W : World} {b0 n size : Nat} {e : TypeId} {v : Value} {xs : List Value} (h : W.ownsRow b0 e size v n xs) : ∃ A c, v = .slice A n c ∧ (0 < n → ∃ g, A = some ⟨g, 0, none⟩) := by
  rcases h.2 with ⟨e1, e2⟩ | ⟨g, cap, cur, e, _⟩
  · subst e1 e2
    exact ⟨none, 0, rfl, fun h => absurd h (Nat.lt_irrefl 0)⟩
  · exact ⟨_, _, e, fun _ => ⟨g, rfl⟩⟩
theorem own_low {W : World} {b b' n size : Nat} {e : TypeId} {v : Value} {xs : List Value} (h : W.ownsRow b e size v n xs) (hb : b' ≤ b) : W.ownsRow b' e size v n xs := by
  refine ⟨h.1, ?_⟩
  rcases h.2 with hq | ⟨k, cap, cur, e2, h1, h2⟩
  · exact .inl hq
  · exact .inr ⟨k, cap, cur, e2, Nat.le_trans hb h1, h2⟩
theorem OwnE.grown {w w' : World} {g : Nat} {T : TypeId} {xs : List Value} {row : Option Nat} (h : OwnE w g T xs) (hg : w.grownBy w' row) (hne : row ≠ some g) : OwnE w' g T xs := (hg.block g h.lt (fun e => hne e.symm)).trans h
def SV (s : List UInt8) : Value := .string (str s)
theorem str_self (l : List UInt8) : (str l == str l) = true := by
  show (l.toArray == l.toArray) = true
  simp
theorem str_eqv (a b : List UInt8) : (str a == str b) = decide (a = b) := by
  by_cases h : a = b
  · subst h; rw [str_self]; simp
  · rw [decide_eq_false h]
    show (a.toArray == b.toArray) = false
    simpa using h
theorem str_ne {a b : List UInt8} (h : a = b) : (str a != str b) = false := by rw [h, bne, str_self]; rfl
theorem str_get (l : List UInt8) (k : Nat) (h : k < (str l).size) : (str l)[k] = l[k]'(by rwa [str_size] at h) := rfl
theorem str_extract (l : List UInt8) (a b : Nat) : (str l).extract a b = str ((l.drop a).take (b - a)) := by
  apply ByteArray.ext
  rw [ByteArray.data_extract]
  show l.toArray.extract a b = ((l.drop a).take (b - a)).toArray
  simp
theorem OwnE.only {T : Nat → Prop} {w w' : World} {g : Nat} {ty : TypeId} {xs : List Value} (h : OwnE w g ty xs) (hO : Only T w w') (hg : ¬ T g) : OwnE w' g ty xs := (hO.block g h.lt hg).trans h
theorem OwnE.new_ (w : World) (cs : List Value) (T : TypeId) : OwnE (w.alloc (.cells cs.toArray T)) w.heap.size T cs := heap_alloc_new w _
theorem own_lt {W : World} {b0 n size : Nat} {e : TypeId} {v : Value} {xs : List Value} (h : W.ownsRow b0 e size v n xs) (g : Nat) (hg : v.ownBlock = some g) : b0 ≤ g ∧ g < W.heap.size := by
  obtain ⟨cur, hc⟩ := own_type h g hg
  exact ⟨own_base h g hg, lt_of_heap hc⟩
theorem own_types {W : World} {b0 b1 n m s1 s2 : Nat} {e1 e2 : TypeId} {v u : Value} {xs ys : List Value} (h : W.ownsRow b0 e1 s1 v n xs) (k : W.ownsRow b1 e2 s2 u m ys) (hne : e1 ≠ e2) (g : Nat) (hg : v.ownBlock = some g) : u.ownBlock ≠ some g := by
  intro hu
  obtain ⟨c1, h1⟩ := own_type h g hg
  obtain ⟨c2, h2⟩ := own_type k g hu
  rw [h1] at h2
  injection h2 with h2
  injection h2 with _ ht
  exact hne ht
theorem Only.mono {T T' : Nat → Prop} {w w' : World} (h : Only T w w') (ht : ∀ g, T g → T' g) : Only T' w w' := ⟨h.os, h.tape, h.output, h.size, fun k hk hn => h.block k hk (fun t => hn (ht k t))⟩
theorem Only.cell {T : Nat → Prop} {w w' : World} {p : Addr} {v : Value} (h : Only T w w') (hp : ¬ T p.block) (hc : w.cell? p = some v) : w'.cell? p = some v := by
  have := h.block p.block (World.block_lt_of_cell? w _ hc) hp
  simp only [World.cell?, this] at hc ⊢
  exact hc
theorem Only.low {T : Nat → Prop} {a b : World} {B : Nat} (h : Only T a b) (hB : B ≤ a.heap.size) (ht : ∀ g, T g → B ≤ g) : Below B a b := h.below hB ht
end Go.Proofs.YtonjadmldgloaaaGreatDoor
