/-
  A disk that goes on: what each call leaves. A part of the proof: see the head of the text that ends in 'Law'.
-/
import Derived.Test.YtkadehdbnkinlaaDk18
namespace Go.Proofs.Ytkadehdbnkinlaa
open Go.RowKit
set_option linter.unusedVariables false
attribute [local go_sem] Oper.semAt_some

/-- The disk at d, made behind w0. -/
structure St (w0 W : World) (d hb : Nat) (D : Dsk) : Prop where
  at_ : ∃ V, DkAt W w0.heap.size d hb V D
  bel : Below w0.heap.size w0 W
/-- What a word about the disk leaves as it was. -/
structure Lets (d hb : Nat) (W w' : World) : Prop where
  os : w'.os = W.os
  tape : w'.tape = W.tape
  output : w'.output = W.output
  size : W.heap.size ≤ w'.heap.size
  block : ∀ k cur T fr, k ≠ d → k ≠ hb → T ≠ 66 → W.heap[k]? = some (.cells cur T fr) → w'.heap[k]? = some (.cells cur T fr)
theorem Lets.refl (d hb : Nat) (W : World) : Lets d hb W W := ⟨rfl, rfl, rfl, Nat.le_refl _, fun _ _ _ _ _ _ _ h => h⟩
theorem Lets.trans {d hb : Nat} {a b c : World} (h : Lets d hb a b) (k : Lets d hb b c) : Lets d hb a c :=
  ⟨k.os.trans h.os, k.tape.trans h.tape, k.output.trans h.output, Nat.le_trans h.size k.size, fun i cur T fr h1 h2 h3 h4 => k.block i cur T fr h1 h2 h3 (h.block i cur T fr h1 h2 h3 h4)⟩
theorem Lets.of_below {d hb : Nat} {a b : World} (h : Below a.heap.size a b) : Lets d hb a b :=
  ⟨h.os, h.tape, h.output, h.size, fun k cur T fr _ _ _ hk => (h.block k (lt_of_heap hk)).trans hk⟩
theorem Lets.of_only {W w' : World} {b0 d hb : Nat} {V : Value} {D : Dsk} (h : DkAt W b0 d hb V D) (hO : Only (Mine d hb V) W w') : Lets d hb W w' :=
  ⟨hO.os, hO.tape, hO.output, hO.size, fun k cur T fr h1 h2 h3 hk => (hO.block k (lt_of_heap hk) (fun hm => by
    rcases hm with e | e | e
    · exact h1 e
    · exact h2 e
    · rcases h.wait.2 with ⟨e2, _⟩ | ⟨g, cap, cur', e2, _, hg, _⟩
      · rw [e2] at e; simp [Value.ownBlock] at e
      · rw [e2] at e
        obtain rfl : g = k := by simpa [Value.ownBlock] using e
        rw [hk] at hg
        injection hg with hg
        injection hg with _ ht
        exact h3 ht)).trans hk⟩
theorem OwnE.lets {d hb : Nat} {W w' : World} {g : Nat} {T : TypeId} {xs : List Value} (h : OwnE W g T xs) (hL : Lets d hb W w') (h1 : g ≠ d) (h2 : g ≠ hb) (h3 : T ≠ 66) : OwnE w' g T xs := hL.block g _ T _ h1 h2 h3 h
theorem St.of_only {w0 W w' : World} {d hb : Nat} {V V' : Value} {D D' : Dsk} (h : St w0 W d hb D) (h1 : DkAt W w0.heap.size d hb V D) (h2 : DkAt w' w0.heap.size d hb V' D') (hO : Only (Mine d hb V) W w') : St w0 w' d hb D' :=
  ⟨⟨_, h2⟩, h.bel.trans (hO.below h.bel.size (fun g hg => (Mine.lt h1 g hg).1))⟩
theorem St.below {w0 W w' : World} {d hb : Nat} {D : Dsk} (h : St w0 W d hb D) (hb' : Below W.heap.size W w') : St w0 w' d hb D := by
  obtain ⟨V, hV⟩ := h.at_
  exact ⟨⟨V, hV.below hb'⟩, next h.bel hb'⟩
theorem St.drew {w0 W : World} {d hb : Nat} {D : Dsk} (h : St w0 W d hb D) : St w0 W.drew d hb D := h.below (drew_below W)
theorem St.hbl {w0 W : World} {d hb : Nat} {D : Dsk} (h : St w0 W d hb D) : hb < W.heap.size := by
  obtain ⟨V, hV⟩ := h.at_
  exact hV.sect.lt
theorem St.d_ge {w0 W : World} {d hb : Nat} {D : Dsk} (h : St w0 W d hb D) : w0.heap.size ≤ d := by
  obtain ⟨V, hV⟩ := h.at_
  exact hV.d0
theorem St.len {w0 W : World} {d hb : Nat} {D : Dsk} (h : St w0 W d hb D) : (∀ s ∈ D.has, s.length = 128) ∧ (∀ p ∈ D.waits, p.2.length = 128 ∧ 0 ≤ p.1 ∧ p.1 < D.has.length) ∧ D.has.length ≤ 2048 ∧ -1 ≤ D.bud ∧ D.bud ≤ 9223372036854775807 := by
  obtain ⟨V, hV⟩ := h.at_
  exact ⟨hV.len, hV.wlen, hV.nb, hV.bd⟩

/-- Write, on what a disk is. -/
def writeD (D : Dsk) (i : Int) (s : List UInt8) : Dsk × Nat :=
  if 0 ≤ i ∧ i < D.has.length then (if onD D = true then ({ spendD D with waits := D.waits ++ [(i, s)] }, 0) else (spendD D, 10)) else (D, 4)
def flushD (D : Dsk) : Dsk × Nat := if onD D = true then ({ spendD D with has := doneK (fun _ => true) D.waits D.has D.waits.length, waits := [] }, 0) else (spendD D, 10)
def cutD (D : Dsk) (ks : List Bool) : Dsk := { D with has := doneK (fun k => ks.getD k false) D.waits D.has D.waits.length, waits := [], off := true }
def onD' (D : Dsk) : Dsk := { D with waits := [], bud := -1, off := false }
def newD (n : Nat) : Dsk := ⟨List.replicate n (List.replicate 128 0), [], -1, false, [], n⟩
theorem new_st (n : Nat) (h1 : 1 ≤ n) (h2 : n ≤ 2048) (w0 W : World) (hw : Below w0.heap.size w0 W) :
    Calls Try.prog 7 #[.int .i64 (n : Int)] W fun e w' => ∃ d hb, e = .returned (.tuple #[.pointer (some ⟨d, 0, none⟩), .int .i64 0]) ∧ St w0 w' d hb (newD n) ∧ Below W.heap.size W w' :=
  (new_any n h1 h2 W).mono fun e w' ⟨d, hb, he, hD, hB⟩ => ⟨d, hb, he, ⟨⟨_, ⟨Nat.le_trans hw.size hD.d0, Nat.le_trans hw.size hD.h0, hD.cells, hD.sect, (by
    refine ⟨hD.wait.1, ?_⟩
    rcases hD.wait.2 with h | ⟨g, cap, cur, e, hg, r⟩
    · exact .inl h
    · exact .inr ⟨g, cap, cur, e, Nat.le_trans hw.size hg, r⟩), hD.len, hD.wlen, hD.nb, hD.bd⟩⟩, hw.trans (hB.mono hw.size)⟩, hB⟩
theorem write_st {w0 W : World} {d hb : Nat} {D : Dsk} (h : St w0 W d hb D) (i : Int) (g : Nat) (s : List UInt8) (hs : s.length = 128) (hr : OwnC W g 5 (s.map B8)) (hw : D.waits.length ≤ 100000) :
    Calls Try.prog 8 #[.pointer (some ⟨d, 0, none⟩), .int .i64 i, .slice (some ⟨g, 0, none⟩) 128 128] W fun e w' => e = .returned (.int .i64 ((writeD D i s).2 : Int)) ∧ St w0 w' d hb (writeD D i s).1 ∧ Lets d hb W w' := by
  obtain ⟨V, hV⟩ := h.at_
  by_cases hi : 0 ≤ i ∧ i < D.has.length
  · by_cases ho : onD D = true
    · have hbm : ¬ Mine d hb V g := by
        obtain ⟨cur, hg, hc⟩ := hr
        rintro (e | e | e)
        · rw [e, show W.heap[d]? = _ from hV.cells] at hg
          cases hg
        · rw [e, show W.heap[hb]? = _ from hV.sect] at hg
          cases hg
        · rcases hV.wait.2 with ⟨e2, _⟩ | ⟨g', cap, cur', e2, _, hg', _⟩
          · rw [e2] at e; simp [Value.ownBlock] at e
          · rw [e2] at e
            obtain rfl : g' = g := by simpa [Value.ownBlock] using e
            rw [hg] at hg'
            cases hg'
      have hran : W.rangeAt g 0 (s.map B8) := fun j v hv => by rw [Nat.zero_add]; exact hr.cell hv
      refine (write_on hV i hi g 0 128 (by omega) s hs hran hbm ho hw).mono ?_
      rintro e w' ⟨rfl, V', h1, h2, h3⟩
      rw [show writeD D i s = ({ spendD D with waits := D.waits ++ [(i, s)] }, 0) by unfold writeD; rw [if_pos hi, if_pos ho]]
      exact ⟨rfl, h.of_only hV h1 h2, Lets.of_only hV h2⟩
    · refine (write_off hV i hi _ _ (by simpa using ho)).mono ?_
      rintro e w' ⟨rfl, h1, h2⟩
      rw [show writeD D i s = (spendD D, 10) by unfold writeD; rw [if_pos hi, if_neg ho]]
      exact ⟨rfl, h.of_only hV h1 h2, Lets.of_only hV h2⟩
  · refine (write_no hV i hi _ _ _).mono ?_
    rintro e w' ⟨rfl, rfl⟩
    rw [show writeD D i s = (D, 4) by unfold writeD; rw [if_neg hi]]
    exact ⟨rfl, h, Lets.refl _ _ _⟩
theorem flush_st {w0 W : World} {d hb : Nat} {D : Dsk} (h : St w0 W d hb D) (hw : D.waits.length ≤ 100000) :
    Calls Try.prog 10 #[.pointer (some ⟨d, 0, none⟩)] W fun e w' => e = .returned (.int .i64 ((flushD D).2 : Int)) ∧ St w0 w' d hb (flushD D).1 ∧ Lets d hb W w' := by
  obtain ⟨V, hV⟩ := h.at_
  by_cases ho : onD D = true
  · refine (flush_on hV ho hw).mono ?_
    rintro e w' ⟨rfl, h1, h2⟩
    rw [show flushD D = ({ spendD D with has := doneK (fun _ => true) D.waits D.has D.waits.length, waits := [] }, 0) by unfold flushD; rw [if_pos ho]]
    exact ⟨rfl, h.of_only hV h1 h2, Lets.of_only hV h2⟩
  · refine (flush_off hV (by simpa using ho)).mono ?_
    rintro e w' ⟨rfl, h1, h2⟩
    rw [show flushD D = (spendD D, 10) by unfold flushD; rw [if_neg ho]]
    exact ⟨rfl, h.of_only hV h1 h2, Lets.of_only hV h2⟩
theorem on_st {w0 W : World} {d hb : Nat} {D : Dsk} (h : St w0 W d hb D) :
    Calls Try.prog 13 #[.pointer (some ⟨d, 0, none⟩)] W fun e w' => e = .returned (.tuple #[]) ∧ St w0 w' d hb (onD' D) ∧ Lets d hb W w' := by
  obtain ⟨V, hV⟩ := h.at_
  refine (on_any hV).mono ?_
  rintro e w' ⟨rfl, h1, h2⟩
  exact ⟨rfl, h.of_only hV h1 h2, Lets.of_only hV h2⟩
theorem budget_st {w0 W : World} {d hb : Nat} {D : Dsk} (h : St w0 W d hb D) (n : Int) (hn : -1 ≤ n) (hn2 : n ≤ 9223372036854775807) :
    Calls Try.prog 15 #[.pointer (some ⟨d, 0, none⟩), .int .i64 n] W fun e w' => e = .returned (.int .i64 0) ∧ St w0 w' d hb { D with bud := n } ∧ Lets d hb W w' := by
  obtain ⟨V, hV⟩ := h.at_
  refine (budget_any hV n hn hn2).mono ?_
  rintro e w' ⟨rfl, h1, h2⟩
  exact ⟨rfl, h.of_only hV h1 h2, Lets.of_only hV h2⟩
theorem power_st {w0 W : World} {d hb : Nat} {D : Dsk} (h : St w0 W d hb D) :
    Calls Try.prog 16 #[.pointer (some ⟨d, 0, none⟩)] W fun e w' => e = .returned (.bool (!D.off)) ∧ W = w' := by
  obtain ⟨V, hV⟩ := h.at_
  exact power_any hV
theorem cut_st {w0 W : World} {d hb : Nat} {D : Dsk} (h : St w0 W d hb D) (hw : D.waits.length ≤ 100000) (KA : Option Addr) (kn kc : Nat) (ks : List Bool) (hn : kn = ks.length) (hr : Row W KA (ks.map boolV)) (hA : ∀ a, KA = some a → a.block ≠ d ∧ a.block ≠ hb ∧ ∀ cur fr, W.heap[a.block]? ≠ some (.cells cur 66 fr)) :
    Calls Try.prog 12 #[.pointer (some ⟨d, 0, none⟩), .slice KA kn kc] W fun e w' => e = .returned (.tuple #[]) ∧ St w0 w' d hb (cutD D ks) ∧ Lets d hb W w' := by
  obtain ⟨V, hV⟩ := h.at_
  refine (cut_any hV hw KA kn kc ks hn hr (fun a ha => ?_)).mono ?_
  · obtain ⟨h1, h2, h3⟩ := hA a ha
    rintro (e | e | e)
    · exact h1 e
    · exact h2 e
    · rcases hV.wait.2 with ⟨e2, _⟩ | ⟨g', cap, cur', e2, _, hg', _⟩
      · rw [e2] at e; simp [Value.ownBlock] at e
      · rw [e2] at e
        obtain rfl : g' = a.block := by simpa [Value.ownBlock] using e
        exact h3 _ _ hg'
  · rintro e w' ⟨rfl, h1, h2⟩
    exact ⟨rfl, h.of_only hV h1 h2, Lets.of_only hV h2⟩
theorem has_st {w0 W : World} {d hb : Nat} {D : Dsk} (h : St w0 W d hb D) (k : Nat) (hk : k < D.has.length) :
    Calls Try.prog 25 #[.pointer (some ⟨d, 0, none⟩), .int .i64 (k : Int)] W fun e w' => ∃ g, e = .returned (.tuple #[.slice (some ⟨g, 0, none⟩) 128 128, .int .i64 0]) ∧ OwnE w' g 64 ((D.has.getD k []).map B8) ∧ g ≠ hb ∧ St w0 w' d hb D ∧ Below W.heap.size W w' := by
  obtain ⟨V, hV⟩ := h.at_
  refine (has_any hV k hk).mono ?_
  rintro e w' ⟨rfl, rfl⟩
  have hb' : Below W.heap.size W (W.alloc (.cells ((D.has[k]'hk).map B8).toArray 64)) := (Below.refl _ _).alloc (Nat.le_refl _) _
  refine ⟨_, rfl, ?_, ?_, h.below hb', hb'⟩
  · rw [List.getD_eq_getElem?_getD, List.getElem?_eq_getElem hk, Option.getD_some]
    exact heap_alloc_new W _
  · have := h.hbl
    omega
theorem read_st {w0 W : World} {d hb : Nat} {D : Dsk} (h : St w0 W d hb D) (k : Nat) (hk : k < D.has.length) (hoff : D.off = false) (hw : D.waits.length ≤ 100000) :
    Calls Try.prog 11 #[.pointer (some ⟨d, 0, none⟩), .int .i64 (k : Int)] W fun e w' => ∃ g, e = .returned (.tuple #[.slice (some ⟨g, 0, none⟩) 128 128, .int .i64 0]) ∧ OwnE w' g 64 ((readD D k).map B8) ∧ g ≠ hb ∧ St w0 w' d hb D ∧ Below W.heap.size W w' := by
  obtain ⟨V, hV⟩ := h.at_
  refine (read_on hV k hk hoff hw).mono ?_
  rintro e w' ⟨g, rfl, h1, h2, h3⟩
  refine ⟨g, rfl, h2, ?_, h.below h3, h3⟩
  have := h.hbl
  omega
theorem strP {W : World} {A : Option Addr} {n : Nat} {l : List UInt8} (c : Nat) (h : Oct W A n l) : (convert 31 9 (.slice A n c)).run Try.prog W = .ok (.string (str l)) W := run_string_oct c h Try.underlying31 Try.underlying5 Try.underlying9
theorem strS {W : World} {g : Nat} {T : TypeId} {s : List UInt8} (h : OwnE W g T (s.map B8)) (hs : s.length = 128) : (convert 31 9 (.slice (some ⟨g, 0, none⟩) 128 128)).run Try.prog W = .ok (.string (str s)) W := strP 128 ⟨hs, h.row⟩
theorem strC {W : World} {g : Nat} {T : TypeId} {s : List UInt8} (h : OwnC W g T (s.map B8)) (hs : s.length = 128) : (convert 31 9 (.slice (some ⟨g, 0, none⟩) 128 128)).run Try.prog W = .ok (.string (str s)) W := strP 128 ⟨hs, h.row⟩
theorem readD_len {w0 W : World} {d hb : Nat} {D : Dsk} (h : St w0 W d hb D) (k : Nat) (hk : k < D.has.length) : (readD D k).length = 128 := by
  obtain ⟨h1, h2, _⟩ := h.len
  unfold readD
  have hh : (D.has.getD k []).length = 128 := by
    rw [List.getD_eq_getElem?_getD, List.getElem?_eq_getElem hk, Option.getD_some]
    exact h1 _ (List.getElem_mem hk)
  have hl : ∀ (n : Nat) (ws : List (Int × List UInt8)), ws.length = n → (∀ p ∈ ws, p.2.length = 128) → ∀ s, lastD ws k = some s → s.length = 128 := by
    intro n
    induction n with
    | zero => intro ws hn _ s hs; rw [List.eq_nil_of_length_eq_zero hn] at hs; cases hs
    | succ n ih =>
      intro ws hn hp s hs
      have hne : ws ≠ [] := by intro e; rw [e] at hn; simp at hn
      have e := List.dropLast_concat_getLast hne
      rw [← e, lastD_snoc] at hs
      split at hs
      · injection hs with hs
        rw [← hs]
        exact hp _ (List.getLast_mem hne)
      · exact ih ws.dropLast (by simp [hn]) (fun p hm => hp p (List.dropLast_subset _ hm)) s hs
  cases hq : lastD D.waits k with
  | none => exact hh
  | some s => exact hl _ D.waits rfl (fun p hp => (h2 p hp).1) s hq
end Go.Proofs.Ytkadehdbnkinlaa
