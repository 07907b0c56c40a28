/-
  What a cut keeps: plain Lean; and what a word about the disk leaves. A part of the proof: see the head of the text that ends in 'Law'.
-/
import Derived.Test.YtkadehdbnkinlaaDk22
namespace Go.Proofs.Ytkadehdbnkinlaa
open Go.RowKit
set_option linter.unusedVariables false
attribute [local go_sem] Oper.semAt_some

theorem strT : SliceT Try.prog 34 9 (.string ⟨#[]⟩) 1 16 := ⟨Try.underlying34, by kernel_rfl, rfl, by decide⟩
def SV (s : List UInt8) : Value := .string (str s)
theorem row_only2 {T : Nat → Prop} {W w' : World} {A : Option Addr} {xs : List Value} (h : Row W A xs) (hO : Only T W w') (hA : xs ≠ [] → ∀ a, A = some a → ¬ T a.block) : Row w' A xs := fun hx => row_only h hO (hA hx) hx
theorem cut_any2 {W : World} {b0 d hb : Nat} {V : Value} {D : Dsk} (h : DkAt W b0 d hb V D) (hw : D.waits.length ≤ 100000) (KA : Option Addr) (kn kc : Nat) (ks : List Bool) (hn : kn = ks.length) (hr : Row W KA (ks.map boolV)) (hA : ks ≠ [] → ∀ a, KA = some a → ¬ Mine d hb V a.block) :
    Calls Try.prog 12 #[.pointer (some ⟨d, 0, none⟩), .slice KA kn kc] W fun e w' => e = .returned (.tuple #[]) ∧
      DkAt w' b0 d hb (.slice none 0 0) { D with has := doneK (fun k => ks.getD k false) D.waits D.has D.waits.length, waits := [], off := true } ∧ Only (Mine d hb V) W w' := by
  have hk1 := h.below ((Below.refl _ W).alloc (Nat.le_refl _) (.cells #[.slice KA kn kc] 23))
  have hbox := (OwnC.new_ W #[.slice KA kn kc] 23).cell (j := 0) rfl
  have hlt := Mine.lt h
  have HDN := hid (done_cut (bx := W.heap.size) hk1 hw (fun k => ks.getD k false) (fun w => w.cell? ⟨W.heap.size, 0, none⟩ = some (.slice KA kn kc) ∧ Row w KA (ks.map boolV)) ⟨hbox, hr.alloc _⟩
    (fun w w' ⟨k1, k2⟩ hO => ⟨by
      have h1 := hO.block W.heap.size (World.block_lt_of_cell? w _ k1) (fun hm => by have := (hlt _ hm).2; omega)
      simp only [World.cell?, h1] at k1 ⊢
      exact k1, row_only2 k2 hO (fun hne => hA (fun e => hne (by rw [e]; rfl)))⟩)
    (fun k w ⟨k1, k2⟩ => cut1_any W.heap.size KA kn kc ks k w k1 hn k2))
  clear h hk1 hbox hlt hr hA hn
  go_enter Try.func12, Try.ntmps12
  go_wp2_with (go_at_call 29; (refine HDN.out.mono ?_); rintro e w2 ⟨rfl, h1, h2⟩; have H1 := hid h1; have H2 := hid h2; have x3 := h1.cells.cell (j := 3) rfl; have f3 := h1.cells.frozen 3; clear h1 h2)
  go_end0
  exact ⟨rfl, H1.out.off_set true, ((Only.of_below (T := Mine d hb V) ((Below.refl _ W).alloc (Nat.le_refl _) _)).trans H2.out (fun g h => .inl h)).trans (Only.of_set (T := Mine d hb V) _ ⟨d, 3, none⟩ _ (.inl rfl)) (fun g h => .inl h)⟩
/-- A cut: what is kept was handed in. -/
theorem cut_arg {w0 W : World} {d hb : Nat} {D : Dsk} (h : St w0 W d hb D) (hw : D.waits.length ≤ 100000) (KA : Option Addr) (kn kc : Nat) (ks : List Bool) (hn : ks.length = kn) (hr : Row w0 KA (ks.map boolV)) :
    Calls Try.prog 12 #[.pointer (some ⟨d, 0, none⟩), .slice KA kn kc] W fun e w' => e = .returned (.tuple #[]) ∧ St w0 w' d hb (cutD D ks) ∧ Lets d hb W w' := by
  obtain ⟨V, hV⟩ := h.at_
  refine (cut_any2 hV hw KA kn kc ks hn.symm (hr.below h.bel) (fun hne a ha hm => ?_)).mono ?_
  · obtain ⟨b, off, e, hc⟩ := hr (by intro e; exact hne (List.map_eq_nil_iff.1 e))
    rw [ha] at e
    injection e with e
    obtain ⟨k, rest, rfl⟩ : ∃ k rest, ks = k :: rest := by
      cases ks with
      | nil => exact absurd rfl hne
      | cons k rest => exact ⟨k, rest, rfl⟩
    have h1 := World.block_lt_of_cell? w0 _ (hc 0 _ rfl)
    have h2 := (Mine.lt hV _ hm).1
    rw [e] at h2
    dsimp only at h1 h2
    omega
  · rintro e w' ⟨rfl, h1, h2⟩
    exact ⟨rfl, h.of_only hV h1 h2, Lets.of_only hV h2⟩
theorem DkAt.only {W W' : World} {b0 d hb : Nat} {V : Value} {D : Dsk} (h : DkAt W b0 d hb V D) {T : Nat → Prop} (hO : Only T W W') (hT : ∀ g, T g → ¬ Mine d hb V g) : DkAt W' b0 d hb V D :=
  ⟨h.d0, h.h0, (hO.block d h.cells.lt (fun t => hT d t (.inl rfl))).trans h.cells, (hO.block hb h.sect.lt (fun t => hT hb t (.inr (.inl rfl)))).trans h.sect, by
    refine ⟨h.wait.1, ?_⟩
    rcases h.wait.2 with hq | ⟨k, cap, cur, e, h1, h2, h3⟩
    · exact .inl hq
    · exact .inr ⟨k, cap, cur, e, h1, (hO.block k (lt_of_heap h2) (fun t => hT k t (.inr (.inr (by rw [e]; rfl))))).trans h2, h3⟩, h.len, h.wlen, h.nb, h.bd⟩
/-- A row of strings of the law's own is none of the disk's blocks. -/
theorem str_mine {W : World} {b0 d hb n : Nat} {V v : Value} {D : Dsk} {xs : List Value} (h : DkAt W b0 d hb V D) (hr : W.ownsRow b0 9 1 v n xs) (g : Nat) (hg : v.ownBlock = some g) : ¬ Mine d hb V g := by
  rcases hr.2 with ⟨e, _⟩ | ⟨k, cap, cur, e, _, hk, _⟩
  · rw [e] at hg; simp [Value.ownBlock] at hg
  · rw [e] at hg
    obtain rfl : k = g := by simpa [Value.ownBlock] using hg
    rintro (e | e | e)
    · rw [e, show W.heap[d]? = _ from h.cells] at hk; cases hk
    · rw [e, show W.heap[hb]? = _ from h.sect] at hk; cases hk
    · rcases h.wait.2 with ⟨e2, _⟩ | ⟨k2, cap2, cur2, e2, _, hk2, _⟩
      · rw [e2] at e; simp [Value.ownBlock] at e
      · rw [e2] at e
        obtain rfl : k2 = k := by simpa [Value.ownBlock] using e
        rw [hk] at hk2; cases hk2
theorem St.append {w0 W W' : World} {d hb n : Nat} {D : Dsk} {v : Value} {xs : List Value} (h : St w0 W d hb D) (hr : W.ownsRow w0.heap.size 9 1 v n xs) (hg : W.grownBy W' v.ownBlock) : St w0 W' d hb D := by
  obtain ⟨V, hV⟩ := h.at_
  refine ⟨⟨V, hV.only (T := fun g => v.ownBlock = some g) (Only.of_grown hg (fun g e => e)) (fun g e => str_mine hV hr g e)⟩, h.bel.grown hg h.bel.size (fun r e => own_base hr r e)⟩
theorem own_lets {w0 W W' : World} {d hb n : Nat} {D : Dsk} {v : Value} {xs : List Value} (h : St w0 W d hb D) (hr : W.ownsRow w0.heap.size 9 1 v n xs) (hL : Lets d hb W W') : W'.ownsRow w0.heap.size 9 1 v n xs := by
  obtain ⟨V, hV⟩ := h.at_
  have hm := str_mine hV hr
  refine ⟨hr.1, ?_⟩
  rcases hr.2 with hq | ⟨k, cap, cur, e, h1, h2, h3⟩
  · exact .inl hq
  · have := hm k (by rw [e]; rfl)
    exact .inr ⟨k, cap, cur, e, h1, hL.block k cur _ _ (fun e => this (.inl e)) (fun e => this (.inr (.inl e))) (by decide) h2, h3⟩

/-! What a cut keeps. -/
theorem done_keeps (hold : Nat → Bool) (ws : List Iss) (h : List (List UInt8)) (i : Nat) (hi : i < h.length) (hw : ∀ p ∈ ws, 0 ≤ p.1) : ∀ n, n ≤ ws.length →
    (doneK hold ws h n).getD i [] = h.getD i [] ∨ ∃ k, ∃ hk : k < ws.length, hold k = true ∧ ws[k].1 = (i : Int) ∧ (doneK hold ws h n).getD i [] = ws[k].2
  | 0, _ => .inl rfl
  | n + 1, hn => by
    have ih := done_keeps hold ws h i hi hw n (by omega)
    have hg : ws.getD n (0, []) = ws[n] := by rw [List.getD_eq_getElem?_getD, List.getElem?_eq_getElem hn, Option.getD_some]
    have h0 := hw _ (List.getElem_mem hn)
    have hl : i < (doneK hold ws h n).length := by rw [doneK_len]; exact hi
    cases hh : hold n with
    | false => rw [doneK, if_neg (by rw [hh]; decide)]; exact ih
    | true =>
      rw [doneK, if_pos hh, hg]
      by_cases e : ws[n].1 = (i : Int)
      · refine .inr ⟨n, hn, hh, e, ?_⟩
        rw [List.getD_eq_getElem?_getD, show ws[n].1.toNat = i by omega, List.getElem?_set_self hl, Option.getD_some]
      · have e2 : ((doneK hold ws h n).set ws[n].1.toNat ws[n].2).getD i [] = (doneK hold ws h n).getD i [] := by
          rw [List.getD_eq_getElem?_getD, List.getD_eq_getElem?_getD, List.getElem?_set_ne (by omega)]
        rw [e2]
        exact ih
/-- The writes that the first m acts let wait. -/
def wsL (l : List ActV) (m : Nat) : List Iss := ((l.take m).filter (fun a => decide (0 ≤ a.2.1 ∧ a.2.1 < 4))).map (fun a => (a.2.1, secA a.2.2.1))
theorem wsL_in (l : List ActV) (m : Nat) (hm : m < l.length) (h : 0 ≤ l[m].2.1 ∧ l[m].2.1 < 4) : wsL l (m + 1) = wsL l m ++ [(l[m].2.1, secA l[m].2.2.1)] := by
  unfold wsL
  rw [List.take_succ_eq_append_getElem hm, List.filter_append, List.map_append]
  congr 1
  rw [List.filter_cons, if_pos (by simpa using h)]
  rfl
theorem wsL_out (l : List ActV) (m : Nat) (hm : m < l.length) (h : ¬ (0 ≤ l[m].2.1 ∧ l[m].2.1 < 4)) : wsL l (m + 1) = wsL l m := by
  unfold wsL
  rw [List.take_succ_eq_append_getElem hm, List.filter_append, List.filter_cons, if_neg (by simpa using h)]
  simp
/-- Is what was read one of these, or what it had? -/
def wholeB (l : List ActV) (v h : List UInt8) (i m : Nat) : Bool := (v == h) || (l.take m).any (fun a => a.2.1 == (i : Int) && v == secA a.2.2.1)
theorem wholeB_succ (l : List ActV) (v h : List UInt8) (i m : Nat) (hm : m < l.length) : wholeB l v h i (m + 1) = (wholeB l v h i m || (l[m].2.1 == (i : Int) && v == secA l[m].2.2.1)) := by
  unfold wholeB
  rw [List.take_succ_eq_append_getElem hm, List.any_append]
  simp [Bool.or_assoc]
theorem whole_end (l : List ActV) (h : List (List UInt8)) (i m : Nat) (hi : i < h.length) (hold : Nat → Bool) : wholeB l ((doneK hold (wsL l m) h (wsL l m).length).getD i []) (h.getD i []) i m = true := by
  have hw : ∀ p ∈ wsL l m, 0 ≤ p.1 ∧ ∃ a ∈ l.take m, p = (a.2.1, secA a.2.2.1) := by
    intro p hp
    unfold wsL at hp
    obtain ⟨a, ha, rfl⟩ := List.mem_map.1 hp
    obtain ⟨h1, h2⟩ := List.mem_filter.1 ha
    exact ⟨(of_decide_eq_true h2).1, a, h1, rfl⟩
  rcases done_keeps hold (wsL l m) h i hi (fun p hp => (hw p hp).1) _ (Nat.le_refl _) with e | ⟨k, hk, h1, h2, h3⟩
  · unfold wholeB
    rw [e]
    simp
  · obtain ⟨_, a, ha, he⟩ := hw _ (List.getElem_mem hk)
    unfold wholeB
    rw [Bool.or_eq_true]
    refine .inr (List.any_eq_true.2 ⟨a, ha, ?_⟩)
    rw [he] at h2 h3
    dsimp only at h2 h3
    rw [h2, h3]
    simp
theorem none_kept (ws : List Iss) (h : List (List UInt8)) : ∀ n, doneK (fun k => ([] : List Bool).getD k false) ws h n = h
  | 0 => rfl
  | n + 1 => by rw [doneK, if_neg (by simp)]; exact none_kept ws h n
theorem str_eqv (a b : List UInt8) : (str a == str b) = (a == b) := by
  show (a.toArray == b.toArray) = _
  simp
/-- The disk behind some writes: what it had, what waits. -/
def dkW (h : List (List UInt8)) (q : List Iss) : Dsk := ⟨h, q, -1, false, [], 4⟩
theorem dkW_free (h : List (List UInt8)) (q : List Iss) (h4 : h.length = 4) : Free (dkW h q) q.length := ⟨h4, Nat.le_refl _, rfl, rfl⟩
theorem Free.write_all {D : Dsk} {m : Nat} (h : Free D m) (i : Int) (s : List UInt8) : ∃ D' e, writeD D i s = (D', e) ∧ Free D' (m + 1) := by
  by_cases hi : 0 ≤ i ∧ i < 4
  · refine ⟨{ D with waits := D.waits ++ [(i, s)] }, 0, h.write i s hi, h.has, ?_, h.bud, h.off⟩
    show (D.waits ++ [(i, s)]).length ≤ m + 1
    have := h.w
    rw [List.length_append, List.length_singleton]
    omega
  · exact ⟨D, 4, h.write_no i s hi, h.has, by have := h.w; omega, h.bud, h.off⟩
theorem wsL_len (l : List ActV) (m : Nat) : (wsL l m).length ≤ m := by
  unfold wsL
  rw [List.length_map]
  exact Nat.le_trans (List.length_filter_le _ _) (by rw [List.length_take]; omega)
theorem write_behind (h : List (List UInt8)) (h4 : h.length = 4) (l : List ActV) (m : Nat) (hm : m < l.length) : ∃ e, writeD (dkW h (wsL l m)) l[m].2.1 (secA l[m].2.2.1) = (dkW h (wsL l (m + 1)), e) := by
  by_cases hi : 0 ≤ l[m].2.1 ∧ l[m].2.1 < 4
  · exact ⟨0, by rw [(dkW_free h (wsL l m) h4).write _ _ hi, wsL_in l m hm hi]; rfl⟩
  · exact ⟨4, by rw [(dkW_free h (wsL l m) h4).write_no _ _ hi, wsL_out l m hm hi]⟩
theorem sv_take (h : List (List UInt8)) (j : Nat) (hj : j < h.length) : (h.take j).map SV ++ [SV (h.getD j [])] = (h.take (j + 1)).map SV := by
  rw [List.take_succ_eq_append_getElem hj, List.map_append, List.getD_eq_getElem?_getD, List.getElem?_eq_getElem hj]
  rfl
end Go.Proofs.Ytkadehdbnkinlaa
