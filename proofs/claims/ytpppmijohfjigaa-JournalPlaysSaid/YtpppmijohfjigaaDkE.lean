/-
  DiskReads: the walk; What a cut keeps: plain Lean; and what a word about the disk leaves; The document's disk: what it is in memory, and its small words; The document's disk: Read, Write; The document's disk: Flush, Cut; The document's disk, made; the size; clones. A part of the proof: see the head of the text that ends in 'Law'.
-/
import Derived.Test.YtpppmijohfjigaaDkD
import Derived.Test.YtpppmijohfjigaaRd
namespace Go.Proofs.Ytpppmijohfjigaa
section
open Go.RowKit
set_option linter.unusedVariables false
set_option linter.unusedSimpArgs false
attribute [local go_sem] Oper.semAt_some
/-- Where the power is on and no budget is. -/
structure Free (D : Dsk) (m : Nat) : Prop where
  has : D.has.length = 4
  w : D.waits.length ≤ m
  bud : D.bud = -1
  off : D.off = false
theorem Free.on {D : Dsk} {m : Nat} (h : Free D m) : onD D = true ∧ spendD D = D := by
  unfold onD spendD
  rw [h.bud, h.off]
  exact ⟨rfl, rfl⟩
theorem Free.flush {D : Dsk} {m : Nat} (h : Free D m) : flushD D = ({ D with has := doneK (fun _ => true) D.waits D.has D.waits.length, waits := [] }, 0) := by
  unfold flushD
  rw [if_pos h.on.1, h.on.2]
theorem allC {w0 W : World} {d hb : Nat} {D : Dsk} (h : St w0 W d hb D) (c : UInt8) :
    Calls Try.prog 20 #[B8 c] W fun e w' => ∃ g, e = .returned (.slice (some ⟨g, 0, none⟩) 128 128) ∧ OwnC w' g 5 ((secA c).map B8) ∧ St w0 w' d hb D ∧ Below W.heap.size W w' := all_st h c
theorem u8_of (k : Nat) (hk : (k : Int) ≤ IntKind.u8.max) : Value.int .u8 (k : Int) = B8 (UInt8.ofNat k) := by
  have h : k < 256 := by
    have : IntKind.u8.max = 255 := by decide
    omega
  unfold B8
  rw [UInt8.toNat_ofNat', Nat.mod_eq_of_lt (by simpa using h)]
end
section
open Go.RowKit
set_option linter.unusedVariables false
set_option linter.unusedSimpArgs false
attribute [local go_sem] Oper.semAt_some
theorem strT : SliceT Try.prog 36 9 (.string ⟨#[]⟩) 1 16 := ⟨Try.underlying36, by kernel_rfl, rfl, by decide⟩
theorem row_only2 {T : Nat → Prop} {W w' : World} {A : Option Addr} {xs : List Value} (h : Row W A xs) (hO : Only T W w') (hA : xs ≠ [] → ∀ a, A = some a → ¬ T a.block) : Row w' A xs := fun hx => row_only h hO (hA hx) hx
theorem cut_any2 {W : World} {b0 d hb : Nat} {V : Value} {D : Dsk} (h : DkAt W b0 d hb V D) (hw : D.waits.length ≤ 100000) (KA : Option Addr) (kn kc : Nat) (ks : List Bool) (hn : kn = ks.length) (hr : Row W KA (ks.map boolV)) (hA : ks ≠ [] → ∀ a, KA = some a → ¬ Mine d hb V a.block) :
    Calls Try.prog 16 #[.pointer (some ⟨d, 0, none⟩), .slice KA kn kc] W fun e w' => e = .returned (.tuple #[]) ∧
      DkAt w' b0 d hb (.slice none 0 0) { D with has := doneK (fun k => ks.getD k false) D.waits D.has D.waits.length, waits := [], off := true } ∧ Only (Mine d hb V) W w' := by
  have hk1 := h.below ((Below.refl _ W).alloc (Nat.le_refl _) (.cells #[.slice KA kn kc] 40))
  have hbox := (OwnC.new_ W #[.slice KA kn kc] 40).cell (j := 0) rfl
  have hlt := Mine.lt h
  have HDN := hid (done_cut (bx := W.heap.size) hk1 hw (fun k => ks.getD k false) (fun w => w.cell? ⟨W.heap.size, 0, none⟩ = some (.slice KA kn kc) ∧ Row w KA (ks.map boolV)) ⟨hbox, hr.alloc _⟩
    (fun w w' ⟨k1, k2⟩ hO => ⟨by
      have h1 := hO.block W.heap.size (World.block_lt_of_cell? w _ k1) (fun hm => by have := (hlt _ hm).2; omega)
      simp only [World.cell?, h1] at k1 ⊢
      exact k1, row_only2 k2 hO (fun hne => hA (fun e => hne (by rw [e]; rfl)))⟩)
    (fun k w ⟨k1, k2⟩ => cut1_any W.heap.size KA kn kc ks k w k1 hn k2))
  clear h hk1 hbox hlt hr hA hn
  go_enter Try.func16, Try.ntmps16
  go_wp2_with (go_at_call 53; (refine HDN.out.mono ?_); rintro e w2 ⟨rfl, h1, h2⟩; have H1 := hid h1; have H2 := hid h2; have x3 := h1.cells.cell (j := 3) rfl; have f3 := h1.cells.frozen 3; clear h1 h2)
  go_end0
  exact ⟨rfl, H1.out.off_set true, ((Only.of_below (T := Mine d hb V) ((Below.refl _ W).alloc (Nat.le_refl _) _)).trans H2.out (fun g h => .inl h)).trans (Only.of_set (T := Mine d hb V) _ ⟨d, 3, none⟩ _ (.inl rfl)) (fun g h => .inl h)⟩
/-- A cut: what is kept was handed in. -/
theorem cut_arg {w0 W : World} {d hb : Nat} {D : Dsk} (h : St w0 W d hb D) (hw : D.waits.length ≤ 100000) (KA : Option Addr) (kn kc : Nat) (ks : List Bool) (hn : ks.length = kn) (hr : Row w0 KA (ks.map boolV)) :
    Calls Try.prog 16 #[.pointer (some ⟨d, 0, none⟩), .slice KA kn kc] W fun e w' => e = .returned (.tuple #[]) ∧ St w0 w' d hb (cutD D ks) ∧ Lets d hb W w' := by
  obtain ⟨V, hV⟩ := h.at_
  refine (cut_any2 hV hw KA kn kc ks hn.symm (hr.below h.bel) (fun hne a ha hm => ?_)).mono ?_
  · obtain ⟨b, off, e, hc⟩ := hr (by intro e; exact hne (List.map_eq_nil_iff.1 e))
    rw [ha] at e
    injection e with e
    obtain ⟨k, rest, rfl⟩ : ∃ k rest, ks = k :: rest := by
      cases ks with
      | nil => exact absurd rfl hne
      | cons k rest => exact ⟨k, rest, rfl⟩
    have h1 := World.block_lt_of_cell? w0 _ (hc 0 _ rfl)
    have h2 := (Mine.lt hV _ hm).1
    rw [e] at h2
    dsimp only at h1 h2
    omega
  · rintro e w' ⟨rfl, h1, h2⟩
    exact ⟨rfl, h.of_only hV h1 h2 (fun _ => rfl), Lets.of_only hV h2⟩
theorem DkAt.only {W W' : World} {b0 d hb : Nat} {V : Value} {D : Dsk} (h : DkAt W b0 d hb V D) {T : Nat → Prop} (hO : Only T W W') (hT : ∀ g, T g → ¬ Mine d hb V g) : DkAt W' b0 d hb V D :=
  ⟨h.d0, h.h0, (hO.block d h.cells.lt (fun t => hT d t (.inl rfl))).trans h.cells, (hO.block hb h.sect.lt (fun t => hT hb t (.inr (.inl rfl)))).trans h.sect, by
    refine ⟨h.wait.1, ?_⟩
    rcases h.wait.2 with hq | ⟨k, cap, cur, e, h1, h2, h3⟩
    · exact .inl hq
    · exact .inr ⟨k, cap, cur, e, h1, (hO.block k (lt_of_heap h2) (fun t => hT k t (.inr (.inr (by rw [e]; rfl))))).trans h2, h3⟩, h.len, h.wlen, h.nb, h.bd⟩
/-- A row of strings of the law's own is none of the disk's blocks. -/
theorem str_mine {W : World} {b0 d hb n : Nat} {V v : Value} {D : Dsk} {xs : List Value} (h : DkAt W b0 d hb V D) (hr : W.ownsRow b0 9 1 v n xs) (g : Nat) (hg : v.ownBlock = some g) : ¬ Mine d hb V g := by
  rcases hr.2 with ⟨e, _⟩ | ⟨k, cap, cur, e, _, hk, _⟩
  · rw [e] at hg; simp [Value.ownBlock] at hg
  · rw [e] at hg
    obtain rfl : k = g := by simpa [Value.ownBlock] using hg
    rintro (e | e | e)
    · rw [e, show W.heap[d]? = _ from h.cells] at hk; cases hk
    · rw [e, show W.heap[hb]? = _ from h.sect] at hk; cases hk
    · rcases h.wait.2 with ⟨e2, _⟩ | ⟨k2, cap2, cur2, e2, _, hk2, _⟩
      · rw [e2] at e; simp [Value.ownBlock] at e
      · rw [e2] at e
        obtain rfl : k2 = k := by simpa [Value.ownBlock] using e
        rw [hk] at hk2; cases hk2
theorem St.append {w0 W W' : World} {d hb n : Nat} {D : Dsk} {v : Value} {xs : List Value} (h : St w0 W d hb D) (hr : W.ownsRow w0.heap.size 9 1 v n xs) (hg : W.grownBy W' v.ownBlock) : St w0 W' d hb D := by
  obtain ⟨V, hV⟩ := h.at_
  have hk := hV.only (T := fun g => v.ownBlock = some g) (Only.of_grown hg (fun g e => e)) (fun g e => str_mine hV hr g e)
  exact ⟨⟨V, hk⟩, h.bel.grown hg h.bel.size (fun r e => own_base hr r e), nl_of hk (h.nl V hV)⟩
theorem own_lets {w0 W W' : World} {d hb n : Nat} {D : Dsk} {v : Value} {xs : List Value} (h : St w0 W d hb D) (hr : W.ownsRow w0.heap.size 9 1 v n xs) (hL : Lets d hb W W') : W'.ownsRow w0.heap.size 9 1 v n xs := by
  obtain ⟨V, hV⟩ := h.at_
  have hm := str_mine hV hr
  refine ⟨hr.1, ?_⟩
  rcases hr.2 with hq | ⟨k, cap, cur, e, h1, h2, h3⟩
  · exact .inl hq
  · have := hm k (by rw [e]; rfl)
    exact .inr ⟨k, cap, cur, e, h1, hL.block k cur _ _ (fun e => this (.inl e)) (fun e => this (.inr (.inl e))) (by decide) h2, h3⟩

/-! What a cut keeps. -/
theorem done_keeps (hold : Nat → Bool) (ws : List Iss) (h : List (List UInt8)) (i : Nat) (hi : i < h.length) (hw : ∀ p ∈ ws, 0 ≤ p.1) : ∀ n, n ≤ ws.length →
    (doneK hold ws h n).getD i [] = h.getD i [] ∨ ∃ k, ∃ hk : k < ws.length, hold k = true ∧ ws[k].1 = (i : Int) ∧ (doneK hold ws h n).getD i [] = ws[k].2
  | 0, _ => .inl rfl
  | n + 1, hn => by
    have ih := done_keeps hold ws h i hi hw n (by omega)
    have hg : ws.getD n (0, []) = ws[n] := by rw [List.getD_eq_getElem?_getD, List.getElem?_eq_getElem hn, Option.getD_some]
    have h0 := hw _ (List.getElem_mem hn)
    have hl : i < (doneK hold ws h n).length := by rw [doneK_len]; exact hi
    cases hh : hold n with
    | false => rw [doneK, if_neg (by rw [hh]; decide)]; exact ih
    | true =>
      rw [doneK, if_pos hh, hg]
      by_cases e : ws[n].1 = (i : Int)
      · refine .inr ⟨n, hn, hh, e, ?_⟩
        rw [List.getD_eq_getElem?_getD, show ws[n].1.toNat = i by omega, List.getElem?_set_self hl, Option.getD_some]
      · have e2 : ((doneK hold ws h n).set ws[n].1.toNat ws[n].2).getD i [] = (doneK hold ws h n).getD i [] := by
          rw [List.getD_eq_getElem?_getD, List.getD_eq_getElem?_getD, List.getElem?_set_ne (by omega)]
        rw [e2]
        exact ih
end
section
open Go.RowKit
set_option linter.unusedVariables false
set_option linter.unusedSimpArgs false
attribute [local go_sem] Oper.semAt_some
def wtC (p : Iss) : List Value := [.int .i64 p.1, SV p.2]
/-- The document's disk at m. -/
structure RfAt (W : World) (b0 m : Nat) (VH VL : Value) (D : Dsk) : Prop where
  m0 : b0 ≤ m
  cells : OwnE W m 65 [VH, VL, .int .i64 D.bud, .bool D.off]
  hs : W.ownsRow b0 9 1 VH D.has.length (D.has.map SV)
  ls : W.ownsRow b0 113 2 VL D.waits.length (D.waits.flatMap wtC)
  wl : ∀ p ∈ D.waits, 0 ≤ p.1 ∧ p.1 < D.has.length
  nb : D.has.length ≤ 2048
  bd : -1 ≤ D.bud ∧ D.bud ≤ 9223372036854775807
/-- What a word about the document's disk leaves as it was. -/
structure RLets (w0 W w' : World) : Prop where
  bel : Below w0.heap.size W w'
  block : ∀ (k : Nat) (cur : Array Value) (T : TypeId) (fr : Nat × Nat), T ≠ 65 → T ≠ 9 → T ≠ 113 → W.heap[k]? = some (.cells cur T fr) → w'.heap[k]? = some (.cells cur T fr)
theorem RLets.refl (w0 W : World) : RLets w0 W W := ⟨Below.refl _ _, fun _ _ _ _ _ _ _ h => h⟩
theorem RLets.trans {w0 a b c : World} (h : RLets w0 a b) (k : RLets w0 b c) : RLets w0 a c := ⟨h.bel.trans k.bel, fun i cur T fr h1 h2 h3 hk => k.block i cur T fr h1 h2 h3 (h.block i cur T fr h1 h2 h3 hk)⟩
theorem RLets.of_below {w0 a b : World} (h : Below a.heap.size a b) (hs : w0.heap.size ≤ a.heap.size) : RLets w0 a b := ⟨h.mono hs, fun k cur T fr _ _ _ hk => (h.block k (lt_of_heap hk)).trans hk⟩
def RMine (m : Nat) (VH VL : Value) (g : Nat) : Prop := g = m ∨ VH.ownBlock = some g ∨ VL.ownBlock = some g
theorem RfAt.mine {W : World} {b0 m : Nat} {VH VL : Value} {D : Dsk} (h : RfAt W b0 m VH VL D) (g : Nat) (hg : RMine m VH VL g) : b0 ≤ g ∧ ∃ cur T, W.heap[g]? = some (.cells cur T (0, 0)) ∧ (T = 65 ∨ T = 9 ∨ T = 113) := by
  rcases hg with rfl | hg | hg
  · exact ⟨h.m0, _, _, h.cells, .inl rfl⟩
  · obtain ⟨cur, hc⟩ := own_type h.hs g hg
    exact ⟨own_base h.hs g hg, cur, _, hc, .inr (.inl rfl)⟩
  · obtain ⟨cur, hc⟩ := own_type h.ls g hg
    exact ⟨own_base h.ls g hg, cur, _, hc, .inr (.inr rfl)⟩
theorem RLets.of_only {w0 W w' : World} {m : Nat} {VH VL : Value} {D : Dsk} (h : RfAt W w0.heap.size m VH VL D) (hO : Only (RMine m VH VL) W w') (hs : w0.heap.size ≤ W.heap.size) : RLets w0 W w' :=
  ⟨hO.below hs (fun g hg => (h.mine g hg).1), fun k cur T fr h1 h2 h3 hk => (hO.block k (lt_of_heap hk) (fun hm => by
    obtain ⟨_, cur', T', hc, ht⟩ := h.mine k hm
    rw [hk] at hc
    injection hc with hc
    injection hc with _ e
    subst e
    rcases ht with e | e | e
    · exact h1 e
    · exact h2 e
    · exact h3 e)).trans hk⟩
theorem RfAt.below {W w' : World} {b0 m : Nat} {VH VL : Value} {D : Dsk} (h : RfAt W b0 m VH VL D) (hb : Below W.heap.size W w') : RfAt w' b0 m VH VL D :=
  ⟨h.m0, h.cells.below hb, own_below h.hs hb, own_only h.ls (Only.of_below (T := fun _ => False) hb) (fun _ _ h => h), h.wl, h.nb, h.bd⟩
/-- The document's disk, made behind w0. -/
def RSt (w0 W : World) (m : Nat) (D : Dsk) : Prop := ∃ VH VL, RfAt W w0.heap.size m VH VL D
theorem RSt.below {w0 W w' : World} {m : Nat} {D : Dsk} (h : RSt w0 W m D) (hb : Below W.heap.size W w') : RSt w0 w' m D := by
  obtain ⟨VH, VL, h⟩ := h
  exact ⟨VH, VL, h.below hb⟩
theorem RSt.lets {w0 W w' : World} {d hb m : Nat} {D D' : Dsk} (h : RSt w0 W m D) (hs : St w0 W d hb D') (hL : Lets d hb W w') : RSt w0 w' m D := by
  obtain ⟨VH, VL, h⟩ := h
  obtain ⟨V, hV⟩ := hs.at_
  have hd : ∀ (g : Nat) (cur : Array Value) (T : TypeId) (fr : Nat × Nat), W.heap[g]? = some (.cells cur T fr) → (T = 65 ∨ T = 9 ∨ T = 113) → w'.heap[g]? = some (.cells cur T fr) := by
    intro g cur T fr hg ht
    refine hL.block g cur T fr ?_ ?_ ?_ hg
    · rintro rfl
      rw [show W.heap[g]? = _ from hV.cells] at hg
      injection hg with hg
      injection hg with _ e
      subst e
      revert ht
      decide
    · rintro rfl
      rw [show W.heap[g]? = _ from hV.sect] at hg
      injection hg with hg
      injection hg with _ e
      subst e
      revert ht
      decide
    · rintro rfl
      revert ht
      decide
  refine ⟨VH, VL, h.m0, hd _ _ _ _ h.cells (.inl rfl), ⟨h.hs.1, ?_⟩, ⟨h.ls.1, ?_⟩, h.wl, h.nb, h.bd⟩
  · rcases h.hs.2 with hq | ⟨k, cap, cur, e2, h1, h2, h3⟩
    · exact .inl hq
    · exact .inr ⟨k, cap, cur, e2, h1, hd _ _ _ _ h2 (.inr (.inl rfl)), h3⟩
  · rcases h.ls.2 with hq | ⟨k, cap, cur, e2, h1, h2, h3⟩
    · exact .inl hq
    · exact .inr ⟨k, cap, cur, e2, h1, hd _ _ _ _ h2 (.inr (.inr rfl)), h3⟩
theorem St.rlets {w0 W w' : World} {d hb : Nat} {D : Dsk} (h : St w0 W d hb D) (hL : RLets w0 W w') : St w0 w' d hb D := by
  obtain ⟨V, hV⟩ := h.at_
  have hk : DkAt w' w0.heap.size d hb V D := by
    refine ⟨hV.d0, hV.h0, hL.block _ _ _ _ (by decide) (by decide) (by decide) hV.cells, hL.block _ _ _ _ (by decide) (by decide) (by decide) hV.sect, ⟨hV.wait.1, ?_⟩, hV.len, hV.wlen, hV.nb, hV.bd⟩
    rcases hV.wait.2 with hq | ⟨k, cap, cur, e2, h1, h2, h3⟩
    · exact .inl hq
    · exact .inr ⟨k, cap, cur, e2, h1, hL.block _ _ _ _ (by decide) (by decide) (by decide) h2, h3⟩
  exact ⟨⟨V, hk⟩, h.bel.trans hL.bel, nl_of hk (h.nl V hV)⟩
theorem OwnE.rlets {w0 W w' : World} {g : Nat} {T : TypeId} {xs : List Value} (h : OwnE W g T xs) (hL : RLets w0 W w') (h1 : T ≠ 65) (h2 : T ≠ 9) (h3 : T ≠ 113) : OwnE w' g T xs := hL.block _ _ _ _ h1 h2 h3 h
theorem RfAt.mh {W : World} {b0 m : Nat} {VH VL : Value} {D : Dsk} (h : RfAt W b0 m VH VL D) : VH.ownBlock ≠ some m := h.cells.row_ne h.hs (by decide)
theorem RfAt.ml {W : World} {b0 m : Nat} {VH VL : Value} {D : Dsk} (h : RfAt W b0 m VH VL D) : VL.ownBlock ≠ some m := h.cells.row_ne h.ls (by decide)
theorem RfAt.hl {W : World} {b0 m : Nat} {VH VL : Value} {D : Dsk} (h : RfAt W b0 m VH VL D) (g : Nat) (hg : VH.ownBlock = some g) : VL.ownBlock ≠ some g := by
  intro e
  obtain ⟨c1, h1⟩ := own_type h.hs g hg
  obtain ⟨c2, h2⟩ := own_type h.ls g e
  rw [h1] at h2
  injection h2 with h2
  injection h2 with _ ht
  exact absurd ht (by decide)
theorem RfAt.bud_set {W : World} {b0 m : Nat} {VH VL : Value} {D : Dsk} (h : RfAt W b0 m VH VL D) (k : Int) (hk : -1 ≤ k ∧ k ≤ 9223372036854775807) : RfAt (W.setCell ⟨m, 2, none⟩ (.int .i64 k)) b0 m VH VL { D with bud := k } :=
  ⟨h.m0, h.cells.set 2 _, row_far h.hs h.mh _, row_far h.ls h.ml _, h.wl, h.nb, hk⟩
theorem RfAt.off_set {W : World} {b0 m : Nat} {VH VL : Value} {D : Dsk} (h : RfAt W b0 m VH VL D) (k : Bool) : RfAt (W.setCell ⟨m, 3, none⟩ (.bool k)) b0 m VH VL { D with off := k } :=
  ⟨h.m0, h.cells.set 3 _, row_far h.hs h.mh _, row_far h.ls h.ml _, h.wl, h.nb, h.bd⟩
theorem RfAt.wait_nil {W : World} {b0 m : Nat} {VH VL : Value} {D : Dsk} (h : RfAt W b0 m VH VL D) : RfAt (W.setCell ⟨m, 1, none⟩ (.slice none 0 0)) b0 m VH (.slice none 0 0) { D with waits := [] } :=
  ⟨h.m0, h.cells.set 1 _, row_far h.hs h.mh _, World.ownsRow_nil _ _ _ _, (fun p hp => by cases hp), h.nb, h.bd⟩
theorem rm_m {m : Nat} {VH VL : Value} : RMine m VH VL m := .inl rfl
/-- A word's answer about the document's disk. -/
def RPost (w0 W : World) (m : Nat) (D' : Dsk) (v : Value) (e : Ending) (w' : World) : Prop := e = .returned v ∧ RSt w0 w' m D' ∧ RLets w0 W w'
theorem ron_any {w0 W : World} {m : Nat} {D : Dsk} (h : RSt w0 W m D) (hs : w0.heap.size ≤ W.heap.size) :
    Calls Try.prog 28 #[.pointer (some ⟨m, 0, none⟩)] W (RPost w0 W m (onD' D) (.tuple #[])) := by
  obtain ⟨VH, VL, h⟩ := h
  have x1 := h.cells.cell (j := 1) rfl
  have x2 := h.cells.cell (j := 2) rfl
  have x3 := h.cells.cell (j := 3) rfl
  have f1 := h.cells.frozen 1
  have f2 := h.cells.frozen 2
  have f3 := h.cells.frozen 3
  have h1 := h.wait_nil
  have h2 := h1.bud_set (-1) (by omega)
  have h3 := h2.off_set false
  have H3 := hid h3
  have HL := hid (RLets.of_only h (((Only.of_set (T := RMine m VH VL) W ⟨m, 1, none⟩ (.slice none 0 0) rm_m).trans (Only.of_set (T := RMine m VH VL) _ ⟨m, 2, none⟩ (.int .i64 (-1)) rm_m) (fun g h => .inl h)).trans (Only.of_set (T := RMine m VH VL) _ ⟨m, 3, none⟩ (.bool false) rm_m) (fun g h => .inl h)) hs)
  clear h h1 h2 h3 hs
  go_enter Try.func28, Try.ntmps28
  go_wp2
  go_end0
  exact ⟨rfl, ⟨VH, .slice none 0 0, H3.out⟩, HL.out⟩
theorem rfails_any {w0 W : World} {m : Nat} {D : Dsk} (h : RSt w0 W m D) (hs : w0.heap.size ≤ W.heap.size) :
    Calls Try.prog 64 #[.pointer (some ⟨m, 0, none⟩)] W (RPost w0 W m (spendD D) (.bool (!onD D))) := by
  obtain ⟨VH, VL, h⟩ := h
  have x2 := h.cells.cell (j := 2) rfl
  have x3 := h.cells.cell (j := 3) rfl
  have f2 := h.cells.frozen 2
  have f3 := h.cells.frozen 3
  have bd := h.bd
  obtain ⟨has, waits, bud, off, ys, cp⟩ := D
  dsimp only at x2 x3 bd
  cases off with
  | true =>
    have h3 := hid (h.off_set true)
    have HL := hid (RLets.of_only h (Only.of_set (T := RMine m VH VL) W ⟨m, 3, none⟩ (.bool true) rm_m) hs)
    clear h hs
    go_enter Try.func64, Try.ntmps64
    go_wp2
    go_ret
    exact ⟨rfl, ⟨VH, VL, h3.out⟩, HL.out⟩
  | false =>
    by_cases b0 : bud = 0
    · subst b0
      have h3 := hid (h.off_set true)
      have HL := hid (RLets.of_only h (Only.of_set (T := RMine m VH VL) W ⟨m, 3, none⟩ (.bool true) rm_m) hs)
      clear h hs
      go_enter Try.func64, Try.ntmps64
      go_wp2
      go_ret
      exact ⟨rfl, ⟨VH, VL, h3.out⟩, HL.out⟩
    · have d0 : (bud == 0) = false := by simpa using b0
      have eon : onD ⟨has, waits, bud, false, ys, cp⟩ = true := by unfold onD; simp [b0]
      rw [eon]
      by_cases b1 : 0 < bud
      · have d1 : decide (0 < bud) = true := by simpa using b1
        have e1 : IntKind.i64.wrap (bud - 1) = bud - 1 := by rw [IntKind.wrap_i64]; omega
        have es : spendD ⟨has, waits, bud, false, ys, cp⟩ = ⟨has, waits, bud - 1, false, ys, cp⟩ := by unfold spendD; dsimp only; rw [if_neg (by decide), if_neg b0, if_pos b1]
        rw [es]
        have h3 := hid (h.bud_set (bud - 1) (by omega))
        have HL := hid (RLets.of_only h (Only.of_set (T := RMine m VH VL) W ⟨m, 2, none⟩ (.int .i64 (bud - 1)) rm_m) hs)
        clear h hs es eon
        go_enter Try.func64, Try.ntmps64
        go_wp2
        go_ret
        exact ⟨rfl, ⟨VH, VL, h3.out⟩, HL.out⟩
      · have d1 : decide (0 < bud) = false := by simpa using b1
        have es : spendD ⟨has, waits, bud, false, ys, cp⟩ = ⟨has, waits, bud, false, ys, cp⟩ := by unfold spendD; dsimp only; rw [if_neg (by decide), if_neg b0, if_neg b1]
        rw [es]
        have h3 := hid h
        have HL := hid (RLets.refl w0 W)
        clear h hs es eon
        go_enter Try.func64, Try.ntmps64
        go_wp2
        go_ret
        exact ⟨rfl, ⟨VH, VL, h3.out⟩, HL.out⟩
end
section
open Go.RowKit
set_option linter.unusedVariables false
set_option linter.unusedSimpArgs false
attribute [local go_sem] Oper.semAt_some
theorem wtC_len (p : Iss) : (wtC p).length = 2 := rfl
/-- What waits, as cells. -/
theorem RfAt.wcell {W : World} {b0 m : Nat} {VH : Value} {D : Dsk} {g c : Nat} (h : RfAt W b0 m VH (.slice (some ⟨g, 0, none⟩) D.waits.length c) D) (k : Nat) (hk : k < D.waits.length) : W.cell? ⟨g, k * 2, none⟩ = some (.int .i64 (D.waits[k]'hk).1) ∧ W.cell? ⟨g, k * 2 + 1, none⟩ = some (SV (D.waits[k]'hk).2) := by
  have g0 := flatMap_get wtC 2 wtC_len D.waits k 0 hk (by omega)
  have g1 := flatMap_get wtC 2 wtC_len D.waits k 1 hk (by omega)
  exact ⟨(h.ls.cellAt (k * 2) (by omega)).trans (g0.trans rfl), (h.ls.cellAt (k * 2 + 1) (by omega)).trans (g1.trans rfl)⟩
theorem RfAt.hcell {W : World} {b0 m : Nat} {VL : Value} {D : Dsk} {g c : Nat} (h : RfAt W b0 m (.slice (some ⟨g, 0, none⟩) D.has.length c) VL D) (k : Nat) (hk : k < D.has.length) : W.cell? ⟨g, k, none⟩ = some (SV (D.has.getD k [])) := by
  rw [h.hs.cellAt k (by omega), List.getElem?_map, List.getD_eq_getElem?_getD, List.getElem?_eq_getElem hk]
  rfl
/-- Read's answer of the document's. -/
def readR (D : Dsk) (i : Int) : List UInt8 × Nat := if 0 ≤ i ∧ i < D.has.length then (if D.off = true then ([], 10) else (readD D i.toNat, 0)) else ([], 4)
set_option maxRecDepth 100000 in
set_option maxHeartbeats 2000000 in
theorem rread_any {w0 W : World} {m : Nat} {D : Dsk} (h : RSt w0 W m D) (hs : w0.heap.size ≤ W.heap.size) (i : Int) (hw : D.waits.length ≤ 100000) :
    Calls Try.prog 62 #[.pointer (some ⟨m, 0, none⟩), .int .i64 i] W fun e w' => e = .returned (.tuple #[SV (readR D i).1, .int .i64 ((readR D i).2 : Int)]) ∧ W = w' := by
  obtain ⟨VH, VL, h⟩ := h
  have x0 := h.cells.cell (j := 0) rfl
  have x1 := h.cells.cell (j := 1) rfl
  have x3 := h.cells.cell (j := 3) rfl
  obtain ⟨AH, cH, rfl, hAH⟩ := own_slice h.hs
  obtain ⟨AL, cL, rfl, hAL⟩ := own_slice h.ls
  have H := hid h
  have nb := h.nb
  by_cases hi : 0 ≤ i ∧ i < D.has.length
  · obtain ⟨k0, rfl⟩ : ∃ k : Nat, i = (k : Int) := ⟨i.toNat, by omega⟩
    have hk0 : k0 < D.has.length := by omega
    obtain ⟨gH, rfl⟩ := hAH (by omega)
    have hc := h.hcell k0 hk0
    have d1 : decide ((k0 : Int) < 0) = false := by simp
    have d2 : decide ((D.has.length : Int) ≤ (k0 : Int)) = false := by simp; omega
    obtain ⟨nh, hnh⟩ : ∃ n, D.has.length = n := ⟨_, rfl⟩
    rw [hnh] at x0 d2 hk0
    have d2' : decide (nh ≤ k0) = false := by simp; omega
    cases hoff : D.off with
    | true =>
      have e : readR D (k0 : Int) = ([], 10) := by unfold readR; rw [if_pos hi, if_pos hoff]
      rw [e]
      rw [hoff] at x3
      clear h H hi hc hAL hAH nb hnh hoff
      unfold SV
      go_enter Try.func62, Try.ntmps62
      go_wp2
      go_ret2
      exact ⟨rfl, rfl⟩
    | false =>
      have e : readR D (k0 : Int) = (readD D k0, 0) := by unfold readR; rw [if_pos hi, if_neg (by rw [hoff]; decide)]; rfl
      rw [e]
      rw [hoff] at x3
      obtain ⟨s0, hs0⟩ : ∃ s, D.has.getD k0 [] = s := ⟨_, rfl⟩
      rw [hs0] at hc
      have hrd : readD D k0 = (lastD D.waits k0).getD s0 := by unfold readD; rw [hs0]
      obtain ⟨nw, hnw⟩ : ∃ n, D.waits.length = n := ⟨_, rfl⟩
      have HNW := hid hnw
      have HAL := hid hAL
      have HRD := hid hrd
      rw [hnw] at x1 hw
      have i0 : (0 : Int) ≤ (k0 : Int) := by omega
      have i1 : (k0 : Int) < (nh : Int) := by omega
      have i2 : (k0 : Int).toNat = k0 := by omega
      clear h hi hAL hAH nb hnh hoff hs0 hnw hrd
      unfold SV at hc ⊢
      go_enter Try.func62, Try.ntmps62
      go_wp2
      go_loopw [6, 7] (fun sv k wr => ∃ j : Nat, j ≤ nw ∧ k = .int .i64 (j : Int) ∧ sv = .string (str ((lastD (D.waits.take j) k0).getD s0)) ∧ W = wr) (fun sv k wr => nw - (intOf k).toNat)
      case atStart => exact ⟨0, by omega, rfl, rfl, rfl⟩
      case round =>
        obtain ⟨j, hj, rfl, rfl, hw2⟩ := hrel
        subst hw2
        by_cases hlt : j < nw
        · have d5 : decide ((j : Int) < (nw : Int)) = true := by simp; omega
          have d5' : decide (j < nw) = true := by simp; omega
          have j0 : (0 : Int) ≤ (j : Int) := by omega
          have j1 : (j : Int) < (nw : Int) := by omega
          have j2 : (j : Int).toNat = j := by omega
          have hjl : j < D.waits.length := by rw [HNW.out]; exact hlt
          obtain ⟨gL, rfl⟩ := HAL.out (by omega)
          obtain ⟨c0, c1⟩ := H.out.wcell j hjl
          have hls : lastD (D.waits.take (j + 1)) k0 = if (D.waits[j]'hjl).1 = (k0 : Int) then some (D.waits[j]'hjl).2 else lastD (D.waits.take j) k0 := by
            rw [List.take_succ_eq_append_getElem hjl, lastD_snoc]
          obtain ⟨q, hq⟩ : ∃ q, D.waits[j]'hjl = q := ⟨_, rfl⟩
          rw [hq] at c0 c1 hls
          unfold SV at c1
          have HLS := hid hls
          clear hq hls
          by_cases hat : q.1 = (k0 : Int)
          · have d6 : (q.1 == (k0 : Int)) = true := by simpa using hat
            have HAT := hid hat
            clear hat
            go_wp2
            go_roundw
            case rel => exact ⟨j + 1, by omega, by go_num, by rw [HLS.out, if_pos HAT.out]; rfl, by first | rfl | trivial⟩
            case measure => simp [intOf]; omega
          · have d6 : (q.1 == (k0 : Int)) = false := by simpa using hat
            have HAT := hid hat
            clear hat
            go_wp2
            go_roundw
            case rel => exact ⟨j + 1, by omega, by go_num, by rw [HLS.out, if_neg HAT.out], by first | rfl | trivial⟩
            case measure => simp [intOf]; omega
        · have d5 : decide ((j : Int) < (nw : Int)) = false := by simp; omega
          have d5' : decide (j < nw) = false := by simp; omega
          have hjn : D.waits.take j = D.waits := List.take_of_length_le (by rw [HNW.out]; omega)
          have HJN := hid hjn
          clear hjn
          go_wp2
          go_ret2
          rw [HRD.out, HJN.out]
          exact ⟨rfl, rfl⟩
  · have e : readR D i = ([], 4) := by unfold readR; rw [if_neg hi]
    rw [e]
    obtain ⟨nh, hnh⟩ : ∃ n, D.has.length = n := ⟨_, rfl⟩
    rw [hnh] at x0 hi
    unfold SV
    by_cases h0 : i < 0
    · have d1 : decide (i < 0) = true := by simpa using h0
      clear h H hi hAL hAH nb hnh
      go_enter Try.func62, Try.ntmps62
      go_wp2
      go_ret2
      exact ⟨rfl, rfl⟩
    · have d1 : decide (i < 0) = false := by simpa using h0
      have d2 : decide ((nh : Int) ≤ i) = true := by simp; omega
      clear h H hi hAL hAH nb hnh
      go_enter Try.func62, Try.ntmps62
      go_wp2
      go_ret2
      exact ⟨rfl, rfl⟩
/-- Write, on what the document's disk is. -/
def writeR (D : Dsk) (i : Int) (s : List UInt8) : Dsk × Nat := if 0 ≤ i ∧ i < D.has.length then (if s.length = 128 then writeD D i s else (D, 1)) else (D, 4)
theorem waitS : SliceT Try.prog 63 113 (.agg #[.int .i64 0, .string ⟨#[]⟩]) 2 24 := ⟨Try.underlying63, by kernel_rfl, rfl, by decide⟩
/-- A write more waits. -/
theorem wr_end {w0 w2 w3 : World} {m : Nat} {VH : Value} {A3 : Option Addr} {D : Dsk} {AL : Option Addr} {cL c3 : Nat} {i : Int} {s : List UInt8} (r : RfAt w2 w0.heap.size m VH (.slice AL D.waits.length cL) D) (hs : w0.heap.size ≤ w2.heap.size) (hi : 0 ≤ i ∧ i < D.has.length)
    (ho3 : w3.ownsRow w0.heap.size 113 2 (.slice A3 (D.waits.length + 1) c3) (D.waits.length + 1) (D.waits.flatMap wtC ++ [.int .i64 i, .string (str s)])) (hg3 : (w2.alloc (.cells #[.int .i64 i, .string (str s)] 113)).grownBy w3 (Value.ownBlock (.slice AL D.waits.length cL)))
    (hh3 : Value.ownBlock (.slice A3 (D.waits.length + 1) c3) = Value.ownBlock (.slice AL D.waits.length cL) ∨ Value.ownBlock (.slice A3 (D.waits.length + 1) c3) = some (w2.alloc (.cells #[.int .i64 i, .string (str s)] 113)).heap.size) :
    OwnE w3 m 65 [VH, .slice AL D.waits.length cL, .int .i64 D.bud, .bool D.off] ∧ RSt w0 (w3.setCell ⟨m, 1, none⟩ (.slice A3 (D.waits.length + 1) c3)) m { D with waits := D.waits ++ [(i, s)] } ∧ RLets w0 w2 (w3.setCell ⟨m, 1, none⟩ (.slice A3 (D.waits.length + 1) c3)) := by
  have hA : Below w2.heap.size w2 (w2.alloc (.cells #[.int .i64 i, .string (str s)] 113)) := (Below.refl _ _).alloc (Nat.le_refl _) _
  have hm3 := (r.cells.below hA).grown hg3 r.ml
  have hO : Only (RMine m VH (.slice AL D.waits.length cL)) w2 w3 := (Only.of_below hA).trans (Only.of_grown (T := RMine m VH (.slice AL D.waits.length cL)) hg3 (fun g e => .inr (.inr e))) (fun g h => .inl h)
  have hs3 : w3.ownsRow w0.heap.size 9 1 VH D.has.length (D.has.map SV) := own_only (T := fun g => Value.ownBlock (.slice AL D.waits.length cL) = some g) r.hs ((Only.of_below (T := fun g => Value.ownBlock (.slice AL D.waits.length cL) = some g) hA).trans (Only.of_grown hg3 (fun g e => e)) (fun g h => .inl h)) (fun g hg => r.hl g hg)
  have hml : m < w2.heap.size := r.cells.lt
  refine ⟨hm3, ⟨VH, .slice A3 (D.waits.length + 1) c3, r.m0, hm3.set 1 _, row_far hs3 r.mh _, ?_, ?_, r.nb, r.bd⟩, RLets.of_only r (hO.trans (Only.of_set (T := RMine m VH (.slice AL D.waits.length cL)) w3 ⟨m, 1, none⟩ _ rm_m) (fun g h => .inl h)) hs⟩
  · have hne : Value.ownBlock (.slice A3 (D.waits.length + 1) c3) ≠ some m := by
      rcases hh3 with e | e
      · rw [e]; exact r.ml
      · rw [e]
        intro e2
        injection e2 with e2
        simp at e2
        omega
    have := row_far ho3 hne (i := 1) (.slice A3 (D.waits.length + 1) c3)
    rw [show (D.waits ++ [(i, s)]).length = D.waits.length + 1 by simp, show (D.waits ++ [(i, s)]).flatMap wtC = D.waits.flatMap wtC ++ [.int .i64 i, .string (str s)] by rw [List.flatMap_append]; rfl]
    exact this
  · intro p hp
    rcases List.mem_append.1 hp with h | h
    · exact r.wl p h
    · rw [List.mem_singleton] at h
      subst h
      exact hi
set_option maxRecDepth 100000 in
set_option maxHeartbeats 2000000 in
theorem rwrite_any {w0 W : World} {m : Nat} {D : Dsk} (h : RSt w0 W m D) (hs : w0.heap.size ≤ W.heap.size) (i : Int) (s : List UInt8) (hw : D.waits.length ≤ 100000) :
    Calls Try.prog 31 #[.pointer (some ⟨m, 0, none⟩), .int .i64 i, SV s] W (RPost w0 W m (writeR D i s).1 (.int .i64 ((writeR D i s).2 : Int))) := by
  have h0' := h
  obtain ⟨VH, VL, h⟩ := h
  have x0 := h.cells.cell (j := 0) rfl
  obtain ⟨AH, cH, rfl, hAH⟩ := own_slice h.hs
  have nb := h.nb
  obtain ⟨nh, hnh⟩ : ∃ n, D.has.length = n := ⟨_, rfl⟩
  have HNH := hid hnh
  rw [hnh] at x0 nb
  have hsz : (str s).size = s.length := rfl
  have HF := hid (rfails_any h0' hs)
  have H0 := hid h0'
  clear hnh hAH h h0'
  unfold SV
  by_cases hi : 0 ≤ i ∧ i < nh
  · have d1 : decide (i < 0) = false := by simp; omega
    have d2 : decide ((nh : Int) ≤ i) = false := by simp; omega
    by_cases h128 : s.length = 128
    · have e : writeR D i s = writeD D i s := by unfold writeR; rw [HNH.out, if_pos hi, if_pos h128]
      rw [e]
      have d3 : ((s.length : Int) != 128) = false := by rw [h128]; rfl
      have d3' : (s.length != 128) = false := by rw [h128]; rfl
      have hz : (str s).size = 128 := by rw [hsz, h128]
      clear hsz
      cases hon : onD D with
      | true =>
        have e2 : writeD D i s = ({ spendD D with waits := D.waits ++ [(i, s)] }, 0) := by unfold writeD; rw [HNH.out, if_pos hi, if_pos hon]
        rw [e2]
        rw [hon] at HF
        have HI := hid hi
        clear e e2 hon hi
        go_enter Try.func31, Try.ntmps31
        go_upto_region 7 with (go_at_call 64; (with_reducible refine HF.out.mono ?_); rintro e w2 ⟨rfl, r2, l2⟩; have R2 := hid r2; have L2 := hid l2; clear r2 l2)
        obtain ⟨VH2, VL2, r2⟩ := R2.out
        have y1 := r2.cells.cell (j := 1) rfl
        have z1 := r2.cells.frozen 1
        obtain ⟨AL, cL, rfl, hAL⟩ := own_slice r2.ls
        have esp := (spend_has D)
        have HR2 := hid r2
        have hw2 : (spendD D).waits.length ≤ 100000 := by rw [esp.2]; exact hw
        have HW2 := hid hw2
        have HESP := hid esp
        clear r2 hAL esp hw2
        obtain ⟨D2, hD2⟩ : ∃ D2, spendD D = D2 := ⟨_, rfl⟩
        have e9 : ({ spendD D with waits := D.waits ++ [(i, s)] } : Dsk) = { D2 with waits := D2.waits ++ [(i, s)] } := by rw [← hD2, HESP.out.2]
        have hi2 : 0 ≤ i ∧ i < D2.has.length := by rw [← hD2, HESP.out.1, HNH.out]; exact HI.out
        have HI2 := hid hi2
        have E9 := hid e9
        rw [hD2] at HR2 HW2 y1
        have hs2 : w0.heap.size ≤ w2.heap.size := Nat.le_trans hs L2.out.bel.size
        have HS2 := hid hs2
        clear hD2 e9 hi2 hs2
        go_wp2_with (
          refine wpList_append_row _ rfl (.tmp 27) (.tmp 31) waitS rfl w0.heap.size (.slice AL D2.waits.length cL) D2.waits.length (D2.waits.flatMap wtC) rfl (own_only HR2.out.ls (Only.of_below (T := fun _ => False) ((Below.refl _ w2).alloc (Nat.le_refl _) _)) (fun _ _ h => h)) (some ⟨w2.heap.size, 0, none⟩) 1 1 [.int .i64 i, .string (str s)] rfl rfl (Row.of_block (heap_alloc_new w2 (Obj.cells #[.int .i64 i, .string (str s)] 113))) (by simp [Value.oneCell']) (by have := HW2.out; simp only [maxLen]; omega) (by have := HW2.out; omega) (by have := HS2.out; simp; omega) ?_
          intro A3 c3 w3 ho3 hg3 hh3
          have hE := wr_end HR2.out HS2.out HI2.out ho3 hg3 hh3
          have y1 := hE.1.cell (j := 1) rfl
          have z1 := hE.1.frozen 1
          have HE := hid hE
          clear ho3 hg3 hh3 hE)
        go_ret
        rw [E9.out]
        exact ⟨rfl, HE.out.2.1, L2.out.trans HE.out.2.2⟩
      | false =>
        have e2 : writeD D i s = (spendD D, 10) := by unfold writeD; rw [HNH.out, if_pos hi, hon]; rfl
        rw [e2]
        rw [hon] at HF
        clear e e2 hon hi
        go_enter Try.func31, Try.ntmps31
        go_wp2_with (go_at_call 64; (with_reducible refine HF.out.mono ?_); rintro e w2 ⟨rfl, r2, l2⟩; have R2 := hid r2; have L2 := hid l2; clear r2 l2)
        go_ret
        exact ⟨rfl, R2.out, L2.out⟩
    · have e : writeR D i s = (D, 1) := by unfold writeR; rw [HNH.out, if_pos hi, if_neg h128]
      rw [e]
      have d3 : ((s.length : Int) != 128) = true := by rw [bne_iff_ne]; omega
      have d3' : (s.length != 128) = true := by rw [bne_iff_ne]; exact h128
      have d3'' : ((str s).size != 128) = true := d3'
      clear hi e hsz h128
      go_enter Try.func31, Try.ntmps31
      go_wp2
      go_ret
      exact ⟨rfl, H0.out, RLets.refl _ _⟩
  · have e : writeR D i s = (D, 4) := by unfold writeR; rw [HNH.out, if_neg hi]
    rw [e]
    by_cases h0 : i < 0
    · have d1 : decide (i < 0) = true := by simpa using h0
      clear hi e hsz
      go_enter Try.func31, Try.ntmps31
      go_wp2
      go_ret
      exact ⟨rfl, H0.out, RLets.refl _ _⟩
    · have d1 : decide (i < 0) = false := by simpa using h0
      have d2 : decide ((nh : Int) ≤ i) = true := by simp; omega
      clear hi e hsz
      go_enter Try.func31, Try.ntmps31
      go_wp2
      go_ret
      exact ⟨rfl, H0.out, RLets.refl _ _⟩
end
section
open Go.RowKit
set_option linter.unusedVariables false
set_option linter.unusedSimpArgs false
attribute [local go_sem] Oper.semAt_some
theorem set_map_SV (h : List (List UInt8)) (a : Nat) (s : List UInt8) : (h.map SV).set a (SV s) = (h.set a s).map SV := by rw [List.map_set]
/-- A sector is written. -/
theorem RfAt.store {W : World} {b0 m gH cH : Nat} {VL : Value} {D : Dsk} (h : RfAt W b0 m (.slice (some ⟨gH, 0, none⟩) D.has.length cH) VL D) (a : Nat) (s : List UInt8) :
    RfAt (W.setCell ⟨gH, a, none⟩ (SV s)) b0 m (.slice (some ⟨gH, 0, none⟩) D.has.length cH) VL { D with has := D.has.set a s } ∧ Only (RMine m (.slice (some ⟨gH, 0, none⟩) D.has.length cH) VL) W (W.setCell ⟨gH, a, none⟩ (SV s)) := by
  have hne : m ≠ gH := fun e => h.mh (by rw [e]; rfl)
  have hst := (h.hs.stored a (SV s)).1
  rw [set_map_SV] at hst
  refine ⟨⟨h.m0, h.cells.far hne _, ?_, row_far h.ls (h.hl gH rfl) _, ?_, ?_, h.bd⟩, Only.of_set W ⟨gH, a, none⟩ _ (.inr (.inl rfl))⟩
  · show (W.setCell ⟨gH, a, none⟩ (SV s)).ownsRow b0 9 1 _ (D.has.set a s).length ((D.has.set a s).map SV)
    rw [List.length_set]
    exact hst
  · intro p hp
    have := h.wl p hp
    show 0 ≤ p.1 ∧ p.1 < ((D.has.set a s).length : Int)
    rw [List.length_set]
    exact this
  · show (D.has.set a s).length ≤ 2048
    rw [List.length_set]
    exact h.nb
theorem doneK_cut (hold : Nat → Bool) (ws : List Iss) (h : List (List UInt8)) (m : Nat) (hm : ∀ k, m ≤ k → hold k = false) : ∀ n, doneK hold ws h (m + n) = doneK hold ws h m
  | 0 => rfl
  | n + 1 => by rw [← Nat.add_assoc, doneK, if_neg (by rw [hm _ (by omega)]; decide)]; exact doneK_cut hold ws h m hm n
theorem RfAt.drew_ {W : World} {b0 m : Nat} {VH VL : Value} {D : Dsk} (h : RfAt W b0 m VH VL D) : RfAt W.drew b0 m VH VL D := ⟨h.m0, h.cells, h.hs, h.ls, h.wl, h.nb, h.bd⟩
theorem Only.drew_ {T : Nat → Prop} {W w' : World} (h : Only T W w') : Only T W w'.drew := h.trans (Only.of_below (drew_below w')) (fun g h => .inl h)
set_option maxRecDepth 100000 in
set_option maxHeartbeats 4000000 in
theorem rflush_any {w0 W : World} {m : Nat} {D0 : Dsk} (h : RSt w0 W m D0) (hs : w0.heap.size ≤ W.heap.size) (hw : D0.waits.length ≤ 100000) :
    Calls Try.prog 32 #[.pointer (some ⟨m, 0, none⟩)] W (RPost w0 W m (flushD D0).1 (.int .i64 ((flushD D0).2 : Int))) := by
  have HF := hid (rfails_any h hs)
  cases hon : onD D0 with
  | false =>
    have e2 : flushD D0 = (spendD D0, 10) := by unfold flushD; rw [hon]; rfl
    rw [e2]
    rw [hon] at HF
    clear h hs hw hon e2
    go_enter Try.func32, Try.ntmps32
    go_wp2_with (go_at_call 64; (with_reducible refine HF.out.mono ?_); rintro e w2 ⟨rfl, r2, l2⟩; have R2 := hid r2; have L2 := hid l2; clear r2 l2)
    go_ret
    exact ⟨rfl, R2.out, L2.out⟩
  | true =>
    have e2 : flushD D0 = ({ spendD D0 with has := doneK (fun _ => true) D0.waits D0.has D0.waits.length, waits := [] }, 0) := by unfold flushD; rw [if_pos hon]
    rw [hon] at HF
    have HE2 := hid e2
    have hw2 := (spend_has D0).2
    have hh2 := (spend_has D0).1
    obtain ⟨D, hD⟩ : ∃ D, spendD D0 = D := ⟨_, rfl⟩
    rw [hD] at hw2 hh2 HF HE2
    rw [← hw2, ← hh2] at HE2
    rw [← hw2] at hw
    clear hw2 hh2 hD h hon e2
    obtain ⟨hold, hho⟩ : ∃ hold : Nat → Bool, (fun _ => true) = hold := ⟨_, rfl⟩
    rw [hho] at HE2
    have hhold : ∀ j, hold j = true := fun j => by rw [← hho]
    have HHO := hid hhold
    clear hho hhold
    rw [HE2.out]
    go_enter Try.func32, Try.ntmps32
    go_wp2_with (go_at_call 64; (with_reducible refine HF.out.mono ?_); rintro e w2 ⟨rfl, r2, l2⟩; have R2 := hid r2; have L2 := hid l2; clear r2 l2)
    obtain ⟨VH, VL, hr⟩ := R2.out
    have x1 := hr.cells.cell (j := 1) rfl
    obtain ⟨AH, cH, rfl, hAH⟩ := own_slice hr.hs
    obtain ⟨AL, cL, rfl, hAL⟩ := own_slice hr.ls
    have H := hid hr
    obtain ⟨nh, hnh⟩ : ∃ n, D.has.length = n := ⟨_, rfl⟩
    obtain ⟨nw, hnw⟩ : ∃ n, D.waits.length = n := ⟨_, rfl⟩
    have HNH := hid hnh
    have HNW := hid hnw
    rw [hnh] at hAH
    rw [hnw] at x1 hw hAL
    rw [hnw, hnh] at H
    have HAH := hid hAH
    have HAL := hid hAL
    clear hr hnh hnw hAH hAL
    go_loopw [3] (fun k wr => ∃ j : Nat, j ≤ nw ∧ k = .int .i64 (j : Int) ∧ Hid (RfAt wr w0.heap.size m (.slice AH (doneK hold D.waits D.has j).length cH) (.slice AL D.waits.length cL) { D with has := doneK hold D.waits D.has j } ∧ Only (RMine m (.slice AH nh cH) (.slice AL nw cL)) w2 wr)) (fun k wr => nw - (intOf k).toNat)
    case atStart => exact ⟨0, by omega, rfl, hid ⟨by have := H.out; rw [← HNH.out, ← HNW.out] at this; exact this, Only.refl _ _⟩⟩
    case round =>
      obtain ⟨j, hj, rfl, hI⟩ := hrel
      clear x1
      by_cases hlt : j < nw
      · have d5 : decide ((j : Int) < (nw : Int)) = true := by simp; omega
        have d5' : decide (j < nw) = true := by simp; omega
        have hhold := HHO.out j
        have hjl : j < D.waits.length := by rw [HNW.out]; omega
        have hwl := H.out.wl _ (List.getElem_mem hjl)
        obtain ⟨gL, rfl⟩ := HAL.out (by omega)
        obtain ⟨gH, rfl⟩ := HAH.out (by have := HNH.out; omega)
        have r := hI.out.1
        have c0 := (RfAt.wcell (D := { D with has := doneK hold D.waits D.has j }) r j hjl).1
        have c1 := (RfAt.wcell (D := { D with has := doneK hold D.waits D.has j }) r j hjl).2
        (try dsimp only at c0 c1)
        have x0 := r.cells.cell (j := 0) rfl
        have x1 := r.cells.cell (j := 1) rfl
        have hgd : D.waits.getD j (0, []) = D.waits[j]'hjl := by rw [List.getD_eq_getElem?_getD, List.getElem?_eq_getElem hjl, Option.getD_some]
        obtain ⟨q, hq⟩ : ∃ q, D.waits[j]'hjl = q := ⟨_, rfl⟩
        rw [hq] at c0 c1 hwl hgd
        obtain ⟨a, haq⟩ : ∃ a : Nat, q.1 = (a : Int) := ⟨q.1.toNat, by omega⟩
        rw [haq] at c0 hwl
        have hal : a < D.has.length := by omega
        have rl : (doneK hold D.waits D.has j).length = D.has.length := doneK_len _ _ _ _
        have hne : gH ≠ m := fun e => r.mh (by rw [← e]; rfl)
        have hne2 : gH ≠ gL := fun e => r.hl gH rfl (by rw [← e]; rfl)
        have hfz : wr.frozen? ⟨gH, a, none⟩ = false := by
          obtain ⟨cur, hcur⟩ := own_type r.hs gH rfl
          exact frozen_of_row wr gH a cur _ hcur
        have hce : ∃ u, wr.cell? ⟨gH, a, none⟩ = some u := by
          have := r.hs.cellAt a (by show a < (doneK hold D.waits D.has j).length * 1; rw [rl]; omega)
          exact ⟨_, this.trans (List.getElem?_eq_getElem (by rw [List.length_map]; show a < (doneK hold D.waits D.has j).length; rw [rl]; exact hal))⟩
        obtain ⟨uo, hce⟩ := hce
        have hst := RfAt.store (D := { D with has := doneK hold D.waits D.has j }) r a q.2
        have hdk : doneK hold D.waits D.has (j + 1) = (doneK hold D.waits D.has j).set a q.2 := by rw [doneK, if_pos hhold, hgd, haq]; rfl
        (try dsimp only at hst x0 x1)
        rw [rl] at hst x0
        rw [← hdk] at hst
        rw [HNW.out] at x1
        rw [HNH.out] at x0 hst hal
        have rl2 : (doneK hold D.waits D.has (j + 1)).length = nh := by rw [doneK_len]; exact HNH.out
        have hst1 := hst.1.drew_
        have hst2 := hst.2.drew_
        rw [← rl2] at hst1
        rw [HNW.out] at hst2
        have HST := hid (And.intro hst1 hst2)
        clear hst1 hst2 rl2
        unfold SV at c1 HST
        have i0 : (0 : Int) ≤ (j : Int) := by omega
        have i1 : (j : Int) < (nw : Int) := by omega
        have i2 : (j : Int).toNat = j := by omega
        have i3 : (0 : Int) ≤ (a : Int) := by omega
        have i4 : (a : Int) < (nh : Int) := by omega
        have i5 : (a : Int).toNat = a := by omega
        have hS0 : ∀ X : World, (X.cell? ⟨m, 0, none⟩ = some (.slice (some ⟨gH, 0, none⟩) nh cH) ∧ X.cell? ⟨m, 1, none⟩ = some (.slice (some ⟨gL, 0, none⟩) nw cL) ∧ X.cell? ⟨gL, j * 2, none⟩ = some (.int .i64 (a : Int)) ∧ X.cell? ⟨gL, j * 2 + 1, none⟩ = some (.string (str q.2))) → ((X.setCell ⟨gH, a, none⟩ (.string (str q.2))).drew.cell? ⟨m, 0, none⟩ = some (.slice (some ⟨gH, 0, none⟩) nh cH) ∧ (X.setCell ⟨gH, a, none⟩ (.string (str q.2))).drew.cell? ⟨m, 1, none⟩ = some (.slice (some ⟨gL, 0, none⟩) nw cL) ∧ (X.setCell ⟨gH, a, none⟩ (.string (str q.2))).drew.cell? ⟨gL, j * 2, none⟩ = some (.int .i64 (a : Int)) ∧ (X.setCell ⟨gH, a, none⟩ (.string (str q.2))).drew.cell? ⟨gL, j * 2 + 1, none⟩ = some (.string (str q.2))) := fun X hX => by
          refine ⟨?_, ?_, ?_, ?_⟩
          · show (X.setCell ⟨gH, a, none⟩ (.string (str q.2))).cell? _ = _
            rw [World.cell?_setCell_other _ _ _ _ (fun e => by injection e; omega)]; exact hX.1
          · show (X.setCell ⟨gH, a, none⟩ (.string (str q.2))).cell? _ = _
            rw [World.cell?_setCell_other _ _ _ _ (fun e => by injection e; omega)]; exact hX.2.1
          · show (X.setCell ⟨gH, a, none⟩ (.string (str q.2))).cell? _ = _
            rw [World.cell?_setCell_other _ _ _ _ (fun e => by injection e; omega)]; exact hX.2.2.1
          · show (X.setCell ⟨gH, a, none⟩ (.string (str q.2))).cell? _ = _
            rw [World.cell?_setCell_other _ _ _ _ (fun e => by injection e; omega)]; exact hX.2.2.2
        have hS1 := hS0 wr ⟨x0, x1, c0, c1⟩
        have hS : wr.drew.cell? ⟨m, 0, none⟩ = some (.slice (some ⟨gH, 0, none⟩) nh cH) ∧ wr.drew.cell? ⟨m, 1, none⟩ = some (.slice (some ⟨gL, 0, none⟩) nw cL) ∧ wr.drew.cell? ⟨gL, j * 2, none⟩ = some (.int .i64 (a : Int)) ∧ wr.drew.cell? ⟨gL, j * 2 + 1, none⟩ = some (.string (str q.2)) := ⟨x0, x1, c0, c1⟩
        have HI2 := hid hI.out.2
        clear hS0 hst hq hwl hgd haq hal rl hdk r hI c0 c1 x0 hjl
        go_upto_region 6 with fail
        refine wp_region_noPanic ?_
        refine wp_region_held_drew (S := (fun X => X.cell? ⟨m, 0, none⟩ = some (.slice (some ⟨gH, 0, none⟩) nh cH) ∧ X.cell? ⟨m, 1, none⟩ = some (.slice (some ⟨gL, 0, none⟩) nw cL) ∧ X.cell? ⟨gL, j * 2, none⟩ = some (.int .i64 (a : Int)) ∧ X.cell? ⟨gL, j * 2 + 1, none⟩ = some (.string (str q.2)))) (by kernel_rfl) (by first | assumption | trivial) (fun hHeld => ?_)
        refine wpAnyH_take (i := 0) (v := ?_) rfl (by kernel_rfl) (by kernel_rfl) (by kernel_rfl) (fun _ _ _ h => h) (Or.inl ⟨by kernel_rfl, ?_⟩) (by first | assumption | trivial) ?_
        rotate_left
        · (intro wS hSw; (try dsimp only at hSw); go_simp; try with_reducible rfl)
        (try simp only [List.append_eq, List.cons_append, List.nil_append, List.getElem_toArray, List.getElem_cons_succ, List.getElem_cons_zero, Act.put, List.setIfInBounds_toArray, List.set_cons_zero, List.set_cons_succ])
        refine wpAnyH_take (i := 1) (v := ?_) rfl (by kernel_rfl) (by kernel_rfl) (by kernel_rfl) (fun _ _ _ h => h) (Or.inl ⟨by kernel_rfl, ?_⟩) (by first | assumption | trivial) ?_
        rotate_left
        · (intro wS hSw; (try dsimp only at hSw); go_simp; try with_reducible rfl)
        (try simp only [List.append_eq, List.cons_append, List.nil_append, List.getElem_toArray, List.getElem_cons_succ, List.getElem_cons_zero, Act.put, List.setIfInBounds_toArray, List.set_cons_zero, List.set_cons_succ])
        refine wpAnyH_take (i := 2) (v := ?_) rfl (by kernel_rfl) (by kernel_rfl) (by kernel_rfl) (fun _ _ _ h => h) (Or.inl ⟨by kernel_rfl, ?_⟩) (by first | assumption | trivial) ?_
        rotate_left
        · (intro wS hSw; (try dsimp only at hSw); go_simp; try with_reducible rfl)
        (try simp only [List.append_eq, List.cons_append, List.nil_append, List.getElem_toArray, List.getElem_cons_succ, List.getElem_cons_zero, Act.put, List.setIfInBounds_toArray, List.set_cons_zero, List.set_cons_succ])
        refine wpAnyH_take (i := 3) (v := ?_) rfl (by kernel_rfl) (by kernel_rfl) (by kernel_rfl) (fun _ _ _ h => h) (Or.inl ⟨by kernel_rfl, ?_⟩) (by first | assumption | trivial) ?_
        rotate_left
        · (intro wS hSw; (try dsimp only at hSw); go_simp; try with_reducible rfl)
        (try simp only [List.append_eq, List.cons_append, List.nil_append, List.getElem_toArray, List.getElem_cons_succ, List.getElem_cons_zero, Act.put, List.setIfInBounds_toArray, List.set_cons_zero, List.set_cons_succ])
        refine wpAnyH_take (i := 4) (v := ?_) rfl (by kernel_rfl) (by kernel_rfl) (by kernel_rfl) (fun _ _ _ h => h) (Or.inl ⟨by kernel_rfl, ?_⟩) (by first | assumption | trivial) ?_
        rotate_left
        · (intro wS hSw; (try dsimp only at hSw); go_simp; try with_reducible rfl)
        (try simp only [List.append_eq, List.cons_append, List.nil_append, List.getElem_toArray, List.getElem_cons_succ, List.getElem_cons_zero, Act.put, List.setIfInBounds_toArray, List.set_cons_zero, List.set_cons_succ])
        refine wpAnyH_take (i := 5) (v := ?_) rfl (by kernel_rfl) (by kernel_rfl) (by kernel_rfl) (fun _ _ _ h => h) (Or.inl ⟨by kernel_rfl, ?_⟩) (by first | assumption | trivial) ?_
        rotate_left
        · (intro wS hSw; (try dsimp only at hSw); go_simp; try with_reducible rfl)
        (try simp only [List.append_eq, List.cons_append, List.nil_append, List.getElem_toArray, List.getElem_cons_succ, List.getElem_cons_zero, Act.put, List.setIfInBounds_toArray, List.set_cons_zero, List.set_cons_succ])
        refine wpAnyH_take (i := 6) (v := ?_) rfl (by kernel_rfl) (by kernel_rfl) (by kernel_rfl) (fun _ _ _ h => h) (Or.inl ⟨by kernel_rfl, ?_⟩) (by first | assumption | trivial) ?_
        rotate_left
        · (intro wS hSw; (try dsimp only at hSw); go_simp; try with_reducible rfl)
        (try simp only [List.append_eq, List.cons_append, List.nil_append, List.getElem_toArray, List.getElem_cons_succ, List.getElem_cons_zero, Act.put, List.setIfInBounds_toArray, List.set_cons_zero, List.set_cons_succ])
        refine wpAnyH_take (i := 7) (v := ?_) rfl (by kernel_rfl) (by kernel_rfl) (by kernel_rfl) (fun _ _ _ h => h) (Or.inl ⟨by kernel_rfl, ?_⟩) (by first | assumption | trivial) ?_
        rotate_left
        · (intro wS hSw; (try dsimp only at hSw); go_simp; try with_reducible rfl)
        (try simp only [List.append_eq, List.cons_append, List.nil_append, List.getElem_toArray, List.getElem_cons_succ, List.getElem_cons_zero, Act.put, List.setIfInBounds_toArray, List.set_cons_zero, List.set_cons_succ])
        refine wpAnyH_take (i := 8) (v := ?_) rfl (by kernel_rfl) (by kernel_rfl) (by kernel_rfl) (fun _ _ _ h => h) (Or.inl ⟨by kernel_rfl, ?_⟩) (by first | assumption | trivial) ?_
        rotate_left
        · (intro wS hSw; (try dsimp only at hSw); go_simp; try with_reducible rfl)
        (try simp only [List.append_eq, List.cons_append, List.nil_append, List.getElem_toArray, List.getElem_cons_succ, List.getElem_cons_zero, Act.put, List.setIfInBounds_toArray, List.set_cons_zero, List.set_cons_succ])
        refine wpAnyH_take (i := 9) (v := ?_) rfl (by kernel_rfl) (by kernel_rfl) (by kernel_rfl) (fun _ _ _ h => h) (Or.inl ⟨by kernel_rfl, ?_⟩) (by first | assumption | trivial) ?_
        rotate_left
        · (intro wS hSw; (try dsimp only at hSw); go_simp; try with_reducible rfl)
        (try simp only [List.append_eq, List.cons_append, List.nil_append, List.getElem_toArray, List.getElem_cons_succ, List.getElem_cons_zero, Act.put, List.setIfInBounds_toArray, List.set_cons_zero, List.set_cons_succ])
        refine wpAnyH_take (i := 10) (v := ?_) rfl (by kernel_rfl) (by kernel_rfl) (by kernel_rfl) (fun _ _ _ h => h) (Or.inl ⟨by kernel_rfl, ?_⟩) (by first | assumption | trivial) ?_
        rotate_left
        · (intro wS hSw; (try dsimp only at hSw); go_simp; try with_reducible rfl)
        (try simp only [List.append_eq, List.cons_append, List.nil_append, List.getElem_toArray, List.getElem_cons_succ, List.getElem_cons_zero, Act.put, List.setIfInBounds_toArray, List.set_cons_zero, List.set_cons_succ])
        refine wpAnyH_take (i := 11) (v := ?_) rfl (by kernel_rfl) (by kernel_rfl) (by kernel_rfl) (fun _ _ _ h => h) (Or.inl ⟨by kernel_rfl, ?_⟩) (by first | assumption | trivial) ?_
        rotate_left
        · (intro wS hSw; (try dsimp only at hSw); go_simp; try with_reducible rfl)
        (try simp only [List.append_eq, List.cons_append, List.nil_append, List.getElem_toArray, List.getElem_cons_succ, List.getElem_cons_zero, Act.put, List.setIfInBounds_toArray, List.set_cons_zero, List.set_cons_succ])
        refine wpAnyH_take (i := 12) (v := ?_) rfl (by kernel_rfl) (by kernel_rfl) (by kernel_rfl) (fun _ _ _ h => h) (Or.inl ⟨by kernel_rfl, ?_⟩) (by first | assumption | trivial) ?_
        rotate_left
        · (intro wS hSw; (try dsimp only at hSw); go_simp; try with_reducible rfl)
        (try simp only [List.append_eq, List.cons_append, List.nil_append, List.getElem_toArray, List.getElem_cons_succ, List.getElem_cons_zero, Act.put, List.setIfInBounds_toArray, List.set_cons_zero, List.set_cons_succ])
        refine wpAnyH_take (i := 13) (v := ?_) rfl (by kernel_rfl) (by kernel_rfl) (by kernel_rfl) (fun _ _ _ h => h) (Or.inl ⟨by kernel_rfl, ?_⟩) (by first | assumption | trivial) ?_
        rotate_left
        · (intro wS hSw; (try dsimp only at hSw); go_simp; try with_reducible rfl)
        (try simp only [List.append_eq, List.cons_append, List.nil_append, List.getElem_toArray, List.getElem_cons_succ, List.getElem_cons_zero, Act.put, List.setIfInBounds_toArray, List.set_cons_zero, List.set_cons_succ])
        refine wpAnyH_take (i := 14) (v := ?_) rfl (by kernel_rfl) (by kernel_rfl) (by kernel_rfl) (fun _ _ _ h => h) (Or.inl ⟨by kernel_rfl, ?_⟩) (by first | assumption | trivial) ?_
        rotate_left
        · (intro wS hSw; (try dsimp only at hSw); go_simp; try with_reducible rfl)
        (try simp only [List.append_eq, List.cons_append, List.nil_append, List.getElem_toArray, List.getElem_cons_succ, List.getElem_cons_zero, Act.put, List.setIfInBounds_toArray, List.set_cons_zero, List.set_cons_succ])
        refine wpAnyH_take (i := 15) (v := ?_) rfl (by kernel_rfl) (by kernel_rfl) (by kernel_rfl) (fun _ _ _ h => h) (Or.inl ⟨by kernel_rfl, ?_⟩) (by first | assumption | trivial) ?_
        rotate_left
        · (intro wS hSw; (try dsimp only at hSw); go_simp; try with_reducible rfl)
        (try simp only [List.append_eq, List.cons_append, List.nil_append, List.getElem_toArray, List.getElem_cons_succ, List.getElem_cons_zero, Act.put, List.setIfInBounds_toArray, List.set_cons_zero, List.set_cons_succ])
        refine wpAnyH_take (i := 16) (v := ?_) rfl (by kernel_rfl) (by kernel_rfl) (by kernel_rfl) (fun _ _ _ h => h) (Or.inl ⟨by kernel_rfl, ?_⟩) (by first | assumption | trivial) ?_
        rotate_left
        · (intro wS hSw; (try dsimp only at hSw); go_simp; try with_reducible rfl)
        (try simp only [List.append_eq, List.cons_append, List.nil_append, List.getElem_toArray, List.getElem_cons_succ, List.getElem_cons_zero, Act.put, List.setIfInBounds_toArray, List.set_cons_zero, List.set_cons_succ])
        refine wpAnyH_take (i := 17) (v := ?_) rfl (by kernel_rfl) (by kernel_rfl) (by kernel_rfl) (fun _ _ _ h => h) (Or.inl ⟨by kernel_rfl, ?_⟩) (by first | assumption | trivial) ?_
        rotate_left
        · (intro wS hSw; (try dsimp only at hSw); go_simp; try with_reducible rfl)
        (try simp only [List.append_eq, List.cons_append, List.nil_append, List.getElem_toArray, List.getElem_cons_succ, List.getElem_cons_zero, Act.put, List.setIfInBounds_toArray, List.set_cons_zero, List.set_cons_succ])
        refine wpAnyH_take (i := 18) (v := ?_) rfl (by kernel_rfl) (by kernel_rfl) (by kernel_rfl) (fun _ _ _ h => h) (Or.inl ⟨by kernel_rfl, ?_⟩) (by first | assumption | trivial) ?_
        rotate_left
        · (intro wS hSw; (try dsimp only at hSw); go_simp; try with_reducible rfl)
        (try simp only [List.append_eq, List.cons_append, List.nil_append, List.getElem_toArray, List.getElem_cons_succ, List.getElem_cons_zero, Act.put, List.setIfInBounds_toArray, List.set_cons_zero, List.set_cons_succ])
        refine wpAnyH_take (i := 19) (v := ?_) rfl (by kernel_rfl) (by kernel_rfl) (by kernel_rfl) (fun _ _ _ h => h) (Or.inl ⟨by kernel_rfl, ?_⟩) (by first | assumption | trivial) ?_
        rotate_left
        · (intro wS hSw; (try dsimp only at hSw); go_simp; try with_reducible rfl)
        (try simp only [List.append_eq, List.cons_append, List.nil_append, List.getElem_toArray, List.getElem_cons_succ, List.getElem_cons_zero, Act.put, List.setIfInBounds_toArray, List.set_cons_zero, List.set_cons_succ])
        refine wpAnyH_take (i := 20) (v := ?_) rfl (by kernel_rfl) (by kernel_rfl) (by kernel_rfl) (fun _ _ _ h => h) (Or.inl ⟨by kernel_rfl, ?_⟩) (by first | assumption | trivial) ?_
        rotate_left
        · (intro wS hSw; (try dsimp only at hSw); go_simp; try with_reducible rfl)
        (try simp only [List.append_eq, List.cons_append, List.nil_append, List.getElem_toArray, List.getElem_cons_succ, List.getElem_cons_zero, Act.put, List.setIfInBounds_toArray, List.set_cons_zero, List.set_cons_succ])
        refine wpAnyH_ready (rs := [21]) (by kernel_rfl) (by simp) ?_
        refine AllReadyH.cons rfl (fun K hK => ?_) AllReadyH.nil
        go_simp
        skip
        go_wp2_with fail
        refine hK.out _ _ (by first | assumption | trivial) (fun hHeld => ?_)
        clear hK K
        (try simp only [List.append_eq, List.cons_append, List.nil_append, List.getElem_toArray, List.getElem_cons_succ, List.getElem_cons_zero, Act.put, List.setIfInBounds_toArray, List.set_cons_zero, List.set_cons_succ])
        refine wpAnyH_done (by kernel_rfl) ?_ _
        refine NoPanic.normal ?_
        go_wp2_with fail
        go_roundw
        case rel => exact ⟨j + 1, by omega, by go_num, hid ⟨HST.out.1, HI2.out.trans HST.out.2 (fun g h => .inl h)⟩⟩
        case measure => simp [intOf]; omega
      · have d5 : decide ((j : Int) < (nw : Int)) = false := by simp; omega
        have d5' : decide (j < nw) = false := by simp; omega
        have hjn : j = D.waits.length := by rw [HNW.out]; omega
        have r := hI.out.1
        have y1 := r.cells.cell (j := 1) rfl
        have z1 := r.cells.frozen 1
        have r2 := r.wait_nil
        have hs2 : w0.heap.size ≤ w2.heap.size := Nat.le_trans hs L2.out.bel.size
        have hl2 := RLets.of_only H.out (hI.out.2.trans (Only.of_set (T := RMine m (.slice AH nh cH) (.slice AL nw cL)) wr ⟨m, 1, none⟩ (.slice none 0 0) rm_m) (fun g h => .inl h)) hs2
        rw [hjn] at r2
        have HR2 := hid r2
        have HL2 := hid hl2
        rw [HNW.out] at y1
        clear r r2 hl2 hI hjn hs2
        go_wp2
        go_ret
        exact ⟨rfl, ⟨_, _, HR2.out⟩, L2.out.trans HL2.out⟩
set_option maxRecDepth 100000 in
set_option maxHeartbeats 4000000 in
theorem rcut_any {w0 W : World} {m : Nat} {D : Dsk} (h : RSt w0 W m D) (hb0 : Below w0.heap.size w0 W) (hw : D.waits.length ≤ 100000) (KA : Option Addr) (kn kc : Nat) (ks : List Bool) (hkn : ks.length = kn) (hr0 : Row w0 KA (ks.map boolV)) :
    Calls Try.prog 27 #[.pointer (some ⟨m, 0, none⟩), .slice KA kn kc] W (RPost w0 W m (cutD D ks) (.tuple #[])) := by
  obtain ⟨VH, VL, hr⟩ := h
  have hs := hb0.size
  obtain ⟨AH, cH, rfl, hAH⟩ := own_slice hr.hs
  obtain ⟨AL, cL, rfl, hAL⟩ := own_slice hr.ls
  have H := hid hr
  obtain ⟨hold, hho⟩ : ∃ hold : Nat → Bool, (fun k => ks.getD k false) = hold := ⟨_, rfl⟩
  have hcd : cutD D ks = { D with has := doneK hold D.waits D.has D.waits.length, waits := [], off := true } := by rw [← hho]; rfl
  have HCD := hid hcd
  have hhk : ∀ k, kn ≤ k → hold k = false := fun k hk => by rw [← hho]; show ks.getD k false = false; rw [List.getD_eq_getElem?_getD, List.getElem?_eq_none (by omega), Option.getD_none]
  have HHK := hid hhk
  have HHO := hid hho
  obtain ⟨nh, hnh⟩ : ∃ n, D.has.length = n := ⟨_, rfl⟩
  obtain ⟨nw, hnw⟩ : ∃ n, D.waits.length = n := ⟨_, rfl⟩
  have HNH := hid hnh
  have HNW := hid hnw
  rw [hnh] at hAH
  rw [hnw] at hw hAL
  rw [hnw, hnh] at H
  have HAH := hid hAH
  have HAL := hid hAL
  have HB0 := hid hb0
  clear hr hnh hnw hAH hAL hho hhk hcd hb0
  rw [HCD.out]
  obtain ⟨w2, hw2⟩ : ∃ w2, W = w2 := ⟨_, rfl⟩
  rw [hw2] at H ⊢
  have HW2 := hid hw2
  clear hw2
  go_enter Try.func27, Try.ntmps27
  go_wp2_with fail
  go_loopw [4] (fun k wr => ∃ j : Nat, j ≤ nw ∧ j ≤ kn ∧ k = .int .i64 (j : Int) ∧ Hid (RfAt wr w0.heap.size m (.slice AH (doneK hold D.waits D.has j).length cH) (.slice AL D.waits.length cL) { D with has := doneK hold D.waits D.has j } ∧ Only (RMine m (.slice AH nh cH) (.slice AL nw cL)) w2 wr)) (fun k wr => nw - (intOf k).toNat)
  case atStart => exact ⟨0, by omega, by omega, rfl, hid ⟨by have := H.out; rw [← HNH.out, ← HNW.out] at this; exact this, Only.refl _ _⟩⟩
  case round =>
    obtain ⟨j, hj, hjk, rfl, hI⟩ := hrel
    have x1 := hI.out.1.cells.cell (j := 1) rfl
    (try dsimp only at x1)
    rw [HNW.out] at x1
    by_cases hlt : j < nw ∧ j < kn
    · have d5 : decide ((j : Int) < (nw : Int)) = true := by simp; omega
      have d5' : decide (j < nw) = true := by simp; omega
      have d6 : decide ((j : Int) < (kn : Int)) = true := by simp; omega
      have d6' : decide (j < kn) = true := by simp; omega
      have k0 : (0 : Int) ≤ (j : Int) := by omega
      have k1 : (j : Int) < (kn : Int) := by omega
      have k2 : (j : Int).toNat = j := by omega
      have hjks : j < ks.length := by rw [hkn]; exact hlt.2
      obtain ⟨bk, ok, rfl, hck⟩ := hr0 (by intro e; have := congrArg List.length e; rw [List.length_map] at this; simp at this; rw [this] at hjks; simp at hjks)
      have xk := hck j _ (by rw [List.getElem?_map, List.getElem?_eq_getElem hjks]; rfl)
      have hhold0 : ks[j]'hjks = hold j := by rw [← HHO.out]; show _ = ks.getD j false; rw [List.getD_eq_getElem?_getD, List.getElem?_eq_getElem hjks, Option.getD_some]
      rw [hhold0] at xk
      have hbw : Below w0.heap.size w0 wr := (HW2.out ▸ HB0.out : Below w0.heap.size w0 w2).trans (hI.out.2.below (HW2.out ▸ hs) (fun g hg => (H.out.mine g hg).1))
      have xk := cells_keep hbw xk
      unfold boolV at xk
      clear hck hjks hhold0 hbw
      cases hv : hold j with
      | true =>
        rw [hv] at xk
        have hhold := hv
        clear x1
        have hjl : j < D.waits.length := by rw [HNW.out]; omega
        have hwl := H.out.wl _ (List.getElem_mem hjl)
        obtain ⟨gL, rfl⟩ := HAL.out (by omega)
        obtain ⟨gH, rfl⟩ := HAH.out (by have := HNH.out; omega)
        have r := hI.out.1
        have c0 := (RfAt.wcell (D := { D with has := doneK hold D.waits D.has j }) r j hjl).1
        have c1 := (RfAt.wcell (D := { D with has := doneK hold D.waits D.has j }) r j hjl).2
        (try dsimp only at c0 c1)
        have x0 := r.cells.cell (j := 0) rfl
        have x1 := r.cells.cell (j := 1) rfl
        have hgd : D.waits.getD j (0, []) = D.waits[j]'hjl := by rw [List.getD_eq_getElem?_getD, List.getElem?_eq_getElem hjl, Option.getD_some]
        obtain ⟨q, hq⟩ : ∃ q, D.waits[j]'hjl = q := ⟨_, rfl⟩
        rw [hq] at c0 c1 hwl hgd
        obtain ⟨a, haq⟩ : ∃ a : Nat, q.1 = (a : Int) := ⟨q.1.toNat, by omega⟩
        rw [haq] at c0 hwl
        have hal : a < D.has.length := by omega
        have rl : (doneK hold D.waits D.has j).length = D.has.length := doneK_len _ _ _ _
        have hne : gH ≠ m := fun e => r.mh (by rw [← e]; rfl)
        have hne2 : gH ≠ gL := fun e => r.hl gH rfl (by rw [← e]; rfl)
        have hfz : wr.frozen? ⟨gH, a, none⟩ = false := by
          obtain ⟨cur, hcur⟩ := own_type r.hs gH rfl
          exact frozen_of_row wr gH a cur _ hcur
        have hce : ∃ u, wr.cell? ⟨gH, a, none⟩ = some u := by
          have := r.hs.cellAt a (by show a < (doneK hold D.waits D.has j).length * 1; rw [rl]; omega)
          exact ⟨_, this.trans (List.getElem?_eq_getElem (by rw [List.length_map]; show a < (doneK hold D.waits D.has j).length; rw [rl]; exact hal))⟩
        obtain ⟨uo, hce⟩ := hce
        have hst := RfAt.store (D := { D with has := doneK hold D.waits D.has j }) r a q.2
        have hdk : doneK hold D.waits D.has (j + 1) = (doneK hold D.waits D.has j).set a q.2 := by rw [doneK, if_pos hhold, hgd, haq]; rfl
        (try dsimp only at hst x0 x1)
        rw [rl] at hst x0
        rw [← hdk] at hst
        rw [HNW.out] at x1
        rw [HNH.out] at x0 hst hal
        have rl2 : (doneK hold D.waits D.has (j + 1)).length = nh := by rw [doneK_len]; exact HNH.out
        have hst1 := hst.1.drew_
        have hst2 := hst.2.drew_
        rw [← rl2] at hst1
        rw [HNW.out] at hst2
        have HST := hid (And.intro hst1 hst2)
        clear hst1 hst2 rl2
        unfold SV at c1 HST
        have i0 : (0 : Int) ≤ (j : Int) := by omega
        have i1 : (j : Int) < (nw : Int) := by omega
        have i2 : (j : Int).toNat = j := by omega
        have i3 : (0 : Int) ≤ (a : Int) := by omega
        have i4 : (a : Int) < (nh : Int) := by omega
        have i5 : (a : Int).toNat = a := by omega
        have hS0 : ∀ X : World, (X.cell? ⟨m, 0, none⟩ = some (.slice (some ⟨gH, 0, none⟩) nh cH) ∧ X.cell? ⟨m, 1, none⟩ = some (.slice (some ⟨gL, 0, none⟩) nw cL) ∧ X.cell? ⟨gL, j * 2, none⟩ = some (.int .i64 (a : Int)) ∧ X.cell? ⟨gL, j * 2 + 1, none⟩ = some (.string (str q.2))) → ((X.setCell ⟨gH, a, none⟩ (.string (str q.2))).drew.cell? ⟨m, 0, none⟩ = some (.slice (some ⟨gH, 0, none⟩) nh cH) ∧ (X.setCell ⟨gH, a, none⟩ (.string (str q.2))).drew.cell? ⟨m, 1, none⟩ = some (.slice (some ⟨gL, 0, none⟩) nw cL) ∧ (X.setCell ⟨gH, a, none⟩ (.string (str q.2))).drew.cell? ⟨gL, j * 2, none⟩ = some (.int .i64 (a : Int)) ∧ (X.setCell ⟨gH, a, none⟩ (.string (str q.2))).drew.cell? ⟨gL, j * 2 + 1, none⟩ = some (.string (str q.2))) := fun X hX => by
          refine ⟨?_, ?_, ?_, ?_⟩
          · show (X.setCell ⟨gH, a, none⟩ (.string (str q.2))).cell? _ = _
            rw [World.cell?_setCell_other _ _ _ _ (fun e => by injection e; omega)]; exact hX.1
          · show (X.setCell ⟨gH, a, none⟩ (.string (str q.2))).cell? _ = _
            rw [World.cell?_setCell_other _ _ _ _ (fun e => by injection e; omega)]; exact hX.2.1
          · show (X.setCell ⟨gH, a, none⟩ (.string (str q.2))).cell? _ = _
            rw [World.cell?_setCell_other _ _ _ _ (fun e => by injection e; omega)]; exact hX.2.2.1
          · show (X.setCell ⟨gH, a, none⟩ (.string (str q.2))).cell? _ = _
            rw [World.cell?_setCell_other _ _ _ _ (fun e => by injection e; omega)]; exact hX.2.2.2
        have hS1 := hS0 wr ⟨x0, x1, c0, c1⟩
        have hS : wr.drew.cell? ⟨m, 0, none⟩ = some (.slice (some ⟨gH, 0, none⟩) nh cH) ∧ wr.drew.cell? ⟨m, 1, none⟩ = some (.slice (some ⟨gL, 0, none⟩) nw cL) ∧ wr.drew.cell? ⟨gL, j * 2, none⟩ = some (.int .i64 (a : Int)) ∧ wr.drew.cell? ⟨gL, j * 2 + 1, none⟩ = some (.string (str q.2)) := ⟨x0, x1, c0, c1⟩
        have HI2 := hid hI.out.2
        clear hS0 hst hq hwl hgd haq hal rl hdk r hI c0 c1 x0 hjl
        clear hv
        go_upto_region 4 with fail
        refine wp_region_noPanic ?_
        refine wp_region_held_drew (S := (fun X => X.cell? ⟨m, 0, none⟩ = some (.slice (some ⟨gH, 0, none⟩) nh cH) ∧ X.cell? ⟨m, 1, none⟩ = some (.slice (some ⟨gL, 0, none⟩) nw cL) ∧ X.cell? ⟨gL, j * 2, none⟩ = some (.int .i64 (a : Int)) ∧ X.cell? ⟨gL, j * 2 + 1, none⟩ = some (.string (str q.2)))) (by kernel_rfl) (by first | assumption | trivial) (fun hHeld => ?_)
        refine wpAnyH_take (i := 0) (v := ?_) rfl (by kernel_rfl) (by kernel_rfl) (by kernel_rfl) (fun _ _ _ h => h) (Or.inl ⟨by kernel_rfl, ?_⟩) (by first | assumption | trivial) ?_
        rotate_left
        · (intro wS hSw; (try dsimp only at hSw); go_simp; try with_reducible rfl)
        (try simp only [List.append_eq, List.cons_append, List.nil_append, List.getElem_toArray, List.getElem_cons_succ, List.getElem_cons_zero, Act.put, List.setIfInBounds_toArray, List.set_cons_zero, List.set_cons_succ])
        refine wpAnyH_take (i := 1) (v := ?_) rfl (by kernel_rfl) (by kernel_rfl) (by kernel_rfl) (fun _ _ _ h => h) (Or.inl ⟨by kernel_rfl, ?_⟩) (by first | assumption | trivial) ?_
        rotate_left
        · (intro wS hSw; (try dsimp only at hSw); go_simp; try with_reducible rfl)
        (try simp only [List.append_eq, List.cons_append, List.nil_append, List.getElem_toArray, List.getElem_cons_succ, List.getElem_cons_zero, Act.put, List.setIfInBounds_toArray, List.set_cons_zero, List.set_cons_succ])
        refine wpAnyH_take (i := 2) (v := ?_) rfl (by kernel_rfl) (by kernel_rfl) (by kernel_rfl) (fun _ _ _ h => h) (Or.inl ⟨by kernel_rfl, ?_⟩) (by first | assumption | trivial) ?_
        rotate_left
        · (intro wS hSw; (try dsimp only at hSw); go_simp; try with_reducible rfl)
        (try simp only [List.append_eq, List.cons_append, List.nil_append, List.getElem_toArray, List.getElem_cons_succ, List.getElem_cons_zero, Act.put, List.setIfInBounds_toArray, List.set_cons_zero, List.set_cons_succ])
        refine wpAnyH_take (i := 3) (v := ?_) rfl (by kernel_rfl) (by kernel_rfl) (by kernel_rfl) (fun _ _ _ h => h) (Or.inl ⟨by kernel_rfl, ?_⟩) (by first | assumption | trivial) ?_
        rotate_left
        · (intro wS hSw; (try dsimp only at hSw); go_simp; try with_reducible rfl)
        (try simp only [List.append_eq, List.cons_append, List.nil_append, List.getElem_toArray, List.getElem_cons_succ, List.getElem_cons_zero, Act.put, List.setIfInBounds_toArray, List.set_cons_zero, List.set_cons_succ])
        refine wpAnyH_take (i := 4) (v := ?_) rfl (by kernel_rfl) (by kernel_rfl) (by kernel_rfl) (fun _ _ _ h => h) (Or.inl ⟨by kernel_rfl, ?_⟩) (by first | assumption | trivial) ?_
        rotate_left
        · (intro wS hSw; (try dsimp only at hSw); go_simp; try with_reducible rfl)
        (try simp only [List.append_eq, List.cons_append, List.nil_append, List.getElem_toArray, List.getElem_cons_succ, List.getElem_cons_zero, Act.put, List.setIfInBounds_toArray, List.set_cons_zero, List.set_cons_succ])
        refine wpAnyH_take (i := 5) (v := ?_) rfl (by kernel_rfl) (by kernel_rfl) (by kernel_rfl) (fun _ _ _ h => h) (Or.inl ⟨by kernel_rfl, ?_⟩) (by first | assumption | trivial) ?_
        rotate_left
        · (intro wS hSw; (try dsimp only at hSw); go_simp; try with_reducible rfl)
        (try simp only [List.append_eq, List.cons_append, List.nil_append, List.getElem_toArray, List.getElem_cons_succ, List.getElem_cons_zero, Act.put, List.setIfInBounds_toArray, List.set_cons_zero, List.set_cons_succ])
        refine wpAnyH_take (i := 6) (v := ?_) rfl (by kernel_rfl) (by kernel_rfl) (by kernel_rfl) (fun _ _ _ h => h) (Or.inl ⟨by kernel_rfl, ?_⟩) (by first | assumption | trivial) ?_
        rotate_left
        · (intro wS hSw; (try dsimp only at hSw); go_simp; try with_reducible rfl)
        (try simp only [List.append_eq, List.cons_append, List.nil_append, List.getElem_toArray, List.getElem_cons_succ, List.getElem_cons_zero, Act.put, List.setIfInBounds_toArray, List.set_cons_zero, List.set_cons_succ])
        refine wpAnyH_take (i := 7) (v := ?_) rfl (by kernel_rfl) (by kernel_rfl) (by kernel_rfl) (fun _ _ _ h => h) (Or.inl ⟨by kernel_rfl, ?_⟩) (by first | assumption | trivial) ?_
        rotate_left
        · (intro wS hSw; (try dsimp only at hSw); go_simp; try with_reducible rfl)
        (try simp only [List.append_eq, List.cons_append, List.nil_append, List.getElem_toArray, List.getElem_cons_succ, List.getElem_cons_zero, Act.put, List.setIfInBounds_toArray, List.set_cons_zero, List.set_cons_succ])
        refine wpAnyH_take (i := 8) (v := ?_) rfl (by kernel_rfl) (by kernel_rfl) (by kernel_rfl) (fun _ _ _ h => h) (Or.inl ⟨by kernel_rfl, ?_⟩) (by first | assumption | trivial) ?_
        rotate_left
        · (intro wS hSw; (try dsimp only at hSw); go_simp; try with_reducible rfl)
        (try simp only [List.append_eq, List.cons_append, List.nil_append, List.getElem_toArray, List.getElem_cons_succ, List.getElem_cons_zero, Act.put, List.setIfInBounds_toArray, List.set_cons_zero, List.set_cons_succ])
        refine wpAnyH_take (i := 9) (v := ?_) rfl (by kernel_rfl) (by kernel_rfl) (by kernel_rfl) (fun _ _ _ h => h) (Or.inl ⟨by kernel_rfl, ?_⟩) (by first | assumption | trivial) ?_
        rotate_left
        · (intro wS hSw; (try dsimp only at hSw); go_simp; try with_reducible rfl)
        (try simp only [List.append_eq, List.cons_append, List.nil_append, List.getElem_toArray, List.getElem_cons_succ, List.getElem_cons_zero, Act.put, List.setIfInBounds_toArray, List.set_cons_zero, List.set_cons_succ])
        refine wpAnyH_take (i := 10) (v := ?_) rfl (by kernel_rfl) (by kernel_rfl) (by kernel_rfl) (fun _ _ _ h => h) (Or.inl ⟨by kernel_rfl, ?_⟩) (by first | assumption | trivial) ?_
        rotate_left
        · (intro wS hSw; (try dsimp only at hSw); go_simp; try with_reducible rfl)
        (try simp only [List.append_eq, List.cons_append, List.nil_append, List.getElem_toArray, List.getElem_cons_succ, List.getElem_cons_zero, Act.put, List.setIfInBounds_toArray, List.set_cons_zero, List.set_cons_succ])
        refine wpAnyH_take (i := 11) (v := ?_) rfl (by kernel_rfl) (by kernel_rfl) (by kernel_rfl) (fun _ _ _ h => h) (Or.inl ⟨by kernel_rfl, ?_⟩) (by first | assumption | trivial) ?_
        rotate_left
        · (intro wS hSw; (try dsimp only at hSw); go_simp; try with_reducible rfl)
        (try simp only [List.append_eq, List.cons_append, List.nil_append, List.getElem_toArray, List.getElem_cons_succ, List.getElem_cons_zero, Act.put, List.setIfInBounds_toArray, List.set_cons_zero, List.set_cons_succ])
        refine wpAnyH_take (i := 12) (v := ?_) rfl (by kernel_rfl) (by kernel_rfl) (by kernel_rfl) (fun _ _ _ h => h) (Or.inl ⟨by kernel_rfl, ?_⟩) (by first | assumption | trivial) ?_
        rotate_left
        · (intro wS hSw; (try dsimp only at hSw); go_simp; try with_reducible rfl)
        (try simp only [List.append_eq, List.cons_append, List.nil_append, List.getElem_toArray, List.getElem_cons_succ, List.getElem_cons_zero, Act.put, List.setIfInBounds_toArray, List.set_cons_zero, List.set_cons_succ])
        refine wpAnyH_take (i := 13) (v := ?_) rfl (by kernel_rfl) (by kernel_rfl) (by kernel_rfl) (fun _ _ _ h => h) (Or.inl ⟨by kernel_rfl, ?_⟩) (by first | assumption | trivial) ?_
        rotate_left
        · (intro wS hSw; (try dsimp only at hSw); go_simp; try with_reducible rfl)
        (try simp only [List.append_eq, List.cons_append, List.nil_append, List.getElem_toArray, List.getElem_cons_succ, List.getElem_cons_zero, Act.put, List.setIfInBounds_toArray, List.set_cons_zero, List.set_cons_succ])
        refine wpAnyH_take (i := 14) (v := ?_) rfl (by kernel_rfl) (by kernel_rfl) (by kernel_rfl) (fun _ _ _ h => h) (Or.inl ⟨by kernel_rfl, ?_⟩) (by first | assumption | trivial) ?_
        rotate_left
        · (intro wS hSw; (try dsimp only at hSw); go_simp; try with_reducible rfl)
        (try simp only [List.append_eq, List.cons_append, List.nil_append, List.getElem_toArray, List.getElem_cons_succ, List.getElem_cons_zero, Act.put, List.setIfInBounds_toArray, List.set_cons_zero, List.set_cons_succ])
        refine wpAnyH_take (i := 15) (v := ?_) rfl (by kernel_rfl) (by kernel_rfl) (by kernel_rfl) (fun _ _ _ h => h) (Or.inl ⟨by kernel_rfl, ?_⟩) (by first | assumption | trivial) ?_
        rotate_left
        · (intro wS hSw; (try dsimp only at hSw); go_simp; try with_reducible rfl)
        (try simp only [List.append_eq, List.cons_append, List.nil_append, List.getElem_toArray, List.getElem_cons_succ, List.getElem_cons_zero, Act.put, List.setIfInBounds_toArray, List.set_cons_zero, List.set_cons_succ])
        refine wpAnyH_take (i := 16) (v := ?_) rfl (by kernel_rfl) (by kernel_rfl) (by kernel_rfl) (fun _ _ _ h => h) (Or.inl ⟨by kernel_rfl, ?_⟩) (by first | assumption | trivial) ?_
        rotate_left
        · (intro wS hSw; (try dsimp only at hSw); go_simp; try with_reducible rfl)
        (try simp only [List.append_eq, List.cons_append, List.nil_append, List.getElem_toArray, List.getElem_cons_succ, List.getElem_cons_zero, Act.put, List.setIfInBounds_toArray, List.set_cons_zero, List.set_cons_succ])
        refine wpAnyH_take (i := 17) (v := ?_) rfl (by kernel_rfl) (by kernel_rfl) (by kernel_rfl) (fun _ _ _ h => h) (Or.inl ⟨by kernel_rfl, ?_⟩) (by first | assumption | trivial) ?_
        rotate_left
        · (intro wS hSw; (try dsimp only at hSw); go_simp; try with_reducible rfl)
        (try simp only [List.append_eq, List.cons_append, List.nil_append, List.getElem_toArray, List.getElem_cons_succ, List.getElem_cons_zero, Act.put, List.setIfInBounds_toArray, List.set_cons_zero, List.set_cons_succ])
        refine wpAnyH_take (i := 18) (v := ?_) rfl (by kernel_rfl) (by kernel_rfl) (by kernel_rfl) (fun _ _ _ h => h) (Or.inl ⟨by kernel_rfl, ?_⟩) (by first | assumption | trivial) ?_
        rotate_left
        · (intro wS hSw; (try dsimp only at hSw); go_simp; try with_reducible rfl)
        (try simp only [List.append_eq, List.cons_append, List.nil_append, List.getElem_toArray, List.getElem_cons_succ, List.getElem_cons_zero, Act.put, List.setIfInBounds_toArray, List.set_cons_zero, List.set_cons_succ])
        refine wpAnyH_take (i := 19) (v := ?_) rfl (by kernel_rfl) (by kernel_rfl) (by kernel_rfl) (fun _ _ _ h => h) (Or.inl ⟨by kernel_rfl, ?_⟩) (by first | assumption | trivial) ?_
        rotate_left
        · (intro wS hSw; (try dsimp only at hSw); go_simp; try with_reducible rfl)
        (try simp only [List.append_eq, List.cons_append, List.nil_append, List.getElem_toArray, List.getElem_cons_succ, List.getElem_cons_zero, Act.put, List.setIfInBounds_toArray, List.set_cons_zero, List.set_cons_succ])
        refine wpAnyH_take (i := 20) (v := ?_) rfl (by kernel_rfl) (by kernel_rfl) (by kernel_rfl) (fun _ _ _ h => h) (Or.inl ⟨by kernel_rfl, ?_⟩) (by first | assumption | trivial) ?_
        rotate_left
        · (intro wS hSw; (try dsimp only at hSw); go_simp; try with_reducible rfl)
        (try simp only [List.append_eq, List.cons_append, List.nil_append, List.getElem_toArray, List.getElem_cons_succ, List.getElem_cons_zero, Act.put, List.setIfInBounds_toArray, List.set_cons_zero, List.set_cons_succ])
        refine wpAnyH_ready (rs := [21]) (by kernel_rfl) (by simp) ?_
        refine AllReadyH.cons rfl (fun K hK => ?_) AllReadyH.nil
        go_simp
        skip
        go_wp2_with fail
        refine hK.out _ _ (by first | assumption | trivial) (fun hHeld => ?_)
        clear hK K
        (try simp only [List.append_eq, List.cons_append, List.nil_append, List.getElem_toArray, List.getElem_cons_succ, List.getElem_cons_zero, Act.put, List.setIfInBounds_toArray, List.set_cons_zero, List.set_cons_succ])
        refine wpAnyH_done (by kernel_rfl) ?_ _
        refine NoPanic.normal ?_
        go_wp2_with fail
        go_roundw
        case rel => exact ⟨j + 1, by omega, by omega, by go_num, hid ⟨HST.out.1, HI2.out.trans HST.out.2 (fun g h => .inl h)⟩⟩
        case measure => simp [intOf]; omega
      | false =>
        rw [hv] at xk
        have hdk : doneK hold D.waits D.has (j + 1) = doneK hold D.waits D.has j := by rw [doneK, if_neg (by rw [hv]; decide)]
        have HDK := hid hdk
        clear hdk hv
        go_wp2
        go_roundw
        case rel => exact ⟨j + 1, by omega, by omega, by go_num, by rw [HDK.out]; exact hI⟩
        case measure => simp [intOf]; omega
    · have hdd : decide ((j : Int) < (nw : Int)) = false ∨ (decide ((j : Int) < (nw : Int)) = true ∧ decide ((j : Int) < (kn : Int)) = false) := by
        by_cases h1 : j < nw
        · exact .inr ⟨by simp; omega, by simp; omega⟩
        · exact .inl (by simp; omega)
      have hdk : doneK hold D.waits D.has j = doneK hold D.waits D.has D.waits.length := by
        rw [HNW.out]
        by_cases h1 : j < nw
        · have hj2 : j = kn := by omega
          rw [show nw = kn + (nw - kn) by omega, doneK_cut hold D.waits D.has kn HHK.out, hj2]
        · rw [show j = nw by omega]
      have r := hI.out.1
      rw [hdk] at r
      have y1 := r.cells.cell (j := 1) rfl
      have z1 := r.cells.frozen 1
      have y3 := r.cells.cell (j := 3) rfl
      have z3 := r.cells.frozen 3
      have r2 := r.wait_nil.off_set true
      have hs2 : w0.heap.size ≤ w2.heap.size := HW2.out ▸ hs
      have hl2 := RLets.of_only H.out ((hI.out.2.trans (Only.of_set (T := RMine m (.slice AH nh cH) (.slice AL nw cL)) wr ⟨m, 1, none⟩ (.slice none 0 0) rm_m) (fun g h => .inl h)).trans (Only.of_set (T := RMine m (.slice AH nh cH) (.slice AL nw cL)) _ ⟨m, 3, none⟩ (.bool true) rm_m) (fun g h => .inl h)) hs2
      have HR2 := hid r2
      have HL2 := hid hl2
      rw [HNW.out] at y1
      clear r r2 hl2 hI hdk hs2
      rcases hdd with d5 | ⟨d5, d6⟩
      · have d5' : decide (j < nw) = false := by simpa using d5
        go_wp2
        go_end0
        exact ⟨rfl, ⟨_, _, HR2.out⟩, HL2.out⟩
      · have d5' : decide (j < nw) = true := by simpa using d5
        have d6' : decide (j < kn) = false := by simpa using d6
        go_wp2
        go_end0
        exact ⟨rfl, ⟨_, _, HR2.out⟩, HL2.out⟩
end
section
open Go.RowKit
set_option linter.unusedVariables false
set_option linter.unusedSimpArgs false
attribute [local go_sem] Oper.semAt_some
theorem size_st {w0 W : World} {d hb : Nat} {D : Dsk} (h : St w0 W d hb D) :
    Calls Try.prog 46 #[.pointer (some ⟨d, 0, none⟩)] W fun e w' => e = .returned (.int .i64 (D.has.length : Int)) ∧ W = w' := by
  obtain ⟨V, hV⟩ := h.at_
  have x0 := hV.cells.cell (j := 0) rfl
  clear h hV
  go_enter Try.func46, Try.ntmps46
  go_wp2
  go_ret
  exact ⟨rfl, rfl⟩
theorem noughts_any (W : World) : Calls Try.prog 60 #[] W fun e w' => e = .returned (SV (List.replicate 128 0)) ∧ Below W.heap.size W w' := by
  obtain ⟨i0, hi0, hz0, hz1, hz2⟩ := info_parts u8S.info
  have Hz1 := hid hz1
  have Hz2 := hid hz2
  have Hi0 := hid hi0
  have Hz0 := hid hz0
  clear hz1 hz2 hi0 hz0
  unfold SV
  go_enter Try.func60, Try.ntmps60
  go_wp2_with (
    refine wpList_make_full _ rfl (.const (.int .i64 128)) (.const (.int .i64 128)) 24 rfl W.heap.size 5 i0 (.int .u8 0) 1 Try.underlying24 Hi0.out Hz0.out Hz1.out .i64 .i64 128 128 128 rfl rfl rfl rfl (by rw [Hz2.out]; omega) (by unfold maxLen; omega) (Nat.le_refl _) ?_
    intro w1 ho1 hg1
    have hb1 := (Below.refl W.heap.size W).grown hg1 (Nat.le_refl _) (fun k hk => by cases hk)
    rw [made_one _ rfl 128] at ho1
    have ho : Oct w1 (some ⟨W.heap.size, 0, none⟩) 128 (List.replicate 128 0) := Oct.of_own (c := 128) (by
      rw [show (List.replicate 128 (0 : UInt8)).map B8 = List.replicate 128 (Value.int .u8 0) by rw [List.map_replicate]; rfl]
      exact ho1)
    have co := strP 128 ho
    have HB1 := hid hb1
    clear hg1 ho1 hb1 ho)
  go_ret
  exact ⟨rfl, HB1.out⟩
/-- A sector more. -/
theorem nw_end {w0 w2 w3 : World} {m : Nat} {VL : Value} {A3 : Option Addr} {D : Dsk} {AH : Option Addr} {cH c3 : Nat} {s : List UInt8} (u : Value) (hu : u = SV s) (r : RfAt w2 w0.heap.size m (.slice AH D.has.length cH) VL D) (hs : w0.heap.size ≤ w2.heap.size) (hn : D.has.length < 2048)
    (ho3 : w3.ownsRow w0.heap.size 9 1 (.slice A3 (D.has.length + 1) c3) (D.has.length + 1) (D.has.map SV ++ [u])) (hg3 : (w2.alloc (.cells #[u] 9)).grownBy w3 (Value.ownBlock (.slice AH D.has.length cH)))
    (hh3 : Value.ownBlock (.slice A3 (D.has.length + 1) c3) = Value.ownBlock (.slice AH D.has.length cH) ∨ Value.ownBlock (.slice A3 (D.has.length + 1) c3) = some (w2.alloc (.cells #[u] 9)).heap.size) :
    OwnE w3 m 65 [.slice AH D.has.length cH, VL, .int .i64 D.bud, .bool D.off] ∧ RSt w0 (w3.setCell ⟨m, 0, none⟩ (.slice A3 (D.has.length + 1) c3)) m { D with has := D.has ++ [s] } ∧ RLets w0 w2 (w3.setCell ⟨m, 0, none⟩ (.slice A3 (D.has.length + 1) c3)) ∧ Below w0.heap.size w2 (w3.setCell ⟨m, 0, none⟩ (.slice A3 (D.has.length + 1) c3)) := by
  subst hu
  have hA : Below w2.heap.size w2 (w2.alloc (.cells #[SV s] 9)) := (Below.refl _ _).alloc (Nat.le_refl _) _
  have hm3 := (r.cells.below hA).grown hg3 r.mh
  have hO : Only (RMine m (.slice AH D.has.length cH) VL) w2 w3 := (Only.of_below hA).trans (Only.of_grown (T := RMine m (.slice AH D.has.length cH) VL) hg3 (fun g e => .inr (.inl e))) (fun g h => .inl h)
  have hs3 : w3.ownsRow w0.heap.size 113 2 VL D.waits.length (D.waits.flatMap wtC) := own_only (T := fun g => Value.ownBlock (.slice AH D.has.length cH) = some g) r.ls ((Only.of_below (T := fun g => Value.ownBlock (.slice AH D.has.length cH) = some g) hA).trans (Only.of_grown hg3 (fun g e => e)) (fun g h => .inl h)) (fun g hg e => r.hl g e hg)
  have hml : m < w2.heap.size := r.cells.lt
  have hRL := RLets.of_only r (hO.trans (Only.of_set (T := RMine m (.slice AH D.has.length cH) VL) w3 ⟨m, 0, none⟩ (.slice A3 (D.has.length + 1) c3) rm_m) (fun g h => .inl h)) hs
  refine ⟨hm3, ⟨.slice A3 (D.has.length + 1) c3, VL, r.m0, hm3.set 0 _, ?_, row_far hs3 r.ml _, ?_, ?_, r.bd⟩, hRL, hRL.bel⟩
  · have hne : Value.ownBlock (.slice A3 (D.has.length + 1) c3) ≠ some m := by
      rcases hh3 with e | e
      · rw [e]; exact r.mh
      · rw [e]
        intro e2
        injection e2 with e2
        simp at e2
        omega
    have := row_far ho3 hne (i := 0) (.slice A3 (D.has.length + 1) c3)
    show World.ownsRow _ _ _ _ _ (D.has ++ [s]).length ((D.has ++ [s]).map SV)
    rw [show (D.has ++ [s]).length = D.has.length + 1 by simp, show (D.has ++ [s]).map SV = D.has.map SV ++ [SV s] by rw [List.map_append]; rfl]
    exact this
  · intro p hp
    have := r.wl p hp
    show 0 ≤ p.1 ∧ p.1 < ((D.has ++ [s]).length : Int)
    rw [List.length_append, List.length_singleton]
    omega
  · show (D.has ++ [s]).length ≤ 2048
    rw [List.length_append, List.length_singleton]
    omega
def noughtsL (j : Nat) : Dsk := ⟨List.replicate j (List.replicate 128 0), [], -1, false, [], 0⟩
theorem noughtsL_succ (j : Nat) : ({ noughtsL j with has := (noughtsL j).has ++ [List.replicate 128 0] } : Dsk) = noughtsL (j + 1) := by
  show (⟨List.replicate j (List.replicate 128 0) ++ [List.replicate 128 0], [], -1, false, [], 0⟩ : Dsk) = _
  rw [← List.replicate_succ']
  rfl
set_option maxRecDepth 100000 in
set_option maxHeartbeats 4000000 in
theorem rnew_any (n : Nat) (hn : n ≤ 2048) (w0 W : World) (hb0 : Below w0.heap.size w0 W) :
    Calls Try.prog 24 #[.int .i64 (n : Int)] W fun e w' => ∃ m, e = .returned (.pointer (some ⟨m, 0, none⟩)) ∧ RSt w0 w' m (noughtsL n) ∧ RLets w0 W w' := by
  have HB0 := hid hb0
  clear hb0
  obtain ⟨y, hy⟩ : ∃ y, str (List.replicate 128 (0 : UInt8)) = y := ⟨_, rfl⟩
  have HY := hid hy
  have HNO := hid (fun W' : World => (show Calls Try.prog 60 #[] W' (fun e w' => e = .returned (.string y) ∧ Below W'.heap.size W' w') from by rw [← hy]; exact noughts_any W'))
  clear hy
  go_enter Try.func24, Try.ntmps24
  go_wp2_with fail
  have hst : RSt w0 (W.alloc (.cells #[.slice none 0 0, .slice none 0 0, .int .i64 (-1), .bool false] 65)) W.heap.size (noughtsL 0) :=
    ⟨.slice none 0 0, .slice none 0 0, HB0.out.size, heap_alloc_new W _, World.ownsRow_nil _ _ _ _, World.ownsRow_nil _ _ _ _, (fun p hp => by cases hp), by show (0 : Nat) ≤ 2048; omega, by show -1 ≤ (-1 : Int) ∧ (-1 : Int) ≤ 9223372036854775807; omega⟩
  have HST := hid hst
  have HRL := hid (RLets.of_below (w0 := w0) ((Below.refl _ W).alloc (Nat.le_refl _) (.cells #[.slice none 0 0, .slice none 0 0, .int .i64 (-1), .bool false] 65)) HB0.out.size)
  clear hst
  go_loopw [4] (fun k wr => ∃ j : Nat, j ≤ n ∧ k = .int .i64 (j : Int) ∧ Hid (RSt w0 wr W.heap.size (noughtsL j) ∧ RLets w0 W wr)) (fun k wr => n - (intOf k).toNat)
  case atStart => exact ⟨0, by omega, rfl, hid ⟨HST.out, HRL.out⟩⟩
  case round =>
    clear HST HRL
    obtain ⟨j, hj, rfl, hI⟩ := hrel
    obtain ⟨m, hm⟩ : ∃ m, W.heap.size = m := ⟨_, rfl⟩
    rw [hm] at hI ⊢
    have HM := hid hm
    clear hm
    by_cases hlt : j < n
    · have d1 : decide ((j : Int) < (n : Int)) = true := by simp; omega
      have d1' : decide (j < n) = true := by simp; omega
      obtain ⟨VH, VL, r⟩ := hI.out.1
      obtain ⟨AH, cH, rfl, _⟩ := own_slice r.hs
      have hlj : (noughtsL j).has.length = j := by show (List.replicate j _).length = j; rw [List.length_replicate]
      rw [hlj] at r
      have HLJ := hid hlj
      have HR := hid r
      have HL := hid hI.out.2
      have hs0 : w0.heap.size ≤ wr.heap.size := Nat.le_trans HB0.out.size HL.out.bel.size
      have HS0 := hid hs0
      have x0 := r.cells.cell (j := 0) rfl
      clear r hI hlj hs0
      go_upto_region 5 with fail
      have q0 : wr.drew.cell? ⟨m, 0, none⟩ = some (.slice AH j cH) := x0
      have HX0 := hid x0
      refine wp_region_noPanic ?_
      refine wp_region_held_drew (S := (fun X => True)) (by kernel_rfl) (by first | assumption | trivial) (fun hHeld => ?_)
      refine wpAnyH_take (i := 0) (v := ?_) rfl (by kernel_rfl) (by kernel_rfl) (by kernel_rfl) (fun _ _ _ h => h) (Or.inl ⟨by kernel_rfl, ?_⟩) (by first | assumption | trivial) ?_
      rotate_left
      · (intro wS hSw; (try dsimp only at hSw); go_simp; try with_reducible rfl)
      (try simp only [List.append_eq, List.cons_append, List.nil_append, List.getElem_toArray, List.getElem_cons_succ, List.getElem_cons_zero, Act.put, List.setIfInBounds_toArray, List.set_cons_zero, List.set_cons_succ])
      refine wpAnyH_take (i := 1) (v := ?_) rfl (by kernel_rfl) (by kernel_rfl) (by kernel_rfl) (fun _ _ _ h => h) (Or.inl ⟨by kernel_rfl, ?_⟩) (by first | assumption | trivial) ?_
      rotate_left
      · (intro wS hSw; (try dsimp only at hSw); go_simp; try with_reducible rfl)
      (try simp only [List.append_eq, List.cons_append, List.nil_append, List.getElem_toArray, List.getElem_cons_succ, List.getElem_cons_zero, Act.put, List.setIfInBounds_toArray, List.set_cons_zero, List.set_cons_succ])
      refine wpAnyH_take (i := 2) (v := ?_) rfl (by kernel_rfl) (by kernel_rfl) (by kernel_rfl) (fun _ _ _ h => h) (Or.inl ⟨by kernel_rfl, ?_⟩) (by first | assumption | trivial) ?_
      rotate_left
      · (intro wS hSw; (try dsimp only at hSw); go_simp; try with_reducible rfl)
      (try simp only [List.append_eq, List.cons_append, List.nil_append, List.getElem_toArray, List.getElem_cons_succ, List.getElem_cons_zero, Act.put, List.setIfInBounds_toArray, List.set_cons_zero, List.set_cons_succ])
      refine wpAnyH_take (i := 3) (v := ?_) rfl (by kernel_rfl) (by kernel_rfl) (by kernel_rfl) (fun _ _ _ h => h) (Or.inl ⟨by kernel_rfl, ?_⟩) (by first | assumption | trivial) ?_
      rotate_left
      · (intro wS hSw; (try dsimp only at hSw); go_simp; try with_reducible rfl)
      (try simp only [List.append_eq, List.cons_append, List.nil_append, List.getElem_toArray, List.getElem_cons_succ, List.getElem_cons_zero, Act.put, List.setIfInBounds_toArray, List.set_cons_zero, List.set_cons_succ])
      refine wpAnyH_ready (rs := [4, 5]) (by kernel_rfl) (by simp) ?_
      refine AllReadyH.cons rfl (fun K hK => ?_) (AllReadyH.cons rfl (fun K hK => ?_) AllReadyH.nil)
      · go_simp
        go_wp2_with fail
        refine hK.out _ _ trivial (fun hHeld => ?_)
        clear hK K
        (try simp only [List.append_eq, List.cons_append, List.nil_append, List.getElem_toArray, List.getElem_cons_succ, List.getElem_cons_zero, Act.put, List.setIfInBounds_toArray, List.set_cons_zero, List.set_cons_succ])
        refine wpAnyH_ready (rs := [5]) (by kernel_rfl) (by simp) ?_
        refine AllReadyH.cons rfl (fun K hK => ?_) AllReadyH.nil
        go_simp
        (go_at_call 60; refine (HNO.out _).mono ?_; rintro e w6 ⟨rfl, b6⟩; have B6 := hid (HL.out.trans (RLets.of_below (show Below wr.heap.size wr w6 from (bq (Below.refl _ wr) 1).trans b6) HS0.out)); have R6 := hid (HR.out.below (show Below wr.heap.size wr w6 from (bq (Below.refl _ wr) 1).trans b6)); have HS6 := hid (Nat.le_trans HB0.out.size B6.out.bel.size); clear b6)
        go_wp2_with fail
        refine hK.out _ _ (by first | assumption | trivial) (fun hHeld => ?_)
        clear hK K
        (try simp only [List.append_eq, List.cons_append, List.nil_append, List.getElem_toArray, List.getElem_cons_succ, List.getElem_cons_zero, Act.put, List.setIfInBounds_toArray, List.set_cons_zero, List.set_cons_succ])
        refine wpAnyH_ready (rs := [6]) (by kernel_rfl) (by simp) ?_
        refine AllReadyH.cons rfl (fun K hK => ?_) AllReadyH.nil
        go_simp
        skip
        go_wp2_with fail
        refine hK.out _ _ (by first | assumption | trivial) (fun hHeld => ?_)
        clear hK K
        (try simp only [List.append_eq, List.cons_append, List.nil_append, List.getElem_toArray, List.getElem_cons_succ, List.getElem_cons_zero, Act.put, List.setIfInBounds_toArray, List.set_cons_zero, List.set_cons_succ])
        refine wpAnyH_ready (rs := [7]) (by kernel_rfl) (by simp) ?_
        refine AllReadyH.cons rfl (fun K hK => ?_) AllReadyH.nil
        rw [if_pos (by kernel_rfl)]
        have hAw : Below w6.heap.size w6 (w6.alloc (.cells #[.string y] 9)) := (Below.refl _ _).alloc (Nat.le_refl _) _
        refine wp_append_at (.tmp 16) (.tmp 18) strT rfl w0.heap.size (.slice AH j cH) j ((noughtsL j).has.map SV) rfl (by have := own_below R6.out.hs hAw; rw [HLJ.out] at this; exact this) (some ⟨w6.heap.size, 0, none⟩) 1 1 [.string y] rfl rfl (Row.of_block (heap_alloc_new w6 (Obj.cells #[.string y] 9))) (by simp [Value.oneCell']) (by simp only [maxLen]; omega) (by omega) (by have := HS6.out; simp; omega) ?_
        intro A3 c3 w3 ho3 hg3 hh3
        have hE := nw_end (D := noughtsL j) (s := List.replicate 128 0) (.string y) (by rw [← HY.out]; rfl) (by rw [HLJ.out]; exact R6.out) HS6.out (by rw [HLJ.out]; omega) (by rw [HLJ.out]; exact ho3) (by rw [HLJ.out]; exact hg3) (by rw [HLJ.out]; exact hh3)
        rw [HLJ.out, noughtsL_succ] at hE
        have y3 := hE.1.cell (j := 0) rfl
        have z3 := hE.1.frozen 0
        have HE := hid hE
        clear ho3 hg3 hh3 hE
        refine hK.out _ _ trivial (fun hHeld => ?_)
        clear hK K
        (try simp only [List.append_eq, List.cons_append, List.nil_append, List.getElem_toArray, List.getElem_cons_succ, List.getElem_cons_zero, Act.put, List.setIfInBounds_toArray, List.set_cons_zero, List.set_cons_succ])
        refine wpAnyH_take (i := 8) (v := ?_) rfl (by kernel_rfl) (by kernel_rfl) (by kernel_rfl) (fun _ _ _ h => h) (Or.inl ⟨by kernel_rfl, ?_⟩) (by first | assumption | trivial) ?_
        rotate_left
        · (intro wS hSw; (try dsimp only at hSw); go_simp; try with_reducible rfl)
        (try simp only [List.append_eq, List.cons_append, List.nil_append, List.getElem_toArray, List.getElem_cons_succ, List.getElem_cons_zero, Act.put, List.setIfInBounds_toArray, List.set_cons_zero, List.set_cons_succ])
        refine wpAnyH_take (i := 9) (v := ?_) rfl (by kernel_rfl) (by kernel_rfl) (by kernel_rfl) (fun _ _ _ h => h) (Or.inl ⟨by kernel_rfl, ?_⟩) (by first | assumption | trivial) ?_
        rotate_left
        · (intro wS hSw; (try dsimp only at hSw); go_simp; try with_reducible rfl)
        (try simp only [List.append_eq, List.cons_append, List.nil_append, List.getElem_toArray, List.getElem_cons_succ, List.getElem_cons_zero, Act.put, List.setIfInBounds_toArray, List.set_cons_zero, List.set_cons_succ])
        refine wpAnyH_ready (rs := [10]) (by kernel_rfl) (by simp) ?_
        refine AllReadyH.cons rfl (fun K hK => ?_) AllReadyH.nil
        go_simp
        skip
        go_wp2_with fail
        refine hK.out _ _ (by first | assumption | trivial) (fun hHeld => ?_)
        clear hK K
        (try simp only [List.append_eq, List.cons_append, List.nil_append, List.getElem_toArray, List.getElem_cons_succ, List.getElem_cons_zero, Act.put, List.setIfInBounds_toArray, List.set_cons_zero, List.set_cons_succ])
        refine wpAnyH_done (by kernel_rfl) ?_ _
        refine NoPanic.normal ?_
        go_wp2_with fail
        go_roundw
        case rel => exact ⟨j + 1, by omega, by go_num, hid ⟨HE.out.2.1, B6.out.trans HE.out.2.2.1⟩⟩
        case measure => simp [intOf]; omega
      · go_simp
        go_at_call 60
        refine (HNO.out _).mono ?_
        rintro e w6 ⟨rfl, b6⟩
        have B6 := hid (HL.out.trans (RLets.of_below (show Below wr.heap.size wr w6 from (bq (Below.refl _ wr) 1).trans b6) HS0.out))
        have R6 := hid (HR.out.below (show Below wr.heap.size wr w6 from (bq (Below.refl _ wr) 1).trans b6))
        have HS6 := hid (Nat.le_trans HB0.out.size B6.out.bel.size)
        have q6 := R6.out.cells.cell (j := 0) rfl
        clear b6
        go_wp2_with fail
        refine hK.out _ _ trivial (fun hHeld => ?_)
        clear hK K
        (try simp only [List.append_eq, List.cons_append, List.nil_append, List.getElem_toArray, List.getElem_cons_succ, List.getElem_cons_zero, Act.put, List.setIfInBounds_toArray, List.set_cons_zero, List.set_cons_succ])
        have q7 : (w6.alloc (.cells #[.string y] 9)).cell? ⟨m, 0, none⟩ = some (.slice AH j cH) := cells_keep ((Below.refl _ w6).alloc (Nat.le_refl _) _) q6
        refine wpAnyH_ready (rs := [4, 6]) (by kernel_rfl) (by simp) ?_
        refine AllReadyH.cons rfl (fun K hK => ?_) (AllReadyH.cons rfl (fun K hK => ?_) AllReadyH.nil)
        · go_simp
          go_wp2_with fail
          refine hK.out _ _ trivial (fun hHeld => ?_)
          clear hK K
          (try simp only [List.append_eq, List.cons_append, List.nil_append, List.getElem_toArray, List.getElem_cons_succ, List.getElem_cons_zero, Act.put, List.setIfInBounds_toArray, List.set_cons_zero, List.set_cons_succ])
          refine wpAnyH_ready (rs := [6]) (by kernel_rfl) (by simp) ?_
          refine AllReadyH.cons rfl (fun K hK => ?_) AllReadyH.nil
          go_simp
          skip
          go_wp2_with fail
          refine hK.out _ _ (by first | assumption | trivial) (fun hHeld => ?_)
          clear hK K
          (try simp only [List.append_eq, List.cons_append, List.nil_append, List.getElem_toArray, List.getElem_cons_succ, List.getElem_cons_zero, Act.put, List.setIfInBounds_toArray, List.set_cons_zero, List.set_cons_succ])
          refine wpAnyH_ready (rs := [7]) (by kernel_rfl) (by simp) ?_
          refine AllReadyH.cons rfl (fun K hK => ?_) AllReadyH.nil
          rw [if_pos (by kernel_rfl)]
          have hAw : Below w6.heap.size w6 (w6.alloc (.cells #[.string y] 9)) := (Below.refl _ _).alloc (Nat.le_refl _) _
          refine wp_append_at (.tmp 16) (.tmp 18) strT rfl w0.heap.size (.slice AH j cH) j ((noughtsL j).has.map SV) rfl (by have := own_below R6.out.hs hAw; rw [HLJ.out] at this; exact this) (some ⟨w6.heap.size, 0, none⟩) 1 1 [.string y] rfl rfl (Row.of_block (heap_alloc_new w6 (Obj.cells #[.string y] 9))) (by simp [Value.oneCell']) (by simp only [maxLen]; omega) (by omega) (by have := HS6.out; simp; omega) ?_
          intro A3 c3 w3 ho3 hg3 hh3
          have hE := nw_end (D := noughtsL j) (s := List.replicate 128 0) (.string y) (by rw [← HY.out]; rfl) (by rw [HLJ.out]; exact R6.out) HS6.out (by rw [HLJ.out]; omega) (by rw [HLJ.out]; exact ho3) (by rw [HLJ.out]; exact hg3) (by rw [HLJ.out]; exact hh3)
          rw [HLJ.out, noughtsL_succ] at hE
          have y3 := hE.1.cell (j := 0) rfl
          have z3 := hE.1.frozen 0
          have HE := hid hE
          clear ho3 hg3 hh3 hE
          refine hK.out _ _ trivial (fun hHeld => ?_)
          clear hK K
          (try simp only [List.append_eq, List.cons_append, List.nil_append, List.getElem_toArray, List.getElem_cons_succ, List.getElem_cons_zero, Act.put, List.setIfInBounds_toArray, List.set_cons_zero, List.set_cons_succ])
          refine wpAnyH_take (i := 8) (v := ?_) rfl (by kernel_rfl) (by kernel_rfl) (by kernel_rfl) (fun _ _ _ h => h) (Or.inl ⟨by kernel_rfl, ?_⟩) (by first | assumption | trivial) ?_
          rotate_left
          · (intro wS hSw; (try dsimp only at hSw); go_simp; try with_reducible rfl)
          (try simp only [List.append_eq, List.cons_append, List.nil_append, List.getElem_toArray, List.getElem_cons_succ, List.getElem_cons_zero, Act.put, List.setIfInBounds_toArray, List.set_cons_zero, List.set_cons_succ])
          refine wpAnyH_take (i := 9) (v := ?_) rfl (by kernel_rfl) (by kernel_rfl) (by kernel_rfl) (fun _ _ _ h => h) (Or.inl ⟨by kernel_rfl, ?_⟩) (by first | assumption | trivial) ?_
          rotate_left
          · (intro wS hSw; (try dsimp only at hSw); go_simp; try with_reducible rfl)
          (try simp only [List.append_eq, List.cons_append, List.nil_append, List.getElem_toArray, List.getElem_cons_succ, List.getElem_cons_zero, Act.put, List.setIfInBounds_toArray, List.set_cons_zero, List.set_cons_succ])
          refine wpAnyH_ready (rs := [10]) (by kernel_rfl) (by simp) ?_
          refine AllReadyH.cons rfl (fun K hK => ?_) AllReadyH.nil
          go_simp
          skip
          go_wp2_with fail
          refine hK.out _ _ (by first | assumption | trivial) (fun hHeld => ?_)
          clear hK K
          (try simp only [List.append_eq, List.cons_append, List.nil_append, List.getElem_toArray, List.getElem_cons_succ, List.getElem_cons_zero, Act.put, List.setIfInBounds_toArray, List.set_cons_zero, List.set_cons_succ])
          refine wpAnyH_done (by kernel_rfl) ?_ _
          refine NoPanic.normal ?_
          go_wp2_with fail
          go_roundw
          case rel => exact ⟨j + 1, by omega, by go_num, hid ⟨HE.out.2.1, B6.out.trans HE.out.2.2.1⟩⟩
          case measure => simp [intOf]; omega
        · go_simp
          go_wp2_with fail
          refine hK.out _ _ trivial (fun hHeld => ?_)
          clear hK K
          (try simp only [List.append_eq, List.cons_append, List.nil_append, List.getElem_toArray, List.getElem_cons_succ, List.getElem_cons_zero, Act.put, List.setIfInBounds_toArray, List.set_cons_zero, List.set_cons_succ])
          refine wpAnyH_ready (rs := [4]) (by kernel_rfl) (by simp) ?_
          refine AllReadyH.cons rfl (fun K hK => ?_) AllReadyH.nil
          go_simp
          skip
          go_wp2_with fail
          refine hK.out _ _ (by first | assumption | trivial) (fun hHeld => ?_)
          clear hK K
          (try simp only [List.append_eq, List.cons_append, List.nil_append, List.getElem_toArray, List.getElem_cons_succ, List.getElem_cons_zero, Act.put, List.setIfInBounds_toArray, List.set_cons_zero, List.set_cons_succ])
          refine wpAnyH_ready (rs := [7]) (by kernel_rfl) (by simp) ?_
          refine AllReadyH.cons rfl (fun K hK => ?_) AllReadyH.nil
          rw [if_pos (by kernel_rfl)]
          have hAw : Below w6.heap.size w6 (w6.alloc (.cells #[.string y] 9)) := (Below.refl _ _).alloc (Nat.le_refl _) _
          refine wp_append_at (.tmp 16) (.tmp 18) strT rfl w0.heap.size (.slice AH j cH) j ((noughtsL j).has.map SV) rfl (by have := own_below R6.out.hs hAw; rw [HLJ.out] at this; exact this) (some ⟨w6.heap.size, 0, none⟩) 1 1 [.string y] rfl rfl (Row.of_block (heap_alloc_new w6 (Obj.cells #[.string y] 9))) (by simp [Value.oneCell']) (by simp only [maxLen]; omega) (by omega) (by have := HS6.out; simp; omega) ?_
          intro A3 c3 w3 ho3 hg3 hh3
          have hE := nw_end (D := noughtsL j) (s := List.replicate 128 0) (.string y) (by rw [← HY.out]; rfl) (by rw [HLJ.out]; exact R6.out) HS6.out (by rw [HLJ.out]; omega) (by rw [HLJ.out]; exact ho3) (by rw [HLJ.out]; exact hg3) (by rw [HLJ.out]; exact hh3)
          rw [HLJ.out, noughtsL_succ] at hE
          have y3 := hE.1.cell (j := 0) rfl
          have z3 := hE.1.frozen 0
          have HE := hid hE
          clear ho3 hg3 hh3 hE
          refine hK.out _ _ trivial (fun hHeld => ?_)
          clear hK K
          (try simp only [List.append_eq, List.cons_append, List.nil_append, List.getElem_toArray, List.getElem_cons_succ, List.getElem_cons_zero, Act.put, List.setIfInBounds_toArray, List.set_cons_zero, List.set_cons_succ])
          refine wpAnyH_take (i := 8) (v := ?_) rfl (by kernel_rfl) (by kernel_rfl) (by kernel_rfl) (fun _ _ _ h => h) (Or.inl ⟨by kernel_rfl, ?_⟩) (by first | assumption | trivial) ?_
          rotate_left
          · (intro wS hSw; (try dsimp only at hSw); go_simp; try with_reducible rfl)
          (try simp only [List.append_eq, List.cons_append, List.nil_append, List.getElem_toArray, List.getElem_cons_succ, List.getElem_cons_zero, Act.put, List.setIfInBounds_toArray, List.set_cons_zero, List.set_cons_succ])
          refine wpAnyH_take (i := 9) (v := ?_) rfl (by kernel_rfl) (by kernel_rfl) (by kernel_rfl) (fun _ _ _ h => h) (Or.inl ⟨by kernel_rfl, ?_⟩) (by first | assumption | trivial) ?_
          rotate_left
          · (intro wS hSw; (try dsimp only at hSw); go_simp; try with_reducible rfl)
          (try simp only [List.append_eq, List.cons_append, List.nil_append, List.getElem_toArray, List.getElem_cons_succ, List.getElem_cons_zero, Act.put, List.setIfInBounds_toArray, List.set_cons_zero, List.set_cons_succ])
          refine wpAnyH_ready (rs := [10]) (by kernel_rfl) (by simp) ?_
          refine AllReadyH.cons rfl (fun K hK => ?_) AllReadyH.nil
          go_simp
          skip
          go_wp2_with fail
          refine hK.out _ _ (by first | assumption | trivial) (fun hHeld => ?_)
          clear hK K
          (try simp only [List.append_eq, List.cons_append, List.nil_append, List.getElem_toArray, List.getElem_cons_succ, List.getElem_cons_zero, Act.put, List.setIfInBounds_toArray, List.set_cons_zero, List.set_cons_succ])
          refine wpAnyH_done (by kernel_rfl) ?_ _
          refine NoPanic.normal ?_
          go_wp2_with fail
          go_roundw
          case rel => exact ⟨j + 1, by omega, by go_num, hid ⟨HE.out.2.1, B6.out.trans HE.out.2.2.1⟩⟩
          case measure => simp [intOf]; omega
    · have d1 : decide ((j : Int) < (n : Int)) = false := by simp; omega
      have d1' : decide (j < n) = false := by simp; omega
      have hjn : j = n := by omega
      subst hjn
      go_wp2
      go_ret
      exact ⟨m, rfl, hI.out.1, hI.out.2⟩
end
end Go.Proofs.Ytpppmijohfjigaa
