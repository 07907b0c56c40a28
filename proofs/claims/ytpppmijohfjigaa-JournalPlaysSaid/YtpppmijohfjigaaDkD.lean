/-
  What is read, where nothing is; What is read of a sector: plain Lean, no program in sight; What is read, where the power is on; A disk that goes on: what each call leaves; The chapter's examples. A part of the proof: see the head of the text that ends in 'Law'.
-/
import Derived.Test.YtpppmijohfjigaaDkC
import Derived.Test.YtpppmijohfjigaaDkB
import Derived.RegionIn
import Derived.RangeFuncWrites
namespace Go.Proofs.Ytpppmijohfjigaa
section
open Go.RowKit
set_option linter.unusedVariables false
set_option linter.unusedSimpArgs false
attribute [local go_sem] Oper.semAt_some
/-- The boxes of Read: its argument's, and its results'. -/
theorem rd_boxes (w : World) (i : Int) : ∀ W, W = ((w.alloc (.cells #[.int .i64 i] 3)).alloc (.cells #[.slice none 0 0] 24)).alloc (.cells #[.int .i64 0] 25) →
    W.cell? ⟨w.heap.size, 0, none⟩ = some (.int .i64 i) ∧ OwnE W (w.heap.size + 1) 24 [.slice none 0 0] ∧ OwnE W (w.heap.size + 2) 25 [.int .i64 0] ∧ Below w.heap.size w W := by
  rintro W rfl
  have k1 := ((OwnC.new_ w #[.int .i64 i] 3).alloc (.cells #[.slice none 0 0] 24)).alloc (.cells #[.int .i64 0] 25)
  refine ⟨k1.cell rfl, ?_, ?_, (((Below.refl _ w).alloc (Nat.le_refl _) _).alloc (by simp) _).alloc (by simp; omega) _⟩
  · have h := heap_alloc_new (w.alloc (.cells #[.int .i64 i] 3)) (.cells #[.slice none 0 0] 24)
    rw [World.size_alloc] at h
    exact (Below.heap_alloc _ _ _ (by simp)).trans h
  · have h := heap_alloc_new ((w.alloc (.cells #[.int .i64 i] 3)).alloc (.cells #[.slice none 0 0] 24)) (.cells #[.int .i64 0] 25)
    rw [World.size_alloc, World.size_alloc] at h
    exact h
theorem rd_res {tmps : Array Value} {w : World} {g1 g2 : Nat} {v1 v2 : Value} (p1 : tmps.getD 4 undef = .pointer (some ⟨g1, 0, none⟩)) (p2 : tmps.getD 5 undef = .pointer (some ⟨g2, 0, none⟩)) (h1 : w.cell? ⟨g1, 0, none⟩ = some v1) (h2 : w.cell? ⟨g2, 0, none⟩ = some v2) :
    (results Try.f14 tmps).run Try.prog w = .ok (.tuple #[v1, v2]) w := by
  have p1' : tmps[4]?.getD undef = .pointer (some ⟨g1, 0, none⟩) := by simpa using p1
  have p2' : tmps[5]?.getD undef = .pointer (some ⟨g2, 0, none⟩) := by simpa using p2
  have a1 : (isAgg 24).run Try.prog w = .ok false w := by unfold isAgg; rw [Sem.run_bind, run_underlying Try.underlying24 w]; rfl
  have a2 : (isAgg 25).run Try.prog w = .ok false w := by unfold isAgg; rw [Sem.run_bind, run_underlying Try.underlying25 w]; rfl
  simp [results, Try.results14, p1', p2', asAddr, loadVar, Sem.run_bind, a1, a2, h1, h2, Result.andThen]
theorem read_no {W : World} {b0 d hb : Nat} {V : Value} {D : Dsk} (h : DkAt W b0 d hb V D) (i : Int) (hi : ¬ (0 ≤ i ∧ i < D.has.length)) :
    Calls Try.prog 14 #[.pointer (some ⟨d, 0, none⟩), .int .i64 i] W fun e w' => e = .returned (.tuple #[.slice none 0 0, .int .i64 4]) ∧ Below W.heap.size W w' := by
  obtain ⟨y0, z1, z2, bb⟩ := rd_boxes W i _ rfl
  have his := is_any (h.below bb) i
  rw [decide_eq_false hi] at his
  have HIS := hid his
  have HB := hid bb
  have c1 := z1.cell (j := 0) rfl
  have c2 := z2.cell (j := 0) rfl
  have f1 := z1.frozen 0
  have f2 := z2.frozen 0
  have z1' : ∀ v : Value, (((W.alloc (.cells #[.int .i64 i] 3)).alloc (.cells #[.slice none 0 0] 24)).alloc (.cells #[v] 25)).cell? ⟨W.heap.size + 1, 0, none⟩ = some (.slice none 0 0) ∧ (((W.alloc (.cells #[.int .i64 i] 3)).alloc (.cells #[.slice none 0 0] 24)).alloc (.cells #[v] 25)).cell? ⟨W.heap.size + 1 + 1, 0, none⟩ = some v := fun v => by
    have h1 := (OwnC.new_ (W.alloc (.cells #[.int .i64 i] 3)) #[.slice none 0 0] 24).alloc (.cells #[v] 25)
    have h2 := OwnC.new_ ((W.alloc (.cells #[.int .i64 i] 3)).alloc (.cells #[.slice none 0 0] 24)) #[v] 25
    rw [World.size_alloc] at h1
    rw [World.size_alloc, World.size_alloc] at h2
    exact ⟨h1.cell rfl, h2.cell rfl⟩
  clear h hi his bb z1 z2
  go_enter Try.func14, Try.ntmps14
  go_wp2_with (go_at_call 50; (with_reducible refine HIS.out.mono ?_); rintro e w1 ⟨rfl, hw⟩; subst hw)
  have k1 := z1' (.int .i64 4)
  exact bodyPost_ret (rd_res rfl rfl k1.1 k1.2) rfl ⟨rfl, (((Below.refl _ W).alloc (Nat.le_refl _) _).alloc (by simp) _).alloc (by simp; omega) _⟩
theorem read_off {W : World} {b0 d hb : Nat} {V : Value} {D : Dsk} (h : DkAt W b0 d hb V D) (i : Int) (hi : 0 ≤ i ∧ i < D.has.length) (hoff : D.off = true) :
    Calls Try.prog 14 #[.pointer (some ⟨d, 0, none⟩), .int .i64 i] W fun e w' => e = .returned (.tuple #[.slice none 0 0, .int .i64 10]) ∧ Below W.heap.size W w' := by
  obtain ⟨y0, z1, z2, bb⟩ := rd_boxes W i _ rfl
  have his := is_any (h.below bb) i
  rw [decide_eq_true hi] at his
  have x3 := (h.below bb).cells.cell (j := 3) rfl
  rw [hoff] at x3
  have HIS := hid his
  have HB := hid bb
  have c1 := z1.cell (j := 0) rfl
  have c2 := z2.cell (j := 0) rfl
  have f1 := z1.frozen 0
  have f2 := z2.frozen 0
  have z1' : ∀ v : Value, (((W.alloc (.cells #[.int .i64 i] 3)).alloc (.cells #[.slice none 0 0] 24)).alloc (.cells #[v] 25)).cell? ⟨W.heap.size + 1, 0, none⟩ = some (.slice none 0 0) ∧ (((W.alloc (.cells #[.int .i64 i] 3)).alloc (.cells #[.slice none 0 0] 24)).alloc (.cells #[v] 25)).cell? ⟨W.heap.size + 1 + 1, 0, none⟩ = some v := fun v => by
    have h1 := (OwnC.new_ (W.alloc (.cells #[.int .i64 i] 3)) #[.slice none 0 0] 24).alloc (.cells #[v] 25)
    have h2 := OwnC.new_ ((W.alloc (.cells #[.int .i64 i] 3)).alloc (.cells #[.slice none 0 0] 24)) #[v] 25
    rw [World.size_alloc] at h1
    rw [World.size_alloc, World.size_alloc] at h2
    exact ⟨h1.cell rfl, h2.cell rfl⟩
  clear h hi his bb z1 z2 hoff
  go_enter Try.func14, Try.ntmps14
  go_wp2_with (go_at_call 50; (with_reducible refine HIS.out.mono ?_); rintro e w1 ⟨rfl, hw⟩; subst hw)
  have k1 := z1' (.int .i64 10)
  exact bodyPost_ret (rd_res rfl rfl k1.1 k1.2) rfl ⟨rfl, (((Below.refl _ W).alloc (Nat.le_refl _) _).alloc (by simp) _).alloc (by simp; omega) _⟩
end
section
open Go.RowKit
set_option linter.unusedVariables false
set_option linter.unusedSimpArgs false
/-- The last write that waits for a sector. -/
def lastD (ws : List (Int × List UInt8)) (i : Nat) : Option (List UInt8) := ws.foldl (fun a p => if p.1 = (i : Int) then some p.2 else a) none
theorem lastD_snoc (ws : List (Int × List UInt8)) (p : Int × List UInt8) (i : Nat) : lastD (ws ++ [p]) i = if p.1 = (i : Int) then some p.2 else lastD ws i := by
  unfold lastD
  rw [List.foldl_append]
  rfl
/-- What is read of a sector. -/
def readD (D : Dsk) (i : Nat) : List UInt8 := (lastD D.waits i).getD (D.has.getD i [])
/-- What waits, done, is what was read. -/
theorem done_last (ws : List (Int × List UInt8)) (h : List (List UInt8)) (i : Nat) (hi : i < h.length) (hw : ∀ p ∈ ws, 0 ≤ p.1) : ∀ k, k ≤ ws.length → (doneK (fun _ => true) ws h k).getD i [] = (lastD (ws.take k) i).getD (h.getD i [])
  | 0, _ => by simp [doneK, lastD]
  | k + 1, hk => by
    have ih := done_last ws h i hi hw k (by omega)
    have hk' : k < ws.length := hk
    have hg : ws.getD k (0, []) = ws[k] := by rw [List.getD_eq_getElem?_getD, List.getElem?_eq_getElem hk', Option.getD_some]
    have h0 := hw _ (List.getElem_mem hk')
    rw [List.take_succ_eq_append_getElem hk', lastD_snoc, doneK, if_pos rfl, hg]
    have hl : i < (doneK (fun _ => true) ws h k).length := by rw [doneK_len]; exact hi
    by_cases e : ws[k].1 = (i : Int)
    · rw [if_pos e, Option.getD_some, List.getD_eq_getElem?_getD, show ws[k].1.toNat = i by omega, List.getElem?_set_self hl, Option.getD_some]
    · rw [if_neg e, ← ih, List.getD_eq_getElem?_getD, List.getD_eq_getElem?_getD, List.getElem?_set_ne (by omega)]
theorem read_write (h : List (List UInt8)) (ws : List (Int × List UInt8)) (b : Int) (o : Bool) (ys : List Value) (cp : Nat) (j : Int) (s : List UInt8) (i : Nat) : readD ⟨h, ws ++ [(j, s)], b, o, ys, cp⟩ i = if j = (i : Int) then s else readD ⟨h, ws, b, o, ys, cp⟩ i := by
  unfold readD
  rw [lastD_snoc]
  split <;> rfl
theorem read_flush (h : List (List UInt8)) (ws : List (Int × List UInt8)) (b b' : Int) (o o' : Bool) (ys : List Value) (cp : Nat) (i : Nat) (hi : i < h.length) (hw : ∀ p ∈ ws, 0 ≤ p.1) : readD ⟨doneK (fun _ => true) ws h ws.length, [], b, o, ys, cp⟩ i = readD ⟨h, ws, b', o', ys, cp⟩ i := by
  unfold readD
  have := done_last ws h i hi hw ws.length (Nat.le_refl _)
  rw [List.take_length] at this
  exact this
end
section
open Go.RowKit
set_option linter.unusedVariables false
set_option linter.unusedSimpArgs false
attribute [local go_sem] Oper.semAt_some
/-- The loop over what waits, the last one ahead. -/
def findB (i : Nat) : List Iss → Option (List UInt8)
  | [] => none
  | p :: r => if p.1 = (i : Int) then some p.2 else findB i r
theorem findB_append (i : Nat) : ∀ (a b : List Iss), findB i (a ++ b) = (findB i a).or (findB i b)
  | [], _ => by simp [findB]
  | p :: a, b => by
    rw [List.cons_append, findB, findB]
    split
    · simp
    · exact findB_append i a b
theorem findB_last (i : Nat) : ∀ (n : Nat) (ws : List Iss), ws.length = n → findB i ws.reverse = lastD ws i
  | 0, ws, h => by rw [List.eq_nil_of_length_eq_zero h]; rfl
  | n + 1, ws, h => by
    have hne : ws ≠ [] := by intro e; rw [e] at h; simp at h
    have ih := findB_last i n ws.dropLast (by simp [h])
    have e := List.dropLast_concat_getLast hne
    rw [← e, List.reverse_append, lastD_snoc]
    show findB i (ws.getLast hne :: ws.dropLast.reverse) = _
    rw [findB, ih]
theorem keeps_set (B : Nat) (W : World) (a : Addr) (v : Value) (ha : a.block < B) : KeepsFrom B W (W.setCell a v) :=
  KeepsFrom.of_grownBy (row := some a.block) ⟨rfl, rfl, rfl, by simp, fun k hk hne => heap_setCell_other W a k v (fun e => hne (by rw [e]))⟩ (fun j e => by cases e; exact ha)
theorem lift_sub {α : Type} {P : α → Prop} : ∀ l : List α, (∀ x ∈ l, P x) → ∃ ys : List {x : α // P x}, ys.map Subtype.val = l
  | [], _ => ⟨[], rfl⟩
  | a :: l, h => by
    obtain ⟨ys, hy⟩ := lift_sub l (fun x hx => h x (List.mem_cons_of_mem _ hx))
    exact ⟨⟨a, h a List.mem_cons_self⟩ :: ys, by simp [hy]⟩
theorem wpIn_store_new {F : Fence} {n0 : Nat} {P : Program} {op : Oper} {a : Act} {w : World} {K : Act → World → Prop} {Q : Exit → Act → World → Prop} (ty : TypeId) (x y : Operand) (ho : op.op = .store ty x y)
    (t : TypeId) (old cells : Array Value) (hx : a.eval x = .pointer (some ⟨w.heap.size, 0, none⟩)) (hy : a.eval y = .agg cells) (hi : (P.info? ty).map (·.size) = some cells.size) (hs : old.size = cells.size) (h1 : cells.all (·.oneCell') = true)
    (hd : op.dst = none)
    (h : K a (w.alloc (.cells cells t))) : op.wpIn F n0 P a (w.alloc (.cells old t)) K Q := by
  unfold Oper.wpIn
  refine ⟨by simp [Oper.about, ho], ?_⟩
  rw [Oper.semAt_plain F _ _ (by rw [ho]; intro c hc'; cases hc')]
  unfold execOp
  have hst := run_storeVar_row (P := P) (w.alloc (.cells old t)) w.heap.size t ty old cells (heap_alloc_last w _) hi hs h1
  rw [World.setRow_alloc_new] at hst
  simp only [ho, hx, hy, Instr.storeAt, Instr.sureAddr, Sem.run_bind, Sem.run_pure, Result.andThen_ok, hst]
  show K (a.put op.dst undef) _
  rw [hd]
  exact h
/-- The loop's state: nothing of what was looked at is i's. -/
def RI (i : Nat) (w : World) (gi g1 g2 Bf : Nat) (v : Value) (pre : List {p : Nat × Iss // p.2.2.length = 128}) (W : World) : Prop :=
  Below w.heap.size w W ∧ findB i (pre.map (fun x => x.1.2)) = none ∧ OwnE W gi 3 [.int .i64 (i : Int)] ∧ OwnE W g1 24 [.slice none 0 0] ∧ OwnE W g2 25 [.int .i64 0] ∧ OwnE W Bf 92 [v]
def RX (i : Nat) (w : World) (g1 g2 : Nat) (c : Code) (pre : List {p : Nat × Iss // p.2.2.length = 128}) (W : World) : Prop :=
  c = .ret ∧ Below w.heap.size w W ∧ ∃ s h, findB i (pre.map (fun x => x.1.2)) = some s ∧ OwnE W g1 24 [.slice (some ⟨h, 0, none⟩) 128 128] ∧ OwnE W g2 25 [.int .i64 0] ∧ w.heap.size ≤ h ∧ OwnE W h 99 (s.map B8)
theorem cells_ne {X : World} {g r : Nat} {T : TypeId} {xs : List Value} (h : OwnE X g T xs) (hr : ∃ o : Obj, X.heap[r]? = some o ∧ o.isCells = false) : r ≠ g := by
  rintro rfl
  obtain ⟨o, ho, hc⟩ := hr
  rw [show X.heap[r]? = _ from h] at ho
  cases ho
  cases hc
theorem ri_from {i : Nat} {w : World} {gi g1 g2 Bf B : Nat} {v : Value} (hw : w.heap.size ≤ B) : OwnFrom B (RI i w gi g1 g2 Bf v) := by
  rintro pre X Y row ⟨h1, h2, h3, h4, h5, h6⟩ hg hr
  exact ⟨h1.grown hg h1.size (fun r e => by have := (hr r e).1; omega), h2, h3.grown hg (fun e => cells_ne h3 (hr _ e).2 rfl), h4.grown hg (fun e => cells_ne h4 (hr _ e).2 rfl), h5.grown hg (fun e => cells_ne h5 (hr _ e).2 rfl), h6.grown hg (fun e => cells_ne h6 (hr _ e).2 rfl)⟩
theorem rx_from {i : Nat} {w : World} {g1 g2 B : Nat} (hw : w.heap.size ≤ B) (c : Code) : OwnFrom B (RX i w g1 g2 c) := by
  rintro pre X Y row ⟨h0, h1, s, h, h2, h4, h5, h7, h6⟩ hg hr
  exact ⟨h0, h1.grown hg h1.size (fun r e => by have := (hr r e).1; omega), s, h, h2, h4.grown hg (fun e => cells_ne h4 (hr _ e).2 rfl), h5.grown hg (fun e => cells_ne h5 (hr _ e).2 rfl), h7, h6.grown hg (fun e => cells_ne h6 (hr _ e).2 rfl)⟩
/-- Read's answer: the octets s, in memory of their own. -/
def RdPost (W : World) (s : List UInt8) (e : Ending) (w' : World) : Prop := ∃ h, e = .returned (.tuple #[.slice (some ⟨h, 0, none⟩) 128 128, .int .i64 0]) ∧ W.heap.size ≤ h ∧ OwnE w' h 99 (s.map B8) ∧ Below W.heap.size W w'
theorem OwnE.put {W : World} {g D : Nat} {T : TypeId} {xs : List Value} (h : OwnE W g T xs) {o : Obj} (o' : Obj) (hD : W.heap[D]? = some o) (ho : o.isCells = false) : OwnE (W.putObj D o') g T xs := by
  have hne : g ≠ D := by
    rintro rfl
    rw [show W.heap[g]? = _ from h] at hD
    cases hD
    cases ho
  exact (World.putObj_heap_other (w := W) (r := D) (k := g) (o := o') hne).trans h
set_option maxRecDepth 100000 in
set_option maxHeartbeats 4000000 in
theorem read_on {W : World} {b0 d hb : Nat} {V : Value} {D : Dsk} (h : DkAt W b0 d hb V D) (i : Nat) (hi : i < D.has.length) (hoff : D.off = false) (hw : D.waits.length ≤ 100000) :
    Calls Try.prog 14 #[.pointer (some ⟨d, 0, none⟩), .int .i64 (i : Int)] W (RdPost W (readD D i)) := by
  obtain ⟨y0, z1, z2, bb⟩ := rd_boxes W (i : Int) _ rfl
  have his := is_any (h.below bb) (i : Int)
  rw [decide_eq_true ⟨by omega, by omega⟩] at his
  have x3 := (h.below bb).cells.cell (j := 3) rfl
  rw [hoff] at x3
  have x1 := (h.below bb).cells.cell (j := 1) rfl
  have HIS := hid his
  have HB := hid bb
  have H := hid h
  have hV : ∃ A c, V = .slice A D.waits.length c := by
    rcases h.wait.2 with ⟨e, e2⟩ | ⟨g, cap, cur, e, _⟩
    · rw [e2]; exact ⟨none, 0, e⟩
    · exact ⟨_, _, e⟩
  obtain ⟨A0, c0, rfl⟩ := hV
  have hA : ∃ g, (0 < D.waits.length → A0 = some ⟨g, 0, none⟩) ∧ ∀ (k : Nat) (hk : k < D.waits.length), W.rangeAt g (k * 129) (isC (D.waits[k]'hk)) := by
    by_cases h0 : 0 < D.waits.length
    · obtain ⟨g, c1, e1, hr⟩ := wait_range h h0
      injection e1 with eA _ _
      exact ⟨g, fun _ => eA, hr⟩
    · exact ⟨0, fun h1 => absurd h1 h0, fun k hk => by omega⟩
  obtain ⟨g, hA, hR⟩ := hA
  have HA := hid hA
  have HR := hid hR
  obtain ⟨n, hn⟩ : ∃ n, D.waits.length = n := ⟨_, rfl⟩
  have HN := hid hn
  rw [hn] at x1 hA
  have z0 : OwnE (((W.alloc (.cells #[.int .i64 (i : Int)] 3)).alloc (.cells #[.slice none 0 0] 24)).alloc (.cells #[.int .i64 0] 25)) W.heap.size 3 [.int .i64 (i : Int)] := by
    exact (Below.heap_alloc _ _ _ (by simp; omega)).trans ((Below.heap_alloc _ _ _ (by simp)).trans (heap_alloc_new W _))
  obtain ⟨W1, hW1⟩ : ∃ W1, ((W.alloc (.cells #[.int .i64 (i : Int)] 3)).alloc (.cells #[.slice none 0 0] 24)).alloc (.cells #[.int .i64 0] 25) = W1 := ⟨_, rfl⟩
  have hsz : W1.heap.size = W.heap.size + 3 := by rw [← hW1]; simp
  rw [hW1] at z0 z1 z2 y0 HIS HB x3 x1
  have HW1 := hid hW1
  have HSZ := hid hsz
  have Z0 := hid z0
  have Z1 := hid z1
  have Z2 := hid z2
  have HA2 := hid hA
  clear h hoff his bb hW1 hR hsz z0 z1 z2 hA hn
  refine (callsIn_wide (n := 8)).1 (callsIn_of_wp_marks Try.func14 rfl trivial ?_ rfl)
  simp only [Try.ntmps14, List.size_toArray, List.length_cons, List.length_nil, Nat.reduceAdd, Nat.reduceSub, Array.replicate_succ, Array.replicate_zero, List.push_toArray, List.append_toArray, List.nil_append, List.cons_append]
  refine wpIn_wide.2 ?_
  go_upto_region 0 with fail
  go_cut [3, 4, 5] from 3 to 5 (fun a b c wx => a = .pointer (some ⟨W.heap.size, 0, none⟩) ∧ b = .pointer (some ⟨W.heap.size + 1, 0, none⟩) ∧ c = .pointer (some ⟨W.heap.size + 2, 0, none⟩) ∧ W1 = wx)
  case first =>
    go_wp2_with fail
    go_meet
    exact ⟨rfl, rfl, by simp, HW1.out.symm⟩
  case rest =>
  obtain ⟨rfl, rfl, rfl, hw1⟩ := hcut
  subst hw1
  go_upto_region 5 with (first
    | (go_at_call 50; (with_reducible refine HIS.out.mono ?_); rintro e w1 ⟨rfl, hw⟩; subst hw)
    | (go_at_call 51; refine (back_any A0 n c0 _).mono ?_; rintro e w5 ⟨rfl, rfl⟩))
  go_wp2_with (go_at_call 51; refine (back_any A0 n c0 _).mono ?_; rintro e w5 ⟨rfl, rfl⟩)
  refine (wpIn_wide (n := 8)).1 ?_
  obtain ⟨W2, hW2⟩ : ∃ W2, W1.alloc (.cells #[.slice A0 n c0] 92) = W2 := ⟨_, rfl⟩
  have hbf : OwnE W2 W1.heap.size 92 [.slice A0 n c0] := by rw [← hW2]; exact heap_alloc_new W1 _
  have hb12 : Below W1.heap.size W1 W2 := by rw [← hW2]; exact (Below.refl _ _).alloc (Nat.le_refl _) _
  have hs2 : W2.heap.size = W.heap.size + 4 := by rw [← hW2, World.size_alloc, HSZ.out]
  have hbw2 : Below W.heap.size W W2 := HB.out.trans (hb12.mono HB.out.size)
  have hB1 : W1.heap.size = W.heap.size + 3 := HSZ.out
  rw [hW2]
  clear hW2
  have hys : ∃ ys : List {p : Nat × Iss // p.2.2.length = 128}, ys.map Subtype.val = backL D.waits := lift_sub _ (fun x hx => by
    unfold backL at hx
    obtain ⟨k, hk, rfl⟩ := List.mem_map.1 hx
    have hk' : k < D.waits.length := by simpa using hk
    show (D.waits.getD k (0, [])).2.length = 128
    rw [List.getD_eq_getElem?_getD, List.getElem?_eq_getElem hk', Option.getD_some]
    exact (H.out.wlen _ (List.getElem_mem hk')).1)
  obtain ⟨ys, hys⟩ := hys
  have hfind : findB i (ys.map (fun x => x.1.2)) = lastD D.waits i := by
    have : ys.map (fun x => x.1.2) = (ys.map Subtype.val).map Prod.snd := by rw [List.map_map]; rfl
    rw [this, hys, backL_snd, findB_last i _ _ rfl]
  have HFIND := hid hfind
  have HBW2 := hid hbw2
  have HN' := HN.out
  obtain ⟨zer, zsz⟩ := iss_zero
  have HZS := hid zsz
  clear hfind zsz
  refine wpIn_rangeFunc_ownH rfl (by omega) (gf := 75) (lb := #[.pointer (some ⟨W1.heap.size, 0, none⟩)]) rfl trivial (enters_of Try.func75 (by kernel_rfl) rfl)
    (back_stops Subtype.val ys (8 - 1) (by omega) W1.heap.size D.waits A0 g n c0 HA2.out W HR.out (fun p hp => (H.out.wlen p hp).1) HN' (by omega) hys W2 hbw2 (hbf.cell (j := 0) rfl) hbf.lt) kpf_t (kpf_b (by rw [hs2]; omega) (by rw [hs2, hB1]; omega)) (Below.refl _ _) (fun _ => rfl)
    (RI i W W.heap.size (W.heap.size + 1) (W.heap.size + 2) W1.heap.size (.slice A0 n c0)) (RX i W (W.heap.size + 1) (W.heap.size + 2)) (ri_from (by rw [hs2]; omega)) (rx_from (by rw [hs2]; omega))
    ⟨hbw2, rfl, Z0.out.below hb12, Z1.out.below hb12, Z2.out.below hb12, hbf⟩
    (fun x a' W' => ∃ gx, W.heap.size ≤ gx ∧ a' = { tmps := #[.pointer (some ⟨d, 0, none⟩), .int .i64 (i : Int), undef, .pointer (some ⟨W.heap.size, 0, none⟩), .pointer (some ⟨W.heap.size + 1, 0, none⟩), .pointer (some ⟨W.heap.size + 2, 0, none⟩), undef, .pointer (some ⟨gx, 0, none⟩), .bool false, .pointer (some ⟨d, 0, none⟩), .int .i64 (i : Int), .bool true, .bool false, .bool false, .pointer (some ⟨d, 0, none⟩), .pointer (some ⟨d, 0, none⟩), .pointer (some ⟨d, 3, none⟩), .bool false, .pointer (some ⟨d, 0, none⟩), .pointer (some ⟨d, 0, none⟩), .pointer (some ⟨d, 1, none⟩), .slice A0 n c0, .func (.func 75) #[] #[.pointer (some ⟨W1.heap.size, 0, none⟩)], KV x.1.1, IV x.1.2, undef, undef, undef, undef, undef, undef, undef, undef, undef, undef, undef, undef, undef, undef, undef], defers := [] } ∧ OwnE W' gx 101 (isC x.1.2))
    (fun x a' => by
      rintro _ X Y row ⟨gx, h0, h1, h2⟩ hg hr
      exact ⟨gx, h0, h1, h2.grown hg (fun e => cells_ne h2 (hr _ e).2 rfl)⟩) ?assign ?body ?done ?stop
  case assign =>
    intro lq pre x W3 K hI hK
    have HK := hid hK
    have HI := hid hI
    have HSX := hid (show (Try.prog.info? 101).map (·.size) = some (isC x.1.2).toArray.size by rw [HZS.out, List.size_toArray, isC_len _ x.2])
    clear hK hI
    clear hB1 hs2 x1 x3 y0 hys hbf hb12 hbw2
    gi_wp2_with (refine wpIn_store_new 101 (.tmp 7) (.tmp 24) rfl 101 zIss (isC x.1.2).toArray rfl rfl HSX.out (by rw [zIss_size, List.size_toArray, isC_len _ x.2]) (all_oneCell_toArray (isC_one x.1.2)) rfl ?_)
    refine HK.out _ _ ?_ ?_ ?_ ?_
    · exact KeepsFrom.of_grownBy (grown_of_below ((Below.refl _ _).alloc (Nat.le_refl _) _)) (fun j e => by cases e)
    · refine kpf_of (((Below.refl _ _).alloc (Nat.le_refl _) _).mono HI.out.1.size) ?_
      exact (Below.heap_alloc _ _ _ HI.out.2.2.2.2.2.lt)
    · have hb := (Below.refl W3.heap.size W3).alloc (Nat.le_refl _) (.cells (isC x.1.2).toArray 101)
      exact ⟨HI.out.1.trans (hb.mono HI.out.1.size), HI.out.2.1, HI.out.2.2.1.below hb, HI.out.2.2.2.1.below hb, HI.out.2.2.2.2.1.below hb, HI.out.2.2.2.2.2.below hb⟩
    · exact ⟨W3.heap.size, HI.out.1.size, rfl, heap_alloc_new W3 _⟩
  case body =>
    rintro lq pre x a' W3 hlq hlr ⟨hb, hs, h0, h1, h2, h5⟩ ⟨gx, hgx, rfl, hx⟩ hlt
    dsimp only
    have k3 := h0.cell (j := 0) rfl
    have kx := hx.cell (j := 0) (u := .int .i64 x.1.2.1) rfl
    have HBb := hid hb
    have H0 := hid h0
    have H1 := hid h1
    have H2 := hid h2
    have H5 := hid h5
    have HX := hid hx
    have HS := hid hs
    have f1 := h1.frozen 0
    have f2 := h2.frozen 0
    have c1 := h1.cell (j := 0) rfl
    have c2 := h2.cell (j := 0) rfl
    clear hB1 x1 x3 y0 hys hbf hb12 hbw2 hb h0 h1 h2 h5 hx hs hlr
    by_cases he : x.1.2.1 = (i : Int)
    · have d1 : (x.1.2.1 == (i : Int)) = true := by simpa using he
      have hsec : W3.rangeAt gx 1 (x.1.2.2.map B8) := fun j v hv => HX.out.cell (j := 1 + j) (by rw [Nat.add_comm]; show (isC x.1.2)[j + 1]? = some v; unfold isC; rw [List.getElem?_cons_succ]; exact hv)
      have HSEC := hid hsec
      have HSS := hid (show (Try.prog.info? 99).map (·.size) = some (x.1.2.2.map B8).length by rw [sec_info, List.length_map, x.2])
      have HOC := hid (octets_any x.1.2.2 x.2 W3)
      have hbA : Below W3.heap.size W3 (W3.alloc (.cells (x.1.2.2.map B8).toArray 99)) := (Below.refl _ _).alloc (Nat.le_refl _) _
      have q1 := H1.out.below hbA
      have q2 := H2.out.below hbA
      have q3 : OwnE (W3.alloc (.cells (x.1.2.2.map B8).toArray 99)) W3.heap.size 99 (x.1.2.2.map B8) := heap_alloc_new W3 _
      have f1 := q1.frozen 0
      have f2 := q2.frozen 0
      have c1 := q1.cell (j := 0) rfl
      have c2 := q2.cell (j := 0) rfl
      have HbA := hid hbA
      have Q1 := hid q1
      have Q2 := hid q2
      have Q3 := hid q3
      have HS2 := hid hs2
      clear hsec hbA q1 q2 q3 hs2
      gi_wp2_with (first
        | (refine wpIn_load_mid 99 (.tmp 29) rfl gx 1 rfl (x.1.2.2.map B8) _ HSEC.out Try.underlying99 rfl HSS.out ?_)
        | (refine ⟨trivial, ?_⟩; gi_at_call 52; refine (CallsIn.inRound lq (callsIn_wide.2 HOC.out)).mono ?_; rintro e w6 ⟨rfl, rfl⟩))
      have hw3 := HBb.out.size
      have hl1 := H1.out.lt
      have hl2 := H2.out.lt
      have hs2 := HS2.out
      refine ⟨?_, rfl, ?_, x.1.2.2, W3.heap.size, ?_, ?_, ?_, hw3, ?_⟩
      · exact ((KeepsFrom.of_grownBy (grown_of_below HbA.out) (fun j e => by cases e)).trans (keeps_set _ _ ⟨W.heap.size + 1, 0, none⟩ _ (by show W.heap.size + 1 < _; omega))).trans (keeps_set _ _ ⟨W.heap.size + 2, 0, none⟩ _ (by show W.heap.size + 2 < _; omega))
      · exact ((HBb.out.trans (HbA.out.mono hw3)).setCell (p := ⟨W.heap.size + 1, 0, none⟩) (by show _ ≤ W.heap.size + 1; omega) _).setCell (p := ⟨W.heap.size + 2, 0, none⟩) (by show _ ≤ W.heap.size + 2; omega) _
      · rw [List.map_append, findB_append, HS.out]
        show (none : Option (List UInt8)).or (findB i [x.1.2]) = _
        rw [findB, if_pos he]
        rfl
      · exact (Q1.out.set 0 _).far (by omega) _
      · exact (Q2.out.far (by omega) _).set 0 _
      · exact (Q3.out.far (by omega) _).far (by omega) _
    · have d1 : (x.1.2.1 == (i : Int)) = false := by simpa using he
      gi_wp2
      refine ⟨KeepsFrom.refl _ _, ⟨Below.mono (Below.refl _ _) HBb.out.size, fun j => rfl⟩, HBb.out, ?_, H0.out, H1.out, H2.out, H5.out⟩
      rw [List.map_append, findB_append, HS.out]
      show (none : Option (List UInt8)).or (findB i [x.1.2]) = _
      rw [findB, if_neg he]
      rfl
  case done =>
    rintro Dd zs W3 hD rfl ⟨hbl, hs, h0, h1, h2, h5⟩ hK
    simp only [Exit.inBlock, Exit.then]
    have hrd : readD D i = D.has[i]'hi := by
      unfold readD
      rw [← HFIND.out, hs, Option.getD_none, List.getD_eq_getElem?_getD, List.getElem?_eq_getElem hi, Option.getD_some]
    obtain ⟨s, hsx⟩ : ∃ s, D.has[i]'hi = s := ⟨_, rfl⟩
    have hsl := H.out.len _ (List.getElem_mem hi)
    have hran := range_only (T := fun _ => False) (H.out.range i hi) (Only.of_below hbl) (fun h => h)
    rw [hsx] at hsl hran hrd
    have x0 := cells_keep hbl (H.out.cells.cell (j := 0) rfl)
    obtain ⟨nh, hnh⟩ : ∃ nh, D.has.length = nh := ⟨_, rfl⟩
    rw [hnh] at x0
    have i0 : (0 : Int) ≤ (i : Int) := by omega
    have i1 : (i : Int) < (nh : Int) := by omega
    have i2 : (i : Int).toNat = i := by omega
    have k3 := h0.cell (j := 0) rfl
    have hS : W3.drew.cell? ⟨d, 0, none⟩ = some (.slice (some ⟨hb, 0, none⟩) nh D.cp) ∧ W3.drew.cell? ⟨W.heap.size, 0, none⟩ = some (.int .i64 (i : Int)) ∧ W3.drew.rangeAt hb (i * 128) (s.map B8) := ⟨x0, k3, hran⟩
    have HSS := hid (show (Try.prog.info? 99).map (·.size) = some (s.map B8).length by rw [sec_info, List.length_map, hsl])
    have HOC := hid (octets_any s hsl)
    have hbA : Below W3.heap.size W3 (W3.alloc (.cells (s.map B8).toArray 99)) := (Below.refl _ _).alloc (Nat.le_refl _) _
    have hSA : (W3.alloc (.cells (s.map B8).toArray 99)).cell? ⟨d, 0, none⟩ = some (.slice (some ⟨hb, 0, none⟩) nh D.cp) ∧ (W3.alloc (.cells (s.map B8).toArray 99)).cell? ⟨W.heap.size, 0, none⟩ = some (.int .i64 (i : Int)) ∧ (W3.alloc (.cells (s.map B8).toArray 99)).rangeAt hb (i * 128) (s.map B8) := ⟨cells_keep hbA x0, cells_keep hbA k3, range_only (T := fun _ => False) hran (Only.of_below hbA) (fun h => h)⟩
    have q1 := h1.below hbA
    have q2 := h2.below hbA
    have q3 : OwnE (W3.alloc (.cells (s.map B8).toArray 99)) W3.heap.size 99 (s.map B8) := heap_alloc_new W3 _
    have f1 := q1.frozen 0
    have f2 := q2.frozen 0
    have c1 := q1.cell (j := 0) rfl
    have c2 := q2.cell (j := 0) rfl
    have hdW : d < W.heap.size := H.out.cells.lt
    have hhW : hb < W.heap.size := H.out.sect.lt
    have hS1 : ∀ (X : World) (v : Value), (X.cell? ⟨d, 0, none⟩ = some (.slice (some ⟨hb, 0, none⟩) nh D.cp) ∧ X.cell? ⟨W.heap.size, 0, none⟩ = some (.int .i64 (i : Int)) ∧ X.rangeAt hb (i * 128) (s.map B8)) → ((X.setCell ⟨W.heap.size + 1, 0, none⟩ v).cell? ⟨d, 0, none⟩ = some (.slice (some ⟨hb, 0, none⟩) nh D.cp) ∧ (X.setCell ⟨W.heap.size + 1, 0, none⟩ v).cell? ⟨W.heap.size, 0, none⟩ = some (.int .i64 (i : Int)) ∧ (X.setCell ⟨W.heap.size + 1, 0, none⟩ v).rangeAt hb (i * 128) (s.map B8)) := fun X v hX =>
      ⟨by rw [World.cell?_setCell_other _ _ _ _ (fun e => by injection e; omega)]; exact hX.1, by rw [World.cell?_setCell_other _ _ _ _ (fun e => by injection e; omega)]; exact hX.2.1, range_only hX.2.2 (Only.of_set (T := fun g => g = W.heap.size + 1) X ⟨W.heap.size + 1, 0, none⟩ v rfl) (fun h => by omega)⟩
    have hS2 : ∀ (X : World) (v : Value), (X.cell? ⟨d, 0, none⟩ = some (.slice (some ⟨hb, 0, none⟩) nh D.cp) ∧ X.cell? ⟨W.heap.size, 0, none⟩ = some (.int .i64 (i : Int)) ∧ X.rangeAt hb (i * 128) (s.map B8)) → ((X.setCell ⟨W.heap.size + 2, 0, none⟩ v).cell? ⟨d, 0, none⟩ = some (.slice (some ⟨hb, 0, none⟩) nh D.cp) ∧ (X.setCell ⟨W.heap.size + 2, 0, none⟩ v).cell? ⟨W.heap.size, 0, none⟩ = some (.int .i64 (i : Int)) ∧ (X.setCell ⟨W.heap.size + 2, 0, none⟩ v).rangeAt hb (i * 128) (s.map B8)) := fun X v hX =>
      ⟨by rw [World.cell?_setCell_other _ _ _ _ (fun e => by injection e; omega)]; exact hX.1, by rw [World.cell?_setCell_other _ _ _ _ (fun e => by injection e; omega)]; exact hX.2.1, range_only hX.2.2 (Only.of_set (T := fun g => g = W.heap.size + 2) X ⟨W.heap.size + 2, 0, none⟩ v rfl) (fun h => by omega)⟩
    have hSB := hS1 _ (.slice (some ⟨W3.heap.size, 0, none⟩) 128 128) hSA
    have hSC := hS2 _ (.int .i64 0) hSB
    have hD1 : ∀ X : World, (X.cell? ⟨d, 0, none⟩ = some (.slice (some ⟨hb, 0, none⟩) nh D.cp) ∧ X.cell? ⟨W.heap.size, 0, none⟩ = some (.int .i64 (i : Int)) ∧ X.rangeAt hb (i * 128) (s.map B8)) → (X.drew.cell? ⟨d, 0, none⟩ = some (.slice (some ⟨hb, 0, none⟩) nh D.cp) ∧ X.drew.cell? ⟨W.heap.size, 0, none⟩ = some (.int .i64 (i : Int)) ∧ X.drew.rangeAt hb (i * 128) (s.map B8)) := fun X h => h
    replace hSA := hD1 _ hSA
    replace hSB := hD1 _ hSB
    replace hSC := hD1 _ hSC
    clear hD1
    clear hS1 hS2 hdW hhW
    have HRD := hid hrd
    have HK := hid hK
    have Q1 := hid q1
    have Q2 := hid q2
    have Q3 := hid q3
    have HbA := hid hbA
    have HD := hid hD
    have HBL := hid hbl
    have L0 := hid (And.intro h0.lt (And.intro h1.lt h2.lt))
    have HS2 := hid hs2
    clear hB1 x1 x3 y0 hys hbf hb12 hbw2 hbl hs h0 h1 h2 h5 hrd hsx hran hsl hnh k3 hbA q1 q2 q3 hK hD hs2 x0
    go_upto_region 9 with fail
    refine wp_region_noPanic ?_
    refine wp_region_held_drew (S := (fun X => X.cell? ⟨d, 0, none⟩ = some (.slice (some ⟨hb, 0, none⟩) nh D.cp) ∧ X.cell? ⟨W.heap.size, 0, none⟩ = some (.int .i64 (i : Int)) ∧ X.rangeAt hb (i * 128) (s.map B8))) (by kernel_rfl) (by first | assumption | trivial) (fun hHeld => ?_)
    refine wpAnyH_take (i := 0) (v := ?_) rfl (by kernel_rfl) (by kernel_rfl) (by kernel_rfl) (fun _ _ _ h => h) (Or.inl ⟨by kernel_rfl, ?_⟩) (by first | assumption | trivial) ?_
    rotate_left
    · (intro wS hSw; (try dsimp only at hSw); go_simp; try with_reducible rfl)
    (try simp only [List.append_eq, List.cons_append, List.nil_append, List.getElem_toArray, List.getElem_cons_succ, List.getElem_cons_zero, Act.put, List.setIfInBounds_toArray, List.set_cons_zero, List.set_cons_succ])
    refine wpAnyH_take (i := 1) (v := ?_) rfl (by kernel_rfl) (by kernel_rfl) (by kernel_rfl) (fun _ _ _ h => h) (Or.inl ⟨by kernel_rfl, ?_⟩) (by first | assumption | trivial) ?_
    rotate_left
    · (intro wS hSw; (try dsimp only at hSw); go_simp; try with_reducible rfl)
    (try simp only [List.append_eq, List.cons_append, List.nil_append, List.getElem_toArray, List.getElem_cons_succ, List.getElem_cons_zero, Act.put, List.setIfInBounds_toArray, List.set_cons_zero, List.set_cons_succ])
    refine wpAnyH_take (i := 2) (v := ?_) rfl (by kernel_rfl) (by kernel_rfl) (by kernel_rfl) (fun _ _ _ h => h) (Or.inl ⟨by kernel_rfl, ?_⟩) (by first | assumption | trivial) ?_
    rotate_left
    · (intro wS hSw; (try dsimp only at hSw); go_simp; try with_reducible rfl)
    (try simp only [List.append_eq, List.cons_append, List.nil_append, List.getElem_toArray, List.getElem_cons_succ, List.getElem_cons_zero, Act.put, List.setIfInBounds_toArray, List.set_cons_zero, List.set_cons_succ])
    refine wpAnyH_take (i := 3) (v := ?_) rfl (by kernel_rfl) (by kernel_rfl) (by kernel_rfl) (fun _ _ _ h => h) (Or.inl ⟨by kernel_rfl, ?_⟩) (by first | assumption | trivial) ?_
    rotate_left
    · (intro wS hSw; (try dsimp only at hSw); go_simp; try with_reducible rfl)
    (try simp only [List.append_eq, List.cons_append, List.nil_append, List.getElem_toArray, List.getElem_cons_succ, List.getElem_cons_zero, Act.put, List.setIfInBounds_toArray, List.set_cons_zero, List.set_cons_succ])
    refine wpAnyH_take (i := 4) (v := ?_) rfl (by kernel_rfl) (by kernel_rfl) (by kernel_rfl) (fun _ _ _ h => h) (Or.inl ⟨by kernel_rfl, ?_⟩) (by first | assumption | trivial) ?_
    rotate_left
    · (intro wS hSw; (try dsimp only at hSw); go_simp; try with_reducible rfl)
    (try simp only [List.append_eq, List.cons_append, List.nil_append, List.getElem_toArray, List.getElem_cons_succ, List.getElem_cons_zero, Act.put, List.setIfInBounds_toArray, List.set_cons_zero, List.set_cons_succ])
    refine wpAnyH_take (i := 5) (v := ?_) rfl (by kernel_rfl) (by kernel_rfl) (by kernel_rfl) (fun _ _ _ h => h) (Or.inl ⟨by kernel_rfl, ?_⟩) (by first | assumption | trivial) ?_
    rotate_left
    · (intro wS hSw; (try dsimp only at hSw); go_simp; try with_reducible rfl)
    (try simp only [List.append_eq, List.cons_append, List.nil_append, List.getElem_toArray, List.getElem_cons_succ, List.getElem_cons_zero, Act.put, List.setIfInBounds_toArray, List.set_cons_zero, List.set_cons_succ])
    refine wpAnyH_take (i := 6) (v := .agg (s.map B8).toArray) rfl (by kernel_rfl) (by kernel_rfl) (by kernel_rfl) (fun _ _ _ h => h) (yieldsIf_load_mid (by kernel_rfl) 99 (.tmp 37) rfl hb (i * 128) rfl (s.map B8) _ (fun w h => h.2.2) Try.underlying99 rfl HSS.out) (by assumption) ?_
    (try simp only [List.getElem_toArray, List.getElem_cons_succ, List.getElem_cons_zero, Act.put, List.setIfInBounds_toArray, List.set_cons_zero, List.set_cons_succ])
    refine wpAnyH_ready (rs := [7]) (by kernel_rfl) (by simp) ?_
    refine AllReadyH.cons rfl (fun K hK => ?_) AllReadyH.nil
    go_simp
    (go_at_call 52; refine (HOC.out _).mono ?_; rintro e w6 ⟨rfl, rfl⟩)
    go_wp2_with fail
    refine hK.out _ _ (by first | assumption | trivial) (fun hHeld => ?_)
    clear hK K
    (try simp only [List.append_eq, List.cons_append, List.nil_append, List.getElem_toArray, List.getElem_cons_succ, List.getElem_cons_zero, Act.put, List.setIfInBounds_toArray, List.set_cons_zero, List.set_cons_succ])
    refine wpAnyH_ready (rs := [8]) (by kernel_rfl) (by simp) ?_
    refine AllReadyH.cons rfl (fun K hK => ?_) AllReadyH.nil
    go_simp
    skip
    go_wp2_with fail
    refine hK.out _ _ (by first | assumption | trivial) (fun hHeld => ?_)
    clear hK K
    (try simp only [List.append_eq, List.cons_append, List.nil_append, List.getElem_toArray, List.getElem_cons_succ, List.getElem_cons_zero, Act.put, List.setIfInBounds_toArray, List.set_cons_zero, List.set_cons_succ])
    refine wpAnyH_ready (rs := [9]) (by kernel_rfl) (by simp) ?_
    refine AllReadyH.cons rfl (fun K hK => ?_) AllReadyH.nil
    go_simp
    skip
    go_wp2_with fail
    refine hK.out _ _ (by first | assumption | trivial) (fun hHeld => ?_)
    clear hK K
    (try simp only [List.append_eq, List.cons_append, List.nil_append, List.getElem_toArray, List.getElem_cons_succ, List.getElem_cons_zero, Act.put, List.setIfInBounds_toArray, List.set_cons_zero, List.set_cons_succ])
    refine wpAnyH_done (by kernel_rfl) ?_ _
    refine NoPanic.normal ?_
    go_wp2_with fail
    have hd2 := HD.out
    have hs2' := HS2.out
    have hl := L0.out
    have hle := HBL.out.size
    have hDd : W.heap.size ≤ Dd := by omega
    have u1 := (((Q1.out.set 0 (.slice (some ⟨W3.heap.size, 0, none⟩) 128 128)).far (b := W.heap.size + 2) (i := 0) (by omega) (.int .i64 0)))
    have u2 := ((Q2.out.far (b := W.heap.size + 1) (i := 0) (by omega) (.slice (some ⟨W3.heap.size, 0, none⟩) 128 128)).set 0 (.int .i64 0))
    have u3 := ((Q3.out.far (b := W.heap.size + 1) (i := 0) (by omega) (.slice (some ⟨W3.heap.size, 0, none⟩) 128 128)).far (b := W.heap.size + 2) (i := 0) (by omega) (.int .i64 0))
    have zB := bq (((HBL.out.trans (HbA.out.mono hle)).setCell (p := ⟨W.heap.size + 1, 0, none⟩) (by show _ ≤ W.heap.size + 1; omega) (.slice (some ⟨W3.heap.size, 0, none⟩) 128 128)).setCell (p := ⟨W.heap.size + 2, 0, none⟩) (by show _ ≤ W.heap.size + 2; omega) (.int .i64 0)) 1
    have zK0 : (W3.alloc (.cells (s.map B8).toArray 99)).heap[Dd]? = some (.deferred (some [])) := (HbA.out.block Dd (lt_of_heap HK.out)).trans HK.out
    have zK := ((KeepsOthers.setCell (W3.alloc (.cells (s.map B8).toArray 99)) ⟨W.heap.size + 1, 0, none⟩ (.slice (some ⟨W3.heap.size, 0, none⟩) 128 128)).trans (KeepsOthers.setCell _ ⟨W.heap.size + 2, 0, none⟩ (.int .i64 0))).same Dd _ zK0 rfl
    obtain ⟨Wf, hWf⟩ : ∃ Wf, (((W3.alloc (.cells (s.map B8).toArray 99)).setCell ⟨W.heap.size + 1, 0, none⟩ (.slice (some ⟨W3.heap.size, 0, none⟩) 128 128)).setCell ⟨W.heap.size + 2, 0, none⟩ (.int .i64 0)).drew = Wf := ⟨_, rfl⟩
    have u1 : OwnE Wf (W.heap.size + 1) 24 [.slice (some ⟨W3.heap.size, 0, none⟩) 128 128] := by rw [← hWf]; exact u1
    have u2 : OwnE Wf (W.heap.size + 2) 25 [.int .i64 0] := by rw [← hWf]; exact u2
    have u3 : OwnE Wf W3.heap.size 99 (s.map B8) := by rw [← hWf]; exact u3
    have zB : Below W.heap.size W Wf := by rw [← hWf]; exact zB
    have zK : Wf.heap[Dd]? = some (.deferred (some [])) := by rw [← hWf]; exact zK
    rw [hWf]
    refine ⟨by simp, .inl ⟨_, _, rfl, run_takeDeferred zK, ?_⟩⟩
    refine ⟨_, rd_res rfl rfl ((u1.put (.deferred none) zK rfl).cell (j := 0) rfl) ((u2.put (.deferred none) zK rfl).cell (j := 0) rfl), ?_⟩
    rw [HRD.out]
    exact ⟨_, rfl, hle, u3.put (.deferred none) zK rfl, zB.trans (belowK_b (w := W) (Nat.le_refl _) _ Dd _ _ hDd zK rfl rfl)⟩
  case stop =>
    rintro Dd c' pre W3 hD hSp ⟨rfl, hbl, s, hh, hf, h1, h2, hhs, h3⟩ hK
    have hrd : readD D i = s := by
      obtain ⟨r, hr⟩ := hSp
      unfold readD
      rw [← HFIND.out, ← hr, List.map_append, findB_append, hf]
      rfl
    have HRD := hid hrd
    have HK := hid hK
    have H1 := hid h1
    have H2 := hid h2
    have H3 := hid h3
    have HBL := hid hbl
    clear hrd hK h1 h2 h3 hbl hB1 x1 x3 y0 hys hbf hb12 hbw2 hf hSp
    refine wpIn_wide.2 ?_
    go_wp2_with fail
    have hDd : W.heap.size ≤ Dd := by omega
    have hle := hhs
    have u1 := H1.out
    have u2 := H2.out
    have u3 := H3.out
    have zB := HBL.out
    have zK := HK.out
    refine ⟨by simp, .inl ⟨_, _, rfl, run_takeDeferred zK, ?_⟩⟩
    refine ⟨_, rd_res rfl rfl ((u1.put (.deferred none) zK rfl).cell (j := 0) rfl) ((u2.put (.deferred none) zK rfl).cell (j := 0) rfl), ?_⟩
    rw [HRD.out]
    exact ⟨_, rfl, hle, u3.put (.deferred none) zK rfl, zB.trans (belowK_b (w := W) (Nat.le_refl _) _ Dd _ _ hDd zK rfl rfl)⟩
end
section
open Go.RowKit
set_option linter.unusedVariables false
set_option linter.unusedSimpArgs false
attribute [local go_sem] Oper.semAt_some
/-- The disk at d, made behind w0. -/
structure St (w0 W : World) (d hb : Nat) (D : Dsk) : Prop where
  at_ : ∃ V, DkAt W w0.heap.size d hb V D
  bel : Below w0.heap.size w0 W
  nl : ∀ V, DkAt W w0.heap.size d hb V D → D.waits = [] → V = .slice none 0 0
theorem DkAt.uniq {W : World} {b0 d hb : Nat} {V V' : Value} {D : Dsk} (h : DkAt W b0 d hb V D) (h' : DkAt W b0 d hb V' D) : V = V' := by
  have h1 := h.cells.cell (j := 1) rfl
  have h2 := h'.cells.cell (j := 1) rfl
  rw [h1] at h2
  injection h2
theorem nl_of {W : World} {b0 d hb : Nat} {V : Value} {D : Dsk} (h : DkAt W b0 d hb V D) (hn : D.waits = [] → V = .slice none 0 0) : ∀ V, DkAt W b0 d hb V D → D.waits = [] → V = .slice none 0 0 := fun V' h' e => by rw [h'.uniq h]; exact hn e
theorem spend_waits (D : Dsk) : (spendD D).waits = D.waits := by unfold spendD; split <;> (try split) <;> (try split) <;> rfl
/-- What a word about the disk leaves as it was. -/
structure Lets (d hb : Nat) (W w' : World) : Prop where
  os : w'.os = W.os
  tape : w'.tape = W.tape
  output : w'.output = W.output
  size : W.heap.size ≤ w'.heap.size
  block : ∀ k cur T fr, k ≠ d → k ≠ hb → T ≠ 101 → W.heap[k]? = some (.cells cur T fr) → w'.heap[k]? = some (.cells cur T fr)
theorem Lets.refl (d hb : Nat) (W : World) : Lets d hb W W := ⟨rfl, rfl, rfl, Nat.le_refl _, fun _ _ _ _ _ _ _ h => h⟩
theorem Lets.trans {d hb : Nat} {a b c : World} (h : Lets d hb a b) (k : Lets d hb b c) : Lets d hb a c :=
  ⟨k.os.trans h.os, k.tape.trans h.tape, k.output.trans h.output, Nat.le_trans h.size k.size, fun i cur T fr h1 h2 h3 h4 => k.block i cur T fr h1 h2 h3 (h.block i cur T fr h1 h2 h3 h4)⟩
theorem Lets.of_below {d hb : Nat} {a b : World} (h : Below a.heap.size a b) : Lets d hb a b :=
  ⟨h.os, h.tape, h.output, h.size, fun k cur T fr _ _ _ hk => (h.block k (lt_of_heap hk)).trans hk⟩
theorem Lets.of_only {W w' : World} {b0 d hb : Nat} {V : Value} {D : Dsk} (h : DkAt W b0 d hb V D) (hO : Only (Mine d hb V) W w') : Lets d hb W w' :=
  ⟨hO.os, hO.tape, hO.output, hO.size, fun k cur T fr h1 h2 h3 hk => (hO.block k (lt_of_heap hk) (fun hm => by
    rcases hm with e | e | e
    · exact h1 e
    · exact h2 e
    · rcases h.wait.2 with ⟨e2, _⟩ | ⟨g, cap, cur', e2, _, hg, _⟩
      · rw [e2] at e; simp [Value.ownBlock] at e
      · rw [e2] at e
        obtain rfl : g = k := by simpa [Value.ownBlock] using e
        rw [hk] at hg
        injection hg with hg
        injection hg with _ ht
        exact h3 ht)).trans hk⟩
theorem OwnE.lets {d hb : Nat} {W w' : World} {g : Nat} {T : TypeId} {xs : List Value} (h : OwnE W g T xs) (hL : Lets d hb W w') (h1 : g ≠ d) (h2 : g ≠ hb) (h3 : T ≠ 101) : OwnE w' g T xs := hL.block g _ T _ h1 h2 h3 h
theorem St.of_only {w0 W w' : World} {d hb : Nat} {V V' : Value} {D D' : Dsk} (h : St w0 W d hb D) (h1 : DkAt W w0.heap.size d hb V D) (h2 : DkAt w' w0.heap.size d hb V' D') (hO : Only (Mine d hb V) W w') (hn : D'.waits = [] → V' = .slice none 0 0) : St w0 w' d hb D' :=
  ⟨⟨_, h2⟩, h.bel.trans (hO.below h.bel.size (fun g hg => (Mine.lt h1 g hg).1)), nl_of h2 hn⟩
theorem St.below {w0 W w' : World} {d hb : Nat} {D : Dsk} (h : St w0 W d hb D) (hb' : Below W.heap.size W w') : St w0 w' d hb D := by
  obtain ⟨V, hV⟩ := h.at_
  exact ⟨⟨V, hV.below hb'⟩, next h.bel hb', nl_of (hV.below hb') (h.nl V hV)⟩
theorem St.drew {w0 W : World} {d hb : Nat} {D : Dsk} (h : St w0 W d hb D) : St w0 W.drew d hb D := h.below (drew_below W)
theorem St.hbl {w0 W : World} {d hb : Nat} {D : Dsk} (h : St w0 W d hb D) : hb < W.heap.size := by
  obtain ⟨V, hV⟩ := h.at_
  exact hV.sect.lt
theorem St.d_ge {w0 W : World} {d hb : Nat} {D : Dsk} (h : St w0 W d hb D) : w0.heap.size ≤ d := by
  obtain ⟨V, hV⟩ := h.at_
  exact hV.d0
theorem St.len {w0 W : World} {d hb : Nat} {D : Dsk} (h : St w0 W d hb D) : (∀ s ∈ D.has, s.length = 128) ∧ (∀ p ∈ D.waits, p.2.length = 128 ∧ 0 ≤ p.1 ∧ p.1 < D.has.length) ∧ D.has.length ≤ 2048 ∧ -1 ≤ D.bud ∧ D.bud ≤ 9223372036854775807 := by
  obtain ⟨V, hV⟩ := h.at_
  exact ⟨hV.len, hV.wlen, hV.nb, hV.bd⟩

/-- Write, on what a disk is. -/
def writeD (D : Dsk) (i : Int) (s : List UInt8) : Dsk × Nat :=
  if 0 ≤ i ∧ i < D.has.length then (if onD D = true then ({ spendD D with waits := D.waits ++ [(i, s)] }, 0) else (spendD D, 10)) else (D, 4)
def flushD (D : Dsk) : Dsk × Nat := if onD D = true then ({ spendD D with has := doneK (fun _ => true) D.waits D.has D.waits.length, waits := [] }, 0) else (spendD D, 10)
def cutD (D : Dsk) (ks : List Bool) : Dsk := { D with has := doneK (fun k => ks.getD k false) D.waits D.has D.waits.length, waits := [], off := true }
def onD' (D : Dsk) : Dsk := { D with waits := [], bud := -1, off := false }
def newD (n : Nat) : Dsk := ⟨List.replicate n (List.replicate 128 0), [], -1, false, [], n⟩
theorem DkAt.low {W : World} {b0 b1 d hb : Nat} {V : Value} {D : Dsk} (h : DkAt W b0 d hb V D) (hb1 : b1 ≤ b0) : DkAt W b1 d hb V D :=
  ⟨Nat.le_trans hb1 h.d0, Nat.le_trans hb1 h.h0, h.cells, h.sect, (by
    refine ⟨h.wait.1, ?_⟩
    rcases h.wait.2 with h | ⟨g, cap, cur, e, hg, r⟩
    · exact .inl h
    · exact .inr ⟨g, cap, cur, e, Nat.le_trans hb1 hg, r⟩), h.len, h.wlen, h.nb, h.bd⟩
theorem new_st2 (n : Nat) (h1 : 1 ≤ n) (h2 : n ≤ 2048) (w0 W : World) (hw : Below w0.heap.size w0 W) :
    Calls Try.prog 23 #[.int .i64 (n : Int)] W fun e w' => ∃ d hb, e = .returned (.tuple #[.pointer (some ⟨d, 0, none⟩), .int .i64 0]) ∧ St w0 w' d hb (newD n) ∧ Below W.heap.size W w' ∧ W.heap.size ≤ d ∧ W.heap.size ≤ hb :=
  (new_any n h1 h2 W).mono fun e w' ⟨d, hb, he, hD, hB⟩ => ⟨d, hb, he, ⟨⟨_, hD.low hw.size⟩, hw.trans (hB.mono hw.size), nl_of (hD.low hw.size) (fun _ => rfl)⟩, hB, hD.d0, hD.h0⟩
theorem new_st (n : Nat) (h1 : 1 ≤ n) (h2 : n ≤ 2048) (w0 W : World) (hw : Below w0.heap.size w0 W) :
    Calls Try.prog 23 #[.int .i64 (n : Int)] W fun e w' => ∃ d hb, e = .returned (.tuple #[.pointer (some ⟨d, 0, none⟩), .int .i64 0]) ∧ St w0 w' d hb (newD n) ∧ Below W.heap.size W w' :=
  (new_st2 n h1 h2 w0 W hw).mono fun e w' ⟨d, hb, he, hS, hB, _⟩ => ⟨d, hb, he, hS, hB⟩
/-- A disk of which nothing waits is kept by what another one does. -/
theorem St.other {w0 W w' : World} {d hb d' hb' : Nat} {D : Dsk} (h : St w0 W d hb D) (hq : D.waits = []) (hL : Lets d' hb' W w') (h1 : d ≠ d') (h2 : d ≠ hb') (h3 : hb ≠ d') (h4 : hb ≠ hb') (hb0 : Below w0.heap.size w0 w') : St w0 w' d hb D := by
  obtain ⟨V, hV⟩ := h.at_
  have hn := h.nl V hV hq
  subst hn
  have hk : DkAt w' w0.heap.size d hb (.slice none 0 0) D := ⟨hV.d0, hV.h0, hL.block d _ _ _ h1 h2 (by decide) hV.cells, hL.block hb _ _ _ h3 h4 (by decide) hV.sect, by rw [hq]; exact World.ownsRow_nil _ _ _ _, hV.len, hV.wlen, hV.nb, hV.bd⟩
  exact ⟨⟨_, hk⟩, hb0, nl_of hk (fun _ => rfl)⟩
theorem write_st {w0 W : World} {d hb : Nat} {D : Dsk} (h : St w0 W d hb D) (i : Int) (g : Nat) (s : List UInt8) (hs : s.length = 128) (hr : OwnC W g 5 (s.map B8)) (hw : D.waits.length ≤ 100000) :
    Calls Try.prog 19 #[.pointer (some ⟨d, 0, none⟩), .int .i64 i, .slice (some ⟨g, 0, none⟩) 128 128] W fun e w' => e = .returned (.int .i64 ((writeD D i s).2 : Int)) ∧ St w0 w' d hb (writeD D i s).1 ∧ Lets d hb W w' := by
  obtain ⟨V, hV⟩ := h.at_
  by_cases hi : 0 ≤ i ∧ i < D.has.length
  · by_cases ho : onD D = true
    · have hbm : ¬ Mine d hb V g := by
        obtain ⟨cur, hg, hc⟩ := hr
        rintro (e | e | e)
        · rw [e, show W.heap[d]? = _ from hV.cells] at hg
          cases hg
        · rw [e, show W.heap[hb]? = _ from hV.sect] at hg
          cases hg
        · rcases hV.wait.2 with ⟨e2, _⟩ | ⟨g', cap, cur', e2, _, hg', _⟩
          · rw [e2] at e; simp [Value.ownBlock] at e
          · rw [e2] at e
            obtain rfl : g' = g := by simpa [Value.ownBlock] using e
            rw [hg] at hg'
            cases hg'
      have hran : W.rangeAt g 0 (s.map B8) := fun j v hv => by rw [Nat.zero_add]; exact hr.cell hv
      refine (write_on hV i hi g 0 128 (by omega) s hs hran hbm ho hw).mono ?_
      rintro e w' ⟨rfl, V', h1, h2, h3⟩
      rw [show writeD D i s = ({ spendD D with waits := D.waits ++ [(i, s)] }, 0) by unfold writeD; rw [if_pos hi, if_pos ho]]
      exact ⟨rfl, h.of_only hV h1 h2 (fun e => by simp at e), Lets.of_only hV h2⟩
    · refine (write_off hV i hi _ _ (by simpa using ho)).mono ?_
      rintro e w' ⟨rfl, h1, h2⟩
      rw [show writeD D i s = (spendD D, 10) by unfold writeD; rw [if_pos hi, if_neg ho]]
      exact ⟨rfl, h.of_only hV h1 h2 (fun e => h.nl V hV (by rw [← spend_waits D]; exact e)), Lets.of_only hV h2⟩
  · refine (write_no hV i hi _ _ _).mono ?_
    rintro e w' ⟨rfl, rfl⟩
    rw [show writeD D i s = (D, 4) by unfold writeD; rw [if_neg hi]]
    exact ⟨rfl, h, Lets.refl _ _ _⟩
theorem flush_st {w0 W : World} {d hb : Nat} {D : Dsk} (h : St w0 W d hb D) (hw : D.waits.length ≤ 100000) :
    Calls Try.prog 21 #[.pointer (some ⟨d, 0, none⟩)] W fun e w' => e = .returned (.int .i64 ((flushD D).2 : Int)) ∧ St w0 w' d hb (flushD D).1 ∧ Lets d hb W w' := by
  obtain ⟨V, hV⟩ := h.at_
  by_cases ho : onD D = true
  · refine (flush_on hV ho hw).mono ?_
    rintro e w' ⟨rfl, h1, h2⟩
    rw [show flushD D = ({ spendD D with has := doneK (fun _ => true) D.waits D.has D.waits.length, waits := [] }, 0) by unfold flushD; rw [if_pos ho]]
    exact ⟨rfl, h.of_only hV h1 h2 (fun _ => rfl), Lets.of_only hV h2⟩
  · refine (flush_off hV (by simpa using ho)).mono ?_
    rintro e w' ⟨rfl, h1, h2⟩
    rw [show flushD D = (spendD D, 10) by unfold flushD; rw [if_neg ho]]
    exact ⟨rfl, h.of_only hV h1 h2 (fun e => h.nl V hV (by rw [← spend_waits D]; exact e)), Lets.of_only hV h2⟩
theorem on_st {w0 W : World} {d hb : Nat} {D : Dsk} (h : St w0 W d hb D) :
    Calls Try.prog 17 #[.pointer (some ⟨d, 0, none⟩)] W fun e w' => e = .returned (.tuple #[]) ∧ St w0 w' d hb (onD' D) ∧ Lets d hb W w' := by
  obtain ⟨V, hV⟩ := h.at_
  refine (on_any hV).mono ?_
  rintro e w' ⟨rfl, h1, h2⟩
  exact ⟨rfl, h.of_only hV h1 h2 (fun _ => rfl), Lets.of_only hV h2⟩
theorem budget_st {w0 W : World} {d hb : Nat} {D : Dsk} (h : St w0 W d hb D) (n : Int) (hn : -1 ≤ n) (hn2 : n ≤ 9223372036854775807) :
    Calls Try.prog 15 #[.pointer (some ⟨d, 0, none⟩), .int .i64 n] W fun e w' => e = .returned (.int .i64 0) ∧ St w0 w' d hb { D with bud := n } ∧ Lets d hb W w' := by
  obtain ⟨V, hV⟩ := h.at_
  refine (budget_any hV n hn hn2).mono ?_
  rintro e w' ⟨rfl, h1, h2⟩
  exact ⟨rfl, h.of_only hV h1 h2 (fun e => h.nl V hV e), Lets.of_only hV h2⟩
theorem power_st {w0 W : World} {d hb : Nat} {D : Dsk} (h : St w0 W d hb D) :
    Calls Try.prog 66 #[.pointer (some ⟨d, 0, none⟩)] W fun e w' => e = .returned (.bool (!D.off)) ∧ W = w' := by
  obtain ⟨V, hV⟩ := h.at_
  exact power_any hV
theorem cut_st {w0 W : World} {d hb : Nat} {D : Dsk} (h : St w0 W d hb D) (hw : D.waits.length ≤ 100000) (KA : Option Addr) (kn kc : Nat) (ks : List Bool) (hn : kn = ks.length) (hr : Row W KA (ks.map boolV)) (hA : ∀ a, KA = some a → a.block ≠ d ∧ a.block ≠ hb ∧ ∀ cur fr, W.heap[a.block]? ≠ some (.cells cur 101 fr)) :
    Calls Try.prog 16 #[.pointer (some ⟨d, 0, none⟩), .slice KA kn kc] W fun e w' => e = .returned (.tuple #[]) ∧ St w0 w' d hb (cutD D ks) ∧ Lets d hb W w' := by
  obtain ⟨V, hV⟩ := h.at_
  refine (cut_any hV hw KA kn kc ks hn hr (fun a ha => ?_)).mono ?_
  · obtain ⟨h1, h2, h3⟩ := hA a ha
    rintro (e | e | e)
    · exact h1 e
    · exact h2 e
    · rcases hV.wait.2 with ⟨e2, _⟩ | ⟨g', cap, cur', e2, _, hg', _⟩
      · rw [e2] at e; simp [Value.ownBlock] at e
      · rw [e2] at e
        obtain rfl : g' = a.block := by simpa [Value.ownBlock] using e
        exact h3 _ _ hg'
  · rintro e w' ⟨rfl, h1, h2⟩
    exact ⟨rfl, h.of_only hV h1 h2 (fun _ => rfl), Lets.of_only hV h2⟩
theorem has_st {w0 W : World} {d hb : Nat} {D : Dsk} (h : St w0 W d hb D) (k : Nat) (hk : k < D.has.length) :
    Calls Try.prog 22 #[.pointer (some ⟨d, 0, none⟩), .int .i64 (k : Int)] W fun e w' => ∃ g, e = .returned (.tuple #[.slice (some ⟨g, 0, none⟩) 128 128, .int .i64 0]) ∧ OwnE w' g 99 ((D.has.getD k []).map B8) ∧ g ≠ hb ∧ St w0 w' d hb D ∧ Below W.heap.size W w' := by
  obtain ⟨V, hV⟩ := h.at_
  refine (has_any hV k hk).mono ?_
  rintro e w' ⟨rfl, rfl⟩
  have hb' : Below W.heap.size W (W.alloc (.cells ((D.has[k]'hk).map B8).toArray 99)) := (Below.refl _ _).alloc (Nat.le_refl _) _
  refine ⟨_, rfl, ?_, ?_, h.below hb', hb'⟩
  · rw [List.getD_eq_getElem?_getD, List.getElem?_eq_getElem hk, Option.getD_some]
    exact heap_alloc_new W _
  · have := h.hbl
    omega
theorem read_st {w0 W : World} {d hb : Nat} {D : Dsk} (h : St w0 W d hb D) (k : Nat) (hk : k < D.has.length) (hoff : D.off = false) (hw : D.waits.length ≤ 100000) :
    Calls Try.prog 14 #[.pointer (some ⟨d, 0, none⟩), .int .i64 (k : Int)] W fun e w' => ∃ g, e = .returned (.tuple #[.slice (some ⟨g, 0, none⟩) 128 128, .int .i64 0]) ∧ OwnE w' g 99 ((readD D k).map B8) ∧ g ≠ hb ∧ St w0 w' d hb D ∧ Below W.heap.size W w' := by
  obtain ⟨V, hV⟩ := h.at_
  refine (read_on hV k hk hoff hw).mono ?_
  rintro e w' ⟨g, rfl, h1, h2, h3⟩
  refine ⟨g, rfl, h2, ?_, h.below h3, h3⟩
  have := h.hbl
  omega
theorem strS {W : World} {g : Nat} {T : TypeId} {s : List UInt8} (h : OwnE W g T (s.map B8)) (hs : s.length = 128) : (convert 24 9 (.slice (some ⟨g, 0, none⟩) 128 128)).run Try.prog W = .ok (.string (str s)) W := strP 128 ⟨hs, h.row⟩
theorem strC {W : World} {g : Nat} {T : TypeId} {s : List UInt8} (h : OwnC W g T (s.map B8)) (hs : s.length = 128) : (convert 24 9 (.slice (some ⟨g, 0, none⟩) 128 128)).run Try.prog W = .ok (.string (str s)) W := strP 128 ⟨hs, h.row⟩
theorem readD_len {w0 W : World} {d hb : Nat} {D : Dsk} (h : St w0 W d hb D) (k : Nat) (hk : k < D.has.length) : (readD D k).length = 128 := by
  obtain ⟨h1, h2, _⟩ := h.len
  unfold readD
  have hh : (D.has.getD k []).length = 128 := by
    rw [List.getD_eq_getElem?_getD, List.getElem?_eq_getElem hk, Option.getD_some]
    exact h1 _ (List.getElem_mem hk)
  have hl : ∀ (n : Nat) (ws : List (Int × List UInt8)), ws.length = n → (∀ p ∈ ws, p.2.length = 128) → ∀ s, lastD ws k = some s → s.length = 128 := by
    intro n
    induction n with
    | zero => intro ws hn _ s hs; rw [List.eq_nil_of_length_eq_zero hn] at hs; cases hs
    | succ n ih =>
      intro ws hn hp s hs
      have hne : ws ≠ [] := by intro e; rw [e] at hn; simp at hn
      have e := List.dropLast_concat_getLast hne
      rw [← e, lastD_snoc] at hs
      split at hs
      · injection hs with hs
        rw [← hs]
        exact hp _ (List.getLast_mem hne)
      · exact ih ws.dropLast (by simp [hn]) (fun p hm => hp p (List.dropLast_subset _ hm)) s hs
  cases hq : lastD D.waits k with
  | none => exact hh
  | some s => exact hl _ D.waits rfl (fun p hp => (h2 p hp).1) s hq
end
section
open Go.RowKit
set_option linter.unusedVariables false
set_option linter.unusedSimpArgs false
attribute [local go_sem] Oper.semAt_some
/-- What was read lies in memory of its own. -/
structure Kp (W : World) (d hb g : Nat) (s : List UInt8) : Prop where
  own : OwnE W g 99 (s.map B8)
  nh : g ≠ hb
  nd : g ≠ d
theorem Kp.lets {W w' : World} {d hb g : Nat} {s : List UInt8} (h : Kp W d hb g s) (hL : Lets d hb W w') : Kp w' d hb g s := ⟨h.own.lets hL h.nd h.nh (by decide), h.nh, h.nd⟩
theorem Kp.below {W w' : World} {d hb g : Nat} {s : List UInt8} (h : Kp W d hb g s) (hL : Below W.heap.size W w') : Kp w' d hb g s := ⟨h.own.below hL, h.nh, h.nd⟩
theorem St.kp {w0 W : World} {d hb g : Nat} {D : Dsk} {s : List UInt8} (h : St w0 W d hb D) (ho : OwnE W g 99 (s.map B8)) (hn : g ≠ hb) : Kp W d hb g s := by
  obtain ⟨V, hV⟩ := h.at_
  exact ⟨ho, hn, ho.type_ne hV.cells (by decide)⟩
/-- A sector of one octet. -/
def secA (c : UInt8) : List UInt8 := List.replicate 128 c
theorem secA_len (c : UInt8) : (secA c).length = 128 := List.length_replicate
theorem all_st {w0 W : World} {d hb : Nat} {D : Dsk} (h : St w0 W d hb D) (c : UInt8) :
    Calls Try.prog 20 #[.int .u8 c.toNat] W fun e w' => ∃ g, e = .returned (.slice (some ⟨g, 0, none⟩) 128 128) ∧ OwnC w' g 5 ((secA c).map B8) ∧ St w0 w' d hb D ∧ Below W.heap.size W w' :=
  (all_any c W).mono fun e w' ⟨he, ho, hb⟩ => ⟨_, he, ho, h.below hb, hb⟩
theorem write_good {w0 W : World} {d hb : Nat} {D D' : Dsk} {m : Nat} (h : St w0 W d hb D) (i : Int) (g : Nat) (s : List UInt8) (hs : s.length = 128) (hr : OwnC W g 5 (s.map B8)) (hw : D.waits.length ≤ 100000) (he : writeD D i s = (D', m)) :
    Calls Try.prog 19 #[.pointer (some ⟨d, 0, none⟩), .int .i64 i, .slice (some ⟨g, 0, none⟩) 128 128] W fun e w' => e = .returned (.int .i64 (m : Int)) ∧ St w0 w' d hb D' ∧ Lets d hb W w' := by
  have := write_st h i g s hs hr hw
  rw [he] at this
  exact this
theorem read_good {w0 W : World} {d hb : Nat} {D : Dsk} {s : List UInt8} (h : St w0 W d hb D) (k : Nat) (hk : k < D.has.length) (hoff : D.off = false) (hw : D.waits.length ≤ 100000) (he : readD D k = s) :
    Calls Try.prog 14 #[.pointer (some ⟨d, 0, none⟩), .int .i64 (k : Int)] W fun e w' => ∃ g, e = .returned (.tuple #[.slice (some ⟨g, 0, none⟩) 128 128, .int .i64 0]) ∧ Kp w' d hb g s ∧ St w0 w' d hb D ∧ Below W.heap.size W w' := by
  have := read_st h k hk hoff hw
  rw [he] at this
  exact this.mono fun e w' ⟨g, h1, h2, h3, h4, h5⟩ => ⟨g, h1, h4.kp h2 h3, h4, h5⟩
theorem has_good {w0 W : World} {d hb : Nat} {D : Dsk} {s : List UInt8} (h : St w0 W d hb D) (k : Nat) (hk : k < D.has.length) (he : D.has.getD k [] = s) :
    Calls Try.prog 22 #[.pointer (some ⟨d, 0, none⟩), .int .i64 (k : Int)] W fun e w' => ∃ g, e = .returned (.tuple #[.slice (some ⟨g, 0, none⟩) 128 128, .int .i64 0]) ∧ Kp w' d hb g s ∧ St w0 w' d hb D ∧ Below W.heap.size W w' := by
  have := has_st h k hk
  rw [he] at this
  exact this.mono fun e w' ⟨g, h1, h2, h3, h4, h5⟩ => ⟨g, h1, h4.kp h2 h3, h4, h5⟩
theorem flush_good {w0 W : World} {d hb : Nat} {D D' : Dsk} {m : Nat} (h : St w0 W d hb D) (hw : D.waits.length ≤ 100000) (he : flushD D = (D', m)) :
    Calls Try.prog 21 #[.pointer (some ⟨d, 0, none⟩)] W fun e w' => e = .returned (.int .i64 (m : Int)) ∧ St w0 w' d hb D' ∧ Lets d hb W w' := by
  have := flush_st h hw
  rw [he] at this
  exact this
theorem power_good {w0 W : World} {d hb : Nat} {D : Dsk} {b : Bool} (h : St w0 W d hb D) (hb' : (!D.off) = b) :
    Calls Try.prog 66 #[.pointer (some ⟨d, 0, none⟩)] W fun e w' => e = .returned (.bool b) ∧ W = w' := hb' ▸ power_st h
theorem cut_good {w0 W : World} {d hb : Nat} {D D' : Dsk} (h : St w0 W d hb D) (hw : D.waits.length ≤ 100000) (he : cutD D [false, true] = D') :
    Calls Try.prog 16 #[.pointer (some ⟨d, 0, none⟩), .slice (some ⟨W.heap.size, 0, none⟩) 2 2] (W.alloc (.cells #[.bool false, .bool true] 4)) fun e w' => e = .returned (.tuple #[]) ∧ St w0 w' d hb D' ∧ Lets d hb W w' := by
  have hA : Below W.heap.size W (W.alloc (.cells #[.bool false, .bool true] 4)) := (Below.refl _ _).alloc (Nat.le_refl _) _
  have hd : d < W.heap.size := by
    obtain ⟨V, hV⟩ := h.at_
    exact hV.cells.lt
  have hbl := h.hbl
  have hnew : (W.alloc (.cells #[.bool false, .bool true] 4)).heap[W.heap.size]? = some (.cells #[.bool false, .bool true] 4 (0, 0)) := heap_alloc_new W _
  have := cut_st (h.below hA) hw (some ⟨W.heap.size, 0, none⟩) 2 2 [false, true] rfl (OwnE.row (xs := [.bool false, .bool true]) hnew) (fun a ha => by
    obtain rfl : ⟨W.heap.size, 0, none⟩ = a := by injection ha
    refine ⟨?_, ?_, fun cur fr hc => ?_⟩
    · show W.heap.size ≠ d; omega
    · show W.heap.size ≠ hb; omega
    · rw [hnew] at hc
      cases hc)
  rw [he] at this
  exact this.mono fun e w' ⟨h1, h2, h3⟩ => ⟨h1, h2, (Lets.of_below hA).trans h3⟩
/-- The examples' disks. -/
def dkA (h : List (List UInt8)) (q : List Iss) (b : Int) (o : Bool) : Dsk := ⟨h, q, b, o, [], 2⟩
theorem ex1 (z s : List UInt8) : writeD (dkA [z, z] [] (-1) false) 1 s = (dkA [z, z] [(1, s)] (-1) false, 0) := rfl
theorem ex2 (z s : List UInt8) : readD (dkA [z, z] [(1, s)] (-1) false) 1 = s := rfl
theorem ex3 (z s : List UInt8) : flushD (dkA [z, z] [(1, s)] (-1) false) = (dkA [z, s] [] (-1) false, 0) := rfl
theorem ex4 (z s p : List UInt8) : writeD (dkA [z, s] [] (-1) false) 0 p = (dkA [z, s] [(0, p)] (-1) false, 0) := rfl
theorem ex5 (z s p q : List UInt8) : writeD (dkA [z, s] [(0, p)] (-1) false) 0 q = (dkA [z, s] [(0, p), (0, q)] (-1) false, 0) := rfl
theorem ex6 (z s p q : List UInt8) : cutD (dkA [z, s] [(0, p), (0, q)] (-1) false) [false, true] = dkA [q, s] [] (-1) true := rfl
theorem ex7 (q s r : List UInt8) : writeD (dkA [q, s] [] 1 false) 0 r = (dkA [q, s] [(0, r)] 0 false, 0) := rfl
theorem ex8 (q s r t : List UInt8) : writeD (dkA [q, s] [(0, r)] 0 false) 0 t = (dkA [q, s] [(0, r)] 0 true, 10) := rfl
end
end Go.Proofs.Ytpppmijohfjigaa
