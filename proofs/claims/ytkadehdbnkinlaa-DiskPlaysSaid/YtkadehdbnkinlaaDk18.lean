/-
  What is read, where the power is on. A part of the proof: see the head of the text that ends in 'Law'.
-/
import Derived.RegionIn
import Derived.RangeFuncWrites
import Derived.Test.YtkadehdbnkinlaaDk16
import Derived.Test.YtkadehdbnkinlaaDk17
namespace Go.Proofs.Ytkadehdbnkinlaa
open Go.RowKit
set_option linter.unusedVariables false
set_option linter.unusedSimpArgs false
attribute [local go_sem] Oper.semAt_some

/-- The loop over what waits, the last one ahead. -/
def findB (i : Nat) : List Iss → Option (List UInt8)
  | [] => none
  | p :: r => if p.1 = (i : Int) then some p.2 else findB i r
theorem findB_append (i : Nat) : ∀ (a b : List Iss), findB i (a ++ b) = (findB i a).or (findB i b)
  | [], _ => by simp [findB]
  | p :: a, b => by
    rw [List.cons_append, findB, findB]
    split
    · simp
    · exact findB_append i a b
theorem findB_last (i : Nat) : ∀ (n : Nat) (ws : List Iss), ws.length = n → findB i ws.reverse = lastD ws i
  | 0, ws, h => by rw [List.eq_nil_of_length_eq_zero h]; rfl
  | n + 1, ws, h => by
    have hne : ws ≠ [] := by intro e; rw [e] at h; simp at h
    have ih := findB_last i n ws.dropLast (by simp [h])
    have e := List.dropLast_concat_getLast hne
    rw [← e, List.reverse_append, lastD_snoc]
    show findB i (ws.getLast hne :: ws.dropLast.reverse) = _
    rw [findB, ih]
theorem OwnE.grown {w w' : World} {g : Nat} {T : TypeId} {xs : List Value} {row : Option Nat} (h : OwnE w g T xs) (hg : w.grownBy w' row) (hne : row ≠ some g) : OwnE w' g T xs := (hg.block g h.lt (fun e => hne e.symm)).trans h
theorem keeps_set (B : Nat) (W : World) (a : Addr) (v : Value) (ha : a.block < B) : KeepsFrom B W (W.setCell a v) :=
  KeepsFrom.of_grownBy (row := some a.block) ⟨rfl, rfl, rfl, by simp, fun k hk hne => heap_setCell_other W a k v (fun e => hne (by rw [e]))⟩ (fun j e => by cases e; exact ha)
theorem lift_sub {α : Type} {P : α → Prop} : ∀ l : List α, (∀ x ∈ l, P x) → ∃ ys : List {x : α // P x}, ys.map Subtype.val = l
  | [], _ => ⟨[], rfl⟩
  | a :: l, h => by
    obtain ⟨ys, hy⟩ := lift_sub l (fun x hx => h x (List.mem_cons_of_mem _ hx))
    exact ⟨⟨a, h a List.mem_cons_self⟩ :: ys, by simp [hy]⟩
theorem wpIn_store_new {F : Fence} {n0 : Nat} {P : Program} {op : Oper} {a : Act} {w : World} {K : Act → World → Prop} {Q : Exit → Act → World → Prop} (ty : TypeId) (x y : Operand) (ho : op.op = .store ty x y)
    (t : TypeId) (old cells : Array Value) (hx : a.eval x = .pointer (some ⟨w.heap.size, 0, none⟩)) (hy : a.eval y = .agg cells) (hi : (P.info? ty).map (·.size) = some cells.size) (hs : old.size = cells.size) (h1 : cells.all (·.oneCell') = true)
    (hd : op.dst = none)
    (h : K a (w.alloc (.cells cells t))) : op.wpIn F n0 P a (w.alloc (.cells old t)) K Q := by
  unfold Oper.wpIn
  refine ⟨by simp [Oper.about, ho], ?_⟩
  rw [Oper.semAt_plain F _ _ (by rw [ho]; intro c hc'; cases hc')]
  unfold execOp
  have hst := run_storeVar_row (P := P) (w.alloc (.cells old t)) w.heap.size t ty old cells (heap_alloc_last w _) hi hs h1
  rw [World.setRow_alloc_new] at hst
  simp only [ho, hx, hy, Instr.storeAt, Instr.sureAddr, Sem.run_bind, Sem.run_pure, Result.andThen_ok, hst]
  show K (a.put op.dst undef) _
  rw [hd]
  exact h
/-- The loop's state: nothing of what was looked at is i's. -/
def RI (i : Nat) (w : World) (gi g1 g2 Bf : Nat) (v : Value) (pre : List {p : Nat × Iss // p.2.2.length = 128}) (W : World) : Prop :=
  Below w.heap.size w W ∧ findB i (pre.map (fun x => x.1.2)) = none ∧ OwnE W gi 3 [.int .i64 (i : Int)] ∧ OwnE W g1 31 [.slice none 0 0] ∧ OwnE W g2 25 [.int .i64 0] ∧ OwnE W Bf 59 [v]
def RX (i : Nat) (w : World) (g1 g2 : Nat) (c : Code) (pre : List {p : Nat × Iss // p.2.2.length = 128}) (W : World) : Prop :=
  c = .ret ∧ Below w.heap.size w W ∧ ∃ s h, findB i (pre.map (fun x => x.1.2)) = some s ∧ OwnE W g1 31 [.slice (some ⟨h, 0, none⟩) 128 128] ∧ OwnE W g2 25 [.int .i64 0] ∧ w.heap.size ≤ h ∧ OwnE W h 64 (s.map B8)
theorem cells_ne {X : World} {g r : Nat} {T : TypeId} {xs : List Value} (h : OwnE X g T xs) (hr : ∃ o : Obj, X.heap[r]? = some o ∧ o.isCells = false) : r ≠ g := by
  rintro rfl
  obtain ⟨o, ho, hc⟩ := hr
  rw [show X.heap[r]? = _ from h] at ho
  cases ho
  cases hc
theorem ri_from {i : Nat} {w : World} {gi g1 g2 Bf B : Nat} {v : Value} (hw : w.heap.size ≤ B) : OwnFrom B (RI i w gi g1 g2 Bf v) := by
  rintro pre X Y row ⟨h1, h2, h3, h4, h5, h6⟩ hg hr
  exact ⟨h1.grown hg h1.size (fun r e => by have := (hr r e).1; omega), h2, h3.grown hg (fun e => cells_ne h3 (hr _ e).2 rfl), h4.grown hg (fun e => cells_ne h4 (hr _ e).2 rfl), h5.grown hg (fun e => cells_ne h5 (hr _ e).2 rfl), h6.grown hg (fun e => cells_ne h6 (hr _ e).2 rfl)⟩
theorem rx_from {i : Nat} {w : World} {g1 g2 B : Nat} (hw : w.heap.size ≤ B) (c : Code) : OwnFrom B (RX i w g1 g2 c) := by
  rintro pre X Y row ⟨h0, h1, s, h, h2, h4, h5, h7, h6⟩ hg hr
  exact ⟨h0, h1.grown hg h1.size (fun r e => by have := (hr r e).1; omega), s, h, h2, h4.grown hg (fun e => cells_ne h4 (hr _ e).2 rfl), h5.grown hg (fun e => cells_ne h5 (hr _ e).2 rfl), h7, h6.grown hg (fun e => cells_ne h6 (hr _ e).2 rfl)⟩
/-- Read's answer: the octets s, in memory of their own. -/
def RdPost (W : World) (s : List UInt8) (e : Ending) (w' : World) : Prop := ∃ h, e = .returned (.tuple #[.slice (some ⟨h, 0, none⟩) 128 128, .int .i64 0]) ∧ W.heap.size ≤ h ∧ OwnE w' h 64 (s.map B8) ∧ Below W.heap.size W w'
theorem OwnE.put {W : World} {g D : Nat} {T : TypeId} {xs : List Value} (h : OwnE W g T xs) {o : Obj} (o' : Obj) (hD : W.heap[D]? = some o) (ho : o.isCells = false) : OwnE (W.putObj D o') g T xs := by
  have hne : g ≠ D := by
    rintro rfl
    rw [show W.heap[g]? = _ from h] at hD
    cases hD
    cases ho
  exact (World.putObj_heap_other (w := W) (r := D) (k := g) (o := o') hne).trans h
set_option maxRecDepth 100000 in
set_option maxHeartbeats 4000000 in
theorem read_on {W : World} {b0 d hb : Nat} {V : Value} {D : Dsk} (h : DkAt W b0 d hb V D) (i : Nat) (hi : i < D.has.length) (hoff : D.off = false) (hw : D.waits.length ≤ 100000) :
    Calls Try.prog 11 #[.pointer (some ⟨d, 0, none⟩), .int .i64 (i : Int)] W (RdPost W (readD D i)) := by
  obtain ⟨y0, z1, z2, bb⟩ := rd_boxes W (i : Int) _ rfl
  have his := is_any (h.below bb) (i : Int)
  rw [decide_eq_true ⟨by omega, by omega⟩] at his
  have x3 := (h.below bb).cells.cell (j := 3) rfl
  rw [hoff] at x3
  have x1 := (h.below bb).cells.cell (j := 1) rfl
  have HIS := hid his
  have HB := hid bb
  have H := hid h
  have hV : ∃ A c, V = .slice A D.waits.length c := by
    rcases h.wait.2 with ⟨e, e2⟩ | ⟨g, cap, cur, e, _⟩
    · rw [e2]; exact ⟨none, 0, e⟩
    · exact ⟨_, _, e⟩
  obtain ⟨A0, c0, rfl⟩ := hV
  have hA : ∃ g, (0 < D.waits.length → A0 = some ⟨g, 0, none⟩) ∧ ∀ (k : Nat) (hk : k < D.waits.length), W.rangeAt g (k * 129) (isC (D.waits[k]'hk)) := by
    by_cases h0 : 0 < D.waits.length
    · obtain ⟨g, c1, e1, hr⟩ := wait_range h h0
      injection e1 with eA _ _
      exact ⟨g, fun _ => eA, hr⟩
    · exact ⟨0, fun h1 => absurd h1 h0, fun k hk => by omega⟩
  obtain ⟨g, hA, hR⟩ := hA
  have HA := hid hA
  have HR := hid hR
  obtain ⟨n, hn⟩ : ∃ n, D.waits.length = n := ⟨_, rfl⟩
  have HN := hid hn
  rw [hn] at x1 hA
  have z0 : OwnE (((W.alloc (.cells #[.int .i64 (i : Int)] 3)).alloc (.cells #[.slice none 0 0] 31)).alloc (.cells #[.int .i64 0] 25)) W.heap.size 3 [.int .i64 (i : Int)] := by
    exact (Below.heap_alloc _ _ _ (by simp; omega)).trans ((Below.heap_alloc _ _ _ (by simp)).trans (heap_alloc_new W _))
  obtain ⟨W1, hW1⟩ : ∃ W1, ((W.alloc (.cells #[.int .i64 (i : Int)] 3)).alloc (.cells #[.slice none 0 0] 31)).alloc (.cells #[.int .i64 0] 25) = W1 := ⟨_, rfl⟩
  have hsz : W1.heap.size = W.heap.size + 3 := by rw [← hW1]; simp
  rw [hW1] at z0 z1 z2 y0 HIS HB x3 x1
  have HW1 := hid hW1
  have HSZ := hid hsz
  have Z0 := hid z0
  have Z1 := hid z1
  have Z2 := hid z2
  have HA2 := hid hA
  clear h hoff his bb hW1 hR hsz z0 z1 z2 hA hn
  refine (callsIn_wide (n := 8)).1 (callsIn_of_wp_marks Try.func11 rfl trivial ?_ rfl)
  simp only [Try.ntmps11, List.size_toArray, List.length_cons, List.length_nil, Nat.reduceAdd, Nat.reduceSub, Array.replicate_succ, Array.replicate_zero, List.push_toArray, List.append_toArray, List.nil_append, List.cons_append]
  refine wpIn_wide.2 ?_
  go_upto_region 0 with fail
  go_cut [3, 4, 5] from 3 to 5 (fun a b c wx => a = .pointer (some ⟨W.heap.size, 0, none⟩) ∧ b = .pointer (some ⟨W.heap.size + 1, 0, none⟩) ∧ c = .pointer (some ⟨W.heap.size + 2, 0, none⟩) ∧ W1 = wx)
  case first =>
    go_wp2_with fail
    go_meet
    exact ⟨rfl, rfl, by simp, HW1.out.symm⟩
  case rest =>
  obtain ⟨rfl, rfl, rfl, hw1⟩ := hcut
  subst hw1
  go_upto_region 5 with (first
    | (go_at_call 27; (with_reducible refine HIS.out.mono ?_); rintro e w1 ⟨rfl, hw⟩; subst hw)
    | (go_at_call 31; refine (back_any A0 n c0 _).mono ?_; rintro e w5 ⟨rfl, rfl⟩))
  go_wp2_with (go_at_call 31; refine (back_any A0 n c0 _).mono ?_; rintro e w5 ⟨rfl, rfl⟩)
  refine (wpIn_wide (n := 8)).1 ?_
  obtain ⟨W2, hW2⟩ : ∃ W2, W1.alloc (.cells #[.slice A0 n c0] 59) = W2 := ⟨_, rfl⟩
  have hbf : OwnE W2 W1.heap.size 59 [.slice A0 n c0] := by rw [← hW2]; exact heap_alloc_new W1 _
  have hb12 : Below W1.heap.size W1 W2 := by rw [← hW2]; exact (Below.refl _ _).alloc (Nat.le_refl _) _
  have hs2 : W2.heap.size = W.heap.size + 4 := by rw [← hW2, World.size_alloc, HSZ.out]
  have hbw2 : Below W.heap.size W W2 := HB.out.trans (hb12.mono HB.out.size)
  have hB1 : W1.heap.size = W.heap.size + 3 := HSZ.out
  rw [hW2]
  clear hW2
  have hys : ∃ ys : List {p : Nat × Iss // p.2.2.length = 128}, ys.map Subtype.val = backL D.waits := lift_sub _ (fun x hx => by
    unfold backL at hx
    obtain ⟨k, hk, rfl⟩ := List.mem_map.1 hx
    have hk' : k < D.waits.length := by simpa using hk
    show (D.waits.getD k (0, [])).2.length = 128
    rw [List.getD_eq_getElem?_getD, List.getElem?_eq_getElem hk', Option.getD_some]
    exact (H.out.wlen _ (List.getElem_mem hk')).1)
  obtain ⟨ys, hys⟩ := hys
  have hfind : findB i (ys.map (fun x => x.1.2)) = lastD D.waits i := by
    have : ys.map (fun x => x.1.2) = (ys.map Subtype.val).map Prod.snd := by rw [List.map_map]; rfl
    rw [this, hys, backL_snd, findB_last i _ _ rfl]
  have HFIND := hid hfind
  have HBW2 := hid hbw2
  have HN' := HN.out
  obtain ⟨zer, zsz⟩ := iss_zero
  have HZS := hid zsz
  clear hfind zsz
  refine wpIn_rangeFunc_ownH rfl (by omega) (gf := 38) (lb := #[.pointer (some ⟨W1.heap.size, 0, none⟩)]) rfl trivial (enters_of Try.func38 (by kernel_rfl) rfl)
    (back_stops Subtype.val ys (8 - 1) (by omega) W1.heap.size D.waits A0 g n c0 HA2.out W HR.out (fun p hp => (H.out.wlen p hp).1) HN' (by omega) hys W2 hbw2 (hbf.cell (j := 0) rfl) hbf.lt) kpf_t (kpf_b (by rw [hs2]; omega) (by rw [hs2, hB1]; omega)) (Below.refl _ _) (fun _ => rfl)
    (RI i W W.heap.size (W.heap.size + 1) (W.heap.size + 2) W1.heap.size (.slice A0 n c0)) (RX i W (W.heap.size + 1) (W.heap.size + 2)) (ri_from (by rw [hs2]; omega)) (rx_from (by rw [hs2]; omega))
    ⟨hbw2, rfl, Z0.out.below hb12, Z1.out.below hb12, Z2.out.below hb12, hbf⟩
    (fun x a' W' => ∃ gx, W.heap.size ≤ gx ∧ a' = { tmps := #[.pointer (some ⟨d, 0, none⟩), .int .i64 (i : Int), undef, .pointer (some ⟨W.heap.size, 0, none⟩), .pointer (some ⟨W.heap.size + 1, 0, none⟩), .pointer (some ⟨W.heap.size + 2, 0, none⟩), undef, .pointer (some ⟨gx, 0, none⟩), .bool false, .pointer (some ⟨d, 0, none⟩), .int .i64 (i : Int), .bool true, .bool false, .bool false, .pointer (some ⟨d, 0, none⟩), .pointer (some ⟨d, 0, none⟩), .pointer (some ⟨d, 3, none⟩), .bool false, .pointer (some ⟨d, 0, none⟩), .pointer (some ⟨d, 0, none⟩), .pointer (some ⟨d, 1, none⟩), .slice A0 n c0, .func (.func 38) #[] #[.pointer (some ⟨W1.heap.size, 0, none⟩)], KV x.1.1, IV x.1.2, undef, undef, undef, undef, undef, undef, undef, undef, undef, undef, undef, undef, undef, undef, undef], defers := [] } ∧ OwnE W' gx 66 (isC x.1.2))
    (fun x a' => by
      rintro _ X Y row ⟨gx, h0, h1, h2⟩ hg hr
      exact ⟨gx, h0, h1, h2.grown hg (fun e => cells_ne h2 (hr _ e).2 rfl)⟩) ?assign ?body ?done ?stop
  case assign =>
    intro lq pre x W3 K hI hK
    have HK := hid hK
    have HI := hid hI
    have HSX := hid (show (Try.prog.info? 66).map (·.size) = some (isC x.1.2).toArray.size by rw [HZS.out, List.size_toArray, isC_len _ x.2])
    clear hK hI
    clear hB1 hs2 x1 x3 y0 hys hbf hb12 hbw2
    gi_wp2_with (refine wpIn_store_new 66 (.tmp 7) (.tmp 24) rfl 66 zIss (isC x.1.2).toArray rfl rfl HSX.out (by rw [zIss_size, List.size_toArray, isC_len _ x.2]) (all_oneCell_toArray (isC_one x.1.2)) rfl ?_)
    refine HK.out _ _ ?_ ?_ ?_ ?_
    · exact KeepsFrom.of_grownBy (grown_of_below ((Below.refl _ _).alloc (Nat.le_refl _) _)) (fun j e => by cases e)
    · refine kpf_of (((Below.refl _ _).alloc (Nat.le_refl _) _).mono HI.out.1.size) ?_
      exact (Below.heap_alloc _ _ _ HI.out.2.2.2.2.2.lt)
    · have hb := (Below.refl W3.heap.size W3).alloc (Nat.le_refl _) (.cells (isC x.1.2).toArray 66)
      exact ⟨HI.out.1.trans (hb.mono HI.out.1.size), HI.out.2.1, HI.out.2.2.1.below hb, HI.out.2.2.2.1.below hb, HI.out.2.2.2.2.1.below hb, HI.out.2.2.2.2.2.below hb⟩
    · exact ⟨W3.heap.size, HI.out.1.size, rfl, heap_alloc_new W3 _⟩
  case body =>
    rintro lq pre x a' W3 hlq hlr ⟨hb, hs, h0, h1, h2, h5⟩ ⟨gx, hgx, rfl, hx⟩ hlt
    dsimp only
    have k3 := h0.cell (j := 0) rfl
    have kx := hx.cell (j := 0) (u := .int .i64 x.1.2.1) rfl
    have HBb := hid hb
    have H0 := hid h0
    have H1 := hid h1
    have H2 := hid h2
    have H5 := hid h5
    have HX := hid hx
    have HS := hid hs
    have f1 := h1.frozen 0
    have f2 := h2.frozen 0
    have c1 := h1.cell (j := 0) rfl
    have c2 := h2.cell (j := 0) rfl
    clear hB1 x1 x3 y0 hys hbf hb12 hbw2 hb h0 h1 h2 h5 hx hs hlr
    by_cases he : x.1.2.1 = (i : Int)
    · have d1 : (x.1.2.1 == (i : Int)) = true := by simpa using he
      have hsec : W3.rangeAt gx 1 (x.1.2.2.map B8) := fun j v hv => HX.out.cell (j := 1 + j) (by rw [Nat.add_comm]; show (isC x.1.2)[j + 1]? = some v; unfold isC; rw [List.getElem?_cons_succ]; exact hv)
      have HSEC := hid hsec
      have HSS := hid (show (Try.prog.info? 64).map (·.size) = some (x.1.2.2.map B8).length by rw [sec_info, List.length_map, x.2])
      have HOC := hid (octets_any x.1.2.2 x.2 W3)
      have hbA : Below W3.heap.size W3 (W3.alloc (.cells (x.1.2.2.map B8).toArray 64)) := (Below.refl _ _).alloc (Nat.le_refl _) _
      have q1 := H1.out.below hbA
      have q2 := H2.out.below hbA
      have q3 : OwnE (W3.alloc (.cells (x.1.2.2.map B8).toArray 64)) W3.heap.size 64 (x.1.2.2.map B8) := heap_alloc_new W3 _
      have f1 := q1.frozen 0
      have f2 := q2.frozen 0
      have c1 := q1.cell (j := 0) rfl
      have c2 := q2.cell (j := 0) rfl
      have HbA := hid hbA
      have Q1 := hid q1
      have Q2 := hid q2
      have Q3 := hid q3
      have HS2 := hid hs2
      clear hsec hbA q1 q2 q3 hs2
      gi_wp2_with (first
        | (refine wpIn_load_mid 64 (.tmp 29) rfl gx 1 rfl (x.1.2.2.map B8) _ HSEC.out Try.underlying64 rfl HSS.out ?_)
        | (refine ⟨trivial, ?_⟩; gi_at_call 32; refine (CallsIn.inRound lq (callsIn_wide.2 HOC.out)).mono ?_; rintro e w6 ⟨rfl, rfl⟩))
      have hw3 := HBb.out.size
      have hl1 := H1.out.lt
      have hl2 := H2.out.lt
      have hs2 := HS2.out
      refine ⟨?_, rfl, ?_, x.1.2.2, W3.heap.size, ?_, ?_, ?_, hw3, ?_⟩
      · exact ((KeepsFrom.of_grownBy (grown_of_below HbA.out) (fun j e => by cases e)).trans (keeps_set _ _ ⟨W.heap.size + 1, 0, none⟩ _ (by show W.heap.size + 1 < _; omega))).trans (keeps_set _ _ ⟨W.heap.size + 2, 0, none⟩ _ (by show W.heap.size + 2 < _; omega))
      · exact ((HBb.out.trans (HbA.out.mono hw3)).setCell (p := ⟨W.heap.size + 1, 0, none⟩) (by show _ ≤ W.heap.size + 1; omega) _).setCell (p := ⟨W.heap.size + 2, 0, none⟩) (by show _ ≤ W.heap.size + 2; omega) _
      · rw [List.map_append, findB_append, HS.out]
        show (none : Option (List UInt8)).or (findB i [x.1.2]) = _
        rw [findB, if_pos he]
        rfl
      · exact (Q1.out.set 0 _).far (by omega) _
      · exact (Q2.out.far (by omega) _).set 0 _
      · exact (Q3.out.far (by omega) _).far (by omega) _
    · have d1 : (x.1.2.1 == (i : Int)) = false := by simpa using he
      gi_wp2
      refine ⟨KeepsFrom.refl _ _, ⟨Below.mono (Below.refl _ _) HBb.out.size, fun j => rfl⟩, HBb.out, ?_, H0.out, H1.out, H2.out, H5.out⟩
      rw [List.map_append, findB_append, HS.out]
      show (none : Option (List UInt8)).or (findB i [x.1.2]) = _
      rw [findB, if_neg he]
      rfl
  case done =>
    rintro Dd zs W3 hD rfl ⟨hbl, hs, h0, h1, h2, h5⟩ hK
    simp only [Exit.inBlock, Exit.then]
    have hrd : readD D i = D.has[i]'hi := by
      unfold readD
      rw [← HFIND.out, hs, Option.getD_none, List.getD_eq_getElem?_getD, List.getElem?_eq_getElem hi, Option.getD_some]
    obtain ⟨s, hsx⟩ : ∃ s, D.has[i]'hi = s := ⟨_, rfl⟩
    have hsl := H.out.len _ (List.getElem_mem hi)
    have hran := range_only (T := fun _ => False) (H.out.range i hi) (Only.of_below hbl) (fun h => h)
    rw [hsx] at hsl hran hrd
    have x0 := cells_keep hbl (H.out.cells.cell (j := 0) rfl)
    obtain ⟨nh, hnh⟩ : ∃ nh, D.has.length = nh := ⟨_, rfl⟩
    rw [hnh] at x0
    have i0 : (0 : Int) ≤ (i : Int) := by omega
    have i1 : (i : Int) < (nh : Int) := by omega
    have i2 : (i : Int).toNat = i := by omega
    have k3 := h0.cell (j := 0) rfl
    have hS : W3.drew.cell? ⟨d, 0, none⟩ = some (.slice (some ⟨hb, 0, none⟩) nh D.cp) ∧ W3.drew.cell? ⟨W.heap.size, 0, none⟩ = some (.int .i64 (i : Int)) ∧ W3.drew.rangeAt hb (i * 128) (s.map B8) := ⟨x0, k3, hran⟩
    have HSS := hid (show (Try.prog.info? 64).map (·.size) = some (s.map B8).length by rw [sec_info, List.length_map, hsl])
    have HOC := hid (octets_any s hsl)
    have hbA : Below W3.heap.size W3 (W3.alloc (.cells (s.map B8).toArray 64)) := (Below.refl _ _).alloc (Nat.le_refl _) _
    have hSA : (W3.alloc (.cells (s.map B8).toArray 64)).cell? ⟨d, 0, none⟩ = some (.slice (some ⟨hb, 0, none⟩) nh D.cp) ∧ (W3.alloc (.cells (s.map B8).toArray 64)).cell? ⟨W.heap.size, 0, none⟩ = some (.int .i64 (i : Int)) ∧ (W3.alloc (.cells (s.map B8).toArray 64)).rangeAt hb (i * 128) (s.map B8) := ⟨cells_keep hbA x0, cells_keep hbA k3, range_only (T := fun _ => False) hran (Only.of_below hbA) (fun h => h)⟩
    have q1 := h1.below hbA
    have q2 := h2.below hbA
    have q3 : OwnE (W3.alloc (.cells (s.map B8).toArray 64)) W3.heap.size 64 (s.map B8) := heap_alloc_new W3 _
    have f1 := q1.frozen 0
    have f2 := q2.frozen 0
    have c1 := q1.cell (j := 0) rfl
    have c2 := q2.cell (j := 0) rfl
    have hdW : d < W.heap.size := H.out.cells.lt
    have hhW : hb < W.heap.size := H.out.sect.lt
    have hS1 : ∀ (X : World) (v : Value), (X.cell? ⟨d, 0, none⟩ = some (.slice (some ⟨hb, 0, none⟩) nh D.cp) ∧ X.cell? ⟨W.heap.size, 0, none⟩ = some (.int .i64 (i : Int)) ∧ X.rangeAt hb (i * 128) (s.map B8)) → ((X.setCell ⟨W.heap.size + 1, 0, none⟩ v).cell? ⟨d, 0, none⟩ = some (.slice (some ⟨hb, 0, none⟩) nh D.cp) ∧ (X.setCell ⟨W.heap.size + 1, 0, none⟩ v).cell? ⟨W.heap.size, 0, none⟩ = some (.int .i64 (i : Int)) ∧ (X.setCell ⟨W.heap.size + 1, 0, none⟩ v).rangeAt hb (i * 128) (s.map B8)) := fun X v hX =>
      ⟨by rw [World.cell?_setCell_other _ _ _ _ (fun e => by injection e; omega)]; exact hX.1, by rw [World.cell?_setCell_other _ _ _ _ (fun e => by injection e; omega)]; exact hX.2.1, range_only hX.2.2 (Only.of_set (T := fun g => g = W.heap.size + 1) X ⟨W.heap.size + 1, 0, none⟩ v rfl) (fun h => by omega)⟩
    have hS2 : ∀ (X : World) (v : Value), (X.cell? ⟨d, 0, none⟩ = some (.slice (some ⟨hb, 0, none⟩) nh D.cp) ∧ X.cell? ⟨W.heap.size, 0, none⟩ = some (.int .i64 (i : Int)) ∧ X.rangeAt hb (i * 128) (s.map B8)) → ((X.setCell ⟨W.heap.size + 2, 0, none⟩ v).cell? ⟨d, 0, none⟩ = some (.slice (some ⟨hb, 0, none⟩) nh D.cp) ∧ (X.setCell ⟨W.heap.size + 2, 0, none⟩ v).cell? ⟨W.heap.size, 0, none⟩ = some (.int .i64 (i : Int)) ∧ (X.setCell ⟨W.heap.size + 2, 0, none⟩ v).rangeAt hb (i * 128) (s.map B8)) := fun X v hX =>
      ⟨by rw [World.cell?_setCell_other _ _ _ _ (fun e => by injection e; omega)]; exact hX.1, by rw [World.cell?_setCell_other _ _ _ _ (fun e => by injection e; omega)]; exact hX.2.1, range_only hX.2.2 (Only.of_set (T := fun g => g = W.heap.size + 2) X ⟨W.heap.size + 2, 0, none⟩ v rfl) (fun h => by omega)⟩
    have hSB := hS1 _ (.slice (some ⟨W3.heap.size, 0, none⟩) 128 128) hSA
    have hSC := hS2 _ (.int .i64 0) hSB
    have hD1 : ∀ X : World, (X.cell? ⟨d, 0, none⟩ = some (.slice (some ⟨hb, 0, none⟩) nh D.cp) ∧ X.cell? ⟨W.heap.size, 0, none⟩ = some (.int .i64 (i : Int)) ∧ X.rangeAt hb (i * 128) (s.map B8)) → (X.drew.cell? ⟨d, 0, none⟩ = some (.slice (some ⟨hb, 0, none⟩) nh D.cp) ∧ X.drew.cell? ⟨W.heap.size, 0, none⟩ = some (.int .i64 (i : Int)) ∧ X.drew.rangeAt hb (i * 128) (s.map B8)) := fun X h => h
    replace hSA := hD1 _ hSA
    replace hSB := hD1 _ hSB
    replace hSC := hD1 _ hSC
    clear hD1
    clear hS1 hS2 hdW hhW
    have HRD := hid hrd
    have HK := hid hK
    have Q1 := hid q1
    have Q2 := hid q2
    have Q3 := hid q3
    have HbA := hid hbA
    have HD := hid hD
    have HBL := hid hbl
    have L0 := hid (And.intro h0.lt (And.intro h1.lt h2.lt))
    have HS2 := hid hs2
    clear hB1 x1 x3 y0 hys hbf hb12 hbw2 hbl hs h0 h1 h2 h5 hrd hsx hran hsl hnh k3 hbA q1 q2 q3 hK hD hs2 x0
    go_upto_region 9 with fail
    refine wp_region_noPanic ?_
    refine wp_region_held_drew (S := (fun X => X.cell? ⟨d, 0, none⟩ = some (.slice (some ⟨hb, 0, none⟩) nh D.cp) ∧ X.cell? ⟨W.heap.size, 0, none⟩ = some (.int .i64 (i : Int)) ∧ X.rangeAt hb (i * 128) (s.map B8))) (by kernel_rfl) (by first | assumption | trivial) (fun hHeld => ?_)
    refine wpAnyH_take (i := 0) (v := ?_) rfl (by kernel_rfl) (by kernel_rfl) (by kernel_rfl) (fun _ _ _ h => h) (Or.inl ⟨by kernel_rfl, ?_⟩) (by first | assumption | trivial) ?_
    rotate_left
    · (intro wS hSw; (try dsimp only at hSw); go_simp; try with_reducible rfl)
    (try simp only [List.append_eq, List.cons_append, List.nil_append, List.getElem_toArray, List.getElem_cons_succ, List.getElem_cons_zero, Act.put, List.setIfInBounds_toArray, List.set_cons_zero, List.set_cons_succ])
    refine wpAnyH_take (i := 1) (v := ?_) rfl (by kernel_rfl) (by kernel_rfl) (by kernel_rfl) (fun _ _ _ h => h) (Or.inl ⟨by kernel_rfl, ?_⟩) (by first | assumption | trivial) ?_
    rotate_left
    · (intro wS hSw; (try dsimp only at hSw); go_simp; try with_reducible rfl)
    (try simp only [List.append_eq, List.cons_append, List.nil_append, List.getElem_toArray, List.getElem_cons_succ, List.getElem_cons_zero, Act.put, List.setIfInBounds_toArray, List.set_cons_zero, List.set_cons_succ])
    refine wpAnyH_take (i := 2) (v := ?_) rfl (by kernel_rfl) (by kernel_rfl) (by kernel_rfl) (fun _ _ _ h => h) (Or.inl ⟨by kernel_rfl, ?_⟩) (by first | assumption | trivial) ?_
    rotate_left
    · (intro wS hSw; (try dsimp only at hSw); go_simp; try with_reducible rfl)
    (try simp only [List.append_eq, List.cons_append, List.nil_append, List.getElem_toArray, List.getElem_cons_succ, List.getElem_cons_zero, Act.put, List.setIfInBounds_toArray, List.set_cons_zero, List.set_cons_succ])
    refine wpAnyH_take (i := 3) (v := ?_) rfl (by kernel_rfl) (by kernel_rfl) (by kernel_rfl) (fun _ _ _ h => h) (Or.inl ⟨by kernel_rfl, ?_⟩) (by first | assumption | trivial) ?_
    rotate_left
    · (intro wS hSw; (try dsimp only at hSw); go_simp; try with_reducible rfl)
    (try simp only [List.append_eq, List.cons_append, List.nil_append, List.getElem_toArray, List.getElem_cons_succ, List.getElem_cons_zero, Act.put, List.setIfInBounds_toArray, List.set_cons_zero, List.set_cons_succ])
    refine wpAnyH_take (i := 4) (v := ?_) rfl (by kernel_rfl) (by kernel_rfl) (by kernel_rfl) (fun _ _ _ h => h) (Or.inl ⟨by kernel_rfl, ?_⟩) (by first | assumption | trivial) ?_
    rotate_left
    · (intro wS hSw; (try dsimp only at hSw); go_simp; try with_reducible rfl)
    (try simp only [List.append_eq, List.cons_append, List.nil_append, List.getElem_toArray, List.getElem_cons_succ, List.getElem_cons_zero, Act.put, List.setIfInBounds_toArray, List.set_cons_zero, List.set_cons_succ])
    refine wpAnyH_take (i := 5) (v := ?_) rfl (by kernel_rfl) (by kernel_rfl) (by kernel_rfl) (fun _ _ _ h => h) (Or.inl ⟨by kernel_rfl, ?_⟩) (by first | assumption | trivial) ?_
    rotate_left
    · (intro wS hSw; (try dsimp only at hSw); go_simp; try with_reducible rfl)
    (try simp only [List.append_eq, List.cons_append, List.nil_append, List.getElem_toArray, List.getElem_cons_succ, List.getElem_cons_zero, Act.put, List.setIfInBounds_toArray, List.set_cons_zero, List.set_cons_succ])
    refine wpAnyH_take (i := 6) (v := .agg (s.map B8).toArray) rfl (by kernel_rfl) (by kernel_rfl) (by kernel_rfl) (fun _ _ _ h => h) (yieldsIf_load_mid (by kernel_rfl) 64 (.tmp 37) rfl hb (i * 128) rfl (s.map B8) _ (fun w h => h.2.2) Try.underlying64 rfl HSS.out) (by assumption) ?_
    (try simp only [List.getElem_toArray, List.getElem_cons_succ, List.getElem_cons_zero, Act.put, List.setIfInBounds_toArray, List.set_cons_zero, List.set_cons_succ])
    refine wpAnyH_ready (rs := [7]) (by kernel_rfl) (by simp) ?_
    refine AllReadyH.cons rfl (fun K hK => ?_) AllReadyH.nil
    go_simp
    (go_at_call 32; refine (HOC.out _).mono ?_; rintro e w6 ⟨rfl, rfl⟩)
    go_wp2_with fail
    refine hK.out _ _ (by first | assumption | trivial) (fun hHeld => ?_)
    clear hK K
    (try simp only [List.append_eq, List.cons_append, List.nil_append, List.getElem_toArray, List.getElem_cons_succ, List.getElem_cons_zero, Act.put, List.setIfInBounds_toArray, List.set_cons_zero, List.set_cons_succ])
    refine wpAnyH_ready (rs := [8]) (by kernel_rfl) (by simp) ?_
    refine AllReadyH.cons rfl (fun K hK => ?_) AllReadyH.nil
    go_simp
    skip
    go_wp2_with fail
    refine hK.out _ _ (by first | assumption | trivial) (fun hHeld => ?_)
    clear hK K
    (try simp only [List.append_eq, List.cons_append, List.nil_append, List.getElem_toArray, List.getElem_cons_succ, List.getElem_cons_zero, Act.put, List.setIfInBounds_toArray, List.set_cons_zero, List.set_cons_succ])
    refine wpAnyH_ready (rs := [9]) (by kernel_rfl) (by simp) ?_
    refine AllReadyH.cons rfl (fun K hK => ?_) AllReadyH.nil
    go_simp
    skip
    go_wp2_with fail
    refine hK.out _ _ (by first | assumption | trivial) (fun hHeld => ?_)
    clear hK K
    (try simp only [List.append_eq, List.cons_append, List.nil_append, List.getElem_toArray, List.getElem_cons_succ, List.getElem_cons_zero, Act.put, List.setIfInBounds_toArray, List.set_cons_zero, List.set_cons_succ])
    refine wpAnyH_done (by kernel_rfl) ?_ _
    refine NoPanic.normal ?_
    go_wp2_with fail
    have hd2 := HD.out
    have hs2' := HS2.out
    have hl := L0.out
    have hle := HBL.out.size
    have hDd : W.heap.size ≤ Dd := by omega
    have u1 := (((Q1.out.set 0 (.slice (some ⟨W3.heap.size, 0, none⟩) 128 128)).far (b := W.heap.size + 2) (i := 0) (by omega) (.int .i64 0)))
    have u2 := ((Q2.out.far (b := W.heap.size + 1) (i := 0) (by omega) (.slice (some ⟨W3.heap.size, 0, none⟩) 128 128)).set 0 (.int .i64 0))
    have u3 := ((Q3.out.far (b := W.heap.size + 1) (i := 0) (by omega) (.slice (some ⟨W3.heap.size, 0, none⟩) 128 128)).far (b := W.heap.size + 2) (i := 0) (by omega) (.int .i64 0))
    have zB := bq (((HBL.out.trans (HbA.out.mono hle)).setCell (p := ⟨W.heap.size + 1, 0, none⟩) (by show _ ≤ W.heap.size + 1; omega) (.slice (some ⟨W3.heap.size, 0, none⟩) 128 128)).setCell (p := ⟨W.heap.size + 2, 0, none⟩) (by show _ ≤ W.heap.size + 2; omega) (.int .i64 0)) 1
    have zK0 : (W3.alloc (.cells (s.map B8).toArray 64)).heap[Dd]? = some (.deferred (some [])) := (HbA.out.block Dd (lt_of_heap HK.out)).trans HK.out
    have zK := ((KeepsOthers.setCell (W3.alloc (.cells (s.map B8).toArray 64)) ⟨W.heap.size + 1, 0, none⟩ (.slice (some ⟨W3.heap.size, 0, none⟩) 128 128)).trans (KeepsOthers.setCell _ ⟨W.heap.size + 2, 0, none⟩ (.int .i64 0))).same Dd _ zK0 rfl
    obtain ⟨Wf, hWf⟩ : ∃ Wf, (((W3.alloc (.cells (s.map B8).toArray 64)).setCell ⟨W.heap.size + 1, 0, none⟩ (.slice (some ⟨W3.heap.size, 0, none⟩) 128 128)).setCell ⟨W.heap.size + 2, 0, none⟩ (.int .i64 0)).drew = Wf := ⟨_, rfl⟩
    have u1 : OwnE Wf (W.heap.size + 1) 31 [.slice (some ⟨W3.heap.size, 0, none⟩) 128 128] := by rw [← hWf]; exact u1
    have u2 : OwnE Wf (W.heap.size + 2) 25 [.int .i64 0] := by rw [← hWf]; exact u2
    have u3 : OwnE Wf W3.heap.size 64 (s.map B8) := by rw [← hWf]; exact u3
    have zB : Below W.heap.size W Wf := by rw [← hWf]; exact zB
    have zK : Wf.heap[Dd]? = some (.deferred (some [])) := by rw [← hWf]; exact zK
    rw [hWf]
    refine ⟨by simp, .inl ⟨_, _, rfl, run_takeDeferred zK, ?_⟩⟩
    refine ⟨_, rd_res rfl rfl ((u1.put (.deferred none) zK rfl).cell (j := 0) rfl) ((u2.put (.deferred none) zK rfl).cell (j := 0) rfl), ?_⟩
    rw [HRD.out]
    exact ⟨_, rfl, hle, u3.put (.deferred none) zK rfl, zB.trans (belowK_b (w := W) (Nat.le_refl _) _ Dd _ _ hDd zK rfl rfl)⟩
  case stop =>
    rintro Dd c' pre W3 hD hSp ⟨rfl, hbl, s, hh, hf, h1, h2, hhs, h3⟩ hK
    have hrd : readD D i = s := by
      obtain ⟨r, hr⟩ := hSp
      unfold readD
      rw [← HFIND.out, ← hr, List.map_append, findB_append, hf]
      rfl
    have HRD := hid hrd
    have HK := hid hK
    have H1 := hid h1
    have H2 := hid h2
    have H3 := hid h3
    have HBL := hid hbl
    clear hrd hK h1 h2 h3 hbl hB1 x1 x3 y0 hys hbf hb12 hbw2 hf hSp
    refine wpIn_wide.2 ?_
    go_wp2_with fail
    have hDd : W.heap.size ≤ Dd := by omega
    have hle := hhs
    have u1 := H1.out
    have u2 := H2.out
    have u3 := H3.out
    have zB := HBL.out
    have zK := HK.out
    refine ⟨by simp, .inl ⟨_, _, rfl, run_takeDeferred zK, ?_⟩⟩
    refine ⟨_, rd_res rfl rfl ((u1.put (.deferred none) zK rfl).cell (j := 0) rfl) ((u2.put (.deferred none) zK rfl).cell (j := 0) rfl), ?_⟩
    rw [HRD.out]
    exact ⟨_, rfl, hle, u3.put (.deferred none) zK rfl, zB.trans (belowK_b (w := W) (Nat.le_refl _) _ Dd _ _ hDd zK rfl rfl)⟩
end Go.Proofs.Ytkadehdbnkinlaa
