/-
  The day that a letter tells: the program's walk. A part of the proof: see the head of the text that ends in 'Law'.
-/
import Derived.Test.YtkjlkkaoaiphcaaDoorDa15
namespace Go.Proofs.YtkjlkkaoaiphcaaDoor
open Go.RowKit Go.Shelf
set_option linter.unusedVariables false
set_option linter.unusedSimpArgs false
attribute [local go_sem] Oper.semAt_some

/-- A word without its comma. -/
def trimC (x : List UInt8) : List UInt8 := Lib.trimSuffix x [44]
theorem trimC_len (x : List UInt8) : (trimC x).length ≤ x.length := by
  unfold trimC Lib.trimSuffix
  split
  · rw [List.length_take]; omega
  · exact Nat.le_refl _
def mwords (l : List UInt8) : List (List UInt8) := (wordsL l).map trimC
/-- Without the day of the week. -/
def noWeek (ws : List (List UInt8)) : List (List UInt8) := match ws with | [] => [] | x :: r => if weekF x = true then r else x :: r
/-- The day that words tell, and the error's number. -/
def wdayF (ws : List (List UInt8)) : Int × Nat := match ws with | d :: m :: y :: _ => dayF d m y | _ => (0, 3)
def mailF (l : List UInt8) : Int × Nat := wdayF (noWeek (mwords l))
theorem trim_e (x : List UInt8) (w : World) (h : x.length ≤ 100000) : Calls Tryd.prog 45 #[.string (str x), .string ⟨#[44]⟩] w fun e w' => e = .returned (.string (str (trimC x))) ∧ w = w' :=
  (Tryd.strings_TrimSuffix (str x) ⟨#[44]⟩ w (by rw [str_size]; omega)).mono fun e w' ⟨he, hw⟩ => ⟨by rw [he, str_toList]; rfl, hw.symm⟩
theorem strT : SliceT Tryd.prog 68 9 (.string ⟨#[]⟩) 1 16 := ⟨Tryd.underlying68, by kernel_rfl, rfl, by decide⟩
theorem ff_stops {α : Type} (f : α → List UInt8) (ys : List α) (m : Nat) (hm : 1 ≤ m) (Bs : Nat) (l : List UInt8) (hl : l.length ≤ 100000) (w : World) (hT : Lib.Utf8Tabs 0 1 w) (hys : ys.map f = wordsL l) (w0 : World) (hb : Below w.heap.size w w0)
    (h0 : w0.cell? ⟨Bs, 0, none⟩ = some (.string (str l))) (h1 : w0.cell? ⟨Bs + 1, 0, none⟩ = some (.func (.func 44) #[] #[])) (hB : Bs + 1 < w0.heap.size) :
    SeqStopsK Fence.wide m Tryd.prog 56 #[.pointer (some ⟨Bs, 0, none⟩), .pointer (some ⟨Bs + 1, 0, none⟩)] (fun x : α => #[.string (str (f x))]) (KpW w.heap.size Bs) (fun zs => zs = ys) (fun pre => pre <+: ys) ys.length w0 := fun lp J Jx W hW hJ _ hY h00 =>
  ff1_in f ys m hm lp Bs l hl w hT hys J Jx W.heap.size hJ hY W (hb.trans (hW.mono hb.size)) ((hW.cell (p := ⟨Bs, 0, none⟩) (by show Bs < _; omega)).trans h0) ((hW.cell (p := ⟨Bs + 1, 0, none⟩) hB).trans h1) h00
theorem wpIn_append_row {F : Fence} {n0 : Nat} {P : Program} {o : Oper} {a : Act} {w : World} {K : Act → World → Prop} {Q : Exit → Act → World → Prop} (s x : Operand) {t e : TypeId} {z : Value} {size bytes : Nat} (T : SliceT P t e z size bytes)
    (ho : o.op = .call { callee := .builtin .append, args := #[s, x], argTypes := #[t, t] })
    (base : Nat) (v : Value) (n : Nat) (xs : List Value) (hs : a.eval s = v) (hown : w.ownsRow base e size v n xs)
    (A : Option Addr) (m c : Nat) (news : List Value) (hx : a.eval x = .slice A m c) (hl : news.length = m * size) (hr : Row w A news) (h1 : ∀ u ∈ news, u.oneCell' = true)
    (h63 : n + m ≤ maxLen) (hbytes : (n + m) * bytes ≤ 140737488355328) (hbase : base ≤ w.heap.size)
    (h : ∀ A' c' w', w'.ownsRow base e size (.slice A' (n + m) c') (n + m) (xs ++ news) → w.grownBy w' v.ownBlock →
      (Value.ownBlock (.slice A' (n + m) c') = v.ownBlock ∨ Value.ownBlock (.slice A' (n + m) c') = some w.heap.size) → K (a.put o.dst (.slice A' (n + m) c')) w') : o.wpIn F n0 P a w K Q := by
  obtain ⟨A', c', w', hrun, h2, h3, h4⟩ := run_append_row (P := P) w o.type T base v n xs hown A m c news hl hr h1 h63 hbytes hbase
  unfold Oper.wpIn
  refine ⟨by simp [Oper.about, ho, resolve, Target.leads, Sem.run_pure], ?_⟩
  rw [Oper.semAt_plain F _ _ (by rw [ho]; intro c hc'; cases hc')]
  simp [execOp, ho, resolve, invoke, builtin, hs, hx, hrun, Result.andThen]
  exact h A' c' w' h2 h3 h4
theorem own_weak {w : World} {base b0 n : Nat} {e : TypeId} {size : Nat} {v : Value} {xs : List Value} (h : w.ownsRow base e size v n xs) (hb : b0 ≤ base) : w.ownsRow b0 e size v n xs := by
  refine ⟨h.1, ?_⟩
  rcases h.2 with h2 | ⟨g, cap, cur, hv, hg, r⟩
  · exact Or.inl h2
  · exact Or.inr ⟨g, cap, cur, hv, Nat.le_trans hb hg, r⟩
/-- One word more: what the append and the store leave. -/
theorem words_step {w W w3 : World} {Bs n1 n : Nat} {TL TS : TypeId} {v v' : Value} {xs ys : List Value} {tmp : Obj} (hte : TL ≠ TS) (h1 : w.heap.size < Bs) (h2 : Bs + 1 < n1) (hs : n1 ≤ W.heap.size)
    (hv : Boxed W w.heap.size TL v) (hrow : W.ownsRow n1 TS 1 v n xs) (hBW : Below w.heap.size w W) (hown : w3.ownsRow n1 TS 1 v' (n + 1) ys) (hg : (W.drew.alloc tmp).grownBy w3 v.ownBlock) :
    Boxed w3 w.heap.size TL v ∧ KeepsFrom n1 W (w3.setCell ⟨w.heap.size, 0, none⟩ v') ∧ KpW w.heap.size Bs W (w3.setCell ⟨w.heap.size, 0, none⟩ v') ∧ (Boxed (w3.setCell ⟨w.heap.size, 0, none⟩ v') w.heap.size TL v' ∧ (w3.setCell ⟨w.heap.size, 0, none⟩ v').ownsRow n1 TS 1 v' (n + 1) ys) ∧
      Below w.heap.size w (w3.setCell ⟨w.heap.size, 0, none⟩ v') ∧ n1 ≤ (w3.setCell ⟨w.heap.size, 0, none⟩ v').heap.size := by
  have hv' : Boxed W.drew w.heap.size TL v := hv
  have hr' : W.drew.ownsRow n1 TS 1 v n xs := hrow
  obtain ⟨a1, a2, a3, a4, a5⟩ := hv'.appended hte (own_weak hr' (show w.heap.size ≤ n1 by omega)) (show w.heap.size ≤ W.heap.size by omega) (Nat.le_refl _) (own_weak hown (show w.heap.size ≤ n1 by omega)) hg
  have hsz := a4.size
  have hkf := a4.from n1
  have other : ∀ g, g ≠ w.heap.size → g < n1 → (w3.setCell ⟨w.heap.size, 0, none⟩ v').heap[g]? = W.heap[g]? := fun g hg1 hg2 => by
    refine (heap_setCell_other w3 ⟨w.heap.size, 0, none⟩ g v' hg1).trans ?_
    refine (hg.block g (by simp; show g < W.heap.size + 1; omega) (fun e => ?_)).trans (Below.heap_alloc W.drew tmp g (by show g < W.heap.size; omega))
    have := own_base hrow g e.symm
    omega
  refine ⟨a1, ⟨hkf.size, hkf.same⟩, kpw_of (show Below w.heap.size W _ from ⟨a5.os, a5.tape, a5.output, a5.size, a5.block⟩) (other Bs (by omega) (by omega)) (other (Bs + 1) (by omega) (by omega)), ⟨a2, hown.kept (grownBy_setCell' w3 _ v') (.inr (a1.not_row hte hown).symm)⟩, hBW.trans ⟨a5.os, a5.tape, a5.output, a5.size, a5.block⟩, ?_⟩
  have : W.drew.heap.size = W.heap.size := rfl
  omega
abbrev Wd : Type := {x : List UInt8 // x.length ≤ 100000}
theorem lift_words : ∀ ws : List (List UInt8), (∀ x ∈ ws, x.length ≤ 100000) → ∃ ys : List Wd, ys.map Subtype.val = ws
  | [], _ => ⟨[], rfl⟩
  | x :: l, h => by
    obtain ⟨ys, hy⟩ := lift_words l (fun y hy => h y (List.mem_cons_of_mem _ hy))
    exact ⟨⟨x, h x List.mem_cons_self⟩ :: ys, by rw [List.map_cons, hy]⟩
def TV (x : Wd) : Value := .string (str (trimC x.val))
theorem row_step {wc : World} {A A' : Option Addr} {g : Nat} {x : Value} {xs : List Value} {u : Value} (h : Row wc A (x :: xs)) (hn : ∀ b off y, A = some ⟨b, off, y⟩ → b ≠ g) (hA : xs = [] ∨ A' = A.map (fun x => { block := x.block, off := x.off + 1 })) : Row (wc.setCell ⟨g, 0, none⟩ u) A' xs := fun hx => by
  obtain ⟨b, off, rfl, hc⟩ := h (by simp)
  refine ⟨b, off + 1, (hA.resolve_left hx).trans rfl, fun j v hv => ?_⟩
  have hq := hc (j + 1) v (by simpa using hv)
  have hb := hn b off none rfl
  rw [show off + 1 + j = off + (j + 1) by omega]
  have e := heap_setCell_other wc ⟨g, 0, none⟩ b u hb
  simp only [World.cell?, e] at hq ⊢
  exact hq
set_option maxRecDepth 100000 in
set_option maxHeartbeats 4000000 in
theorem mail_any (l : List UInt8) (hl : l.length ≤ 100000) (w : World) (hT : Lib.Utf8Tabs 0 1 w) :
    Calls Tryd.prog 23 #[.string (str l)] w fun e w' => e = .returned (.tuple #[.int .i64 (mailF l).1, .int .i64 ((mailF l).2 : Int)]) ∧ Below w.heap.size w w' := by
  obtain ⟨ys, hys⟩ := lift_words (wordsL l) (fun x hx => Nat.le_trans (words_all l x hx).1 hl)
  have hylen : ys.length ≤ 100001 := by
    have := words_len l
    rw [← hys, List.length_map] at this
    omega
  have HYS := hid hys
  have HT := hid hT
  clear hT hys
  refine (callsIn_wide (n := 8)).1 (callsIn_of_wp_marks Tryd.func23 rfl trivial ?_ rfl)
  simp only [Tryd.ntmps23, List.size_toArray, List.length_cons, List.length_nil, Nat.reduceAdd, Nat.reduceSub, Array.replicate_succ, Array.replicate_zero, List.push_toArray, List.append_toArray, List.nil_append, List.cons_append]
  refine wpIn_wide.2 ?_
  go_upto_region 2 with fail
  have hb0 : Below w.heap.size w (w.alloc (.cells #[.slice none 0 0] 68)) := (Below.refl _ w).alloc (Nat.le_refl _) _
  have bO := Boxed.new w 68 (.slice none 0 0)
  obtain ⟨w0, hw0⟩ : ∃ w0, w.alloc (.cells #[.slice none 0 0] 68) = w0 := ⟨_, rfl⟩
  have hs0 : w0.heap.size = w.heap.size + 1 := by rw [← hw0]; simp
  rw [hw0] at hb0 bO ⊢
  have HB0 := hid hb0
  have HO := hid bO
  have HS0 := hid hs0
  clear hb0 bO hw0 hs0
  go_wp2_with (go_at_call 43; refine (ffs_any l _).mono ?_; rintro e w1 ⟨rfl, rfl⟩)
  obtain ⟨w1, hw1⟩ : ∃ w1, (w0.alloc (.cells #[.string (str l)] 9)).alloc (.cells #[.func (.func 44) #[] #[]] 82) = w1 := ⟨_, rfl⟩
  have hc0 : OwnC w1 w0.heap.size 9 [.string (str l)] := by rw [← hw1]; exact (OwnC.new_ w0 _ _).alloc _
  have hc1 : OwnC w1 (w0.heap.size + 1) 82 [.func (.func 44) #[] #[]] := by
    rw [← hw1]
    have := OwnC.new_ (w0.alloc (.cells #[.string (str l)] 9)) #[.func (.func 44) #[] #[]] 82
    rwa [World.size_alloc] at this
  have hb1 : Below w0.heap.size w0 w1 := by rw [← hw1]; exact ((Below.refl _ w0).alloc (Nat.le_refl _) _).alloc (by simp) _
  rw [hw1]
  have HC0 := hid hc0
  have HC1 := hid hc1
  have HB1 := hid hb1
  have HLT := hid hc1.lt
  clear hw1 hc0 hc1 hb1
  refine (wpIn_wide (n := 8)).1 ?_
  refine' wpIn_rangeFunc_ownG rfl (by omega) (gf := 56) (lb := #[.pointer (some ⟨w0.heap.size, 0, none⟩), .pointer (some ⟨w0.heap.size + 1, 0, none⟩)]) rfl trivial (enters_of Tryd.func56 (by kernel_rfl) rfl)
    (ff_stops Subtype.val ys (8 - 1) (by omega) w0.heap.size l hl w HT.out HYS.out w1 (HB0.out.trans (HB1.out.mono HB0.out.size)) (HC0.out.cell (j := 0) rfl) (HC1.out.cell (j := 0) rfl) HLT.out) kpw_t (kpw_b (Nat.le_trans HB0.out.size HB1.out.size) HLT.out) (Below.refl _ _) (fun _ => rfl)
    (fun pre W => (∃ v, Boxed W w.heap.size 68 v ∧ W.ownsRow w1.heap.size 9 1 v pre.length (pre.map TV) ∧ True) ∧ Below w.heap.size w W ∧ w1.heap.size ≤ W.heap.size)
    (fun _ _ _ => False)
    (OwnFrom.and (Own.from (holdsRow_own w1.heap.size w.heap.size 68 9 1 (fun pre : List Wd => pre.length) (fun pre => pre.map TV) (fun pre v => True)) _) ((ownFrom_below (Nat.le_refl _) (Nat.le_trans HB0.out.size HB1.out.size)).and (fun _ _ _ _ hs hg _ => Nat.le_trans hs hg.size)))
    (fun _ _ _ _ _ hs _ _ => hs)
    ⟨⟨_, HO.out.kept (grown_of_below HB1.out) (by simp), World.ownsRow_nil _ _ _ _, trivial⟩, HB0.out.trans (HB1.out.mono HB0.out.size), Nat.le_refl _⟩ _ ?assign ?body ?done ?stop
  case assign =>
    intro lq x W K hK
    gi_wp2
    exact hK
  case body =>
    rintro lq pre ⟨x, hx⟩ W ⟨⟨v, hv, hrow, _⟩, hBW, hsW⟩ hlt
    dsimp only at hx ⊢
    obtain ⟨A', c', rfl⟩ : ∃ A c, v = .slice A pre.length c := by
      rcases hrow.2 with ⟨rfl, h0⟩ | ⟨g, cap, cur, rfl, _⟩
      · rw [h0]; exact ⟨none, 0, rfl⟩
      · exact ⟨_, _, rfl⟩
    have hplen : pre.length ≤ 100001 := by omega
    have HTR := hid (fun w => trim_e x w hx)
    have hv9 := hv.cell
    have HBW := hid hBW
    have HRO := hid (show (W.drew.alloc (.cells #[.string (str (trimC x))] 9)).ownsRow w1.heap.size 9 1 (.slice A' pre.length c') pre.length (pre.map TV) from own_alloc hrow _)
    have HFIN := hid (fun (A3 : Option Addr) (c3 : Nat) (w3 : World) (h1 : w3.ownsRow w1.heap.size 9 1 (.slice A3 (pre.length + 1) c3) (pre.length + 1) (pre.map TV ++ [.string (str (trimC x))])) (h2 : (W.drew.alloc (.cells #[.string (str (trimC x))] 9)).grownBy w3 (Value.slice A' pre.length c').ownBlock) =>
      words_step (w := w) (Bs := w0.heap.size) (show (68 : TypeId) ≠ 9 by decide) (by rw [HS0.out]; omega) HLT.out hsW hv hrow hBW h1 h2)
    have hv10 : (W.alloc (.cells #[.string (str (trimC x))] 9)).cell? ⟨w.heap.size, 0, none⟩ = some (.slice A' pre.length c') := (hv.alloc _).cell
    clear hv hrow hBW
    gi_wp2
    refine wpIn_region_any (by kernel_rfl) ?_
    (try (change wpAnyIn _ _ _ _ _ _ _ _ _ (World.drew _)))
    refine wpAnyIn_ready (rs := [0, 1]) (by kernel_rfl) (by simp) ?_
    refine AllReadyIn.cons rfl (fun K hK => ?_) (AllReadyIn.cons rfl (fun K hK => ?_) AllReadyIn.nil)
    · skip
      go_simp
      refine hK _ _ ?_
      clear hK K
      (try simp only [List.getElem_toArray, List.getElem_cons_succ, List.getElem_cons_zero, Act.put, List.setIfInBounds_toArray, List.set_cons_zero, List.set_cons_succ])
      refine wpAnyIn_ready (rs := [1]) (by kernel_rfl) (by simp) ?_
      refine AllReadyIn.cons rfl (fun K hK => ?_) AllReadyIn.nil
      go_simp
      refine hK _ _ ?_
      clear hK K
      (try simp only [List.getElem_toArray, List.getElem_cons_succ, List.getElem_cons_zero, Act.put, List.setIfInBounds_toArray, List.set_cons_zero, List.set_cons_succ])
      refine wpAnyIn_ready (rs := [2]) (by kernel_rfl) (by simp) ?_
      refine AllReadyIn.cons rfl (fun K hK => ?_) AllReadyIn.nil
      go_simp
      refine ⟨trivial, ?_⟩
      gi_at_call 45
      refine (CallsIn.inRound lq (callsIn_wide.2 (HTR.out _))).mono ?_
      rintro e w5 ⟨rfl, rfl⟩
      gi_wp2_with fail
      refine wpAnyIn_ready (rs := [3]) (by kernel_rfl) (by simp) ?_
      refine AllReadyIn.cons rfl (fun K hK => ?_) AllReadyIn.nil
      go_simp
      refine hK _ _ ?_
      clear hK K
      (try simp only [List.getElem_toArray, List.getElem_cons_succ, List.getElem_cons_zero, Act.put, List.setIfInBounds_toArray, List.set_cons_zero, List.set_cons_succ])
      refine wpAnyIn_ready (rs := [4]) (by kernel_rfl) (by simp) ?_
      refine AllReadyIn.cons rfl (fun K hK => ?_) AllReadyIn.nil
      rw [if_pos (by kernel_rfl)]
      refine wpIn_append_row (.tmp 9) (.tmp 12) strT rfl w1.heap.size (.slice A' pre.length c') pre.length (pre.map TV) rfl HRO.out (some ⟨W.heap.size, 0, none⟩) 1 1 [.string (str (trimC x))] rfl rfl (Row.of_block (heap_alloc_new W.drew (Obj.cells #[.string (str (trimC x))] 9))) (by simp [Value.oneCell']) (by unfold maxLen; omega) (by omega) (by simp; show _ ≤ W.heap.size + 1; omega) ?_
      intro A3 c3 w3 hown3 hgr3 hat3
      have hfin := hid (HFIN.out A3 c3 w3 hown3 hgr3)
      have hc1 := hfin.out.1.cell
      have hf1 := hfin.out.1.frozen
      have hpost := hid (show KeepsFrom w1.heap.size W (w3.setCell ⟨w.heap.size, 0, none⟩ (.slice A3 (pre.length + 1) c3)) ∧ KpW w.heap.size w0.heap.size W (w3.setCell ⟨w.heap.size, 0, none⟩ (.slice A3 (pre.length + 1) c3)) ∧ ((∃ v, Boxed (w3.setCell ⟨w.heap.size, 0, none⟩ (.slice A3 (pre.length + 1) c3)) w.heap.size 68 v ∧ (w3.setCell ⟨w.heap.size, 0, none⟩ (.slice A3 (pre.length + 1) c3)).ownsRow w1.heap.size 9 1 v (pre ++ [(⟨x, hx⟩ : Wd)]).length ((pre ++ [(⟨x, hx⟩ : Wd)]).map TV) ∧ True) ∧ Below w.heap.size w (w3.setCell ⟨w.heap.size, 0, none⟩ (.slice A3 (pre.length + 1) c3)) ∧ w1.heap.size ≤ (w3.setCell ⟨w.heap.size, 0, none⟩ (.slice A3 (pre.length + 1) c3)).heap.size) from
        ⟨hfin.out.2.1, hfin.out.2.2.1, ⟨_, hfin.out.2.2.2.1.1, by rw [List.length_append, List.map_append]; exact hfin.out.2.2.2.1.2, trivial⟩, hfin.out.2.2.2.2⟩)
      clear hown3 hgr3 hat3
      refine hK _ _ ?_
      clear hK K
      (try simp only [List.getElem_toArray, List.getElem_cons_succ, List.getElem_cons_zero, Act.put, List.setIfInBounds_toArray, List.set_cons_zero, List.set_cons_succ])
      refine wpAnyIn_ready (rs := [5]) (by kernel_rfl) (by simp) ?_
      refine AllReadyIn.cons rfl (fun K hK => ?_) AllReadyIn.nil
      go_simp
      refine hK _ _ ?_
      clear hK K
      refine wpAnyIn_done (by kernel_rfl) ?_ _
      gi_wp2
      exact hpost.out
    · skip
      go_simp
      refine hK _ _ ?_
      clear hK K
      (try simp only [List.getElem_toArray, List.getElem_cons_succ, List.getElem_cons_zero, Act.put, List.setIfInBounds_toArray, List.set_cons_zero, List.set_cons_succ])
      refine wpAnyIn_ready (rs := [0, 2]) (by kernel_rfl) (by simp) ?_
      refine AllReadyIn.cons rfl (fun K hK => ?_) (AllReadyIn.cons rfl (fun K hK => ?_) AllReadyIn.nil)
      · skip
        go_simp
        refine hK _ _ ?_
        clear hK K
        (try simp only [List.getElem_toArray, List.getElem_cons_succ, List.getElem_cons_zero, Act.put, List.setIfInBounds_toArray, List.set_cons_zero, List.set_cons_succ])
        refine wpAnyIn_ready (rs := [2]) (by kernel_rfl) (by simp) ?_
        refine AllReadyIn.cons rfl (fun K hK => ?_) AllReadyIn.nil
        go_simp
        refine ⟨trivial, ?_⟩
        gi_at_call 45
        refine (CallsIn.inRound lq (callsIn_wide.2 (HTR.out _))).mono ?_
        rintro e w5 ⟨rfl, rfl⟩
        gi_wp2_with fail
        refine wpAnyIn_ready (rs := [3]) (by kernel_rfl) (by simp) ?_
        refine AllReadyIn.cons rfl (fun K hK => ?_) AllReadyIn.nil
        go_simp
        refine hK _ _ ?_
        clear hK K
        (try simp only [List.getElem_toArray, List.getElem_cons_succ, List.getElem_cons_zero, Act.put, List.setIfInBounds_toArray, List.set_cons_zero, List.set_cons_succ])
        refine wpAnyIn_ready (rs := [4]) (by kernel_rfl) (by simp) ?_
        refine AllReadyIn.cons rfl (fun K hK => ?_) AllReadyIn.nil
        rw [if_pos (by kernel_rfl)]
        refine wpIn_append_row (.tmp 9) (.tmp 12) strT rfl w1.heap.size (.slice A' pre.length c') pre.length (pre.map TV) rfl HRO.out (some ⟨W.heap.size, 0, none⟩) 1 1 [.string (str (trimC x))] rfl rfl (Row.of_block (heap_alloc_new W.drew (Obj.cells #[.string (str (trimC x))] 9))) (by simp [Value.oneCell']) (by unfold maxLen; omega) (by omega) (by simp; show _ ≤ W.heap.size + 1; omega) ?_
        intro A3 c3 w3 hown3 hgr3 hat3
        have hfin := hid (HFIN.out A3 c3 w3 hown3 hgr3)
        have hc1 := hfin.out.1.cell
        have hf1 := hfin.out.1.frozen
        have hpost := hid (show KeepsFrom w1.heap.size W (w3.setCell ⟨w.heap.size, 0, none⟩ (.slice A3 (pre.length + 1) c3)) ∧ KpW w.heap.size w0.heap.size W (w3.setCell ⟨w.heap.size, 0, none⟩ (.slice A3 (pre.length + 1) c3)) ∧ ((∃ v, Boxed (w3.setCell ⟨w.heap.size, 0, none⟩ (.slice A3 (pre.length + 1) c3)) w.heap.size 68 v ∧ (w3.setCell ⟨w.heap.size, 0, none⟩ (.slice A3 (pre.length + 1) c3)).ownsRow w1.heap.size 9 1 v (pre ++ [(⟨x, hx⟩ : Wd)]).length ((pre ++ [(⟨x, hx⟩ : Wd)]).map TV) ∧ True) ∧ Below w.heap.size w (w3.setCell ⟨w.heap.size, 0, none⟩ (.slice A3 (pre.length + 1) c3)) ∧ w1.heap.size ≤ (w3.setCell ⟨w.heap.size, 0, none⟩ (.slice A3 (pre.length + 1) c3)).heap.size) from
          ⟨hfin.out.2.1, hfin.out.2.2.1, ⟨_, hfin.out.2.2.2.1.1, by rw [List.length_append, List.map_append]; exact hfin.out.2.2.2.1.2, trivial⟩, hfin.out.2.2.2.2⟩)
        clear hown3 hgr3 hat3
        refine hK _ _ ?_
        clear hK K
        (try simp only [List.getElem_toArray, List.getElem_cons_succ, List.getElem_cons_zero, Act.put, List.setIfInBounds_toArray, List.set_cons_zero, List.set_cons_succ])
        refine wpAnyIn_ready (rs := [5]) (by kernel_rfl) (by simp) ?_
        refine AllReadyIn.cons rfl (fun K hK => ?_) AllReadyIn.nil
        go_simp
        refine hK _ _ ?_
        clear hK K
        refine wpAnyIn_done (by kernel_rfl) ?_ _
        gi_wp2
        exact hpost.out
      · skip
        go_simp
        refine ⟨trivial, ?_⟩
        gi_at_call 45
        refine (CallsIn.inRound lq (callsIn_wide.2 (HTR.out _))).mono ?_
        rintro e w5 ⟨rfl, rfl⟩
        gi_wp2_with fail
        refine wpAnyIn_ready (rs := [0, 3]) (by kernel_rfl) (by simp) ?_
        refine AllReadyIn.cons rfl (fun K hK => ?_) (AllReadyIn.cons rfl (fun K hK => ?_) AllReadyIn.nil)
        · skip
          go_simp
          refine hK _ _ ?_
          clear hK K
          (try simp only [List.getElem_toArray, List.getElem_cons_succ, List.getElem_cons_zero, Act.put, List.setIfInBounds_toArray, List.set_cons_zero, List.set_cons_succ])
          refine wpAnyIn_ready (rs := [3]) (by kernel_rfl) (by simp) ?_
          refine AllReadyIn.cons rfl (fun K hK => ?_) AllReadyIn.nil
          go_simp
          refine hK _ _ ?_
          clear hK K
          (try simp only [List.getElem_toArray, List.getElem_cons_succ, List.getElem_cons_zero, Act.put, List.setIfInBounds_toArray, List.set_cons_zero, List.set_cons_succ])
          refine wpAnyIn_ready (rs := [4]) (by kernel_rfl) (by simp) ?_
          refine AllReadyIn.cons rfl (fun K hK => ?_) AllReadyIn.nil
          rw [if_pos (by kernel_rfl)]
          refine wpIn_append_row (.tmp 9) (.tmp 12) strT rfl w1.heap.size (.slice A' pre.length c') pre.length (pre.map TV) rfl HRO.out (some ⟨W.heap.size, 0, none⟩) 1 1 [.string (str (trimC x))] rfl rfl (Row.of_block (heap_alloc_new W.drew (Obj.cells #[.string (str (trimC x))] 9))) (by simp [Value.oneCell']) (by unfold maxLen; omega) (by omega) (by simp; show _ ≤ W.heap.size + 1; omega) ?_
          intro A3 c3 w3 hown3 hgr3 hat3
          have hfin := hid (HFIN.out A3 c3 w3 hown3 hgr3)
          have hc1 := hfin.out.1.cell
          have hf1 := hfin.out.1.frozen
          have hpost := hid (show KeepsFrom w1.heap.size W (w3.setCell ⟨w.heap.size, 0, none⟩ (.slice A3 (pre.length + 1) c3)) ∧ KpW w.heap.size w0.heap.size W (w3.setCell ⟨w.heap.size, 0, none⟩ (.slice A3 (pre.length + 1) c3)) ∧ ((∃ v, Boxed (w3.setCell ⟨w.heap.size, 0, none⟩ (.slice A3 (pre.length + 1) c3)) w.heap.size 68 v ∧ (w3.setCell ⟨w.heap.size, 0, none⟩ (.slice A3 (pre.length + 1) c3)).ownsRow w1.heap.size 9 1 v (pre ++ [(⟨x, hx⟩ : Wd)]).length ((pre ++ [(⟨x, hx⟩ : Wd)]).map TV) ∧ True) ∧ Below w.heap.size w (w3.setCell ⟨w.heap.size, 0, none⟩ (.slice A3 (pre.length + 1) c3)) ∧ w1.heap.size ≤ (w3.setCell ⟨w.heap.size, 0, none⟩ (.slice A3 (pre.length + 1) c3)).heap.size) from
            ⟨hfin.out.2.1, hfin.out.2.2.1, ⟨_, hfin.out.2.2.2.1.1, by rw [List.length_append, List.map_append]; exact hfin.out.2.2.2.1.2, trivial⟩, hfin.out.2.2.2.2⟩)
          clear hown3 hgr3 hat3
          refine hK _ _ ?_
          clear hK K
          (try simp only [List.getElem_toArray, List.getElem_cons_succ, List.getElem_cons_zero, Act.put, List.setIfInBounds_toArray, List.set_cons_zero, List.set_cons_succ])
          refine wpAnyIn_ready (rs := [5]) (by kernel_rfl) (by simp) ?_
          refine AllReadyIn.cons rfl (fun K hK => ?_) AllReadyIn.nil
          go_simp
          refine hK _ _ ?_
          clear hK K
          refine wpAnyIn_done (by kernel_rfl) ?_ _
          gi_wp2
          exact hpost.out
        · skip
          go_simp
          refine hK _ _ ?_
          clear hK K
          (try simp only [List.getElem_toArray, List.getElem_cons_succ, List.getElem_cons_zero, Act.put, List.setIfInBounds_toArray, List.set_cons_zero, List.set_cons_succ])
          refine wpAnyIn_ready (rs := [0]) (by kernel_rfl) (by simp) ?_
          refine AllReadyIn.cons rfl (fun K hK => ?_) AllReadyIn.nil
          go_simp
          refine hK _ _ ?_
          clear hK K
          (try simp only [List.getElem_toArray, List.getElem_cons_succ, List.getElem_cons_zero, Act.put, List.setIfInBounds_toArray, List.set_cons_zero, List.set_cons_succ])
          refine wpAnyIn_ready (rs := [4]) (by kernel_rfl) (by simp) ?_
          refine AllReadyIn.cons rfl (fun K hK => ?_) AllReadyIn.nil
          rw [if_pos (by kernel_rfl)]
          refine wpIn_append_row (.tmp 9) (.tmp 12) strT rfl w1.heap.size (.slice A' pre.length c') pre.length (pre.map TV) rfl HRO.out (some ⟨W.heap.size, 0, none⟩) 1 1 [.string (str (trimC x))] rfl rfl (Row.of_block (heap_alloc_new W.drew (Obj.cells #[.string (str (trimC x))] 9))) (by simp [Value.oneCell']) (by unfold maxLen; omega) (by omega) (by simp; show _ ≤ W.heap.size + 1; omega) ?_
          intro A3 c3 w3 hown3 hgr3 hat3
          have hfin := hid (HFIN.out A3 c3 w3 hown3 hgr3)
          have hc1 := hfin.out.1.cell
          have hf1 := hfin.out.1.frozen
          have hpost := hid (show KeepsFrom w1.heap.size W (w3.setCell ⟨w.heap.size, 0, none⟩ (.slice A3 (pre.length + 1) c3)) ∧ KpW w.heap.size w0.heap.size W (w3.setCell ⟨w.heap.size, 0, none⟩ (.slice A3 (pre.length + 1) c3)) ∧ ((∃ v, Boxed (w3.setCell ⟨w.heap.size, 0, none⟩ (.slice A3 (pre.length + 1) c3)) w.heap.size 68 v ∧ (w3.setCell ⟨w.heap.size, 0, none⟩ (.slice A3 (pre.length + 1) c3)).ownsRow w1.heap.size 9 1 v (pre ++ [(⟨x, hx⟩ : Wd)]).length ((pre ++ [(⟨x, hx⟩ : Wd)]).map TV) ∧ True) ∧ Below w.heap.size w (w3.setCell ⟨w.heap.size, 0, none⟩ (.slice A3 (pre.length + 1) c3)) ∧ w1.heap.size ≤ (w3.setCell ⟨w.heap.size, 0, none⟩ (.slice A3 (pre.length + 1) c3)).heap.size) from
            ⟨hfin.out.2.1, hfin.out.2.2.1, ⟨_, hfin.out.2.2.2.1.1, by rw [List.length_append, List.map_append]; exact hfin.out.2.2.2.1.2, trivial⟩, hfin.out.2.2.2.2⟩)
          clear hown3 hgr3 hat3
          refine hK _ _ ?_
          clear hK K
          (try simp only [List.getElem_toArray, List.getElem_cons_succ, List.getElem_cons_zero, Act.put, List.setIfInBounds_toArray, List.set_cons_zero, List.set_cons_succ])
          refine wpAnyIn_ready (rs := [5]) (by kernel_rfl) (by simp) ?_
          refine AllReadyIn.cons rfl (fun K hK => ?_) AllReadyIn.nil
          go_simp
          refine hK _ _ ?_
          clear hK K
          refine wpAnyIn_done (by kernel_rfl) ?_ _
          gi_wp2
          exact hpost.out
  case done =>
    rintro D zs W hD rfl ⟨⟨v, hv, hrow, _⟩, hBW, hsW⟩ hK
    simp only [Exit.inBlock, Exit.then]
    rename_i Q0 K0 hk0 r0
    refine hk0 _ _ ?_
    clear hk0 K0 r0
    have hcell := hv.cell
    have HOW := hid hrow
    have HV := hid hv
    have HBW := hid hBW
    have HK := hid hK
    have HD := hid hD
    have HSW := hid hsW
    clear hv hrow hBW hK hD hsW
    go_upto_region 5 with fail
    go_cut [22] from 14 to 22 (fun q wx => ∃ (bb : Bool) (A : Option Addr) (n c : Nat), q = .bool bb ∧ n ≤ c ∧ wx.cell? ⟨w.heap.size, 0, none⟩ = some (.slice A n c) ∧ Hid (Boxed wx w.heap.size 68 (.slice A n c)) ∧
      Hid (Row wx A ((mwords l).map (fun x => Value.string (str x))) ∧ n = (mwords l).length ∧ (bb = true → ∃ x r, mwords l = x :: r ∧ noWeek (mwords l) = r) ∧ (bb = false → noWeek (mwords l) = mwords l) ∧ (∀ b off x, A = some ⟨b, off, x⟩ → b ≠ w.heap.size)) ∧ Hid (Below w.heap.size w wx) ∧ Hid (wx.heap[D]? = some (.deferred (some []))))
    case first =>
      have hfrz := HV.out.frozen
      rcases zs with _ | ⟨⟨z, hz⟩, zt⟩
      · have hm : mwords l = [] := by unfold mwords; rw [← HYS.out]; rfl
        have HM := hid hm
        obtain ⟨A, c, rfl⟩ : ∃ A c, v = .slice A 0 c := by
          rcases HOW.out.2 with ⟨rfl, h0⟩ | ⟨g, cap, cur, rfl, _⟩
          · exact ⟨none, 0, rfl⟩
          · exact ⟨_, _, rfl⟩
        clear hm
        go_wp2_with fail
        go_meet
        refine ⟨false, A, 0, c, rfl, Nat.zero_le _, hcell, HV, hid ⟨by rw [HM.out]; exact Row.nil _ _, by rw [HM.out]; rfl, (fun h => (by cases h)), (fun _ => by rw [HM.out]; rfl), fun b off x h => ?_⟩, HBW, HK⟩
        subst h
        intro e
        exact HV.out.not_row (show (68 : TypeId) ≠ 9 by decide) HOW.out (by rw [← e]; rfl)
      · have hm : mwords l = trimC z :: zt.map (fun x => trimC x.val) := by unfold mwords; rw [← HYS.out]; simp
        have HM := hid hm
        obtain ⟨g, c, rfl⟩ := ownsRow_succ HOW.out
        have HCP := hid (show zt.length + 1 ≤ c by
          rcases HOW.out.2 with ⟨h0, _⟩ | ⟨g', cap, cur, h0, _, _, h1, _⟩
          · cases h0
          · cases h0; exact h1)
        have hx := HOW.out.cellAt 0 (by simp)
        have hgw : g ≠ w.heap.size := fun e => HV.out.not_row (show (68 : TypeId) ≠ 9 by decide) HOW.out (by rw [e]; rfl)
        simp only [List.map_cons, TV, List.getElem?_cons_zero] at hx
        have HG := hid hgw
        have HWK := hid (fun w => week_any (trimC z) w (Nat.le_trans (trimC_len z) hz))
        obtain ⟨wb, hwb⟩ : ∃ wb, weekF (trimC z) = wb := ⟨_, rfl⟩
        rw [hwb] at HWK
        have HWB := hid hwb
        clear hm hgw hwb
        go_wp2_with (go_at_call 46; refine (HWK.out _).mono ?_; rintro e w5 ⟨rfl, b5⟩; have hcell5 := cells_keep b5 hcell; have HB5 := hid b5; clear b5)
        go_meet
        refine ⟨wb, _, _, _, rfl, HCP.out, hcell5, hid ((HB5.out.block _ HV.out.lt).trans HV.out), hid ⟨?_, by rw [HM.out]; simp, fun h => ⟨_, _, HM.out, ?_⟩, fun h => ?_, fun b off x h => ?_⟩, hid (HBW.out.trans (HB5.out.mono HBW.out.size)), hid ((HB5.out.block _ (lt_of_heap HK.out)).trans HK.out)⟩
        · rw [HM.out]
          have := (Row.of_own HOW.out).below HB5.out
          have e : (zt.map (fun x => trimC x.val)).map (fun x => Value.string (str x)) = zt.map TV := by rw [List.map_map]; rfl
          rw [List.map_cons, e]
          exact this
        · rw [HM.out]
          simp only [noWeek]
          rw [if_pos (HWB.out.trans h)]
        · rw [HM.out]
          simp only [noWeek]
          rw [if_neg (by rw [HWB.out, h]; decide)]
        · cases h
          exact HG.out
    case rest =>
      obtain ⟨bb, A, n, c, rfl, hnc, hcell, HBX, HW, HBC, HKC⟩ := hcut
      go_upto_if 22 with fail
      go_cut [] from 23 to 24 (fun wx => ∃ (A : Option Addr) (n c : Nat), wx.cell? ⟨w.heap.size, 0, none⟩ = some (.slice A n c) ∧ Hid (∃ ws : List (List UInt8), ws = noWeek (mwords l) ∧ n = ws.length ∧ Row wx A (ws.map (fun x => Value.string (str x)))) ∧ Hid (Below w.heap.size w wx) ∧ Hid (wx.heap[D]? = some (.deferred (some []))))
      case first =>
        cases bb with
        | false =>
          go_wp2_with fail
          go_meet
          have hw := HW.out.2.2.2.1
          simp only [forall_const] at hw
          exact ⟨A, n, c, hcell, hid ⟨_, rfl, by rw [hw]; exact HW.out.2.1, by rw [hw]; exact HW.out.1⟩, HBC, HKC⟩
        | true =>
          obtain ⟨x, r, hm, hw⟩ := HW.out.2.2.1 rfl
          have hn := HW.out.2.1
          rw [hm] at hn
          simp only [List.length_cons] at hn
          subst hn
          have HM := hid hm
          have HNW := hid hw
          clear hm hw
          have hfrz := HBX.out.frozen
          have HROW := HW.out.1
          rw [HM.out, List.map_cons] at HROW
          have HRW := hid HROW
          have HNE := hid HW.out.2.2.2.2
          have HDW := hid (show D ≠ w.heap.size by have := HD.out; have := HLT.out; have := HB0.out.size; omega)
          have HSC := hid (show w.heap.size ≤ wc.heap.size from HBC.out.size)
          clear HROW HW
          go_wp2_with fail
          all_goals go_meet
          all_goals
            refine ⟨_, _, _, (HBX.out.set _).cell, hid ⟨_, HNW.out.symm, rfl, row_step HRW.out HNE.out ?_⟩, hid (HBC.out.grown (grownBy_setCell' wc _ _) HSC.out (fun k hk => ?_)), hid ((heap_setCell_other wc _ D _ HDW.out).trans HKC.out)⟩
          all_goals first
            | (cases hk; exact Nat.le_refl _)
            | exact .inr rfl
            | exact .inl (by rw [List.eq_nil_of_length_eq_zero (l := r) (by omega)]; rfl)
      case rest =>
      obtain ⟨A, n, c, hcell, HW, HBC, HKC⟩ := hcut
      by_cases h3 : n < 3
      · have d3 : decide (n < 3) = true := by simpa using h3
        have d3' : decide ((n : Int) < 3) = true := by simp; omega
        have hm : mailF l = (0, 3) := by
          obtain ⟨ws, hw, hn, _⟩ := HW.out
          unfold mailF
          rw [← hw]
          match ws, hn with
          | [], _ => rfl
          | [_], _ => rfl
          | [_, _], _ => rfl
          | _ :: _ :: _ :: _, hn => simp at hn; omega
        have HM := hid hm
        clear hm h3
        go_wp2_with fail
        refine ⟨by simp, .inl ⟨_, _, rfl, run_takeDeferred HKC.out, ?_⟩⟩
        refine ⟨_, results_tmp2 rfl _ _ _, ?_⟩
        rw [HM.out]
        exact ⟨rfl, HBC.out.trans (belowK_b (w := w) (Nat.le_refl _) wc D _ _ (by have := HD.out; have := HLT.out; have := HB0.out.size; omega) HKC.out rfl rfl)⟩
      · have d3 : decide (n < 3) = false := by simpa using h3
        have d3' : decide ((n : Int) < 3) = false := by simp; omega
        obtain ⟨ws, hw, hn, hr⟩ := HW.out
        obtain ⟨x, y, z, r, rfl⟩ : ∃ x y z r, ws = x :: y :: z :: r := by
          match ws, hn with
          | [], hn => simp at hn; omega
          | [_], hn => simp at hn; omega
          | [_, _], hn => simp at hn; omega
          | x :: y :: z :: r, hn => exact ⟨x, y, z, r, rfl⟩
        have hm : mailF l = dayF x y z := by
          unfold mailF
          rw [← hw]
          rfl
        have hlen : ∀ q ∈ x :: y :: z :: r, q.length ≤ 100000 := fun q hq => by
          rw [hw] at hq
          have : q ∈ mwords l := by
            unfold noWeek at hq
            split at hq
            · cases hq
            · rename_i e
              rw [e]
              split at hq
              · exact List.mem_cons_of_mem _ hq
              · exact hq
          unfold mwords at this
          obtain ⟨q', hq', rfl⟩ := List.mem_map.1 this
          exact Nat.le_trans (trimC_len q') (Nat.le_trans (words_all l q' hq').1 hl)
        obtain ⟨b, off, rfl, hcl⟩ := hr (by simp)
        have p0 := hcl 0 _ rfl
        have p1 := hcl 1 _ rfl
        have p2 := hcl 2 _ rfl
        rw [Nat.add_zero] at p0
        have hn' : n = r.length + 3 := by rw [hn]; rfl
        subst hn'
        have HM := hid hm
        have HDY := hid (fun w => day_any x y z w (hlen _ (by simp)) (hlen _ (by simp)) (hlen _ (by simp)))
        clear hm hlen hcl hr hn hw h3 HW
        have i0 : (0 : Int) < (r.length : Int) + 3 := by omega
        have i1 : (1 : Int) < (r.length : Int) + 3 := by omega
        have i2 : (2 : Int) < (r.length : Int) + 3 := by omega
        go_upto_region 9 with fail
        refine wp_region_noPanic ?_
        refine wp_region_held_drew (S := (fun W => W.cell? ⟨w.heap.size, 0, none⟩ = some (.slice (some ⟨b, off, none⟩) (r.length + 3) c) ∧ W.cell? ⟨b, off, none⟩ = some (.string (str x)) ∧ W.cell? ⟨b, off + 1, none⟩ = some (.string (str y)) ∧ W.cell? ⟨b, off + 2, none⟩ = some (.string (str z)))) (by kernel_rfl) (by first | assumption | trivial) (fun hHeld => ?_)
        refine wpAnyH_take (i := 0) (v := ?_) rfl (by kernel_rfl) (by kernel_rfl) (by kernel_rfl) (fun _ _ _ h => h) (Or.inl ⟨by kernel_rfl, ?_⟩) (by first | assumption | trivial) ?_
        rotate_left
        · (intro wS hSw; (try dsimp only at hSw); go_simp; try with_reducible rfl)
        (try simp only [List.append_eq, List.cons_append, List.nil_append, List.getElem_toArray, List.getElem_cons_succ, List.getElem_cons_zero, Act.put, List.setIfInBounds_toArray, List.set_cons_zero, List.set_cons_succ])
        refine wpAnyH_take (i := 1) (v := ?_) rfl (by kernel_rfl) (by kernel_rfl) (by kernel_rfl) (fun _ _ _ h => h) (Or.inl ⟨by kernel_rfl, ?_⟩) (by first | assumption | trivial) ?_
        rotate_left
        · (intro wS hSw; (try dsimp only at hSw); go_simp; try with_reducible rfl)
        (try simp only [List.append_eq, List.cons_append, List.nil_append, List.getElem_toArray, List.getElem_cons_succ, List.getElem_cons_zero, Act.put, List.setIfInBounds_toArray, List.set_cons_zero, List.set_cons_succ])
        refine wpAnyH_take (i := 2) (v := ?_) rfl (by kernel_rfl) (by kernel_rfl) (by kernel_rfl) (fun _ _ _ h => h) (Or.inl ⟨by kernel_rfl, ?_⟩) (by first | assumption | trivial) ?_
        rotate_left
        · (intro wS hSw; (try dsimp only at hSw); go_simp; try with_reducible rfl)
        (try simp only [List.append_eq, List.cons_append, List.nil_append, List.getElem_toArray, List.getElem_cons_succ, List.getElem_cons_zero, Act.put, List.setIfInBounds_toArray, List.set_cons_zero, List.set_cons_succ])
        refine wpAnyH_take (i := 3) (v := ?_) rfl (by kernel_rfl) (by kernel_rfl) (by kernel_rfl) (fun _ _ _ h => h) (Or.inl ⟨by kernel_rfl, ?_⟩) (by first | assumption | trivial) ?_
        rotate_left
        · (intro wS hSw; (try dsimp only at hSw); go_simp; try with_reducible rfl)
        (try simp only [List.append_eq, List.cons_append, List.nil_append, List.getElem_toArray, List.getElem_cons_succ, List.getElem_cons_zero, Act.put, List.setIfInBounds_toArray, List.set_cons_zero, List.set_cons_succ])
        refine wpAnyH_take (i := 4) (v := ?_) rfl (by kernel_rfl) (by kernel_rfl) (by kernel_rfl) (fun _ _ _ h => h) (Or.inl ⟨by kernel_rfl, ?_⟩) (by first | assumption | trivial) ?_
        rotate_left
        · (intro wS hSw; (try dsimp only at hSw); go_simp; try with_reducible rfl)
        (try simp only [List.append_eq, List.cons_append, List.nil_append, List.getElem_toArray, List.getElem_cons_succ, List.getElem_cons_zero, Act.put, List.setIfInBounds_toArray, List.set_cons_zero, List.set_cons_succ])
        refine wpAnyH_take (i := 5) (v := ?_) rfl (by kernel_rfl) (by kernel_rfl) (by kernel_rfl) (fun _ _ _ h => h) (Or.inl ⟨by kernel_rfl, ?_⟩) (by first | assumption | trivial) ?_
        rotate_left
        · (intro wS hSw; (try dsimp only at hSw); go_simp; try with_reducible rfl)
        (try simp only [List.append_eq, List.cons_append, List.nil_append, List.getElem_toArray, List.getElem_cons_succ, List.getElem_cons_zero, Act.put, List.setIfInBounds_toArray, List.set_cons_zero, List.set_cons_succ])
        refine wpAnyH_take (i := 6) (v := ?_) rfl (by kernel_rfl) (by kernel_rfl) (by kernel_rfl) (fun _ _ _ h => h) (Or.inl ⟨by kernel_rfl, ?_⟩) (by first | assumption | trivial) ?_
        rotate_left
        · (intro wS hSw; (try dsimp only at hSw); go_simp; try with_reducible rfl)
        (try simp only [List.append_eq, List.cons_append, List.nil_append, List.getElem_toArray, List.getElem_cons_succ, List.getElem_cons_zero, Act.put, List.setIfInBounds_toArray, List.set_cons_zero, List.set_cons_succ])
        refine wpAnyH_take (i := 7) (v := ?_) rfl (by kernel_rfl) (by kernel_rfl) (by kernel_rfl) (fun _ _ _ h => h) (Or.inl ⟨by kernel_rfl, ?_⟩) (by first | assumption | trivial) ?_
        rotate_left
        · (intro wS hSw; (try dsimp only at hSw); go_simp; try with_reducible rfl)
        (try simp only [List.append_eq, List.cons_append, List.nil_append, List.getElem_toArray, List.getElem_cons_succ, List.getElem_cons_zero, Act.put, List.setIfInBounds_toArray, List.set_cons_zero, List.set_cons_succ])
        refine wpAnyH_take (i := 8) (v := ?_) rfl (by kernel_rfl) (by kernel_rfl) (by kernel_rfl) (fun _ _ _ h => h) (Or.inl ⟨by kernel_rfl, ?_⟩) (by first | assumption | trivial) ?_
        rotate_left
        · (intro wS hSw; (try dsimp only at hSw); go_simp; try with_reducible rfl)
        (try simp only [List.append_eq, List.cons_append, List.nil_append, List.getElem_toArray, List.getElem_cons_succ, List.getElem_cons_zero, Act.put, List.setIfInBounds_toArray, List.set_cons_zero, List.set_cons_succ])
        refine wpAnyH_ready (rs := [9]) (by kernel_rfl) (by simp) ?_
        refine AllReadyH.cons rfl (fun K hK => ?_) AllReadyH.nil
        go_simp
        (go_at_call 40; refine (HDY.out _).mono ?_; rintro e w5 ⟨rfl, b5⟩; have hS5 : w5.cell? ⟨w.heap.size, 0, none⟩ = some (.slice (some ⟨b, off, none⟩) (r.length + 3) c) ∧ w5.cell? ⟨b, off, none⟩ = some (.string (str x)) ∧ w5.cell? ⟨b, off + 1, none⟩ = some (.string (str y)) ∧ w5.cell? ⟨b, off + 2, none⟩ = some (.string (str z)) := ⟨cells_keep b5 hHeld.1, cells_keep b5 hHeld.2.1, cells_keep b5 hHeld.2.2.1, cells_keep b5 hHeld.2.2.2⟩; have HB5 := hid b5; clear b5 hHeld)
        go_wp2_with fail
        refine hK.out _ _ (by first | assumption | trivial) (fun hHeld => ?_)
        clear hK K
        (try simp only [List.append_eq, List.cons_append, List.nil_append, List.getElem_toArray, List.getElem_cons_succ, List.getElem_cons_zero, Act.put, List.setIfInBounds_toArray, List.set_cons_zero, List.set_cons_succ])
        refine wpAnyH_take (i := 10) (v := ?_) rfl (by kernel_rfl) (by kernel_rfl) (by kernel_rfl) (fun _ _ _ h => h) (Or.inl ⟨by kernel_rfl, ?_⟩) (by first | assumption | trivial) ?_
        rotate_left
        · (intro wS hSw; (try dsimp only at hSw); go_simp; try with_reducible rfl)
        (try simp only [List.append_eq, List.cons_append, List.nil_append, List.getElem_toArray, List.getElem_cons_succ, List.getElem_cons_zero, Act.put, List.setIfInBounds_toArray, List.set_cons_zero, List.set_cons_succ])
        refine wpAnyH_take (i := 11) (v := ?_) rfl (by kernel_rfl) (by kernel_rfl) (by kernel_rfl) (fun _ _ _ h => h) (Or.inl ⟨by kernel_rfl, ?_⟩) (by first | assumption | trivial) ?_
        rotate_left
        · (intro wS hSw; (try dsimp only at hSw); go_simp; try with_reducible rfl)
        (try simp only [List.append_eq, List.cons_append, List.nil_append, List.getElem_toArray, List.getElem_cons_succ, List.getElem_cons_zero, Act.put, List.setIfInBounds_toArray, List.set_cons_zero, List.set_cons_succ])
        refine wpAnyH_take (i := 12) (v := ?_) rfl (by kernel_rfl) (by kernel_rfl) (by kernel_rfl) (fun _ _ _ h => h) (Or.inl ⟨by kernel_rfl, ?_⟩) (by first | assumption | trivial) ?_
        rotate_left
        · (intro wS hSw; (try dsimp only at hSw); go_simp; try with_reducible rfl)
        (try simp only [List.append_eq, List.cons_append, List.nil_append, List.getElem_toArray, List.getElem_cons_succ, List.getElem_cons_zero, Act.put, List.setIfInBounds_toArray, List.set_cons_zero, List.set_cons_succ])
        refine wpAnyH_take (i := 13) (v := ?_) rfl (by kernel_rfl) (by kernel_rfl) (by kernel_rfl) (fun _ _ _ h => h) (Or.inl ⟨by kernel_rfl, ?_⟩) (by first | assumption | trivial) ?_
        rotate_left
        · (intro wS hSw; (try dsimp only at hSw); go_simp; try with_reducible rfl)
        (try simp only [List.append_eq, List.cons_append, List.nil_append, List.getElem_toArray, List.getElem_cons_succ, List.getElem_cons_zero, Act.put, List.setIfInBounds_toArray, List.set_cons_zero, List.set_cons_succ])
        refine wpAnyH_done (by kernel_rfl) ?_ _
        refine NoPanic.normal ?_
        go_wp2_with fail
        have hk5 := (HB5.out.block D (lt_of_heap HKC.out)).trans HKC.out
        refine ⟨by simp, .inl ⟨_, _, rfl, run_takeDeferred hk5, ?_⟩⟩
        refine ⟨_, results_tmp2 rfl _ _ _, ?_⟩
        rw [HM.out]
        exact ⟨rfl, (HBC.out.trans ((show Below wc.heap.size wc w5 from ⟨HB5.out.os, HB5.out.tape, HB5.out.output, HB5.out.size, HB5.out.block⟩).mono HBC.out.size)).trans (belowK_b (w := w) (Nat.le_refl _) w5 D _ _ (by have := HD.out; have := HLT.out; have := HB0.out.size; omega) hk5 rfl rfl)⟩
  case stop =>
    rintro D c pre W _ _ h _
    exact h.elim
end Go.Proofs.YtkjlkkaoaiphcaaDoor
