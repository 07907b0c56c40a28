/-
  The library's Backward over what waits. A part of the proof: see the head of the text that ends in 'Law'.
-/
import Derived.RangeFuncNested
import Derived.RangeFuncBound
import Derived.RangeFuncCalls
import Derived.RangeFuncLeaves
import Derived.RangeFuncBox
import Derived.Shelf.Abstract
import Derived.OwnWalkIn
import Derived.TacticsInMore
import Derived.LoopNIn
import Derived.LoopIn
import Derived.Test.YtkadehdbnkinlaaDk14
namespace Go.Proofs.Ytkadehdbnkinlaa
open Go.RowKit
set_option linter.unusedVariables false
attribute [local go_sem] Oper.semAt_some

abbrev Iss : Type := Int × List UInt8
def IV (p : Iss) : Value := .agg (isC p).toArray
def KV (x : Nat) : Value := .int .i64 (x : Int)
/-- What a round keeps: what was there ahead, and the iterator's own box. -/
def KpF (n1 Bf : Nat) (W W' : World) : Prop := Below n1 W W' ∧ ∀ j, W'.cell? ⟨Bf, j, none⟩ = W.cell? ⟨Bf, j, none⟩
theorem grown_of_below {W W' : World} (h : Below W.heap.size W W') : W.grownBy W' none := ⟨h.os, h.tape, h.output, h.size, fun i hi _ => h.block i hi⟩
/-- The places with their indices, the last one ahead. -/
def backL (q : List Iss) : List (Nat × Iss) := (List.range q.length).reverse.map (fun i => (i, q.getD i (0, [])))
theorem backL_len (q : List Iss) : (backL q).length = q.length := by simp [backL]
theorem backL_get (q : List Iss) (k : Nat) (hk : k < q.length) : (backL q)[q.length - (k + 1)]? = some (k, q.getD k (0, [])) := by
  unfold backL
  rw [List.getElem?_map, List.getElem?_reverse (by simp; omega), List.length_range, show q.length - 1 - (q.length - (k + 1)) = k by omega, List.getElem?_range (by omega)]
  rfl
theorem backL_snd (q : List Iss) : (backL q).map Prod.snd = q.reverse := by
  unfold backL
  rw [List.map_map, List.map_reverse]
  congr 1
  apply List.ext_getElem
  · simp
  · intro i h1 h2
    simp at h1 h2 ⊢
    rw [List.getElem?_eq_getElem h2]
    rfl

theorem wpIn_load_mid {F : Fence} {n0 : Nat} {P : Program} {op : Oper} {a : Act} {w : World} {K : Act → World → Prop} {Q : Exit → Act → World → Prop} (ty : TypeId) (x : Operand) (ho : op.op = .load ty x)
    (b o : Nat) (hx : a.eval x = .pointer (some ⟨b, o, none⟩)) (cs : List Value) (d : TypeDesc) (hc : w.rangeAt b o cs)
    (hu : P.underlying ty = some d) (hd : d.isRow = true) (hi : (P.info? ty).map (·.size) = some cs.length)
    (h : K (a.put op.dst (.agg cs.toArray)) w) : op.wpIn F n0 P a w K Q := by
  unfold Oper.wpIn
  refine ⟨by simp [Oper.about, ho], ?_⟩
  rw [Oper.semAt_plain F _ _ (by rw [ho]; intro c hc'; cases hc')]
  unfold execOp
  simp only [ho, hx, Instr.loadAt, Instr.sureAddr, Sem.run_bind, Sem.run_pure, Result.andThen_ok, run_loadVar_mid w b o ty cs d hc hu hd hi]
  exact h
set_option maxRecDepth 100000 in
set_option maxHeartbeats 2000000 in
theorem back1_in {α : Type} (f : α → Nat × Iss) (ys : List α) (m : Nat) (hm : 1 ≤ m) (lp Bf : Nat) (q : List Iss) (A : Option Addr) (g n c : Nat) (hA : 0 < n → A = some ⟨g, 0, none⟩) (w : World) (hr : ∀ (k : Nat) (hk : k < q.length), w.rangeAt g (k * 129) (isC (q[k]'hk))) (hl : ∀ p ∈ q, p.2.length = 128) (hq : q.length = n) (hn : n ≤ 100000) (hys : ys.map f = backL q) (J Jx : List α → World → Prop) (B0 : Nat) (hJ : AbidesFrom B0 J)
    (hY : ∀ pre (x : α) W, J pre W → pre.length < ys.length → YieldAt Fence.wide (m - 1) Try.prog lp #[KV (f x).1, IV (f x).2] W fun e W' =>
      (e = .returned (.bool true) ∧ J (pre ++ [x]) W' ∧ KpF w.heap.size Bf W W') ∨ (e = .returned (.bool false) ∧ Jx (pre ++ [x]) W'))
    (W : World) (hb : Below w.heap.size w W) (h0 : W.cell? ⟨Bf, 0, none⟩ = some (.slice A n c)) (hJ0 : J [] W) :
    CallsIn Fence.wide m Try.prog 38 #[.func (.yield lp) #[] #[], .pointer (some ⟨Bf, 0, none⟩)] W fun e W' => (∃ v, e = .returned v) ∧
      ((∃ zs, zs = ys ∧ J zs W') ∨ (∃ pre, pre <+: ys ∧ Jx pre W')) := by
  have HR := hid hr
  have HLN := hid hl
  have HB := hid hb
  have HJ := hid hJ0
  have HA := hid hJ
  have HY := hid hY
  have hbl : ys.length = q.length := by rw [← backL_len q, ← hys, List.length_map]
  have hw1 : IntKind.i64.wrap ((n : Int) - 1) = (n : Int) - 1 := by rw [IntKind.wrap_i64]; omega
  clear hr hl hb hJ0 hJ hY
  refine callsIn_of_wp Try.func38 rfl trivial ?_ rfl
  simp only [Try.ntmps38, List.size_toArray, List.length_cons, List.length_nil, Nat.reduceAdd, Nat.reduceSub, Array.replicate_succ, Array.replicate_zero, List.push_toArray, List.append_toArray, List.nil_append, List.cons_append]
  gi_wp2
  gi_loopw [3] (fun p wr => ∃ k : Nat, k ≤ n ∧ p = .int .i64 ((k : Int) - 1) ∧ Hid (J (ys.take (n - k)) wr ∧ Below w.heap.size w wr ∧ wr.cell? ⟨Bf, 0, none⟩ = some (.slice A n c))) (fun p wr => (intOf p + 1).toNat)
  case atStart => exact ⟨n, by omega, by first | rfl | simp [hw1], hid ⟨by simpa using HJ.out, HB.out, h0⟩⟩
  case round =>
    obtain ⟨k, hk, rfl, hI⟩ := hrel
    clear h0
    have k0 := hI.out.2.2
    cases k with
    | zero =>
      have hd : decide ((0 : Int) ≤ ((0 : Nat) : Int) - 1) = false := by decide
      gi_wp2
      go_end0
      exact ⟨⟨_, rfl⟩, .inl ⟨_, rfl, by have := hI.out.1; rwa [List.take_of_length_le (by omega)] at this⟩⟩
    | succ k =>
      have hA' := hA (by omega)
      subst hA'
      clear hA
      have hkk : ((k + 1 : Nat) : Int) - 1 = (k : Int) := by omega
      rw [hkk]
      have hd : decide ((0 : Int) ≤ (k : Int)) = true := by simp
      have hd2 : (0 : Int) ≤ (k : Int) := by omega
      have hd3 : (k : Int) < n := by omega
      have hw2 : IntKind.i64.wrap ((k : Int) - 1) = (k : Int) - 1 := by rw [IntKind.wrap_i64]; omega
      have hkq : k < q.length := by omega
      have hqk : q.getD k (0, []) = q[k]'hkq := by rw [List.getD_eq_getElem?_getD, List.getElem?_eq_getElem hkq, Option.getD_some]
      have p0 := range_only (T := fun _ => False) (HR.out k hkq) (Only.of_below hI.out.2.1) (fun h => h)
      rw [← hqk] at p0
      have hxl : (q.getD k (0, [])).2.length = 128 := by rw [hqk]; exact HLN.out _ (List.getElem_mem hkq)
      have hg : (backL q)[n - (k + 1)]? = some (k, q.getD k (0, [])) := by rw [← hq]; exact backL_get q k (by omega)
      obtain ⟨x, hx⟩ : ∃ x, q.getD k (0, []) = x := ⟨_, rfl⟩
      rw [hx] at p0 hg hxl
      rw [← hys, List.getElem?_map] at hg
      obtain ⟨y, hy0, hfy⟩ := Option.map_eq_some_iff.1 hg
      have HG := hid hy0
      have HP0 := hid p0
      have HSZ := hid (show (Try.prog.info? 66).map (·.size) = some (isC x).length by rw [iss_zero.2, isC_len x hxl])
      clear hqk hg hx hy0 p0
      have hln : (ys.take (n - (k + 1))).length < ys.length := by rw [List.length_take]; omega
      have hts : ys.take (n - (k + 1)) ++ [y] = ys.take (n - k) := by
        rw [show n - k = n - (k + 1) + 1 by omega, List.take_add_one, HG.out]
        rfl
      have HTS := hid hts
      have hYy := HY.out (ys.take (n - (k + 1))) y wr hI.out.1 hln
      rw [hfy] at hYy
      obtain ⟨fn, tmps, assign, body, hy, hR⟩ := hYy
      dsimp only [KV, IV] at hy
      clear hts
      gi_wp2
      refine wpIn_load_mid 66 (.tmp 15) rfl g (k * 129) rfl (isC x) _ HP0.out Try.underlying66 rfl HSZ.out ?_
      gi_wp2
      refine hR.mono ?_
      rintro e W' (⟨rfl, hJ', hk'⟩ | ⟨rfl, hJx'⟩)
      · gi_wp2
        go_roundw
        case rel => exact ⟨k, by omega, rfl, hid ⟨by rw [HTS.out] at hJ'; exact hJ', hI.out.2.1.trans hk'.1, (hk'.2 0).trans k0⟩⟩
        case measure => simp [intOf]
      · gi_wp2
        refine bodyPost_ret (results_none rfl _ _ _) rfl ?_
        exact ⟨⟨_, rfl⟩, .inr ⟨_, by rw [HTS.out]; exact List.take_prefix _ _, hJx'⟩⟩
theorem kpf_t {n1 Bf : Nat} {A B C : World} (h : KpF n1 Bf A B) (k : KpF n1 Bf B C) : KpF n1 Bf A C := ⟨h.1.trans k.1, fun j => (k.2 j).trans (h.2 j)⟩
theorem kpf_b {n1 Bf : Nat} {w : World} (hn : n1 ≤ w.heap.size) (hB : Bf < w.heap.size) (W : World) (l : Nat) (o o' : Obj) (hl : w.heap.size ≤ l) (h : W.heap[l]? = some o) (_ : o.isCells = false) (_ : o.isWalk = false) : KpF n1 Bf W (W.putObj l o') :=
  ⟨belowK_b hn W l o o' hl h (by assumption) (by assumption), fun j => by
    have e := World.putObj_heap_other (w := W) (r := l) (k := Bf) (o := o') (by omega)
    simp only [World.cell?, e]⟩
theorem kpf_of {n1 Bf : Nat} {W W' : World} (h : Below n1 W W') (hb : W'.heap[Bf]? = W.heap[Bf]?) : KpF n1 Bf W W' := ⟨h, fun j => by simp only [World.cell?, hb]⟩
theorem back_stops {α : Type} (f : α → Nat × Iss) (ys : List α) (m : Nat) (hm : 1 ≤ m) (Bf : Nat) (q : List Iss) (A : Option Addr) (g n c : Nat) (hA : 0 < n → A = some ⟨g, 0, none⟩) (w : World) (hr : ∀ (k : Nat) (hk : k < q.length), w.rangeAt g (k * 129) (isC (q[k]'hk))) (hl : ∀ p ∈ q, p.2.length = 128) (hq : q.length = n) (hn : n ≤ 100000) (hys : ys.map f = backL q) (w0 : World) (hb : Below w.heap.size w w0)
    (h0 : w0.cell? ⟨Bf, 0, none⟩ = some (.slice A n c)) (hB : Bf < w0.heap.size) :
    SeqStopsK Fence.wide m Try.prog 38 #[.pointer (some ⟨Bf, 0, none⟩)] (fun x : α => #[KV (f x).1, IV (f x).2]) (KpF w.heap.size Bf) (fun zs => zs = ys) (fun pre => pre <+: ys) ys.length w0 := fun lp J Jx W hW hJ _ hY h00 =>
  back1_in f ys m hm lp Bf q A g n c hA w hr hl hq hn hys J Jx W.heap.size hJ hY W (hb.trans (hW.mono hb.size)) ((hW.cell (p := ⟨Bf, 0, none⟩) hB).trans h0) h00
theorem back_any (A : Option Addr) (n c : Nat) (w : World) :
    Calls Try.prog 31 #[.slice A n c] w fun e w' => e = .returned (.func (.func 38) #[] #[.pointer (some ⟨w.heap.size, 0, none⟩)]) ∧ w' = w.alloc (.cells #[.slice A n c] 59) := by
  go_enter Try.func31, Try.ntmps31
  go_wp2
  go_ret
  exact ⟨rfl, rfl⟩
end Go.Proofs.Ytkadehdbnkinlaa
