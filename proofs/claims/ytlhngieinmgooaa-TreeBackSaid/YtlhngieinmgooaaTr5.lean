/-
  The library's Chunk over a row of kids, twelve at a time. A part of the proof: see the head of the text that ends in 'Law'.
-/
import Derived.RangeFuncNested
import Derived.RangeFuncBound
import Derived.RangeFuncCalls
import Derived.RangeFuncLeaves
import Derived.RangeFuncBox
import Derived.Shelf.Abstract
import Derived.OwnWalkIn
import Derived.TacticsInMore
import Derived.LoopNIn
import Derived.LoopIn
import Derived.RegionIn
import Derived.Test.YtlhngieinmgooaaTr4
namespace Go.Proofs.Ytlhngieinmgooaa
open Go.RowKit Go.Shelf
set_option linter.unusedVariables false
set_option maxRecDepth 100000
attribute [local go_sem] Oper.semAt_some

/-- What a round keeps: what was there ahead, and the iterator's own boxes. -/
def KpF (n1 Bf : Nat) (W W' : World) : Prop := Below n1 W W' ∧ ∀ j, W'.cell? ⟨Bf, j, none⟩ = W.cell? ⟨Bf, j, none⟩ ∧ W'.cell? ⟨Bf + 1, j, none⟩ = W.cell? ⟨Bf + 1, j, none⟩
theorem grown_of_below {W W' : World} (h : Below W.heap.size W W') : W.grownBy W' none := ⟨h.os, h.tape, h.output, h.size, fun i hi _ => h.block i hi⟩
theorem kpf_t {n1 Bf : Nat} {A B C : World} (h : KpF n1 Bf A B) (k : KpF n1 Bf B C) : KpF n1 Bf A C := ⟨h.1.trans k.1, fun j => ⟨(k.2 j).1.trans (h.2 j).1, (k.2 j).2.trans (h.2 j).2⟩⟩
theorem kpf_b {n1 Bf : Nat} {w : World} (hn : n1 ≤ w.heap.size) (hB : Bf + 1 < w.heap.size) (W : World) (l : Nat) (o o' : Obj) (hl : w.heap.size ≤ l) (h : W.heap[l]? = some o) (_ : o.isCells = false) (_ : o.isWalk = false) : KpF n1 Bf W (W.putObj l o') :=
  ⟨belowK_b hn W l o o' hl h (by assumption) (by assumption), fun j => by
    have e := World.putObj_heap_other (w := W) (r := l) (k := Bf) (o := o') (by omega)
    have e2 := World.putObj_heap_other (w := W) (r := l) (k := Bf + 1) (o := o') (by omega)
    exact ⟨by simp only [World.cell?, e], by simp only [World.cell?, e2]⟩⟩
theorem kpf_of {n1 Bf : Nat} {W W' : World} (h : Below n1 W W') (hb : W'.heap[Bf]? = W.heap[Bf]?) (hb2 : W'.heap[Bf + 1]? = W.heap[Bf + 1]?) : KpF n1 Bf W W' := ⟨h, fun j => ⟨by simp only [World.cell?, hb], by simp only [World.cell?, hb2]⟩⟩
/-- Where chunks begin; how long one is; its slice. -/
def stL (n : Nat) : List Nat := (List.range ((n + 11) / 12)).map fun i => 12 * i
def ceN (n x : Nat) : Nat := if n - x < 12 then n - x else 12
def ckV (b off n x : Nat) : Value := .slice (some ⟨b, off + x * 2, none⟩) (ceN n x) (ceN n x)
theorem stL_take (n k : Nat) (hk : 12 * k < n) : (stL n).take (k + 1) = (stL n).take k ++ [12 * k] := by
  unfold stL
  rw [List.take_succ_eq_append_getElem (by rw [List.length_map, List.length_range]; omega), List.getElem_map, List.getElem_range]
theorem stL_len (n : Nat) : (stL n).length = (n + 11) / 12 := by unfold stL; rw [List.length_map, List.length_range]
set_option maxHeartbeats 2000000 in
theorem chunk1_in (m : Nat) (hm : 1 ≤ m) (lp Bf b off n c : Nat) (w : World) (hn0 : 0 < n) (hnc : n ≤ c) (hn : n ≤ 1000) (J Jx : List Nat → World → Prop) (B0 : Nat) (hJ : AbidesFrom B0 J)
    (hY : ∀ pre (x : Nat) W, x < n → J pre W → pre.length < (stL n).length → YieldAt Fence.wide (m - 1) Try.prog lp #[ckV b off n x] W fun e W' =>
      (e = .returned (.bool true) ∧ J (pre ++ [x]) W' ∧ KpF w.heap.size Bf W W') ∨ (e = .returned (.bool false) ∧ Jx (pre ++ [x]) W'))
    (W : World) (hb : Below w.heap.size w W) (h0 : W.cell? ⟨Bf, 0, none⟩ = some (.slice (some ⟨b, off, none⟩) n c)) (h1 : W.cell? ⟨Bf + 1, 0, none⟩ = some (.int .i64 12)) (hJ0 : J [] W) :
    CallsIn Fence.wide m Try.prog 35 #[.func (.yield lp) #[] #[], .pointer (some ⟨Bf, 0, none⟩), .pointer (some ⟨Bf + 1, 0, none⟩)] W fun e W' => (∃ v, e = .returned v) ∧
      ((∃ zs, zs = stL n ∧ J zs W') ∨ (∃ pre, pre <+: stL n ∧ Jx pre W')) := by
  have HB := hid hb
  have HJ := hid hJ0
  have HA := hid hJ
  have HY := hid hY
  have HN := hid hnc
  clear hb hJ0 hJ hY
  refine callsIn_of_wp Try.func35 rfl trivial ?_ rfl
  simp only [Try.ntmps35, List.size_toArray, List.length_cons, List.length_nil, Nat.reduceAdd, Nat.reduceSub, Array.replicate_succ, Array.replicate_zero, List.push_toArray, List.append_toArray, List.nil_append, List.cons_append]
  gi_wp2
  gi_loopw [4] (fun p wr => ∃ k : Nat, 12 * k ≤ n + 11 ∧ p = .int .i64 (12 * (k : Int)) ∧ Hid (J ((stL n).take k) wr ∧ Below w.heap.size w wr ∧ wr.cell? ⟨Bf, 0, none⟩ = some (.slice (some ⟨b, off, none⟩) n c) ∧ wr.cell? ⟨Bf + 1, 0, none⟩ = some (.int .i64 12))) (fun p wr => (n + 12) - (intOf p).toNat)
  case atStart => exact ⟨0, by omega, rfl, hid ⟨HJ.out, HB.out, h0, h1⟩⟩
  case round =>
    obtain ⟨k, hk, rfl, hI⟩ := hrel
    clear h0 h1
    have c0 := hI.out.2.2.1
    have c1 := hI.out.2.2.2
    by_cases hlt : 12 * k < n
    · have d1 : decide (12 * (k : Int) < (n : Int)) = true := by rw [decide_eq_true_iff]; omega
      obtain ⟨x, hx⟩ : ∃ x, 12 * k = x := ⟨_, rfl⟩
      have hxi : 12 * (k : Int) = (x : Int) := by omega
      rw [hxi] at d1 ⊢
      have x0 : (0 : Int) ≤ (x : Int) := by omega
      have x1 : (x : Int) ≤ (n : Int) := by omega
      have x2 : (x : Int).toNat = x := by omega
      have x3 : ¬ c = x := by have := HN.out; omega
      have d1' : decide (x < n) = true := by rw [decide_eq_true_iff]; omega
      obtain ⟨ce, hce⟩ : ∃ ce, ceN n x = ce := ⟨_, rfl⟩
      have hce2 : (if ((n - x : Nat) : Int) < 12 then ((n - x : Nat) : Int) else 12) = (ce : Int) := by
        rw [← hce]
        unfold ceN
        split <;> split <;> omega
      have hce3 : 1 ≤ ce ∧ x + ce ≤ n ∧ ce ≤ 12 := by
        rw [← hce]
        unfold ceN
        split <;> omega
      obtain ⟨cx, hcx⟩ : ∃ cx, x + ce = cx := ⟨_, rfl⟩
      have hcxi : (x : Int) + (ce : Int) = (cx : Int) := by omega
      have z0 : (x : Int) ≤ (cx : Int) := by omega
      have z1 : (cx : Int) ≤ (c : Int) := by have := HN.out; omega
      have z2 : (cx : Int).toNat = cx := by omega
      have z3 : ¬ cx = x := by omega
      have z4 : cx - x = ce := by omega
      have z5 : (0 : Int) ≤ (cx : Int) := by omega
      have z6 : (cx : Int) ≤ 1100 := by omega
      have z7 : (0 : Int) ≤ (ce : Int) := by omega
      have z8 : x ≤ cx := by omega
      have HTK := hid (stL_take n k hlt)
      have hln : ((stL n).take k).length < (stL n).length := by rw [List.length_take, stL_len]; omega
      have HBW := hid hI.out.2.1
      have HJW := hid hI.out.1
      have HD : Hid (J ((stL n).take k) wr.drew) := hid (HA.out _ _ _ none HJW.out (grown_of_below (bq (Below.refl _ wr) 1)) (fun r e => by cases e))
      have HYY := hid (HY.out ((stL n).take k) x wr.drew (by omega) HD.out hln)
      have HX := hid hx
      have HBD : Hid (Below w.heap.size w wr.drew) := hid (bq HBW.out 1)
      clear hce3 hcx hln hI
      gi_wp2
      gi_region
      clear hce2 d1 d1'
      have hY2 := HYY.out
      obtain ⟨fn, tmps, assign, body, hy, hR⟩ := hY2
      unfold ckV at hy
      rw [hce] at hy
      have HRR := hid hR
      clear hR HYY hce
      gi_wp2
      have hR := HRR.out
      refine hR.mono ?_
      rintro e W' (⟨rfl, hJ', hk'⟩ | ⟨rfl, hJx'⟩)
      · have k1 : W'.cell? ⟨Bf + 1, 0, none⟩ = some (.int .i64 12) := (hk'.2 0).2.trans c1
        have HJ2 := hid hJ'
        have HK2 := hid hk'
        clear hJ' hk'
        gi_wp2
        go_roundw
        case rel => exact ⟨k + 1, by omega, by have := HX.out; go_num, hid ⟨by rw [HTK.out, HX.out]; exact HJ2.out, HBD.out.trans HK2.out.1, (HK2.out.2 0).1.trans c0, k1⟩⟩
        case measure => simp [intOf]; omega
      · gi_wp2
        refine bodyPost_ret (results_none rfl _ _ _) rfl ?_
        exact ⟨⟨_, rfl⟩, .inr ⟨_, by rw [← HX.out, ← HTK.out]; exact List.take_prefix _ _, hJx'⟩⟩
    · have d1 : decide (12 * (k : Int) < (n : Int)) = false := by rw [decide_eq_false_iff_not]; omega
      have HF : Hid (J (stL n) wr) := hid (by
        have h := hI.out.1
        rwa [List.take_of_length_le (by rw [stL_len]; omega)] at h)
      gi_wp2
      go_end0
      exact ⟨⟨_, rfl⟩, .inl ⟨_, rfl, HF.out⟩⟩
/-- Where a chunk may begin. -/
abbrev Ps (n : Nat) : Type := {x : Nat // x < n}
theorem chunk_stops (m : Nat) (hm : 1 ≤ m) (Bf b off n c : Nat) (w : World) (hn0 : 0 < n) (hnc : n ≤ c) (hn : n ≤ 1000) (w0 : World) (hb : Below w.heap.size w w0)
    (h0 : w0.cell? ⟨Bf, 0, none⟩ = some (.slice (some ⟨b, off, none⟩) n c)) (h1 : w0.cell? ⟨Bf + 1, 0, none⟩ = some (.int .i64 12)) (hB : Bf + 1 < w0.heap.size) :
    SeqStopsK Fence.wide m Try.prog 35 #[.pointer (some ⟨Bf, 0, none⟩), .pointer (some ⟨Bf + 1, 0, none⟩)] (fun x : Ps n => #[ckV b off n x.val]) (KpF w.heap.size Bf) (fun zs => zs.map (·.val) = stL n) (fun pre => pre.map (·.val) <+: stL n) (stL n).length w0 := fun lp J Jx W hW hJ _ hY h00 => by
  have H := chunk1_in m hm lp Bf b off n c w hn0 hnc hn (fun l W => ∃ l' : List (Ps n), l'.map (·.val) = l ∧ J l' W) (fun l W => ∃ l' : List (Ps n), l'.map (·.val) = l ∧ Jx l' W) W.heap.size
    (fun s X Y row hs hg hr => by obtain ⟨l', h1, h2⟩ := hs; exact ⟨l', h1, hJ _ _ _ row h2 hg hr⟩)
    (fun pre x X hx hs hl => by
      obtain ⟨l', h1, h2⟩ := hs
      have hl2 : l'.length < (stL n).length := by rw [← h1, List.length_map] at hl; exact hl
      refine (hY l' ⟨x, hx⟩ X h2 hl2).mono ?_
      rintro e W' (⟨he, h3, h4⟩ | ⟨he, h3⟩)
      · exact .inl ⟨he, ⟨_, by rw [List.map_append, h1]; rfl, h3⟩, h4⟩
      · exact .inr ⟨he, ⟨_, by rw [List.map_append, h1]; rfl, h3⟩⟩)
    W (hb.trans (hW.mono hb.size)) ((hW.cell (p := ⟨Bf, 0, none⟩) (by show Bf < _; omega)).trans h0) ((hW.cell (p := ⟨Bf + 1, 0, none⟩) hB).trans h1) ⟨[], rfl, h00⟩
  refine CallsIn.mono H ?_
  rintro e W' ⟨h1, ⟨zs, rfl, l', h2, h3⟩ | ⟨pre, h2, l', h3, h4⟩⟩
  · exact ⟨h1, .inl ⟨l', h2, h3⟩⟩
  · exact ⟨h1, .inr ⟨l', by show l'.map (·.val) <+: stL n; rw [h3]; exact h2, h4⟩⟩
theorem chunk_any (A : Option Addr) (n c : Nat) (w : World) :
    Calls Try.prog 20 #[.slice A n c, .int .i64 12] w fun e w' => e = .returned (.func (.func 35) #[] #[.pointer (some ⟨w.heap.size, 0, none⟩), .pointer (some ⟨w.heap.size + 1, 0, none⟩)]) ∧ w' = (w.alloc (.cells #[.slice A n c] 50)).alloc (.cells #[.int .i64 12] 3) := by
  go_enter Try.func20, Try.ntmps20
  go_wp2
  go_ret
  exact ⟨rfl, rfl⟩
end Go.Proofs.Ytlhngieinmgooaa
