/-
  The iterator over lines: its contract. A part of the proof: see the head of the text that ends in 'Law'.
-/
import Derived.Test.YtonjadmldgloaaaGreatDoorHePlain
import Derived.RangeFuncNested
import Derived.RangeFuncBound
import Derived.RangeFuncCalls
import Derived.RangeFuncLeaves
import Derived.RangeFuncBox
import Derived.Shelf.Abstract
import Derived.OwnWalkIn
import Derived.TacticsInMore
import Derived.LoopNIn
import Derived.LoopIn
import Derived.Test.YtonjadmldgloaaaGreatDoorShelf
import Derived.Test.YtonjadmldgloaaaGreatDoorCarry
import Derived.Test.YtonjadmldgloaaaGreatDoorProg
namespace Go.Proofs.YtonjadmldgloaaaGreatDoor.D17
open Go.RowKit Go.Shelf
set_option linter.unusedVariables false
attribute [local go_sem] Oper.semAt_some

/-- A line's place within n octets. -/
abbrev Pr (n : Nat) : Type := {p : Nat × Nat // p.1 < p.2 ∧ p.2 ≤ n}
def prV {n : Nat} (x : Pr n) : Array Value := #[.int .i64 (x.val.1 : Int), .int .i64 (x.val.2 : Int)]
/-- What a round of a loop over lines keeps: what was there ahead, and the iterator's own box. -/
def KpF (n1 Bf : Nat) (W W' : World) : Prop := Below n1 W W' ∧ ∀ j, W'.cell? ⟨Bf, j, none⟩ = W.cell? ⟨Bf, j, none⟩
theorem grown_of_below {W W' : World} (h : Below W.heap.size W W') : W.grownBy W' none := ⟨h.os, h.tape, h.output, h.size, fun i hi _ => h.block i hi⟩
def fdI : Option Nat → Int
  | none => -1
  | some k => (k : Int)
theorem indexByte_ix : ∀ (l : List UInt8), Lib.indexByte l 10 = fdI (ix l)
  | [] => rfl
  | c :: l => by
    unfold Lib.indexByte ix
    rw [indexByte_ix l]
    by_cases h : c.toNat = 10
    · have hc : c = 10 := UInt8.toNat_inj.1 h
      rw [if_pos h, hc]
      rfl
    · have hc : (c == 10) = false := by
        rw [beq_eq_false_iff_ne]
        intro e
        rw [e] at h
        exact h rfl
      rw [if_neg h, hc]
      cases ix l with
      | none => rfl
      | some k =>
        have h0 : ((k : Int) == -1) = false := by rw [beq_eq_false_iff_ne]; omega
        simp [fdI, h0]
theorem bytesOf_map (l : List UInt8) : Lib.bytesOf (l.map fun x => (x.toNat : Int)) = l := by
  unfold Lib.bytesOf
  rw [List.map_map]
  have : ((fun n : Int => UInt8.ofNat n.toNat) ∘ fun x : UInt8 => (x.toNat : Int)) = id := by
    funext x
    simp
  rw [this, List.map_id]
/-- The first line feed of octets that stand in a row. -/
theorem index_any (A : Option Addr) (n c : Nat) (l : List UInt8) (w : World) (h : Oct w A n l) (hn : 0 < n) : Calls Tryz.prog 103 #[.slice A n c, .int .u8 10] w fun e w' => e = .returned (.int .i64 (fdI (ix l))) ∧ w = w' := by
  obtain ⟨b, off, rfl, hc⟩ := h.at_ hn
  refine (Tryz.bytes_IndexByte b off n c (l.map fun x => (x.toNat : Int)) 10 w (by rw [List.length_map, h.1]) (fun i hi => ?_)).mono fun e w' ⟨h1, h2⟩ => ⟨?_, h2.symm⟩
  · have hl : i < l.length := by rw [h.1]; exact hi
    rw [hc i hl]
    rw [List.getD_eq_getElem?_getD, List.getElem?_map, List.getElem?_eq_getElem hl]
    rfl
  · rw [h1, bytesOf_map]
    exact congrArg (fun z => Ending.returned (.int .i64 z)) (indexByte_ix l)
theorem oct_drop {w : World} {b off n : Nat} {l : List UInt8} (h : Oct w (some ⟨b, off, none⟩) n l) (k c : Nat) (hk : k ≤ n) : Oct w (if c = k then some ⟨b, off, none⟩ else some ⟨b, off + k, none⟩) (n - k) (l.drop k) ∨ c = k ∧ True := by
  by_cases hc : c = k
  · exact .inr ⟨hc, trivial⟩
  · rw [if_neg hc]
    refine .inl ⟨by rw [List.length_drop, h.1], fun hne => ⟨b, off + k, rfl, fun j v hv => ?_⟩⟩
    have hne2 : l.map B8 ≠ [] := by
      intro e
      apply hne
      rw [List.map_drop, e, List.drop_nil]
    obtain ⟨b2, off2, hA, h2⟩ := h.2 hne2
    injection hA with hA
    injection hA with e1 e2
    subst e1 e2
    rw [List.map_drop, List.getElem?_drop] at hv
    rw [show off + k + j = off + (k + j) by omega]
    exact h2 (k + j) v hv
def nextO (n fr : Nat) : Option Nat → Nat
  | none => n
  | some i => fr + i + 1
theorem nextTo_o (l : List UInt8) (fr : Nat) (o : Option Nat) (h : ix (l.drop fr) = o) : nextTo l fr = nextO l.length fr o := by
  unfold nextTo
  rw [h]
  cases o <;> rfl
set_option maxRecDepth 100000 in
set_option maxHeartbeats 2000000 in
theorem lines1_in (m : Nat) (hm : 1 ≤ m) (lp Bf : Nat) (l : List UInt8) (A : Option Addr) (n c : Nat) (w : World) (ho : Oct w A n l) (hnc : n ≤ c) (hl : n ≤ 100000) (J Jx : List (Pr n) → World → Prop) (B0 : Nat) (hJ : AbidesFrom B0 J)
    (hY : ∀ pre (x : Pr n) W, J pre W → pre.length < (posL l).length → YieldAt Fence.wide (m - 1) Tryz.prog lp (prV x) W fun e W' =>
      (e = .returned (.bool true) ∧ J (pre ++ [x]) W' ∧ KpF w.heap.size Bf W W') ∨ (e = .returned (.bool false) ∧ Jx (pre ++ [x]) W'))
    (W : World) (hb : Below w.heap.size w W) (h0 : W.cell? ⟨Bf, 0, none⟩ = some (.slice A n c)) (hJ0 : J [] W) :
    CallsIn Fence.wide m Tryz.prog 102 #[.func (.yield lp) #[] #[], .pointer (some ⟨Bf, 0, none⟩)] W fun e W' => (∃ v, e = .returned v) ∧
      ((∃ ys : List (Pr n), ys.map (·.val) = posL l ∧ J ys W') ∨ (∃ pre : List (Pr n), pre.map (·.val) <+: posL l ∧ Jx pre W')) := by
  have HO := hid ho
  have HB := hid hb
  have HJ := hid hJ0
  have HY := hid hY
  have HN : Hid (l.length = n) := hid ho.1
  have HNC := hid hnc
  clear ho hb hJ0 hJ hY hnc
  refine callsIn_of_wp Tryz.func102 rfl trivial ?_ rfl
  simp only [Tryz.ntmps102, List.size_toArray, List.length_cons, List.length_nil, Nat.reduceAdd, Nat.reduceSub, Array.replicate_succ, Array.replicate_zero, List.push_toArray, List.append_toArray, List.nil_append, List.cons_append]
  gi_wp2
  gi_loopw [3] (fun p wr => ∃ (fr : Nat) (pre : List (Pr n)), fr ≤ n ∧ p = .int .i64 (fr : Int) ∧ Hid (J pre wr ∧ Below w.heap.size w wr ∧ wr.cell? ⟨Bf, 0, none⟩ = some (.slice A n c) ∧ pre.map (·.val) ++ posAt l fr = posL l)) (fun p wr => n - (intOf p).toNat)
  case atStart => exact ⟨0, [], by omega, rfl, hid ⟨HJ.out, HB.out, h0, rfl⟩⟩
  case round =>
    obtain ⟨fr, pre, hk, rfl, hI⟩ := hrel
    clear h0 HB
    have HB := hid hI.out.2.1
    have k0 := hI.out.2.2.1
    have HP := hid hI.out.2.2.2
    have HJJ := hid hI.out.1
    clear hI
    by_cases hlt : fr < n
    · have hd : decide (fr < n) = true := by simpa using hlt
      have hd' : decide ((fr : Int) < (n : Int)) = true := by simp; omega
      obtain ⟨b, off, rfl, -⟩ := HO.out.at_ (by omega)
      have hlc : fr < c := by have := HNC.out; omega
      have hcf : ¬ c = fr := by omega
      have hfl : fr < l.length := by rw [HN.out]; exact hlt
      have hOd : Oct wr (some ⟨b, off + fr, none⟩) (n - fr) (l.drop fr) := by
        rcases oct_drop (HO.out.below HB.out) fr c (by omega) with h | h
        · rwa [if_neg hcf] at h
        · exact absurd h.1 hcf
      have HIX := hid (index_any (some ⟨b, off + fr, none⟩) (n - fr) (c - fr) (l.drop fr) wr hOd (by omega))
      obtain ⟨o, hix⟩ : ∃ o, ix (l.drop fr) = o := ⟨_, rfl⟩
      rw [hix] at HIX
      have hnb := nextTo_bounds l fr hfl
      have hpn := posAt_next l fr hfl
      have hnt := nextTo_o l fr o hix
      have i0 : (0 : Int) ≤ (fr : Int) := by omega
      have i1 : (fr : Int) ≤ (n : Int) := by omega
      have i2 : (fr : Int).toNat = fr := by omega
      have hlen : pre.length < (posL l).length := by
        rw [← HP.out, List.length_append, hpn, List.length_map, List.length_cons]
        omega
      obtain ⟨xp, hxp⟩ : ∃ xp : Pr n, xp.val = (fr, nextTo l fr) := ⟨⟨(fr, nextTo l fr), ⟨hnb.1, by rw [← HN.out]; exact hnb.2⟩⟩, rfl⟩
      have HPN : Hid (pre.map (·.val) ++ ([xp].map (·.val) ++ posAt l (nextTo l fr)) = posL l) := hid (by rw [← HP.out, hpn, List.map_cons, hxp]; rfl)
      have HPR : Hid ((pre ++ [xp]).map (·.val) <+: posL l) := hid ⟨posAt l (nextTo l fr), by rw [List.map_append, List.append_assoc]; exact HPN.out⟩
      have HTO : Hid (fr < nextTo l fr ∧ nextTo l fr ≤ n) := hid ⟨hnb.1, by rw [← HN.out]; exact hnb.2⟩
      have HYY := hid (HY.out pre xp wr HJJ.out hlen)
      clear hlen hpn hOd hix HP
      cases o with
      | none =>
        have hI : fdI none = -1 := rfl
        rw [HN.out, nextO] at hnt
        rw [hnt] at HPN HTO hxp
        clear hnt hnb
        gi_wp2_with (refine ⟨trivial, ?_⟩; gi_at_call 103; refine (callsIn_wide.2 HIX.out).mono ?_; rintro e w3 ⟨rfl, rfl⟩; obtain ⟨fn, tmps, assign, body, hy, hR⟩ := HYY.out; unfold prV at hy; rw [hxp] at hy)
        refine hR.mono ?_
        rintro e W' (⟨rfl, hJ', hk'⟩ | ⟨rfl, hJx'⟩)
        · gi_wp2
          go_roundw
          case rel => exact ⟨n, pre ++ [xp], by have := HTO.out; omega, by go_num, hid ⟨hJ', HB.out.trans hk'.1, (hk'.2 0).trans k0, by rw [List.map_append, List.append_assoc]; exact HPN.out⟩⟩
          case measure => have := HTO.out; simp [intOf]; omega
        · gi_wp2
          refine bodyPost_ret (results_none rfl _ _ _) rfl ?_
          exact ⟨⟨_, rfl⟩, .inr ⟨_, HPR.out, hJx'⟩⟩
      | some i =>
        have hI : fdI (some i) = (i : Int) := rfl
        have q0 : decide ((0 : Int) ≤ (i : Int)) = true := by simp
        rw [nextO] at hnt
        have hib : fr + i + 1 ≤ n := by rw [← hnt, ← HN.out]; exact hnb.2
        rw [hnt] at HPN HTO hxp
        clear hnt hnb
        have hcast : ((fr + i + 1 : Nat) : Int) = (fr : Int) + (i : Int) + 1 := by omega
        gi_wp2_with (refine ⟨trivial, ?_⟩; gi_at_call 103; refine (callsIn_wide.2 HIX.out).mono ?_; rintro e w3 ⟨rfl, rfl⟩; obtain ⟨fn, tmps, assign, body, hy, hR⟩ := HYY.out; unfold prV at hy; rw [hxp] at hy; dsimp only at hy; rw [hcast] at hy)
        refine hR.mono ?_
        rintro e W' (⟨rfl, hJ', hk'⟩ | ⟨rfl, hJx'⟩)
        · gi_wp2
          go_roundw
          case rel => exact ⟨(fr + i + 1), pre ++ [xp], by have := HTO.out; omega, by go_num, hid ⟨hJ', HB.out.trans hk'.1, (hk'.2 0).trans k0, by rw [List.map_append, List.append_assoc]; exact HPN.out⟩⟩
          case measure => have := HTO.out; simp [intOf]; omega
        · gi_wp2
          refine bodyPost_ret (results_none rfl _ _ _) rfl ?_
          exact ⟨⟨_, rfl⟩, .inr ⟨_, HPR.out, hJx'⟩⟩
    · have hd : decide (fr < n) = false := by simpa using hlt
      have hd' : decide ((fr : Int) < (n : Int)) = false := by simp; omega
      have HE : Hid (pre.map (·.val) = posL l) := hid (by rw [← HP.out, posAt_end l fr (by rw [HN.out]; omega), List.append_nil])
      gi_wp2
      go_end0
      exact ⟨⟨_, rfl⟩, .inl ⟨_, HE.out, HJJ.out⟩⟩
theorem kpf_t {n1 Bf : Nat} {A B C : World} (h : KpF n1 Bf A B) (k : KpF n1 Bf B C) : KpF n1 Bf A C := ⟨h.1.trans k.1, fun j => (k.2 j).trans (h.2 j)⟩
theorem kpf_b {n1 Bf : Nat} {w : World} (hn : n1 ≤ w.heap.size) (hB : Bf < w.heap.size) (W : World) (l : Nat) (o o' : Obj) (hl : w.heap.size ≤ l) (h : W.heap[l]? = some o) (_ : o.isCells = false) (_ : o.isWalk = false) : KpF n1 Bf W (W.putObj l o') :=
  ⟨belowK_b hn W l o o' hl h (by assumption) (by assumption), fun j => by
    have e := World.putObj_heap_other (w := W) (r := l) (k := Bf) (o := o') (by omega)
    simp only [World.cell?, e]⟩
theorem kpf_of {n1 Bf : Nat} {W W' : World} (h : Below n1 W W') (hb : W'.heap[Bf]? = W.heap[Bf]?) : KpF n1 Bf W W' := ⟨h, fun j => by simp only [World.cell?, hb]⟩
/-- The iterator stops well. -/
theorem lines_stops (m : Nat) (hm : 1 ≤ m) (Bf : Nat) (l : List UInt8) (A : Option Addr) (n c : Nat) (w : World) (ho : Oct w A n l) (hnc : n ≤ c) (hl : n ≤ 100000) (w0 : World) (hb : Below w.heap.size w w0)
    (h0 : w0.cell? ⟨Bf, 0, none⟩ = some (.slice A n c)) (hB : Bf < w0.heap.size) :
    SeqStopsK Fence.wide m Tryz.prog 102 #[.pointer (some ⟨Bf, 0, none⟩)] (prV (n := n)) (KpF w.heap.size Bf) (fun ys => ys.map (·.val) = posL l) (fun pre => pre.map (·.val) <+: posL l) (posL l).length w0 := fun lp J Jx W hW hJ _ hY h00 =>
  lines1_in m hm lp Bf l A n c w ho hnc hl J Jx W.heap.size hJ hY W (hb.trans (hW.mono hb.size)) ((hW.cell (p := ⟨Bf, 0, none⟩) hB).trans h0) h00
set_option maxHeartbeats 1000000 in
theorem lines_any (A : Option Addr) (n c : Nat) (w : World) :
    Calls Tryz.prog 75 #[.slice A n c] w fun e w' => e = .returned (.func (.func 102) #[] #[.pointer (some ⟨w.heap.size, 0, none⟩)]) ∧ w' = w.alloc (.cells #[.slice A n c] 28) := by
  go_enter Tryz.func75, Tryz.ntmps75
  go_wp2
  go_ret
  exact ⟨rfl, rfl⟩
end Go.Proofs.YtonjadmldgloaaaGreatDoor.D17
