/-
  The library's words of a text; The library's iterator over the words of a text. A part of the proof: see the head of the text that ends in 'Law'.
-/
import Derived.Test.YtonjadmldgloaaaGreatDoorDaB
import Derived.RangeFuncNested
import Derived.RangeFuncBound
import Derived.RangeFuncCalls
import Derived.RangeFuncLeaves
import Derived.RangeFuncBox
import Derived.Shelf.Abstract
import Derived.OwnWalkIn
import Derived.TacticsInMore
import Derived.LoopNIn
import Derived.LoopIn
namespace Go.Proofs.YtonjadmldgloaaaGreatDoor.D16
section
open Go.RowKit Go.Shelf
set_option linter.unusedVariables false
attribute [local go_sem] Oper.semAt_some
/-- What a round keeps: what was there ahead, and the iterator's own two boxes. -/
def KpW (n1 B0 : Nat) (W W' : World) : Prop := Below n1 W W' ∧ (∀ j, W'.cell? ⟨B0, j, none⟩ = W.cell? ⟨B0, j, none⟩) ∧ ∀ j, W'.cell? ⟨B0 + 1, j, none⟩ = W.cell? ⟨B0 + 1, j, none⟩
theorem kpw_t {n1 Bf : Nat} {A B C : World} (h : KpW n1 Bf A B) (k : KpW n1 Bf B C) : KpW n1 Bf A C := ⟨h.1.trans k.1, fun j => (k.2.1 j).trans (h.2.1 j), fun j => (k.2.2 j).trans (h.2.2 j)⟩
theorem kpw_b {n1 Bf : Nat} {w : World} (hn : n1 ≤ w.heap.size) (hB : Bf + 1 < w.heap.size) (W : World) (l : Nat) (o o' : Obj) (hl : w.heap.size ≤ l) (h : W.heap[l]? = some o) (_ : o.isCells = false) (_ : o.isWalk = false) : KpW n1 Bf W (W.putObj l o') :=
  ⟨belowK_b hn W l o o' hl h (by assumption) (by assumption), fun j => by
    have e := World.putObj_heap_other (w := W) (r := l) (k := Bf) (o := o') (by omega)
    simp only [World.cell?, e], fun j => by
    have e := World.putObj_heap_other (w := W) (r := l) (k := Bf + 1) (o := o') (by omega)
    simp only [World.cell?, e]⟩
theorem kpw_of {n1 Bf : Nat} {W W' : World} (h : Below n1 W W') (hb : W'.heap[Bf]? = W.heap[Bf]?) (hb2 : W'.heap[Bf + 1]? = W.heap[Bf + 1]?) : KpW n1 Bf W W' := ⟨h, fun j => by simp only [World.cell?, hb], fun j => by simp only [World.cell?, hb2]⟩
theorem grown_of_below {W W' : World} (h : Below W.heap.size W W') : W.grownBy W' none := ⟨h.os, h.tape, h.output, h.size, fun i hi _ => h.block i hi⟩
theorem blank1_any (r : Nat) (w : World) (hr : r < 2200000) : Calls Tryz.prog 92 #[.int .i32 (r : Int)] w fun e w' => e = .returned (.bool (decide (r = 32 ∨ r = 9))) ∧ w = w' := by
  by_cases h1 : r = 32
  · have d1 : ((r : Int) == 32) = true := by simp; omega
    have d1' : (r == 32) = true := by simpa using h1
    rw [decide_eq_true (Or.inl h1)]
    clear h1
    go_enter Tryz.func92, Tryz.ntmps92
    go_wp2
    go_ret
    exact ⟨rfl, rfl⟩
  · have d1 : ((r : Int) == 32) = false := by simp; omega
    have d1' : (r == 32) = false := by simpa using h1
    by_cases h2 : r = 9
    · have d2 : ((r : Int) == 9) = true := by simp; omega
      have d2' : (r == 9) = true := by simpa using h2
      rw [decide_eq_true (Or.inr h2)]
      clear h1 h2
      go_enter Tryz.func92, Tryz.ntmps92
      go_wp2
      go_ret
      exact ⟨rfl, rfl⟩
    · have d2 : ((r : Int) == 9) = false := by simp; omega
      have d2' : (r == 9) = false := by simpa using h2
      rw [decide_eq_false (by omega)]
      clear h1 h2
      go_enter Tryz.func92, Tryz.ntmps92
      go_wp2
      go_ret
      exact ⟨rfl, rfl⟩
theorem ffs_any (l : List UInt8) (w : World) :
    Calls Tryz.prog 91 #[.string (str l), .func (.func 92) #[] #[]] w fun e w' => e = .returned (.func (.func 112) #[] #[.pointer (some ⟨w.heap.size, 0, none⟩), .pointer (some ⟨w.heap.size + 1, 0, none⟩)]) ∧
      w' = (w.alloc (.cells #[.string (str l)] 9)).alloc (.cells #[.func (.func 92) #[] #[]] 81) := by
  go_enter Tryz.func91, Tryz.ntmps91
  go_wp2
  go_ret
  exact ⟨rfl, rfl⟩
theorem decode_e (l : List UInt8) (r sz : Nat) (h : Lib.decodeGo (str l) = (r, sz)) (w : World) (hT : Lib.Utf8Tabs 1 2 w) :
    Calls Tryz.prog 113 #[.string (str l)] w fun e w' => e = .returned (.tuple #[.int .i32 (r : Int), .int .i64 (sz : Int)]) ∧ Below w.heap.size w w' := by
  have := Tryz.utf8_DecodeRuneInString (str l) w hT
  rw [h] at this
  exact this
end
section
open Go.RowKit Go.Shelf
set_option linter.unusedVariables false
attribute [local go_sem] Oper.semAt_some
def curV : Option Nat → Int
  | none => -1
  | some s => (s : Int)
theorem str_from (l : List UInt8) (k : Nat) : (str l).extract k (str l).size = str (l.drop k) := by
  rw [str_extract, List.take_of_length_le (by rw [List.length_drop, str_size]; omega)]
theorem str_cut (l : List UInt8) (s k : Nat) : (str l).extract s k = str (cutL l s k) := by
  rw [str_extract]
  rfl
theorem next_word {α : Type} {f : α → List UInt8} {ys zs : List α} {x : List UInt8} (h : zs <+: ys) (hp : zs.map f ++ [x] <+: ys.map f) : ∃ y, f y = x ∧ zs ++ [y] <+: ys ∧ zs.length < ys.length := by
  obtain ⟨r, rfl⟩ := h
  obtain ⟨q, hq⟩ := hp
  rw [List.map_append, List.append_assoc] at hq
  have h2 := List.append_cancel_left hq
  cases r with
  | nil => simp at h2
  | cons y r =>
    simp at h2
    exact ⟨y, h2.1.symm, ⟨r, by simp⟩, by simp⟩
theorem all_words {α : Type} {f : α → List UInt8} {ys zs : List α} (h : zs <+: ys) (hp : zs.map f = ys.map f) : zs = ys := by
  have := congrArg List.length hp
  rw [List.length_map, List.length_map] at this
  exact h.eq_of_length this
set_option maxRecDepth 100000 in
set_option maxHeartbeats 4000000 in
theorem ff1_in {α : Type} (f : α → List UInt8) (ys : List α) (m : Nat) (hm : 1 ≤ m) (lp Bs : Nat) (l : List UInt8) (hl : l.length ≤ 100000) (w : World) (hT : Lib.Utf8Tabs 1 2 w) (hys : ys.map f = wordsL l) (J Jx : List α → World → Prop) (B0 : Nat) (hJ : AbidesFrom B0 J)
    (hY : ∀ pre (x : α) W, J pre W → pre.length < ys.length → YieldAt Fence.wide (m - 1) Tryz.prog lp #[.string (str (f x))] W fun e W' =>
      (e = .returned (.bool true) ∧ J (pre ++ [x]) W' ∧ KpW w.heap.size Bs W W') ∨ (e = .returned (.bool false) ∧ Jx (pre ++ [x]) W'))
    (W : World) (hb : Below w.heap.size w W) (h0 : W.cell? ⟨Bs, 0, none⟩ = some (.string (str l))) (h1 : W.cell? ⟨Bs + 1, 0, none⟩ = some (.func (.func 92) #[] #[])) (hJ0 : J [] W) :
    CallsIn Fence.wide m Tryz.prog 112 #[.func (.yield lp) #[] #[], .pointer (some ⟨Bs, 0, none⟩), .pointer (some ⟨Bs + 1, 0, none⟩)] W fun e W' => (∃ v, e = .returned v) ∧
      ((∃ zs, zs = ys ∧ J zs W') ∨ (∃ pre, pre <+: ys ∧ Jx pre W')) := by
  have HT := hid hT
  have HB := hid hb
  have HJ := hid hJ0
  have HA := hid hJ
  have HY := hid hY
  have HYS := hid hys
  have hsz : (str l).size ≤ 100000 := hl
  have HL : Hid ((str l).size = l.length) := hid rfl
  clear hT hb hJ0 hJ hY hys
  refine callsIn_of_wp Tryz.func112 rfl trivial ?_ rfl
  simp only [Tryz.ntmps112, List.size_toArray, List.length_cons, List.length_nil, Nat.reduceAdd, Nat.reduceSub, Array.replicate_succ, Array.replicate_zero, List.push_toArray, List.append_toArray, List.nil_append, List.cons_append]
  gi_wp2
  gi_loopw [4, 5] (fun st p wr => ∃ (k : Nat) (c : Option Nat), k ≤ (str l).size ∧ p = .int .i64 (k : Int) ∧ st = .int .i64 (curV c) ∧ Hid (∃ zs : List α, zs <+: ys ∧ stF l k = (zs.map f, c) ∧ J zs wr) ∧ Hid (Below w.heap.size w wr ∧ wr.cell? ⟨Bs, 0, none⟩ = some (.string (str l)) ∧ wr.cell? ⟨Bs + 1, 0, none⟩ = some (.func (.func 92) #[] #[]))) (fun st p wr => (str l).size - (intOf p).toNat)
  case atStart => exact ⟨0, none, by omega, rfl, rfl, hid ⟨[], List.nil_prefix, rfl, HJ.out⟩, hid ⟨HB.out, h0, h1⟩⟩
  case round =>
    obtain ⟨k, c, hk, rfl, rfl, hZ, hI⟩ := hrel
    clear h0 h1
    have k0 := hI.out.2.1
    have k1 := hI.out.2.2
    by_cases hlt : k < (str l).size
    · have hd : decide (k < (str l).size) = true := by simpa using hlt
      have hd' : decide ((k : Int) < ((str l).size : Int)) = true := by simp; omega
      have hex := str_from l k
      have hkl : k < l.length := by rw [← HL.out]; exact hlt
      have hT2 := Utf8Tabs_below HT.out hI.out.1
      by_cases hasc : (l.getD k 0).toNat < 128
      · have hdc := rune_ascii l k hkl hasc
        obtain ⟨x, hx⟩ : ∃ x, l.getD k 0 = x := ⟨_, rfl⟩
        rw [hx] at hdc hasc
        have HDC := hid (decode_e (l.drop k) x.toNat 1 hdc wr hT2)
        have HBL := hid (fun w => blank1_any x.toNat w (by omega))
        cases hbl : decide (x.toNat = 32 ∨ x.toNat = 9) with
        | true =>
          rw [hbl] at HBL
          have HX := hid (show blankB (l.getD k 0) = true by rw [hx]; exact hbl)
          clear hdc hx hbl
          cases c with
          | none =>
            have e0 : decide ((0 : Int) ≤ -1) = false := by decide
            dsimp only [curV]
            gi_wp2_with (first
              | (refine ⟨trivial, ?_⟩; gi_at_call 113; refine (callsIn_wide.2 HDC.out).mono ?_; rintro e w3 ⟨rfl, hb3⟩; have k1 := cells_keep hb3 k1; have k0 := cells_keep hb3 k0)
              | (refine ⟨trivial, ?_⟩; gi_at_call 92; refine (callsIn_wide.2 (HBL.out _)).mono ?_; rintro e w4 ⟨rfl, rfl⟩))
            go_roundw
            case rel =>
              obtain ⟨zs, z1, z2, z3⟩ := hZ.out
              exact ⟨k + 1, none, by omega, by go_num, rfl, hid ⟨zs, z1, stF_none z2 HX.out, HA.out _ _ _ none z3 (grown_of_below hb3) (fun r e => by cases e)⟩, hid ⟨hI.out.1.trans (hb3.mono hI.out.1.size), k0, k1⟩⟩
            case measure => simp [intOf]; omega
          | some s =>
            have hsk : s < k := by
              obtain ⟨zs, z1, z2, z3⟩ := hZ.out
              exact stF_lt l k s (by rw [z2])
            have e0 : decide ((0 : Int) ≤ (s : Int)) = true := by simp
            have e1 : (0 : Int) ≤ (s : Int) := by omega
            have e2 : s ≤ k := by omega
            have e3 : (s : Int) ≤ (k : Int) := by omega
            have hcu := str_cut l s k
            obtain ⟨cu, hcu'⟩ : ∃ cu, cutL l s k = cu := ⟨_, rfl⟩
            have HCU := hid hcu'
            rw [hcu'] at hcu
            have HNX := hid (show ∃ (zs : List α) (y : α), f y = cu ∧ zs ++ [y] <+: ys ∧ zs.length < ys.length ∧ stF l (k + 1) = ((zs ++ [y]).map f, none) ∧ J zs wr by
              obtain ⟨zs, z1, z2, z3⟩ := hZ.out
              have h2 := stF_end z2 HX.out
              have h3 := stF_pre l (k := k + 1) (by omega)
              rw [h2, ← HYS.out] at h3
              obtain ⟨y, y1, y2, y3⟩ := next_word z1 h3
              exact ⟨zs, y, y1.trans hcu', y2, y3, by rw [h2, List.map_append, List.map_singleton, y1], z3⟩)
            clear hcu' hZ
            dsimp only [curV]
            obtain ⟨zs, y, y1, y2, y3, y4, y5⟩ := HNX.out
            have HY4 := hid y4
            have HY2 := hid y2
            have HY5 := hid y5
            have HY1 := hid y1
            clear y1 y2 y4 y5
            gi_wp2_with (first
              | (refine ⟨trivial, ?_⟩; gi_at_call 113; refine (callsIn_wide.2 HDC.out).mono ?_; rintro e w3 ⟨rfl, hb3⟩; have k1 := cells_keep hb3 k1; have k0 := cells_keep hb3 k0)
              | (refine ⟨trivial, ?_⟩; gi_at_call 92; refine (callsIn_wide.2 (HBL.out _)).mono ?_; rintro e w4 ⟨rfl, rfl⟩; have hYy := HY.out zs y w3 (HA.out _ _ _ none HY5.out (grown_of_below hb3) (fun r e => by cases e)) y3; rw [HY1.out] at hYy; obtain ⟨fn, tmps, assign, body, hy, hR⟩ := hYy))
            refine hR.mono ?_
            have hB3 : Below w.heap.size w w3 := hI.out.1.trans (hb3.mono hI.out.1.size)
            rintro e W' (⟨rfl, hJ', hk'⟩ | ⟨rfl, hJx'⟩)
            · gi_wp2
              go_roundw
              case rel => exact ⟨k + 1, none, by omega, by go_num, rfl, hid ⟨_, HY2.out, HY4.out, hJ'⟩, hid ⟨hB3.trans hk'.1, (hk'.2.1 0).trans k0, (hk'.2.2 0).trans k1⟩⟩
              case measure => simp [intOf]; omega
            · gi_wp2
              refine bodyPost_ret (results_none rfl _ _ _) rfl ?_
              exact ⟨⟨_, rfl⟩, .inr ⟨_, HY2.out, hJx'⟩⟩
        | false =>
          rw [hbl] at HBL
          have HX := hid (show blankB (l.getD k 0) = false by rw [hx]; exact hbl)
          clear hdc hx hbl
          cases c with
          | none =>
            have e0 : decide ((-1 : Int) < 0) = true := by decide
            dsimp only [curV]
            gi_wp2_with (first
              | (refine ⟨trivial, ?_⟩; gi_at_call 113; refine (callsIn_wide.2 HDC.out).mono ?_; rintro e w3 ⟨rfl, hb3⟩; have k1 := cells_keep hb3 k1; have k0 := cells_keep hb3 k0)
              | (refine ⟨trivial, ?_⟩; gi_at_call 92; refine (callsIn_wide.2 (HBL.out _)).mono ?_; rintro e w4 ⟨rfl, rfl⟩))
            go_roundw
            case rel =>
              obtain ⟨zs, z1, z2, z3⟩ := hZ.out
              exact ⟨k + 1, some k, by omega, by go_num, rfl, hid ⟨zs, z1, stF_on z2 HX.out, HA.out _ _ _ none z3 (grown_of_below hb3) (fun r e => by cases e)⟩, hid ⟨hI.out.1.trans (hb3.mono hI.out.1.size), k0, k1⟩⟩
            case measure => simp [intOf]; omega
          | some s =>
            have e0 : decide ((s : Int) < 0) = false := by simp
            dsimp only [curV]
            gi_wp2_with (first
              | (refine ⟨trivial, ?_⟩; gi_at_call 113; refine (callsIn_wide.2 HDC.out).mono ?_; rintro e w3 ⟨rfl, hb3⟩; have k1 := cells_keep hb3 k1; have k0 := cells_keep hb3 k0)
              | (refine ⟨trivial, ?_⟩; gi_at_call 92; refine (callsIn_wide.2 (HBL.out _)).mono ?_; rintro e w4 ⟨rfl, rfl⟩))
            go_roundw
            case rel =>
              obtain ⟨zs, z1, z2, z3⟩ := hZ.out
              exact ⟨k + 1, some s, by omega, by go_num, rfl, hid ⟨zs, z1, stF_on z2 HX.out, HA.out _ _ _ none z3 (grown_of_below hb3) (fun r e => by cases e)⟩, hid ⟨hI.out.1.trans (hb3.mono hI.out.1.size), k0, k1⟩⟩
            case measure => simp [intOf]; omega
      · obtain ⟨r, sz, hdc, hr, hr2, hz1, hz2, hz3⟩ := rune_hi l k hkl hasc
        have HDC := hid (decode_e (l.drop k) r sz hdc wr hT2)
        have HBL := hid (fun w => blank1_any r w hr2)
        rw [decide_eq_false (show ¬ (r = 32 ∨ r = 9) by omega)] at HBL
        have HX := hid (show ∀ j, j < sz → blankB (l.getD (k + j) 0) = false by
          intro j hj
          have := hz3 j hj
          unfold blankB
          rw [decide_eq_false_iff_not]
          omega)
        have hz4 : (k : Int) + (sz : Int) ≤ 100000 := by rw [← HL.out] at hz2; omega
        rw [← HL.out] at hz2
        clear hdc hasc hz3
        cases c with
        | none =>
          have e0 : decide ((-1 : Int) < 0) = true := by decide
          dsimp only [curV]
          gi_wp2_with (first
            | (refine ⟨trivial, ?_⟩; gi_at_call 113; refine (callsIn_wide.2 HDC.out).mono ?_; rintro e w3 ⟨rfl, hb3⟩; have k1 := cells_keep hb3 k1; have k0 := cells_keep hb3 k0)
            | (refine ⟨trivial, ?_⟩; gi_at_call 92; refine (callsIn_wide.2 (HBL.out _)).mono ?_; rintro e w4 ⟨rfl, rfl⟩))
          go_roundw
          case rel =>
            obtain ⟨zs, z1, z2, z3⟩ := hZ.out
            exact ⟨k + sz, some k, by omega, by go_num, rfl, hid ⟨zs, z1, stF_run z2 sz hz1 HX.out, HA.out _ _ _ none z3 (grown_of_below hb3) (fun r e => by cases e)⟩, hid ⟨hI.out.1.trans (hb3.mono hI.out.1.size), k0, k1⟩⟩
          case measure => simp [intOf]; omega
        | some s =>
          have e0 : decide ((s : Int) < 0) = false := by simp
          dsimp only [curV]
          gi_wp2_with (first
            | (refine ⟨trivial, ?_⟩; gi_at_call 113; refine (callsIn_wide.2 HDC.out).mono ?_; rintro e w3 ⟨rfl, hb3⟩; have k1 := cells_keep hb3 k1; have k0 := cells_keep hb3 k0)
            | (refine ⟨trivial, ?_⟩; gi_at_call 92; refine (callsIn_wide.2 (HBL.out _)).mono ?_; rintro e w4 ⟨rfl, rfl⟩))
          go_roundw
          case rel =>
            obtain ⟨zs, z1, z2, z3⟩ := hZ.out
            exact ⟨k + sz, some s, by omega, by go_num, rfl, hid ⟨zs, z1, stF_run z2 sz hz1 HX.out, HA.out _ _ _ none z3 (grown_of_below hb3) (fun r e => by cases e)⟩, hid ⟨hI.out.1.trans (hb3.mono hI.out.1.size), k0, k1⟩⟩
          case measure => simp [intOf]; omega
    · have hd : decide (k < (str l).size) = false := by simpa using hlt
      have hd' : decide ((k : Int) < ((str l).size : Int)) = false := by simp; omega
      have hkl : k = l.length := by rw [← HL.out]; omega
      cases c with
      | none =>
        have e0 : decide ((0 : Int) ≤ -1) = false := by decide
        dsimp only [curV]
        gi_wp2
        go_end0
        obtain ⟨zs, z1, z2, z3⟩ := hZ.out
        refine ⟨⟨_, rfl⟩, .inl ⟨zs, all_words (f := f) z1 ?_, z3⟩⟩
        rw [HYS.out]
        unfold wordsL
        rw [← hkl, z2, List.append_nil]
      | some s =>
        have hsk : s < k := by
          obtain ⟨zs, z1, z2, z3⟩ := hZ.out
          exact stF_lt l k s (by rw [z2])
        have e0 : decide ((0 : Int) ≤ (s : Int)) = true := by simp
        have e1 : (0 : Int) ≤ (s : Int) := by omega
        have e2 : s ≤ (str l).size := by omega
        have e3 : (s : Int) ≤ ((str l).size : Int) := by omega
        have hcu := str_from l s
        obtain ⟨cu, hcu'⟩ : ∃ cu, l.drop s = cu := ⟨_, rfl⟩
        rw [hcu'] at hcu
        have HNX := hid (show ∃ (zs : List α) (y : α), f y = cu ∧ zs ++ [y] = ys ∧ zs.length < ys.length ∧ J zs wr by
          obtain ⟨zs, z1, z2, z3⟩ := hZ.out
          have h2 : ys.map f = zs.map f ++ [cu] := by
            rw [HYS.out]
            unfold wordsL
            rw [← hkl, z2, ← hcu']
          obtain ⟨y, y1, y2, y3⟩ := next_word z1 (by rw [h2]; exact List.prefix_rfl)
          refine ⟨zs, y, y1, all_words (f := f) y2 ?_, y3, z3⟩
          rw [h2, List.map_append, List.map_singleton, y1])
        clear hcu' hZ
        dsimp only [curV]
        obtain ⟨zs, y, y1, y2, y3, y5⟩ := HNX.out
        have hYy := HY.out zs y wr y5 y3
        rw [y1] at hYy
        obtain ⟨fn, tmps, assign, body, hy, hR⟩ := hYy
        have HY2 := hid y2
        clear y1 y2 y5 HNX
        gi_wp2
        refine hR.mono ?_
        rintro e W' (⟨rfl, hJ', hk'⟩ | ⟨rfl, hJx'⟩)
        · gi_wp2
          go_end0
          exact ⟨⟨_, rfl⟩, .inl ⟨_, rfl, by rw [HY2.out] at hJ'; exact hJ'⟩⟩
        · gi_wp2
          go_end0
          exact ⟨⟨_, rfl⟩, .inr ⟨_, by rw [HY2.out]; exact List.prefix_rfl, hJx'⟩⟩
end
end Go.Proofs.YtonjadmldgloaaaGreatDoor.D16
