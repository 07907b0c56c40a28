/-
  The line that ends a header: the program's walk; strings.Builder: a text is written; strings.Builder.WriteString; A line without its end; the library's TrimSuffix and Trim at these. A part of the proof: see the head of the text that ends in 'Law'.
-/
import Derived.Test.YtonjadmldgloaaaGreatDoorHe10
import Derived.RangeFuncNested
import Derived.Lib.Builder
import Derived.Laws.Externs
import Derived.Lib.AppendStr
import Derived.Shelf.Strings.SlTrimAscii
namespace Go.Proofs.YtonjadmldgloaaaGreatDoor.D17
section
open Go.RowKit Go.Shelf
set_option linter.unusedVariables false
attribute [local go_sem] Oper.semAt_some
/-- The first empty line, or what stands for it. -/
def endR : List (List UInt8) → List UInt8
  | [] => [13, 10]
  | x :: r => if emptyB x = true then x else endR r
def endFold (l : List UInt8) {m : Nat} (pre : List (Pr m)) : Option (Pr m) := pre.foldl (fun e p => if emptyB (lineL l p.val) = true then some p else e) none
def endC (l : List UInt8) {m : Nat} : Option (Pr m) → List UInt8
  | none => [13, 10]
  | some p => lineL l p.val
theorem endFold_c (l : List UInt8) {m : Nat} : ∀ (pre : List (Pr m)) (o : Option (Pr m)), endC l (pre.foldl (fun e p => if emptyB (lineL l p.val) = true then some p else e) o) = ((pre.map (·.val)).map (lineL l)).foldl (fun e x => if emptyB x = true then x else e) (endC l o)
  | [], o => rfl
  | p :: pre, o => by
    rw [List.foldl_cons, endFold_c l pre, List.map_cons, List.map_cons, List.foldl_cons]
    congr 1
    split <;> rfl
theorem upto_end : ∀ (ls : List (List UInt8)), (upto ls).foldl (fun e x => if emptyB x = true then x else e) [13, 10] = endR ls
  | [] => rfl
  | x :: r => by
    unfold upto endR
    by_cases h : emptyB x = true
    · rw [if_pos h, if_pos h, List.foldl_cons, if_pos h]
      rfl
    · rw [if_neg h, if_neg h, List.foldl_cons, if_neg h]
      exact upto_end r
theorem endFold_end (l : List UInt8) {m : Nat} (pre : List (Pr m)) (h : pre.map (·.val) = posL (l.take (splitL l))) : endC (l.take (splitL l)) (endFold (l.take (splitL l)) pre) = endR (cutL l) := by
  unfold endFold
  rw [endFold_c, h, lines_of, cut_head]
  exact upto_end _
theorem endFold_snoc (l : List UInt8) {m : Nat} (pre : List (Pr m)) (p : Pr m) : endFold l (pre ++ [p]) = if emptyB (lineL l p.val) = true then some p else endFold l pre := by
  unfold endFold
  rw [List.foldl_append]
  rfl
/-- The slice that stands for it. -/
def endV (A : Option Addr) (c g : Nat) {m : Nat} : Option (Pr m) → Value
  | none => .slice (some ⟨g, 0, none⟩) 2 2
  | some p => .slice (A.map (·.add p.val.1)) (p.val.2 - p.val.1) (c - p.val.1)
theorem endV_some (b off c g : Nat) {m : Nat} (p : Pr m) : endV (some ⟨b, off, none⟩) c g (some p) = .slice (some ⟨b, off + p.val.1, none⟩) (p.val.2 - p.val.1) (c - p.val.1) := by
  unfold endV
  dsimp only
  rw [Option.map_some, Addr.add_mid]
def LaidF (W : World) (B : Nat) (cs : Array Value) (t : TypeId) (fr : Nat × Nat) : Prop := W.heap[B]? = some (.cells cs t fr)
theorem laidF_own {β : Type} (B : Nat) (cs : Array Value) (t : TypeId) (fr : Nat × Nat) : Own (fun (_ : β) W => LaidF W B cs t fr) := fun s X Y row hs hg hr =>
  (hg.block B (lt_of_heap hs) (fun e' => by obtain ⟨o, ho, hc⟩ := hr B e'.symm; rw [show X.heap[B]? = _ from hs] at ho; cases ho; cases hc)).trans hs
end
section
open Go.RowKit
set_option linter.unusedVariables false
attribute [local go_sem] Oper.semAt_some
/-- A builder at b, made behind B, that holds l. -/
def BldAt (B b : Nat) (l : List UInt8) (w : World) : Prop := Lib.IsBuilder 137 5 B b (l.map B8) w
/-- What is no cells lies as it lay, and so does every box but b that holds no octets. -/
def KeptB (b : Nat) (w w' : World) : Prop := KeepsOthers w w' ∧ ∀ (B0 : Nat) (T : TypeId) (cs : Array Value), T ≠ 5 → B0 ≠ b → w.heap[B0]? = some (.cells cs T (0, 0)) → w'.heap[B0]? = some (.cells cs T (0, 0))
theorem KeptB.refl (b : Nat) (w : World) : KeptB b w w := ⟨KeepsOthers.refl w, fun _ _ _ _ _ h => h⟩
theorem KeptB.trans {b : Nat} {w w1 w2 : World} (h : KeptB b w w1) (k : KeptB b w1 w2) : KeptB b w w2 := ⟨h.1.trans k.1, fun B T u h1 h2 h3 => k.2 B T u h1 h2 (h.2 B T u h1 h2 h3)⟩
theorem KeptB.set (b : Nat) (w : World) (j : Nat) (v : Value) : KeptB b w (w.setCell ⟨b, j, none⟩ v) := ⟨KeepsOthers.setCell _ _ _, fun B T u h1 h2 h3 => (heap_setCell_other w ⟨b, j, none⟩ B v h2).trans h3⟩
theorem bld_size : (Tryz.prog.info? 137).map (·.size) = some 2 := by kernel_rfl
theorem bld_lies : liesAt Tryz.prog Tryz.prog.depth 137 (2 / Tryz.prog.cellsOf 137) 0 137 1 = true := by kernel_rfl
set_option maxRecDepth 100000 in
theorem copyCheck_any (B b : Nat) (bs : List Value) (w : World) (h : Lib.IsBuilder 137 5 B b bs w) :
    Calls Tryz.prog 123 #[.pointer (some ⟨b, 0, none⟩)] w fun e w' => e = .returned (.tuple #[]) ∧ Lib.BuilderAt 137 5 B b (.pointer (some ⟨b, 0, none⟩)) bs w' ∧ Below B w w' ∧ KeptB b w w' := by
  obtain ⟨j, hj, hjs⟩ := Option.map_eq_some_iff.1 bld_size
  rcases h with h | h
  · have x0 := h.cell0
    have f0 := h.frozen0
    have hsh := h.shape
    have q1 := Lib.run_to_unsafe (P := Tryz.prog) w ⟨b, 0, none⟩ Tryz.underlying135 Tryz.underlying164 hj (by rw [hjs]; decide) hsh (Nat.zero_lt_succ 1)
    have q2 := Lib.run_from_unsafe (P := Tryz.prog) w ⟨b, 0, none⟩ Tryz.underlying164 Tryz.underlying135 hj hsh bld_lies
    have H := hid h
    clear h hj hjs hsh
    go_enter Tryz.func123, Tryz.ntmps123
    go_wp2
    rw [run_callFunc_extern Tryz.func138 (by kernel_rfl) (by kernel_rfl) (by kernel_rfl) (e := Extern.AbiNoEscape.same) (by kernel_rfl)]
    rw [Lib.run_noEscape]
    simp only [Result.andThen]
    rw [Oper.upon_value]
    go_wp2
    go_end0
    exact ⟨rfl, H.out.used _, (Below.refl B w).setCell (p := ⟨b, 0, none⟩) H.out.1 _, KeptB.set b w 0 _⟩
  · have x0 := h.cell0
    have q1 := Lib.run_neq_ptr_same (P := Tryz.prog) w ⟨b, 0, none⟩ Tryz.underlying135 hj
    have H := hid h
    clear h hj hjs
    go_enter Tryz.func123, Tryz.ntmps123
    go_wp2
    go_end0
    exact ⟨rfl, H.out, Below.refl _ _, KeptB.refl _ _⟩
theorem u8S : SliceT Tryz.prog 28 5 (.int .u8 0) 1 1 := ⟨Tryz.underlying28, by kernel_rfl, rfl, by decide⟩
theorem string_any (B b : Nat) (l : List UInt8) (w : World) (h : BldAt B b l w) (hBw : B ≤ w.heap.size) :
    Calls Tryz.prog 111 #[.pointer (some ⟨b, 0, none⟩)] w fun e w' => e = .returned (.string (str l)) ∧ Below B w w' := Tryz.Builder_String_any B b l w h hBw
/-- A fresh one. -/
theorem bld_new (w : World) : BldAt w.heap.size w.heap.size [] (w.alloc (.cells #[.pointer none, .slice none 0 0] 137)) :=
  .inl ⟨Nat.le_refl _, .slice none 0 0, heap_alloc_new w _, World.ownsRow_nil _ _ _ _, by simp [Value.ownBlock]⟩
end
section
open Go.RowKit
set_option linter.unusedVariables false
attribute [local go_sem] Oper.semAt_some
theorem strCells_B8 (s : List UInt8) : Lib.strCells (str s) = s.map B8 := by
  unfold Lib.strCells
  first
  | rfl
  | simp [str, B8]
theorem bld_endS {B b : Nat} {l s : List UInt8} {v v' : Value} {w1 w2 : World} (hB : B ≤ b) (hE : OwnE w1 b 137 [.pointer (some ⟨b, 0, none⟩), v]) (hne : v.ownBlock ≠ some b)
    (ho : w2.ownsRow B 5 1 v' (l ++ s).length ((l ++ s).map B8)) (hg : w1.grownBy w2 v.ownBlock) :
    OwnE w2 b 137 [.pointer (some ⟨b, 0, none⟩), v] ∧ BldAt B b (l ++ s) (w2.setCell ⟨b, 1, none⟩ v') := by
  have hE2 : OwnE w2 b 137 [.pointer (some ⟨b, 0, none⟩), v] := hE.grown hg hne
  have hn2 : v'.ownBlock ≠ some b := hE2.row_ne ho (by decide)
  refine ⟨hE2, .inr ⟨hB, v', hE2.set 1 _, ?_, hn2⟩⟩
  have := row_far (i := 1) ho hn2 v'
  simpa using this
theorem keptB_grown (b : Nat) {B n : Nat} {v : Value} {xs : List Value} {w1 w2 : World} (hr : w1.ownsRow B 5 1 v n xs) (hg : w1.grownBy w2 v.ownBlock) : KeptB b w1 w2 := by
  refine ⟨KeepsOthers.of_grownBy hg fun j o ej hj => ?_, fun B0 T cs h1 h2 h3 => (hg.block B0 (lt_of_heap h3) (fun e => ?_)).trans h3⟩
  · rcases hr.2 with ⟨rfl, _⟩ | ⟨g, cap, cur, rfl, _, hgb, _⟩
    · simp [Value.ownBlock] at ej
    · obtain rfl : g = j := by simpa [Value.ownBlock] using ej
      rw [hgb] at hj; cases hj; rfl
  · obtain ⟨cur, hh⟩ := own_type hr B0 e.symm
    rw [h3] at hh
    injection hh with hh
    injection hh with _ ht
    exact h1 ht
set_option maxRecDepth 100000 in
set_option maxHeartbeats 1000000 in
theorem writeStr_any (B b : Nat) (l s : List UInt8) (w : World) (h : BldAt B b l w) (hl : l.length + s.length ≤ 100000000000) (hBw : B ≤ w.heap.size) :
    Calls Tryz.prog 109 #[.pointer (some ⟨b, 0, none⟩), .string (str s)] w fun e w' => (∃ v, e = .returned v) ∧ BldAt B b (l ++ s) w' ∧ Below B w w' ∧ KeptB b w w' := by
  have HC := hid (copyCheck_any B b _ w h)
  have HL := hid hl
  have HB := hid hBw
  obtain ⟨i0, hi, hz0, hz1, hz2⟩ := info_parts u8S.info
  clear h hl hBw
  go_enter Tryz.func109, Tryz.ntmps109
  go_wp2_with (first
    | (go_at_call 123
       refine HC.out.mono ?_
       rintro e w1 ⟨rfl, h1, b1, kb1⟩
       have KB := hid kb1
       clear kb1
       obtain ⟨hB, v, hb, hr, hne⟩ := h1
       have hE : OwnE w1 b 137 [.pointer (some ⟨b, 0, none⟩), v] := hb
       have hex : ∃ A1 n1 c1, v = .slice A1 n1 c1 ∧ n1 = l.length := by
         obtain ⟨A1, c1, hv, _⟩ := own_slice hr
         exact ⟨A1, _, c1, hv, List.length_map ..⟩
       obtain ⟨A1, n1, c1, hv, hn1⟩ := hex
       subst hv
       rw [List.length_map] at hr
       have x1 := hE.cell (j := 1) rfl
       have HE := hid hE
       have HR := hid hr
       have HNE := hid hne
       have HBB := hid hB
       have B1 := hid b1
       have HN1 := hid hn1
       clear hb hr hne hB b1 hE hn1)
    | (refine Lib.wpList_append_own_string _ rfl _ _ 28 9 rfl B 5 i0 Tryz.underlying28 Tryz.underlying9 hi hz0 hz1 hz2 (.slice A1 n1 c1) l.length (l.map B8) rfl HR.out (str s) rfl (by have := HL.out; simp only [maxLen, str_size]; omega) (by have := HL.out; rw [str_size]; omega) (by have := HB.out; have := B1.out.size; omega) ?_
       intro v2 w2 ho2 hg2 hh2
       rw [strCells_B8, ← List.map_append, str_size, ← List.length_append] at ho2
       obtain ⟨A2, c2, hv2, -⟩ := own_slice ho2
       subst hv2
       have hend := bld_endS HBB.out HE.out HNE.out ho2 hg2
       have y1 := hend.1.cell (j := 1) rfl
       have f1 := hend.1.frozen 1
       have HX := hid hend.2
       have hb2 : Below B w w2 := B1.out.grown hg2 (by have := HB.out; have := B1.out.size; omega) (fun k hk => own_base HR.out k hk)
       have HB2 := hid (hb2.setCell (p := ⟨b, 1, none⟩) HBB.out (.slice A2 (l ++ s).length c2))
       have HK2 := hid (KB.out.trans ((keptB_grown b HR.out hg2).trans (KeptB.set b w2 1 (.slice A2 (l ++ s).length c2))))
       clear hend ho2 hg2 hh2 hb2))
  go_ret2
  have h1 := HX.out
  have h2 := HB2.out
  have h3 := HK2.out
  rw [List.length_append] at h1 h2 h3
  exact ⟨⟨_, rfl⟩, h1, h2, h3⟩
end
section
open Go.RowKit Go.Shelf
set_option linter.unusedVariables false
theorem string_k (B b : Nat) (l : List UInt8) (w : World) (h : BldAt B b l w) (hBw : B ≤ w.heap.size) :
    Calls Tryz.prog 111 #[.pointer (some ⟨b, 0, none⟩)] w fun e w' => e = .returned (.string (str l)) ∧ Below B w w' ∧ Lib.OthersKept 5 (some b) w w' :=
  (Tryz.Builder_String_any_k B b l w (.of h) hBw).mono fun e w' ⟨h1, _, h2, h3⟩ => ⟨h1, h2, h3⟩
theorem trim_any (l : List UInt8) (w : World) (hl : l.length ≤ 100000000000) : Calls Tryz.prog 110 #[.string (str l), .string ⟨#[32, 9]⟩] w fun e w' => e = .returned (.string (str (trimB l))) ∧ Below w.heap.size w w' :=
  (Any.strings_Trim_laid Tryz.lays160 (by kernel_rfl) (str l) ⟨#[32, 9]⟩ w (by rw [str_size]; omega) (by decide) (Go.Proofs.ascii_of_all (by decide))).mono fun e w' ⟨h1, h2⟩ => ⟨by rw [h1, str_toList]; rfl, h2⟩
/-- Without one octet at its end. -/
def off1 (l : List UInt8) (k : UInt8) : List UInt8 := if l.getLast? = some k then l.dropLast else l
theorem trimSuffix_one (l : List UInt8) (k : UInt8) : Lib.trimSuffix l [k] = off1 l k := by
  unfold Lib.trimSuffix off1 Lib.hasSuffix
  have h : ([k].isSuffixOf l = true) ↔ l.getLast? = some k := by
    rw [List.isSuffixOf_iff_suffix]
    constructor
    · rintro ⟨i, rfl⟩
      simp
    · intro h
      rcases List.eq_nil_or_concat l with rfl | ⟨i, c, rfl⟩
      · cases h
      · rw [List.concat_eq_append, List.getLast?_concat] at h
        injection h with h
        subst h
        exact ⟨i, by rw [List.concat_eq_append]⟩
  by_cases hk : l.getLast? = some k
  · rw [if_pos (h.2 hk), if_pos hk, List.dropLast_eq_take]
    rfl
  · rw [if_neg (fun e => hk (h.1 e)), if_neg hk]
theorem suffix_any (l : List UInt8) (k : UInt8) (w : World) (hl : l.length ≤ 100000000000) : Calls Tryz.prog 93 #[.string (str l), .string ⟨#[k]⟩] w fun e w' => e = .returned (.string (str (off1 l k))) ∧ w = w' :=
  (Tryz.strings_TrimSuffix (str l) ⟨#[k]⟩ w (by rw [str_size]; omega)).mono fun e w' ⟨h1, h2⟩ => ⟨by
    rw [h1, str_toList]
    exact congrArg (fun z => Ending.returned (.string (str z))) (trimSuffix_one l k), h2.symm⟩
end
end Go.Proofs.YtonjadmldgloaaaGreatDoor.D17
