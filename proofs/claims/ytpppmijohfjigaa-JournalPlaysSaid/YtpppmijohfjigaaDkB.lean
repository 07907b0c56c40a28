/-
  A write that waits, built; What a sector itself has; A write lets wait; Which sectors wait; What waits is done: the plain part, and what a store of a sector leaves. A part of the proof: see the head of the text that ends in 'Law'.
-/
import Derived.Test.YtpppmijohfjigaaDkA
import Derived.Great.FillDense
import Derived.Great.BuildSlice
import Derived.Deep.MidRow
import Derived.Deep.WholeRow
namespace Go.Proofs.Ytpppmijohfjigaa
section
open Go.RowKit
set_option linter.unusedVariables false
set_option linter.unusedSimpArgs false
attribute [local go_sem] Oper.semAt_some
def zIss : Array Value := #[Value.int .i64 0] ++ Array.replicate 128 (Value.int .u8 0)
theorem zIss_size : zIss.size = 129 := by unfold zIss; simp
theorem iss_built (ps : List (Nat × Value)) : Try.prog.built 101 ps = Instr.fill (fun i => (#[(0, 1), (1, 128)] : Array (Nat × Nat))[i]?) zIss ps := by kernel_rfl
theorem fill_two (i : Int) (cs : List Value) (hc : cs.length = 128) (z : Array Value) (hz : z.size = 129) : Instr.fill (fun i => (#[(0, 1), (1, 128)] : Array (Nat × Nat))[i]?) z [(0, .int .i64 i), (1, .agg cs.toArray)] = some (.int .i64 i :: cs).toArray := by
  obtain ⟨g1, g2⟩ := Go.Great.foldl_set 1 cs 0 (z.setIfInBounds 0 (.int .i64 i))
  have hcz : (Value.int IntKind.i64 i).cells = #[.int .i64 i] := rfl
  have hcv : (Value.agg cs.toArray).cells = cs.toArray := rfl
  rw [Instr.fill]
  simp only [List.getElem?_toArray, List.getElem?_cons_zero, hcz]
  rw [if_neg (by rw [hz]; simp)]
  have e1 : ∀ z : Array Value, Array.foldl (fun (cs : Array Value) (x : Value × Nat) => cs.setIfInBounds (0 + x.2) x.1) z (#[Value.int IntKind.i64 i].zipIdx) = z.setIfInBounds 0 (.int .i64 i) := fun z => by simp
  rw [e1, Instr.fill]
  simp only [List.getElem?_toArray, List.getElem?_cons_succ, List.getElem?_cons_zero, hcv]
  rw [if_neg (by simp [hc, hz]), Instr.fill]
  congr 1
  rw [← Array.foldl_toList, Array.toList_zipIdx]
  apply Array.ext_getElem?
  intro k
  rw [g2 k]
  simp only [Array.size_setIfInBounds, hz, hc]
  rw [show (Value.int IntKind.i64 i :: cs).toArray[k]? = (Value.int IntKind.i64 i :: cs)[k]? by simp]
  by_cases h0 : k = 0
  · subst h0
    rw [if_neg (by omega)]
    simp [hz]
  · obtain ⟨j, rfl⟩ : ∃ j, k = j + 1 := ⟨k - 1, by omega⟩
    rw [List.getElem?_cons_succ]
    by_cases hj : j < 128
    · rw [if_pos (by omega), show j + 1 - (1 + 0) = j by omega]
    · rw [if_neg (by omega), Array.getElem?_eq_none (by simp [hz]; omega), List.getElem?_eq_none (by omega)]
/-- A write that waits, as it is built. -/
theorem issued_built (i : Int) (s : List UInt8) (hs : s.length = 128) : Try.prog.built 101 [(0, .int .i64 i), (1, .agg (s.map B8).toArray)] = some (isC (i, s)).toArray := by
  rw [iss_built]
  exact fill_two i (s.map B8) (by rw [List.length_map, hs]) zIss zIss_size
theorem isC_len (p : Int × List UInt8) (h : p.2.length = 128) : (isC p).length = 129 := by unfold isC; simp [h]
theorem issS : SliceT Try.prog 92 101 (.agg zIss) 129 136 := ⟨Try.underlying92, by kernel_rfl, by show zIss.size = 129; exact zIss_size, by omega⟩
/-- A slice of one write that waits. -/
theorem iss_one (p : Int × List UInt8) (h : p.2.length = 128) (ie : TypeInfo) (h1 : ie.size = 129) (cells : Array Value) (hc : cells.size = 129) :
    Instr.fill (fun i => some (i * ie.size, ie.size)) cells [(0, .agg (isC p).toArray)] = some (isC p).toArray := by
  have := Go.Great.fill_whole (s := 129) (by omega) [.agg (isC p).toArray] cells (by intro v hv; simp at hv; rw [hv]; show (isC p).toArray.size = 129; simp [isC_len p h]) (by simp [hc])
  rw [h1]
  simpa [Value.cells] using this
end
section
open Go.RowKit
set_option linter.unusedVariables false
set_option linter.unusedSimpArgs false
attribute [local go_sem] Oper.semAt_some
theorem secC_get : ∀ (l : List (List UInt8)), (∀ s ∈ l, s.length = 128) → ∀ (k : Nat) (hk : k < l.length) (j : Nat), j < 128 → (secC l)[k * 128 + j]? = ((l[k]'hk).map B8)[j]?
  | [], _, k, hk, _, _ => by simp at hk
  | s :: l, h, 0, _, j, hj => by
    unfold secC
    rw [List.flatMap_cons, Nat.zero_mul, Nat.zero_add, List.getElem?_append_left (by rw [List.length_map, h s List.mem_cons_self]; exact hj)]
    rfl
  | s :: l, h, k + 1, hk, j, hj => by
    have ih := secC_get l (fun x hx => h x (List.mem_cons_of_mem _ hx)) k (by simpa using hk) j hj
    unfold secC at ih ⊢
    rw [List.flatMap_cons, List.getElem?_append_right (by rw [List.length_map, h s List.mem_cons_self]; omega), List.length_map, h s List.mem_cons_self, show (k + 1) * 128 + j - 128 = k * 128 + j by omega, ih]
    rfl
theorem DkAt.range {W : World} {b0 d hb : Nat} {V : Value} {D : Dsk} (h : DkAt W b0 d hb V D) (k : Nat) (hk : k < D.has.length) : W.rangeAt hb (k * 128) ((D.has[k]'hk).map B8) := fun j v hv => by
  have hl := h.len _ (List.getElem_mem hk)
  have hj : j < 128 := by
    rcases Nat.lt_or_ge j 128 with h1 | h1
    · exact h1
    · rw [List.getElem?_eq_none (by rw [List.length_map, hl]; exact h1)] at hv; cases hv
  have hlt : k * 128 + j < (secC D.has).length := by
    rcases Nat.lt_or_ge (k * 128 + j) (secC D.has).length with h1 | h1
    · exact h1
    · have := secC_get D.has h.len k hk j hj
      rw [List.getElem?_eq_none h1, hv] at this
      cases this
  exact h.sect.cell (by rw [List.getElem?_append_left hlt, secC_get D.has h.len k hk j hj]; exact hv)
theorem sec_info : (Try.prog.info? 99).map (·.size) = some 128 := by kernel_rfl
set_option maxHeartbeats 1000000 in
theorem has_any {W : World} {b0 d hb : Nat} {V : Value} {D : Dsk} (h : DkAt W b0 d hb V D) (k : Nat) (hk : k < D.has.length) :
    Calls Try.prog 22 #[.pointer (some ⟨d, 0, none⟩), .int .i64 (k : Int)] W fun e w' => e = .returned (.tuple #[.slice (some ⟨W.heap.size, 0, none⟩) 128 128, .int .i64 0]) ∧ w' = W.alloc (.cells ((D.has[k]'hk).map B8).toArray 99) := by
  have hl := h.len _ (List.getElem_mem hk)
  have HR := hid (h.range k hk)
  have his := is_any h (k : Int)
  rw [decide_eq_true ⟨by omega, by omega⟩] at his
  have HIS := hid his
  have x0 := h.cells.cell (j := 0) rfl
  obtain ⟨s, hs⟩ : ∃ s, D.has[k]'hk = s := ⟨_, rfl⟩
  rw [hs] at hl HR ⊢
  obtain ⟨n, hn⟩ : ∃ n, D.has.length = n := ⟨_, rfl⟩
  rw [hn] at x0 hk
  have HSZ := hid (show (Try.prog.info? 99).map (·.size) = some (s.map B8).length by rw [sec_info, List.length_map, hl])
  have HOC := hid (fun w => octets_any s hl w)
  have i0 : (0 : Int) ≤ (k : Int) := by omega
  have i1 : (k : Int) < (n : Int) := by omega
  have i2 : (k : Int).toNat = k := by omega
  obtain ⟨A, hA⟩ : ∃ A, (s.map B8).toArray = A := ⟨_, rfl⟩
  rw [hA] at HOC ⊢
  have HA := hid hA
  clear h hs hn hl his hA
  go_enter Try.func22, Try.ntmps22
  go_wp2_with (first
    | (go_at_call 50; (with_reducible refine HIS.out.mono ?_); rintro e w1 ⟨rfl, hw⟩; subst hw)
    | (refine wpList_load_mid rfl 99 (.tmp 15) rfl hb (k * 128) rfl (s.map B8) _ HR.out Try.underlying99 rfl HSZ.out ?_; rw [HA.out])
    | (go_at_call 52; (with_reducible refine (HOC.out _).mono ?_); rintro e w1 ⟨rfl, hw⟩; subst hw))
  go_ret2
  exact ⟨rfl, rfl⟩
theorem has_no {W : World} {b0 d hb : Nat} {V : Value} {D : Dsk} (h : DkAt W b0 d hb V D) (i : Int) (hi : ¬ (0 ≤ i ∧ i < D.has.length)) :
    Calls Try.prog 22 #[.pointer (some ⟨d, 0, none⟩), .int .i64 i] W fun e w' => e = .returned (.tuple #[.slice none 0 0, .int .i64 4]) ∧ W = w' := by
  have his := is_any h i
  rw [decide_eq_false hi] at his
  have HIS := hid his
  clear h hi his
  go_enter Try.func22, Try.ntmps22
  go_wp2_with (go_at_call 50; (with_reducible refine HIS.out.mono ?_); rintro e w1 ⟨rfl, hw⟩; subst hw)
  go_ret2
  exact ⟨rfl, rfl⟩
end
section
open Go.RowKit
set_option linter.unusedVariables false
set_option linter.unusedSimpArgs false
attribute [local go_sem] Oper.semAt_some
theorem write_no {W : World} {b0 d hb : Nat} {V : Value} {D : Dsk} (h : DkAt W b0 d hb V D) (i : Int) (hi : ¬ (0 ≤ i ∧ i < D.has.length)) (A : Option Addr) (n c : Nat) :
    Calls Try.prog 19 #[.pointer (some ⟨d, 0, none⟩), .int .i64 i, .slice A n c] W fun e w' => e = .returned (.int .i64 4) ∧ W = w' := by
  have his := is_any h i
  rw [decide_eq_false hi] at his
  have HIS := hid his
  clear h hi his
  go_enter Try.func19, Try.ntmps19
  go_wp2_with (go_at_call 50; (with_reducible refine HIS.out.mono ?_); rintro e w1 ⟨rfl, hw⟩; subst hw)
  go_ret
  exact ⟨rfl, rfl⟩
theorem write_short {W : World} {b0 d hb : Nat} {V : Value} {D : Dsk} (h : DkAt W b0 d hb V D) (i : Int) (hi : 0 ≤ i ∧ i < D.has.length) (A : Option Addr) (n c : Nat) (hn : n ≠ 128) :
    Calls Try.prog 19 #[.pointer (some ⟨d, 0, none⟩), .int .i64 i, .slice A n c] W fun e w' => e = .returned (.int .i64 1) ∧ W = w' := by
  have his := is_any h i
  rw [decide_eq_true hi] at his
  have HIS := hid his
  have d1 : ((n : Int) != 128) = true := by rw [bne_iff_ne]; omega
  have d1' : (n != 128) = true := by rw [bne_iff_ne]; exact hn
  clear h hi his hn
  go_enter Try.func19, Try.ntmps19
  go_wp2_with (go_at_call 50; (with_reducible refine HIS.out.mono ?_); rintro e w1 ⟨rfl, hw⟩; subst hw)
  go_ret
  exact ⟨rfl, rfl⟩
theorem write_off {W : World} {b0 d hb : Nat} {V : Value} {D : Dsk} (h : DkAt W b0 d hb V D) (i : Int) (hi : 0 ≤ i ∧ i < D.has.length) (A : Option Addr) (c : Nat) (ho : onD D = false) :
    Calls Try.prog 19 #[.pointer (some ⟨d, 0, none⟩), .int .i64 i, .slice A 128 c] W fun e w' => e = .returned (.int .i64 10) ∧ Left W b0 d hb V (spendD D) w' := by
  have his := is_any h i
  rw [decide_eq_true hi] at his
  have HIS := hid his
  have hsp := spend_any h
  rw [ho] at hsp
  have HSP := hid hsp
  clear h hi his ho hsp
  go_enter Try.func19, Try.ntmps19
  go_wp2_with (first
    | (go_at_call 50; (with_reducible refine HIS.out.mono ?_); rintro e w1 ⟨rfl, hw⟩; subst hw)
    | (go_at_call 58; (with_reducible refine HSP.out.mono ?_); rintro e w2 ⟨rfl, hl⟩; have HL := hid hl; clear hl))
  go_ret
  exact ⟨rfl, HL.out⟩
theorem range_only {T : Nat → Prop} {W w' : World} {b o : Nat} {cs : List Value} (h : W.rangeAt b o cs) (hO : Only T W w') (hb : ¬ T b) : w'.rangeAt b o cs := fun j v hv => by
  have h1 := h j v hv
  have hlt : b < W.heap.size := World.block_lt_of_cell? W _ h1
  have := hO.block b hlt hb
  simp only [World.cell?, this] at h1 ⊢
  exact h1
theorem run_arrayAt128 (A : Option Addr) (c : Nat) (w : World) : (Instr.arrayAt 99 (.slice A 128 c)).run Try.prog w = .ok (.pointer A) w := by
  simp [Instr.arrayAt, run_underlying Try.underlying99]
theorem wp_build_to {P : Program} {o : Oper} {a : Act} {w : World} {K : Act → World → Prop} {Q : Exit → Act → World → Prop} (t : TypeId) (parts : Array (Nat × Operand)) (ho : o.op = .build t parts) (vs : List (Nat × Value)) (hv' : (parts.toList.map fun x => (x.1, a.eval x.2)) = vs) (cells : Array Value)
    (hb : P.built t vs = some cells) (h : K (a.put o.dst (.agg cells)) w) : o.wp P a w K Q := by
  have hv : (parts.map fun (i, x) => (i, a.eval x)).toList = vs := by rw [Array.toList_map]; exact hv'
  refine wp_build t parts ho (by rw [hv, hb]; rfl) ?_
  rw [hv, hb]
  exact h
theorem yieldsIf_build {P : Program} {ops : Array Oper} {S : World → Prop} {op : Oper} {a : Act} (hw : Region.wanted op (yielded ops a.tmps) = true) (t : TypeId) (parts : Array (Nat × Operand)) (ho : op.op = .build t parts) (vs : List (Nat × Value)) (hv' : (parts.toList.map fun x => (x.1, a.eval x.2)) = vs) (cells : Array Value)
    (hb : P.built t vs = some cells) : YieldsIf P ops S op (.agg cells) a :=
  .inl ⟨hw, fun w _ => by
    have hv : (parts.map fun (i, x) => (i, a.eval x)).toList = vs := by rw [Array.toList_map]; exact hv'
    unfold execOp
    simp only [ho, Sem.run_bind, run_build w t _ cells (by rw [hv]; exact hb), Result.andThen_ok]
    rfl⟩
theorem wp_buildSlice_to {P : Program} {o : Oper} {a : Act} {w : World} {K : Act → World → Prop} {Q : Exit → Act → World → Prop} (t e : TypeId) (len : Nat) (parts : Array (Nat × Operand)) (ho : o.op = .buildSlice t len parts) (vs : List (Nat × Value)) (hv' : (parts.toList.map fun x => (x.1, a.eval x.2)) = vs)
    (cells : Array Value) (ie : TypeInfo) (z : Value) (hu : P.underlying t = some (.slice e)) (hie : P.info? e = some ie) (hz : ie.zero = some z) (hsmall : ¬ len * ie.size > 2 ^ 24) (hpos : ¬ len * ie.size = 0)
    (hf : Instr.fill (fun i => some (i * ie.size, ie.size)) ((Array.range (len * ie.size)).map (z.cells[· % z.cells.size]!)) vs = some cells)
    (h : K (a.put o.dst (.slice (some ⟨w.heap.size, 0, none⟩) len len)) (w.alloc (.cells cells e))) : o.wp P a w K Q :=
  wp_buildSlice t e len parts ho cells ie z hu hie hz hsmall hpos (by
    have hv : (parts.map fun (i, x) => (i, a.eval x)).toList = vs := by rw [Array.toList_map]; exact hv'
    rw [hv]; exact hf) h
theorem waitC_snoc (l : List (Int × List UInt8)) (p : Int × List UInt8) : waitC (l ++ [p]) = waitC l ++ isC p := by unfold waitC; simp
theorem write_fin {w1 w3 : World} {b0 d hb c3 : Nat} {A3 : Option Addr} {V : Value} {D : Dsk} {i : Int} {s : List UInt8} (k : DkAt w1 b0 d hb V D) (hs : s.length = 128) (hi : 0 ≤ i ∧ i < D.has.length)
    (ho : w3.ownsRow b0 101 129 (.slice A3 (D.waits.length + 1) c3) (D.waits.length + 1) (waitC D.waits ++ isC (i, s))) (hg : w1.grownBy w3 V.ownBlock)
    (hat : Value.ownBlock (.slice A3 (D.waits.length + 1) c3) = V.ownBlock ∨ Value.ownBlock (.slice A3 (D.waits.length + 1) c3) = some w1.heap.size) :
    (w3.cell? ⟨d, 1, none⟩ = some V ∧ w3.frozen? ⟨d, 1, none⟩ = false) ∧ DkAt (w3.setCell ⟨d, 1, none⟩ (.slice A3 (D.waits.length + 1) c3)) b0 d hb (.slice A3 (D.waits.length + 1) c3) { D with waits := D.waits ++ [(i, s)] } ∧
      Only (Mine d hb V) w1 (w3.setCell ⟨d, 1, none⟩ (.slice A3 (D.waits.length + 1) c3)) ∧ (Value.ownBlock (.slice A3 (D.waits.length + 1) c3) = V.ownBlock ∨ ∀ g, Value.ownBlock (.slice A3 (D.waits.length + 1) c3) = some g → w1.heap.size ≤ g) := by
  have hd := k.cells.lt
  have hh := k.sect.lt
  have hc : OwnE w3 d 94 [.slice (some ⟨hb, 0, none⟩) D.has.length D.cp, V, .int .i64 D.bud, .bool D.off] := (hg.block d hd (fun e => k.dv e.symm)).trans k.cells
  have hse : OwnE w3 hb 99 (secC D.has ++ D.ys) := (hg.block hb hh (fun e => k.hv e.symm)).trans k.sect
  have hne : Value.ownBlock (.slice A3 (D.waits.length + 1) c3) ≠ some d := by
    rcases hat with h | h
    · rw [h]; exact k.dv
    · rw [h]; intro e; injection e with e; omega
  refine ⟨⟨hc.cell (j := 1) rfl, hc.frozen 1⟩, ⟨k.d0, k.h0, hc.set 1 _, hse.far k.dh.symm _, ?_, k.len, ?_, k.nb, k.bd⟩, ?_, ?_⟩
  · have := row_far (b := d) (i := 1) ho hne (.slice A3 (D.waits.length + 1) c3)
    show World.ownsRow _ b0 _ 129 _ (D.waits ++ [(i, s)]).length (waitC (D.waits ++ [(i, s)]))
    rw [waitC_snoc, List.length_append]
    exact this
  · intro p hp
    rcases List.mem_append.1 hp with hp | hp
    · exact k.wlen p hp
    · rw [List.mem_singleton.1 hp]
      exact ⟨hs, hi.1, hi.2⟩
  · exact (Only.of_grown (T := Mine d hb V) hg (fun g h => .inr (.inr h))).trans (Only.of_set (T := Mine d hb V) _ ⟨d, 1, none⟩ _ (.inl rfl)) (fun g h => .inl h)
  · rcases hat with h | h
    · exact .inl h
    · right
      intro g hgg
      rw [h] at hgg
      injection hgg with e
      omega
theorem wp_append_at {P : Program} {o : Oper} {a : Act} {w : World} {K : Act → World → Prop} {Q : Exit → Act → World → Prop} (s x : Operand) {t e : TypeId} {z : Value} {size bytes : Nat} (T : SliceT P t e z size bytes)
    (ho : o.op = .call { callee := .builtin .append, args := #[s, x], argTypes := #[t, t] })
    (base : Nat) (v : Value) (n : Nat) (xs : List Value) (hs : a.eval s = v) (hown : w.ownsRow base e size v n xs)
    (A : Option Addr) (m c : Nat) (news : List Value) (hx : a.eval x = .slice A m c) (hl : news.length = m * size) (hr : Row w A news) (h1 : ∀ u ∈ news, u.oneCell' = true)
    (h63 : n + m ≤ maxLen) (hbytes : (n + m) * bytes ≤ 140737488355328) (hbase : base ≤ w.heap.size)
    (h : ∀ A' c' w', w'.ownsRow base e size (.slice A' (n + m) c') (n + m) (xs ++ news) → w.grownBy w' v.ownBlock →
      (Value.ownBlock (.slice A' (n + m) c') = v.ownBlock ∨ Value.ownBlock (.slice A' (n + m) c') = some w.heap.size) → K (a.put o.dst (.slice A' (n + m) c')) w') : o.wp P a w K Q := by
  obtain ⟨A', c', w', hrun, h2, h3, h4⟩ := run_append_row (P := P) w o.type T base v n xs hown A m c news hl hr h1 h63 hbytes hbase
  unfold Oper.wp
  simp [execOp, ho, resolve, invoke, builtin, hs, hx, hrun, Result.andThen]
  exact h A' c' w' h2 h3 h4
set_option maxRecDepth 100000 in
set_option maxHeartbeats 2000000 in
theorem write_on {W : World} {b0 d hb : Nat} {V : Value} {D : Dsk} (h : DkAt W b0 d hb V D) (i : Int) (hi : 0 ≤ i ∧ i < D.has.length) (bb off c : Nat) (hc : 128 ≤ c) (s : List UInt8) (hs : s.length = 128) (hr : W.rangeAt bb off (s.map B8)) (hbm : ¬ Mine d hb V bb) (ho : onD D = true) (hw : D.waits.length ≤ 100000) :
    Calls Try.prog 19 #[.pointer (some ⟨d, 0, none⟩), .int .i64 i, .slice (some ⟨bb, off, none⟩) 128 c] W fun e w' => e = .returned (.int .i64 0) ∧ ∃ V', DkAt w' b0 d hb V' { spendD D with waits := D.waits ++ [(i, s)] } ∧ Only (Mine d hb V) W w' ∧ (V'.ownBlock = V.ownBlock ∨ ∀ g, V'.ownBlock = some g → W.heap.size ≤ g) := by
  have his := is_any h i
  rw [decide_eq_true hi] at his
  have HIS := hid his
  have hsp := spend_any h
  rw [ho] at hsp
  have HSP := hid hsp
  have HR := hid hr
  have HBM := hid hbm
  have hio := issued_built i s hs
  have HSZ := hid (show (Try.prog.info? 99).map (·.size) = some (s.map B8).length by rw [sec_info, List.length_map, hs])
  have HSL := hid hs
  clear his ho hsp hr hbm hs
  go_enter Try.func19, Try.ntmps19
  go_upto_region 7 with (first
    | (go_at_call 50; (with_reducible refine HIS.out.mono ?_); rintro e w1 ⟨rfl, hw⟩; subst hw)
    | (go_at_call 58; (with_reducible refine HSP.out.mono ?_); rintro e w2 ⟨rfl, hl⟩; have HL := hid hl; clear hl))
  have q1 := HL.out.1.cells.cell (j := 1) rfl
  have hrg := range_only HR.out HL.out.2 HBM.out
  have e8 := run_arrayAt128 (some ⟨bb, off, none⟩) c
  have HQ1 := hid q1
  clear q1
  have HE := hid (show (spendD D).waits = D.waits from by unfold spendD; split; rfl; split; rfl; split <;> rfl)
  have HEH := hid (show (spendD D).has = D.has from by unfold spendD; split; rfl; split; rfl; split <;> rfl)
  have HK2 := hid ((HL.out.1.below (W' := w2.drew) ⟨rfl, rfl, rfl, Nat.le_refl _, fun _ _ => rfl⟩).below ((Below.refl _ w2.drew).alloc (Nat.le_refl _) (.cells (isC (i, s)).toArray 101)))
  have HLW := hid (show (w2.drew.alloc (.cells (isC (i, s)).toArray 101)).ownsRow b0 101 129 V D.waits.length (waitC D.waits) from by
    have hk := (HL.out.1.below (W' := w2.drew) ⟨rfl, rfl, rfl, Nat.le_refl _, fun _ _ => rfl⟩).below ((Below.refl _ w2.drew).alloc (Nat.le_refl _) (.cells (isC (i, s)).toArray 101))
    have e : (spendD D).waits = D.waits := by unfold spendD; split; rfl; split; rfl; split <;> rfl
    have := hk.wait
    rw [e] at this
    exact this)
  have HOWN := HLW
  have HNEW := hid (show Row (w2.drew.alloc (.cells (isC (i, s)).toArray 101)) (some ⟨w2.heap.size, 0, none⟩) (isC (i, s)) from by
    have := Row.of_block (heap_alloc_new w2.drew (.cells (isC (i, s)).toArray 101))
    simpa using this)
  have HONE := hid (show ∀ u ∈ isC (i, s), u.oneCell' = true from fun u hu => by
    unfold isC at hu
    rcases List.mem_cons.1 hu with rfl | hu
    · rfl
    · exact one_B8 s u hu)
  have HBS := hid (show b0 ≤ (w2.drew.alloc (.cells (isC (i, s)).toArray 101)).heap.size from by
    have := (Mine.lt HL.out.1 d (.inl rfl))
    simp
    omega)
  obtain ⟨ie0, hie, hiz, hi1, hi2⟩ := info_parts issS.info
  have Hie := hid hie
  have Hiz := hid hiz
  have Hi1 := hid hi1
  clear hie hiz hi1 hi2
  refine wp_region_noPanic ?_
  refine wp_region_held_drew (S := (fun W => W.rangeAt bb off (s.map B8))) (by kernel_rfl) (by first | assumption | trivial) (fun hHeld => ?_)
  refine wpAnyH_take (i := 0) (v := ?_) rfl (by kernel_rfl) (by kernel_rfl) (by kernel_rfl) (fun _ _ _ h => h) (Or.inl ⟨by kernel_rfl, ?_⟩) (by first | assumption | trivial) ?_
  rotate_left
  · (intro wS hSw; (try dsimp only at hSw); go_simp; try with_reducible rfl)
  (try simp only [List.append_eq, List.cons_append, List.nil_append, List.getElem_toArray, List.getElem_cons_succ, List.getElem_cons_zero, Act.put, List.setIfInBounds_toArray, List.set_cons_zero, List.set_cons_succ])
  refine wpAnyH_take (i := 1) (v := ?_) rfl (by kernel_rfl) (by kernel_rfl) (by kernel_rfl) (fun _ _ _ h => h) (Or.inl ⟨by kernel_rfl, ?_⟩) (by first | assumption | trivial) ?_
  rotate_left
  · (intro wS hSw; (try dsimp only at hSw); go_simp; try with_reducible rfl)
  (try simp only [List.append_eq, List.cons_append, List.nil_append, List.getElem_toArray, List.getElem_cons_succ, List.getElem_cons_zero, Act.put, List.setIfInBounds_toArray, List.set_cons_zero, List.set_cons_succ])
  refine wpAnyH_take (i := 2) (v := ?_) rfl (by kernel_rfl) (by kernel_rfl) (by kernel_rfl) (fun _ _ _ h => h) (Or.inl ⟨by kernel_rfl, ?_⟩) (by first | assumption | trivial) ?_
  rotate_left
  · (intro wS hSw; (try dsimp only at hSw); go_simp; try with_reducible rfl)
  (try simp only [List.append_eq, List.cons_append, List.nil_append, List.getElem_toArray, List.getElem_cons_succ, List.getElem_cons_zero, Act.put, List.setIfInBounds_toArray, List.set_cons_zero, List.set_cons_succ])
  refine wpAnyH_take (i := 3) (v := ?_) rfl (by kernel_rfl) (by kernel_rfl) (by kernel_rfl) (fun _ _ _ h => h) (Or.inl ⟨by kernel_rfl, ?_⟩) (by first | assumption | trivial) ?_
  rotate_left
  · (intro wS hSw; (try dsimp only at hSw); go_simp; try with_reducible rfl)
  (try simp only [List.append_eq, List.cons_append, List.nil_append, List.getElem_toArray, List.getElem_cons_succ, List.getElem_cons_zero, Act.put, List.setIfInBounds_toArray, List.set_cons_zero, List.set_cons_succ])
  refine wpAnyH_take (i := 5) (v := ?_) rfl (by kernel_rfl) (by kernel_rfl) (by kernel_rfl) (fun _ _ _ h => h) (Or.inl ⟨by kernel_rfl, ?_⟩) (by first | assumption | trivial) ?_
  rotate_left
  · (intro wS hSw; (try dsimp only at hSw); go_simp; try with_reducible rfl)
  (try simp only [List.append_eq, List.cons_append, List.nil_append, List.getElem_toArray, List.getElem_cons_succ, List.getElem_cons_zero, Act.put, List.setIfInBounds_toArray, List.set_cons_zero, List.set_cons_succ])
  refine wpAnyH_take (i := 6) (v := ?_) rfl (by kernel_rfl) (by kernel_rfl) (by kernel_rfl) (fun _ _ _ h => h) (Or.inl ⟨by kernel_rfl, ?_⟩) (by first | assumption | trivial) ?_
  rotate_left
  · (intro wS hSw; (try dsimp only at hSw); go_simp; try with_reducible rfl)
  (try simp only [List.append_eq, List.cons_append, List.nil_append, List.getElem_toArray, List.getElem_cons_succ, List.getElem_cons_zero, Act.put, List.setIfInBounds_toArray, List.set_cons_zero, List.set_cons_succ])
  refine wpAnyH_take (i := 7) (v := ?_) rfl (by kernel_rfl) (by kernel_rfl) (by kernel_rfl) (fun _ _ _ h => h) (Or.inl ⟨by kernel_rfl, ?_⟩) (by first | assumption | trivial) ?_
  rotate_left
  · (intro wS hSw; (try dsimp only at hSw); go_simp; try with_reducible rfl)
  (try simp only [List.append_eq, List.cons_append, List.nil_append, List.getElem_toArray, List.getElem_cons_succ, List.getElem_cons_zero, Act.put, List.setIfInBounds_toArray, List.set_cons_zero, List.set_cons_succ])
  refine wpAnyH_take (i := 8) (v := .agg (s.map B8).toArray) rfl (by kernel_rfl) (by kernel_rfl) (by kernel_rfl) (fun _ _ _ h => h) (yieldsIf_load_mid (by kernel_rfl) 99 (.tmp 27) rfl bb off rfl (s.map B8) _ (fun w h => h) Try.underlying99 rfl HSZ.out) (by assumption) ?_
  (try simp only [List.getElem_toArray, List.getElem_cons_succ, List.getElem_cons_zero, Act.put, List.setIfInBounds_toArray, List.set_cons_zero, List.set_cons_succ])
  refine wpAnyH_take (i := 9) (v := .agg (isC (i, s)).toArray) rfl (by kernel_rfl) (by kernel_rfl) (by kernel_rfl) (fun _ _ _ h => h) (yieldsIf_build (by kernel_rfl) 101 _ rfl [(0, .int .i64 i), (1, .agg (s.map B8).toArray)] rfl _ hio) (by assumption) ?_
  (try simp only [List.getElem_toArray, List.getElem_cons_succ, List.getElem_cons_zero, Act.put, List.setIfInBounds_toArray, List.set_cons_zero, List.set_cons_succ])
  refine wpAnyH_ready (rs := [4, 10]) (by kernel_rfl) (by simp) ?_
  refine AllReadyH.cons rfl (fun K hK => ?_) (AllReadyH.cons rfl (fun K hK => ?_) AllReadyH.nil)
  · skip
    have q1 : w2.drew.cell? ⟨d, 1, none⟩ = some V := HQ1.out
    have q3 : (w2.alloc (.cells (isC (i, s)).toArray 101)).cell? ⟨d, 1, none⟩ = some V := cells_keep ((Below.refl _ w2).alloc (Nat.le_refl _) _) HQ1.out
    have q2 : (w2.drew.alloc (.cells (isC (i, s)).toArray 101)).cell? ⟨d, 1, none⟩ = some V := cells_keep ((Below.refl _ w2.drew).alloc (Nat.le_refl _) _) HQ1.out
    rw [if_pos (by kernel_rfl)]
    go_simp
    go_wp2_with fail
    refine hK.out _ _ (by assumption) (fun hHeld => ?_)
    clear hK K q1 q2 q3
    (try simp only [List.getElem_toArray, List.getElem_cons_succ, List.getElem_cons_zero, Act.put, List.setIfInBounds_toArray, List.set_cons_zero, List.set_cons_succ])
    refine wpAnyH_ready (rs := [10]) (by kernel_rfl) (by simp) ?_
    refine AllReadyH.cons rfl (fun K hK => ?_) AllReadyH.nil
    rw [if_pos (by kernel_rfl)]
    refine wp_buildSlice_to 92 101 1 _ rfl [(0, .agg (isC (i, s)).toArray)] rfl (isC (i, s)).toArray ie0 (.agg zIss) Try.underlying92 Hie.out Hiz.out (by rw [Hi1.out]; decide) (by rw [Hi1.out]; decide) (iss_one (i, s) HSL.out ie0 Hi1.out _ (by rw [Hi1.out]; simp)) ?_
    refine hK.out _ _ (World.rangeAt_alloc hHeld _) (fun hHeld => ?_)
    clear hK K
    (try simp only [List.getElem_toArray, List.getElem_cons_succ, List.getElem_cons_zero, Act.put, List.setIfInBounds_toArray, List.set_cons_zero, List.set_cons_succ])
    refine wpAnyH_ready (rs := [11]) (by kernel_rfl) (by simp) ?_
    refine AllReadyH.cons rfl (fun K hK => ?_) AllReadyH.nil
    rw [if_pos (by kernel_rfl)]
    refine wp_append_at (.tmp 24) (.tmp 30) issS rfl b0 V D.waits.length (waitC D.waits) rfl HOWN.out (some ⟨w2.heap.size, 0, none⟩) 1 1 (isC (i, s)) rfl (by rw [isC_len (i, s) HSL.out]) HNEW.out (fun u hu => HONE.out u hu) (by unfold maxLen; omega) (by omega) HBS.out ?_
    intro A3 c3 w3 hown3 hgr3 hat3
    have hS3 := range_only hHeld (Only.of_grown (T := fun g => V.ownBlock = some g) hgr3 (fun g hg => hg)) (fun h => HBM.out (.inr (.inr h)))
    refine hK.out _ _ hS3 (fun hHeld => ?_)
    clear hK K hS3
    (try simp only [List.getElem_toArray, List.getElem_cons_succ, List.getElem_cons_zero, Act.put, List.setIfInBounds_toArray, List.set_cons_zero, List.set_cons_succ])
    refine wpAnyH_take (i := 12) (v := ?_) rfl (by kernel_rfl) (by kernel_rfl) (by kernel_rfl) (fun _ _ _ h => h) (Or.inl ⟨by kernel_rfl, ?_⟩) (by first | assumption | trivial) ?_
    rotate_left
    · (intro wS hSw; (try dsimp only at hSw); go_simp; try with_reducible rfl)
    (try simp only [List.append_eq, List.cons_append, List.nil_append, List.getElem_toArray, List.getElem_cons_succ, List.getElem_cons_zero, Act.put, List.setIfInBounds_toArray, List.set_cons_zero, List.set_cons_succ])
    refine wpAnyH_take (i := 13) (v := ?_) rfl (by kernel_rfl) (by kernel_rfl) (by kernel_rfl) (fun _ _ _ h => h) (Or.inl ⟨by kernel_rfl, ?_⟩) (by first | assumption | trivial) ?_
    rotate_left
    · (intro wS hSw; (try dsimp only at hSw); go_simp; try with_reducible rfl)
    (try simp only [List.append_eq, List.cons_append, List.nil_append, List.getElem_toArray, List.getElem_cons_succ, List.getElem_cons_zero, Act.put, List.setIfInBounds_toArray, List.set_cons_zero, List.set_cons_succ])
    refine wpAnyH_ready (rs := [14]) (by kernel_rfl) (by simp) ?_
    refine AllReadyH.cons rfl (fun K hK => ?_) AllReadyH.nil
    have hfin := write_fin HK2.out HSL.out (by rw [HEH.out]; exact hi) (by rw [HE.out]; exact hown3) hgr3 (by rw [HE.out]; exact hat3)
    rw [HE.out] at hfin
    obtain ⟨⟨x3, f3⟩, hfin⟩ := hfin
    have HFIN := hid hfin
    have hS4 := range_only hHeld (Only.of_set (T := fun g => g = d) w3 ⟨d, 1, none⟩ (.slice A3 (D.waits.length + 1) c3) rfl) (fun h => HBM.out (.inl h))
    clear hfin hown3 hgr3 hat3
    rw [if_pos (by kernel_rfl)]
    go_simp
    go_wp2_with fail
    refine hK.out _ _ hS4 (fun hHeld => ?_)
    clear hK K
    (try simp only [List.getElem_toArray, List.getElem_cons_succ, List.getElem_cons_zero, Act.put, List.setIfInBounds_toArray, List.set_cons_zero, List.set_cons_succ])
    refine wpAnyH_done (by kernel_rfl) ?_ _
    refine NoPanic.normal ?_
    go_wp2_with fail
    go_ret
    refine ⟨rfl, _, HFIN.out.1, ?_, ?_⟩
    · exact (HL.out.2.trans (Only.of_below (T := Mine d hb V) (show Below w2.heap.size w2 (w2.drew.alloc (.cells (isC (i, s)).toArray 101)) from (bq (Below.refl _ w2) 1).alloc (Nat.le_refl _) _)) (fun g h => .inl h)).trans HFIN.out.2.1 (fun g h => .inl h)
    · rcases HFIN.out.2.2 with h | h
      · exact .inl h
      · right
        intro g hg
        have h1 := h g hg
        have h2 := HL.out.2.size
        have h3 : (w2.drew.alloc (.cells (isC (i, s)).toArray 101)).heap.size = w2.heap.size + 1 := by simp
        omega
  · skip
    rw [if_pos (by kernel_rfl)]
    refine wp_buildSlice_to 92 101 1 _ rfl [(0, .agg (isC (i, s)).toArray)] rfl (isC (i, s)).toArray ie0 (.agg zIss) Try.underlying92 Hie.out Hiz.out (by rw [Hi1.out]; decide) (by rw [Hi1.out]; decide) (iss_one (i, s) HSL.out ie0 Hi1.out _ (by rw [Hi1.out]; simp)) ?_
    refine hK.out _ _ (World.rangeAt_alloc hHeld _) (fun hHeld => ?_)
    clear hK K
    (try simp only [List.getElem_toArray, List.getElem_cons_succ, List.getElem_cons_zero, Act.put, List.setIfInBounds_toArray, List.set_cons_zero, List.set_cons_succ])
    refine wpAnyH_ready (rs := [4]) (by kernel_rfl) (by simp) ?_
    refine AllReadyH.cons rfl (fun K hK => ?_) AllReadyH.nil
    have q1 : w2.drew.cell? ⟨d, 1, none⟩ = some V := HQ1.out
    have q3 : (w2.alloc (.cells (isC (i, s)).toArray 101)).cell? ⟨d, 1, none⟩ = some V := cells_keep ((Below.refl _ w2).alloc (Nat.le_refl _) _) HQ1.out
    have q2 : (w2.drew.alloc (.cells (isC (i, s)).toArray 101)).cell? ⟨d, 1, none⟩ = some V := cells_keep ((Below.refl _ w2.drew).alloc (Nat.le_refl _) _) HQ1.out
    rw [if_pos (by kernel_rfl)]
    go_simp
    go_wp2_with fail
    refine hK.out _ _ (by assumption) (fun hHeld => ?_)
    clear hK K q1 q2 q3
    (try simp only [List.getElem_toArray, List.getElem_cons_succ, List.getElem_cons_zero, Act.put, List.setIfInBounds_toArray, List.set_cons_zero, List.set_cons_succ])
    refine wpAnyH_ready (rs := [11]) (by kernel_rfl) (by simp) ?_
    refine AllReadyH.cons rfl (fun K hK => ?_) AllReadyH.nil
    rw [if_pos (by kernel_rfl)]
    refine wp_append_at (.tmp 24) (.tmp 30) issS rfl b0 V D.waits.length (waitC D.waits) rfl HOWN.out (some ⟨w2.heap.size, 0, none⟩) 1 1 (isC (i, s)) rfl (by rw [isC_len (i, s) HSL.out]) HNEW.out (fun u hu => HONE.out u hu) (by unfold maxLen; omega) (by omega) HBS.out ?_
    intro A3 c3 w3 hown3 hgr3 hat3
    have hS3 := range_only hHeld (Only.of_grown (T := fun g => V.ownBlock = some g) hgr3 (fun g hg => hg)) (fun h => HBM.out (.inr (.inr h)))
    refine hK.out _ _ hS3 (fun hHeld => ?_)
    clear hK K hS3
    (try simp only [List.getElem_toArray, List.getElem_cons_succ, List.getElem_cons_zero, Act.put, List.setIfInBounds_toArray, List.set_cons_zero, List.set_cons_succ])
    refine wpAnyH_take (i := 12) (v := ?_) rfl (by kernel_rfl) (by kernel_rfl) (by kernel_rfl) (fun _ _ _ h => h) (Or.inl ⟨by kernel_rfl, ?_⟩) (by first | assumption | trivial) ?_
    rotate_left
    · (intro wS hSw; (try dsimp only at hSw); go_simp; try with_reducible rfl)
    (try simp only [List.append_eq, List.cons_append, List.nil_append, List.getElem_toArray, List.getElem_cons_succ, List.getElem_cons_zero, Act.put, List.setIfInBounds_toArray, List.set_cons_zero, List.set_cons_succ])
    refine wpAnyH_take (i := 13) (v := ?_) rfl (by kernel_rfl) (by kernel_rfl) (by kernel_rfl) (fun _ _ _ h => h) (Or.inl ⟨by kernel_rfl, ?_⟩) (by first | assumption | trivial) ?_
    rotate_left
    · (intro wS hSw; (try dsimp only at hSw); go_simp; try with_reducible rfl)
    (try simp only [List.append_eq, List.cons_append, List.nil_append, List.getElem_toArray, List.getElem_cons_succ, List.getElem_cons_zero, Act.put, List.setIfInBounds_toArray, List.set_cons_zero, List.set_cons_succ])
    refine wpAnyH_ready (rs := [14]) (by kernel_rfl) (by simp) ?_
    refine AllReadyH.cons rfl (fun K hK => ?_) AllReadyH.nil
    have hfin := write_fin HK2.out HSL.out (by rw [HEH.out]; exact hi) (by rw [HE.out]; exact hown3) hgr3 (by rw [HE.out]; exact hat3)
    rw [HE.out] at hfin
    obtain ⟨⟨x3, f3⟩, hfin⟩ := hfin
    have HFIN := hid hfin
    have hS4 := range_only hHeld (Only.of_set (T := fun g => g = d) w3 ⟨d, 1, none⟩ (.slice A3 (D.waits.length + 1) c3) rfl) (fun h => HBM.out (.inl h))
    clear hfin hown3 hgr3 hat3
    rw [if_pos (by kernel_rfl)]
    go_simp
    go_wp2_with fail
    refine hK.out _ _ hS4 (fun hHeld => ?_)
    clear hK K
    (try simp only [List.getElem_toArray, List.getElem_cons_succ, List.getElem_cons_zero, Act.put, List.setIfInBounds_toArray, List.set_cons_zero, List.set_cons_succ])
    refine wpAnyH_done (by kernel_rfl) ?_ _
    refine NoPanic.normal ?_
    go_wp2_with fail
    go_ret
    refine ⟨rfl, _, HFIN.out.1, ?_, ?_⟩
    · exact (HL.out.2.trans (Only.of_below (T := Mine d hb V) (show Below w2.heap.size w2 (w2.drew.alloc (.cells (isC (i, s)).toArray 101)) from (bq (Below.refl _ w2) 1).alloc (Nat.le_refl _) _)) (fun g h => .inl h)).trans HFIN.out.2.1 (fun g h => .inl h)
    · rcases HFIN.out.2.2 with h | h
      · exact .inl h
      · right
        intro g hg
        have h1 := h g hg
        have h2 := HL.out.2.size
        have h3 : (w2.drew.alloc (.cells (isC (i, s)).toArray 101)).heap.size = w2.heap.size + 1 := by simp
        omega
end
section
open Go.RowKit
set_option linter.unusedVariables false
set_option linter.unusedSimpArgs false
attribute [local go_sem] Oper.semAt_some
theorem waitC_get : ∀ (l : List (Int × List UInt8)), (∀ p ∈ l, p.2.length = 128) → ∀ (k : Nat) (hk : k < l.length) (j : Nat), j < 129 → (waitC l)[k * 129 + j]? = (isC (l[k]'hk))[j]?
  | [], _, k, hk, _, _ => by simp at hk
  | p :: l, h, 0, _, j, hj => by
    unfold waitC
    rw [List.flatMap_cons, Nat.zero_mul, Nat.zero_add, List.getElem?_append_left (by rw [isC_len p (h p List.mem_cons_self)]; exact hj)]
    rfl
  | p :: l, h, k + 1, hk, j, hj => by
    have ih := waitC_get l (fun x hx => h x (List.mem_cons_of_mem _ hx)) k (by simpa using hk) j hj
    unfold waitC at ih ⊢
    rw [List.flatMap_cons, List.getElem?_append_right (by rw [isC_len p (h p List.mem_cons_self)]; omega), isC_len p (h p List.mem_cons_self), show (k + 1) * 129 + j - 129 = k * 129 + j by omega, ih]
    rfl
/-- What waits is in a block, whole. -/
theorem wait_range {W : World} {b0 d hb : Nat} {V : Value} {D : Dsk} (h : DkAt W b0 d hb V D) (h0 : 0 < D.waits.length) : ∃ g c, V = .slice (some ⟨g, 0, none⟩) D.waits.length c ∧ ∀ (k : Nat) (hk : k < D.waits.length), W.rangeAt g (k * 129) (isC (D.waits[k]'hk)) := by
  rcases h.wait.2 with ⟨_, e⟩ | ⟨g, cap, cur, e, _, hg, _, _, hs, ht⟩
  · omega
  · refine ⟨g, cap, e, fun k hk j v hv => ?_⟩
    have hl := isC_len (D.waits[k]'hk) (h.wlen _ (List.getElem_mem hk)).1
    have hj : j < 129 := by
      rcases Nat.lt_or_ge j 129 with h1 | h1
      · exact h1
      · rw [List.getElem?_eq_none (by omega)] at hv; cases hv
    have h2 := waitC_get D.waits (fun p hp => (h.wlen p hp).1) k hk j hj
    rw [hv, ← ht] at h2
    rw [List.getElem?_take] at h2
    split at h2
    · simp only [World.cell?, hg]
      simpa using h2
    · cases h2
theorem iss_zero : (∀ w, (zeroValue 101).run Try.prog w = .ok (.agg zIss) w) ∧ (Try.prog.info? 101).map (·.size) = some 129 := zero_of_info (by kernel_rfl)
theorem intS : SliceT Try.prog 114 3 (.int .i64 0) 1 8 := ⟨Try.underlying114, by kernel_rfl, rfl, by decide⟩
def atV (p : Int × List UInt8) : Value := .int .i64 p.1
theorem isC_one (p : Int × List UInt8) : ∀ u ∈ isC p, u.oneCell' = true := fun u hu => by
  unfold isC at hu
  rcases List.mem_cons.1 hu with rfl | hu
  · rfl
  · exact one_B8 p.2 u hu
/-- The box of a round: a write that waits, put into a new variable. -/
theorem box_iss (w : World) (p : Int × List UInt8) : (w.alloc (.cells zIss 101)).setRow w.heap.size (isC p).toArray = w.alloc (.cells (isC p).toArray 101) := World.setRow_alloc_new w _ _ _
theorem row_new2 (wr : World) (o : Obj) (v : Value) (T : TypeId) : Row ((wr.alloc o).alloc (.cells #[v] T)) (some ⟨wr.heap.size + 1, 0, none⟩) [v] := by
  have h := Row.of_block (heap_alloc_new (wr.alloc o) (Obj.cells #[v] T))
  rw [World.size_alloc] at h
  exact h
set_option maxRecDepth 100000 in
set_option maxHeartbeats 4000000 in
theorem waits_any {W : World} {b0 d hb : Nat} {V : Value} {D : Dsk} (h : DkAt W b0 d hb V D) (hw : D.waits.length ≤ 100000) :
    Calls Try.prog 65 #[.pointer (some ⟨d, 0, none⟩)] W fun e w' => ∃ A c, e = .returned (.slice A D.waits.length c) ∧ w'.ownsRow W.heap.size 3 1 (.slice A D.waits.length c) D.waits.length (D.waits.map atV) ∧ Below W.heap.size W w' := by
  have x1 := h.cells.cell (j := 1) rfl
  have H := hid h
  obtain ⟨zer, zsz⟩ := iss_zero
  have HZS := hid zsz
  have hV : ∃ A c, V = .slice A D.waits.length c := by
    rcases h.wait.2 with ⟨e, e2⟩ | ⟨g, cap, cur, e, _⟩
    · rw [e2]; exact ⟨none, 0, e⟩
    · exact ⟨_, _, e⟩
  obtain ⟨A0, c0, rfl⟩ := hV
  obtain ⟨n, hn⟩ : ∃ n, D.waits.length = n := ⟨_, rfl⟩
  rw [hn] at x1 hw ⊢
  have HN := hid hn
  clear h zsz hn
  go_enter Try.func65, Try.ntmps65
  go_wp2_with fail
  go_loopw [3, 5, 11] (fun p bx i wr => ∃ (k m : Nat) (A : Option Addr) (c : Nat), k ≤ n ∧ i = .int .i64 (k : Int) ∧ m = k ∧ p = .slice A m c ∧ Hid (wr.ownsRow W.heap.size 3 1 (.slice A m c) m ((D.waits.take k).map atV) ∧ Below W.heap.size W wr)) (fun p bx i wr => n - (intOf i).toNat)
  case atStart => exact ⟨0, 0, none, 0, by omega, rfl, rfl, rfl, hid ⟨World.ownsRow_nil _ _ _ _, Below.refl _ _⟩⟩
  case round =>
    obtain ⟨k, m, A, c, hk, rfl, hmk, rfl, hI⟩ := hrel
    have HMK := hid hmk
    have hm : m ≤ 100000 := by omega
    clear hmk
    by_cases hlt : k < n
    · have hd : decide (k < n) = true := by simpa using hlt
      have hd' : decide ((k : Int) < (n : Int)) = true := by simp; omega
      have hkw : k < D.waits.length := by rw [HN.out]; exact hlt
      obtain ⟨g, c1, e1, hr⟩ := wait_range H.out (by omega)
      injection e1 with eA _ ec
      subst eA
      subst ec
      have HR := hid (fun (w1 : World) (hb : Below W.heap.size W w1) => show w1.rangeAt g (k * 129) (isC (D.waits[k]'hkw)) from range_only (T := fun _ => False) (hr k hkw) (Only.of_below hb) (fun h => h))
      have HL := hid ((H.out.wlen _ (List.getElem_mem hkw)).1)
      obtain ⟨q, hq⟩ : ∃ q, D.waits[k]'hkw = q := ⟨_, rfl⟩
      rw [hq] at HR HL
      have HSZ := hid (show (Try.prog.info? 101).map (·.size) = some (isC q).length by rw [HZS.out, isC_len q HL.out])
      have i0 : (0 : Int) ≤ (k : Int) := by omega
      have i1 : (k : Int) < (n : Int) := by omega
      have i2 : (k : Int).toNat = k := by omega
      have HQ := hid hq
      clear hr hq
      have y0 : (wr.alloc (.cells (isC q).toArray 101)).cell? ⟨wr.heap.size, 0, none⟩ = some (.int .i64 q.1) := (OwnC.new_ wr (isC q).toArray 101).cell (j := 0) (by unfold isC; rfl)
      have HTK := hid (show (D.waits.take (k + 1)).map atV = (D.waits.take k).map atV ++ [.int .i64 q.1] by
        rw [List.take_succ_eq_append_getElem hkw, HQ.out, List.map_append]
        rfl)
      go_wp2_with (first
        | (refine wpList_load_mid rfl 101 (.tmp 13) rfl g (k * 129) rfl (isC q) _ (HR.out _ hI.out.2) Try.underlying101 rfl HSZ.out ?_)
        | (refine wpList_store_row rfl 101 (.tmp 5) (.tmp 14) rfl wr.heap.size (isC q).toArray rfl rfl 101 zIss (heap_alloc_new wr _) (by rw [List.size_toArray]; exact HSZ.out) (by rw [zIss_size, List.size_toArray, isC_len q HL.out]) (all_oneCell_toArray (isC_one q)) ?_; rw [box_iss])
        | (at_builtin
           refine wpList_append_row _ rfl (.tmp 15) (.tmp 18) intS rfl W.heap.size (.slice A m c) m ((D.waits.take k).map atV) rfl (own_alloc (own_alloc hI.out.1 _) _) (some ⟨wr.heap.size + 1, 0, none⟩) 1 1 [.int .i64 q.1] rfl rfl (row_new2 _ _ _ _) (by simp [Value.oneCell']) (by simp only [maxLen]; omega) (by omega) (by have := hI.out.2.size; simp; omega) ?_
           intro A3 c3 w3 hown3 hgr3 hat3
           have B3 := hid (((hI.out.2.alloc hI.out.2.size (Obj.cells (isC q).toArray 101)).alloc (by have := hI.out.2.size; simp; omega) (Obj.cells #[.int .i64 q.1] 3)).grown hgr3 (by have := hI.out.2.size; simp; omega) (own_base hI.out.1))
           have P3 := hid hown3
           clear hown3 hgr3 hat3))
      go_roundw
      case rel =>
        refine ⟨k + 1, m + 1, A3, c3, by omega, by go_num, by rw [HMK.out], rfl, hid ⟨?_, B3.out⟩⟩
        rw [HTK.out]
        exact P3.out
      case measure => simp [intOf]; omega
    · have hd : decide (k < n) = false := by simpa using hlt
      have hd' : decide ((k : Int) < (n : Int)) = false := by simp; omega
      have hkn : k = n := by omega
      have hmn : m = n := by rw [HMK.out]; exact hkn
      have h1 := hI.out
      rw [hkn, ← HN.out, List.take_length] at h1
      subst hmn
      have H1 := hid h1
      clear h1 hkn
      go_wp2
      go_ret
      exact ⟨A, c, rfl, H1.out.1, H1.out.2⟩
end
section
open Go.RowKit
set_option linter.unusedVariables false
set_option linter.unusedSimpArgs false
attribute [local go_sem] Oper.semAt_some
def setL (xs : List Value) (o : Nat) : List Value → List Value
  | [] => xs
  | v :: vs => setL (xs.set o v) (o + 1) vs
theorem setL_get : ∀ (vs xs : List Value) (o j : Nat), (setL xs o vs)[j]? = if o ≤ j ∧ j < o + vs.length ∧ j < xs.length then vs[j - o]? else xs[j]?
  | [], xs, o, j => by
    unfold setL
    rw [if_neg (by simp only [List.length_nil]; omega)]
  | v :: vs, xs, o, j => by
    unfold setL
    rw [setL_get vs (xs.set o v) (o + 1) j, List.length_set]
    by_cases h : o = j
    · subst h
      rw [if_neg (by omega)]
      by_cases h2 : o < xs.length
      · rw [if_pos ⟨Nat.le_refl _, by simp only [List.length_cons]; omega, h2⟩, Nat.sub_self, List.getElem?_cons_zero, List.getElem?_set_self h2]
      · rw [if_neg (by omega), List.getElem?_eq_none (by rw [List.length_set]; omega), List.getElem?_eq_none (by omega)]
    · rw [List.getElem?_set_ne h]
      by_cases h3 : o + 1 ≤ j ∧ j < o + 1 + vs.length ∧ j < xs.length
      · rw [if_pos h3, if_pos ⟨by omega, by simp only [List.length_cons]; omega, h3.2.2⟩, show j - o = (j - (o + 1)) + 1 by omega, List.getElem?_cons_succ]
      · rw [if_neg h3, if_neg (by simp only [List.length_cons]; omega)]
theorem setL_append (xs ys : List Value) (o : Nat) (vs : List Value) (h : o + vs.length ≤ xs.length) : setL (xs ++ ys) o vs = setL xs o vs ++ ys := by
  have hl : ∀ (vs xs : List Value) (o : Nat), (setL xs o vs).length = xs.length := by
    intro vs
    induction vs with
    | nil => intro xs o; rfl
    | cons v vs ih => intro xs o; unfold setL; rw [ih, List.length_set]
  refine List.ext_getElem? fun j => ?_
  rw [setL_get]
  by_cases h1 : j < xs.length
  · have e1 : (setL xs o vs ++ ys)[j]? = (setL xs o vs)[j]? := List.getElem?_append_left (by rw [hl]; exact h1)
    have e2 : (xs ++ ys)[j]? = xs[j]? := List.getElem?_append_left h1
    rw [e1, e2, setL_get]
    by_cases h2 : o ≤ j ∧ j < o + vs.length
    · rw [if_pos ⟨h2.1, h2.2, by rw [List.length_append]; omega⟩, if_pos ⟨h2.1, h2.2, h1⟩]
    · rw [if_neg (fun h => h2 ⟨h.1, h.2.1⟩), if_neg (fun h => h2 ⟨h.1, h.2.1⟩)]
  · have e1 : (setL xs o vs ++ ys)[j]? = ys[j - (setL xs o vs).length]? := List.getElem?_append_right (by rw [hl]; omega)
    have e2 : (xs ++ ys)[j]? = ys[j - xs.length]? := List.getElem?_append_right (by omega)
    rw [if_neg (by omega), e1, e2, hl]
theorem OwnE.setCells {g : Nat} {T : TypeId} : ∀ (vs : List Value) (xs : List Value) (o : Nat) (w : World), OwnE w g T xs → OwnE (w.setCells g o vs) g T (setL xs o vs)
  | [], xs, o, w, h => h
  | v :: vs, xs, o, w, h => OwnE.setCells vs (xs.set o v) (o + 1) _ (h.set o v)
theorem setCells_only (T : Nat → Prop) (g : Nat) (hg : T g) : ∀ (vs : List Value) (o : Nat) (w : World), Only T w (w.setCells g o vs)
  | [], o, w => Only.refl T w
  | v :: vs, o, w => (Only.of_set w ⟨g, o, none⟩ v hg).trans (setCells_only T g hg vs (o + 1) _) (fun _ h => .inl h)
theorem secC_len (l : List (List UInt8)) (h : ∀ s ∈ l, s.length = 128) : (secC l).length = l.length * 128 := by
  induction l with
  | nil => rfl
  | cons s l ih =>
    have := ih (fun x hx => h x (List.mem_cons_of_mem _ hx))
    unfold secC at this ⊢
    rw [List.flatMap_cons, List.length_append, List.length_map, h s List.mem_cons_self, this, List.length_cons]
    omega
theorem secC_set (l : List (List UInt8)) (h : ∀ s ∈ l, s.length = 128) (k : Nat) (hk : k < l.length) (s : List UInt8) (hs : s.length = 128) : setL (secC l) (k * 128) (s.map B8) = secC (l.set k s) := by
  have h' : ∀ x ∈ l.set k s, x.length = 128 := fun x hx => by
    rcases List.mem_or_eq_of_mem_set hx with h1 | h1
    · exact h x h1
    · rw [h1]; exact hs
  refine List.ext_getElem? fun j => ?_
  rw [setL_get, secC_len l h, List.length_map, hs]
  by_cases hj : j < l.length * 128
  · have e : j = (j / 128) * 128 + j % 128 := by omega
    have hq : j / 128 < l.length := by omega
    have hm : j % 128 < 128 := by omega
    have r1 := secC_get l h (j / 128) hq (j % 128) hm
    have r2 := secC_get (l.set k s) h' (j / 128) (by rw [List.length_set]; exact hq) (j % 128) hm
    rw [← e] at r1 r2
    rw [r2]
    by_cases hkq : k = j / 128
    · rw [if_pos (by omega)]
      simp only [hkq, List.getElem_set_self]
      congr 1
      omega
    · rw [if_neg (by omega), r1, List.getElem_set_ne hkq]
  · rw [if_neg (by omega), List.getElem?_eq_none (by rw [secC_len l h]; omega), List.getElem?_eq_none (by rw [secC_len _ h', List.length_set]; omega)]
/-- A sector is written. -/
theorem DkAt.sec_set {W : World} {b0 d hb : Nat} {V : Value} {D : Dsk} (h : DkAt W b0 d hb V D) (k : Nat) (hk : k < D.has.length) (s : List UInt8) (hs : s.length = 128) : DkAt (W.setCells hb (k * 128) (s.map B8)) b0 d hb V { D with has := D.has.set k s } := by
  have ho := setCells_only (fun g => g = hb) hb rfl (s.map B8) (k * 128) W
  have hc : OwnE (W.setCells hb (k * 128) (s.map B8)) d 94 [.slice (some ⟨hb, 0, none⟩) D.has.length D.cp, V, .int .i64 D.bud, .bool D.off] := (ho.block d h.cells.lt h.dh).trans h.cells
  refine ⟨h.d0, h.h0, ?_, ?_, ?_, ?_, ?_, ?_, h.bd⟩
  · show OwnE _ d _ [.slice (some ⟨hb, 0, none⟩) (D.has.set k s).length D.cp, V, .int .i64 D.bud, .bool D.off]
    rw [List.length_set]
    exact hc
  · have := h.sect.setCells (s.map B8) _ (k * 128) W
    rw [setL_append _ _ _ _ (by rw [secC_len D.has h.len, List.length_map, hs]; omega), secC_set D.has h.len k hk s hs] at this
    exact this
  · refine ⟨h.wait.1, ?_⟩
    rcases h.wait.2 with hq | ⟨g, cap, cur, e, h1, h2, h3⟩
    · exact .inl hq
    · exact .inr ⟨g, cap, cur, e, h1, (ho.block g (lt_of_heap h2) (fun e' => h.hv (by rw [e, e']; rfl))).trans h2, h3⟩
  · intro x hx
    rcases List.mem_or_eq_of_mem_set hx with h1 | h1
    · exact h.len x h1
    · rw [h1]; exact hs
  · intro p hp
    show p.2.length = 128 ∧ 0 ≤ p.1 ∧ p.1 < (D.has.set k s).length
    rw [List.length_set]
    exact h.wlen p hp
  · show (D.has.set k s).length ≤ 2048
    rw [List.length_set]
    exact h.nb
/-- What the sectors have when the first k that wait are done, of which some holds. -/
def doneK (hold : Nat → Bool) (ws : List (Int × List UInt8)) (h : List (List UInt8)) : Nat → List (List UInt8)
  | 0 => h
  | k + 1 => if hold k = true then (doneK hold ws h k).set (ws.getD k (0, [])).1.toNat (ws.getD k (0, [])).2 else doneK hold ws h k
theorem doneK_len (hold : Nat → Bool) (ws : List (Int × List UInt8)) (h : List (List UInt8)) : ∀ k, (doneK hold ws h k).length = h.length
  | 0 => rfl
  | k + 1 => by
    unfold doneK
    split
    · rw [List.length_set]; exact doneK_len hold ws h k
    · exact doneK_len hold ws h k
end
end Go.Proofs.Ytpppmijohfjigaa
