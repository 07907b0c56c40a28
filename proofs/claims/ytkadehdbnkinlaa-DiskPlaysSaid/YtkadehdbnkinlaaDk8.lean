/-
  A write lets wait. A part of the proof: see the head of the text that ends in 'Law'.
-/
import Derived.Test.YtkadehdbnkinlaaDk7
namespace Go.Proofs.Ytkadehdbnkinlaa
open Go.RowKit
set_option linter.unusedVariables false
set_option linter.unusedSimpArgs false
attribute [local go_sem] Oper.semAt_some

theorem write_no {W : World} {b0 d hb : Nat} {V : Value} {D : Dsk} (h : DkAt W b0 d hb V D) (i : Int) (hi : ¬ (0 ≤ i ∧ i < D.has.length)) (A : Option Addr) (n c : Nat) :
    Calls Try.prog 8 #[.pointer (some ⟨d, 0, none⟩), .int .i64 i, .slice A n c] W fun e w' => e = .returned (.int .i64 4) ∧ W = w' := by
  have his := is_any h i
  rw [decide_eq_false hi] at his
  have HIS := hid his
  clear h hi his
  go_enter Try.func8, Try.ntmps8
  go_wp2_with (go_at_call 27; (with_reducible refine HIS.out.mono ?_); rintro e w1 ⟨rfl, hw⟩; subst hw)
  go_ret
  exact ⟨rfl, rfl⟩
theorem write_short {W : World} {b0 d hb : Nat} {V : Value} {D : Dsk} (h : DkAt W b0 d hb V D) (i : Int) (hi : 0 ≤ i ∧ i < D.has.length) (A : Option Addr) (n c : Nat) (hn : n ≠ 128) :
    Calls Try.prog 8 #[.pointer (some ⟨d, 0, none⟩), .int .i64 i, .slice A n c] W fun e w' => e = .returned (.int .i64 1) ∧ W = w' := by
  have his := is_any h i
  rw [decide_eq_true hi] at his
  have HIS := hid his
  have d1 : ((n : Int) != 128) = true := by rw [bne_iff_ne]; omega
  have d1' : (n != 128) = true := by rw [bne_iff_ne]; exact hn
  clear h hi his hn
  go_enter Try.func8, Try.ntmps8
  go_wp2_with (go_at_call 27; (with_reducible refine HIS.out.mono ?_); rintro e w1 ⟨rfl, hw⟩; subst hw)
  go_ret
  exact ⟨rfl, rfl⟩
theorem write_off {W : World} {b0 d hb : Nat} {V : Value} {D : Dsk} (h : DkAt W b0 d hb V D) (i : Int) (hi : 0 ≤ i ∧ i < D.has.length) (A : Option Addr) (c : Nat) (ho : onD D = false) :
    Calls Try.prog 8 #[.pointer (some ⟨d, 0, none⟩), .int .i64 i, .slice A 128 c] W fun e w' => e = .returned (.int .i64 10) ∧ Left W b0 d hb V (spendD D) w' := by
  have his := is_any h i
  rw [decide_eq_true hi] at his
  have HIS := hid his
  have hsp := spend_any h
  rw [ho] at hsp
  have HSP := hid hsp
  clear h hi his ho hsp
  go_enter Try.func8, Try.ntmps8
  go_wp2_with (first
    | (go_at_call 27; (with_reducible refine HIS.out.mono ?_); rintro e w1 ⟨rfl, hw⟩; subst hw)
    | (go_at_call 28; (with_reducible refine HSP.out.mono ?_); rintro e w2 ⟨rfl, hl⟩; have HL := hid hl; clear hl))
  go_ret
  exact ⟨rfl, HL.out⟩
theorem range_only {T : Nat → Prop} {W w' : World} {b o : Nat} {cs : List Value} (h : W.rangeAt b o cs) (hO : Only T W w') (hb : ¬ T b) : w'.rangeAt b o cs := fun j v hv => by
  have h1 := h j v hv
  have hlt : b < W.heap.size := World.block_lt_of_cell? W _ h1
  have := hO.block b hlt hb
  simp only [World.cell?, this] at h1 ⊢
  exact h1
theorem run_arrayAt128 (A : Option Addr) (c : Nat) (w : World) : (Instr.arrayAt 64 (.slice A 128 c)).run Try.prog w = .ok (.pointer A) w := by
  simp [Instr.arrayAt, run_underlying Try.underlying64]
theorem wp_build_to {P : Program} {o : Oper} {a : Act} {w : World} {K : Act → World → Prop} {Q : Exit → Act → World → Prop} (t : TypeId) (parts : Array (Nat × Operand)) (ho : o.op = .build t parts) (vs : List (Nat × Value)) (hv' : (parts.toList.map fun x => (x.1, a.eval x.2)) = vs) (cells : Array Value)
    (hb : P.built t vs = some cells) (h : K (a.put o.dst (.agg cells)) w) : o.wp P a w K Q := by
  have hv : (parts.map fun (i, x) => (i, a.eval x)).toList = vs := by rw [Array.toList_map]; exact hv'
  refine wp_build t parts ho (by rw [hv, hb]; rfl) ?_
  rw [hv, hb]
  exact h
theorem yieldsIf_build {P : Program} {ops : Array Oper} {S : World → Prop} {op : Oper} {a : Act} (hw : Region.wanted op (yielded ops a.tmps) = true) (t : TypeId) (parts : Array (Nat × Operand)) (ho : op.op = .build t parts) (vs : List (Nat × Value)) (hv' : (parts.toList.map fun x => (x.1, a.eval x.2)) = vs) (cells : Array Value)
    (hb : P.built t vs = some cells) : YieldsIf P ops S op (.agg cells) a :=
  .inl ⟨hw, fun w _ => by
    have hv : (parts.map fun (i, x) => (i, a.eval x)).toList = vs := by rw [Array.toList_map]; exact hv'
    unfold execOp
    simp only [ho, Sem.run_bind, run_build w t _ cells (by rw [hv]; exact hb), Result.andThen_ok]
    rfl⟩
theorem wp_buildSlice_to {P : Program} {o : Oper} {a : Act} {w : World} {K : Act → World → Prop} {Q : Exit → Act → World → Prop} (t e : TypeId) (len : Nat) (parts : Array (Nat × Operand)) (ho : o.op = .buildSlice t len parts) (vs : List (Nat × Value)) (hv' : (parts.toList.map fun x => (x.1, a.eval x.2)) = vs)
    (cells : Array Value) (ie : TypeInfo) (z : Value) (hu : P.underlying t = some (.slice e)) (hie : P.info? e = some ie) (hz : ie.zero = some z) (hsmall : ¬ len * ie.size > 2 ^ 24) (hpos : ¬ len * ie.size = 0)
    (hf : Instr.fill (fun i => some (i * ie.size, ie.size)) ((Array.range (len * ie.size)).map (z.cells[· % z.cells.size]!)) vs = some cells)
    (h : K (a.put o.dst (.slice (some ⟨w.heap.size, 0, none⟩) len len)) (w.alloc (.cells cells e))) : o.wp P a w K Q :=
  wp_buildSlice t e len parts ho cells ie z hu hie hz hsmall hpos (by
    have hv : (parts.map fun (i, x) => (i, a.eval x)).toList = vs := by rw [Array.toList_map]; exact hv'
    rw [hv]; exact hf) h
theorem waitC_snoc (l : List (Int × List UInt8)) (p : Int × List UInt8) : waitC (l ++ [p]) = waitC l ++ isC p := by unfold waitC; simp
theorem write_fin {w1 w3 : World} {b0 d hb c3 : Nat} {A3 : Option Addr} {V : Value} {D : Dsk} {i : Int} {s : List UInt8} (k : DkAt w1 b0 d hb V D) (hs : s.length = 128) (hi : 0 ≤ i ∧ i < D.has.length)
    (ho : w3.ownsRow b0 66 129 (.slice A3 (D.waits.length + 1) c3) (D.waits.length + 1) (waitC D.waits ++ isC (i, s))) (hg : w1.grownBy w3 V.ownBlock)
    (hat : Value.ownBlock (.slice A3 (D.waits.length + 1) c3) = V.ownBlock ∨ Value.ownBlock (.slice A3 (D.waits.length + 1) c3) = some w1.heap.size) :
    (w3.cell? ⟨d, 1, none⟩ = some V ∧ w3.frozen? ⟨d, 1, none⟩ = false) ∧ DkAt (w3.setCell ⟨d, 1, none⟩ (.slice A3 (D.waits.length + 1) c3)) b0 d hb (.slice A3 (D.waits.length + 1) c3) { D with waits := D.waits ++ [(i, s)] } ∧
      Only (Mine d hb V) w1 (w3.setCell ⟨d, 1, none⟩ (.slice A3 (D.waits.length + 1) c3)) ∧ (Value.ownBlock (.slice A3 (D.waits.length + 1) c3) = V.ownBlock ∨ ∀ g, Value.ownBlock (.slice A3 (D.waits.length + 1) c3) = some g → w1.heap.size ≤ g) := by
  have hd := k.cells.lt
  have hh := k.sect.lt
  have hc : OwnE w3 d 61 [.slice (some ⟨hb, 0, none⟩) D.has.length D.cp, V, .int .i64 D.bud, .bool D.off] := (hg.block d hd (fun e => k.dv e.symm)).trans k.cells
  have hse : OwnE w3 hb 64 (secC D.has ++ D.ys) := (hg.block hb hh (fun e => k.hv e.symm)).trans k.sect
  have hne : Value.ownBlock (.slice A3 (D.waits.length + 1) c3) ≠ some d := by
    rcases hat with h | h
    · rw [h]; exact k.dv
    · rw [h]; intro e; injection e with e; omega
  refine ⟨⟨hc.cell (j := 1) rfl, hc.frozen 1⟩, ⟨k.d0, k.h0, hc.set 1 _, hse.far k.dh.symm _, ?_, k.len, ?_, k.nb, k.bd⟩, ?_, ?_⟩
  · have := row_far (b := d) (i := 1) ho hne (.slice A3 (D.waits.length + 1) c3)
    show World.ownsRow _ b0 _ 129 _ (D.waits ++ [(i, s)]).length (waitC (D.waits ++ [(i, s)]))
    rw [waitC_snoc, List.length_append]
    exact this
  · intro p hp
    rcases List.mem_append.1 hp with hp | hp
    · exact k.wlen p hp
    · rw [List.mem_singleton.1 hp]
      exact ⟨hs, hi.1, hi.2⟩
  · exact (Only.of_grown (T := Mine d hb V) hg (fun g h => .inr (.inr h))).trans (Only.of_set (T := Mine d hb V) _ ⟨d, 1, none⟩ _ (.inl rfl)) (fun g h => .inl h)
  · rcases hat with h | h
    · exact .inl h
    · right
      intro g hgg
      rw [h] at hgg
      injection hgg with e
      omega
theorem wp_append_at {P : Program} {o : Oper} {a : Act} {w : World} {K : Act → World → Prop} {Q : Exit → Act → World → Prop} (s x : Operand) {t e : TypeId} {z : Value} {size bytes : Nat} (T : SliceT P t e z size bytes)
    (ho : o.op = .call { callee := .builtin .append, args := #[s, x], argTypes := #[t, t] })
    (base : Nat) (v : Value) (n : Nat) (xs : List Value) (hs : a.eval s = v) (hown : w.ownsRow base e size v n xs)
    (A : Option Addr) (m c : Nat) (news : List Value) (hx : a.eval x = .slice A m c) (hl : news.length = m * size) (hr : Row w A news) (h1 : ∀ u ∈ news, u.oneCell' = true)
    (h63 : n + m ≤ maxLen) (hbytes : (n + m) * bytes ≤ 140737488355328) (hbase : base ≤ w.heap.size)
    (h : ∀ A' c' w', w'.ownsRow base e size (.slice A' (n + m) c') (n + m) (xs ++ news) → w.grownBy w' v.ownBlock →
      (Value.ownBlock (.slice A' (n + m) c') = v.ownBlock ∨ Value.ownBlock (.slice A' (n + m) c') = some w.heap.size) → K (a.put o.dst (.slice A' (n + m) c')) w') : o.wp P a w K Q := by
  obtain ⟨A', c', w', hrun, h2, h3, h4⟩ := run_append_row (P := P) w o.type T base v n xs hown A m c news hl hr h1 h63 hbytes hbase
  unfold Oper.wp
  simp [execOp, ho, resolve, invoke, builtin, hs, hx, hrun, Result.andThen]
  exact h A' c' w' h2 h3 h4
set_option maxRecDepth 100000 in
set_option maxHeartbeats 2000000 in
theorem write_on {W : World} {b0 d hb : Nat} {V : Value} {D : Dsk} (h : DkAt W b0 d hb V D) (i : Int) (hi : 0 ≤ i ∧ i < D.has.length) (bb off c : Nat) (hc : 128 ≤ c) (s : List UInt8) (hs : s.length = 128) (hr : W.rangeAt bb off (s.map B8)) (hbm : ¬ Mine d hb V bb) (ho : onD D = true) (hw : D.waits.length ≤ 100000) :
    Calls Try.prog 8 #[.pointer (some ⟨d, 0, none⟩), .int .i64 i, .slice (some ⟨bb, off, none⟩) 128 c] W fun e w' => e = .returned (.int .i64 0) ∧ ∃ V', DkAt w' b0 d hb V' { spendD D with waits := D.waits ++ [(i, s)] } ∧ Only (Mine d hb V) W w' ∧ (V'.ownBlock = V.ownBlock ∨ ∀ g, V'.ownBlock = some g → W.heap.size ≤ g) := by
  have his := is_any h i
  rw [decide_eq_true hi] at his
  have HIS := hid his
  have hsp := spend_any h
  rw [ho] at hsp
  have HSP := hid hsp
  have HR := hid hr
  have HBM := hid hbm
  have hio := issued_built i s hs
  have HSZ := hid (show (Try.prog.info? 64).map (·.size) = some (s.map B8).length by rw [sec_info, List.length_map, hs])
  have HSL := hid hs
  clear his ho hsp hr hbm hs
  go_enter Try.func8, Try.ntmps8
  go_upto_region 7 with (first
    | (go_at_call 27; (with_reducible refine HIS.out.mono ?_); rintro e w1 ⟨rfl, hw⟩; subst hw)
    | (go_at_call 28; (with_reducible refine HSP.out.mono ?_); rintro e w2 ⟨rfl, hl⟩; have HL := hid hl; clear hl))
  have q1 := HL.out.1.cells.cell (j := 1) rfl
  have hrg := range_only HR.out HL.out.2 HBM.out
  have e8 := run_arrayAt128 (some ⟨bb, off, none⟩) c
  have HQ1 := hid q1
  clear q1
  have HE := hid (show (spendD D).waits = D.waits from by unfold spendD; split; rfl; split; rfl; split <;> rfl)
  have HEH := hid (show (spendD D).has = D.has from by unfold spendD; split; rfl; split; rfl; split <;> rfl)
  have HK2 := hid ((HL.out.1.below (W' := w2.drew) ⟨rfl, rfl, rfl, Nat.le_refl _, fun _ _ => rfl⟩).below ((Below.refl _ w2.drew).alloc (Nat.le_refl _) (.cells (isC (i, s)).toArray 66)))
  have HLW := hid (show (w2.drew.alloc (.cells (isC (i, s)).toArray 66)).ownsRow b0 66 129 V D.waits.length (waitC D.waits) from by
    have hk := (HL.out.1.below (W' := w2.drew) ⟨rfl, rfl, rfl, Nat.le_refl _, fun _ _ => rfl⟩).below ((Below.refl _ w2.drew).alloc (Nat.le_refl _) (.cells (isC (i, s)).toArray 66))
    have e : (spendD D).waits = D.waits := by unfold spendD; split; rfl; split; rfl; split <;> rfl
    have := hk.wait
    rw [e] at this
    exact this)
  have HOWN := HLW
  have HNEW := hid (show Row (w2.drew.alloc (.cells (isC (i, s)).toArray 66)) (some ⟨w2.heap.size, 0, none⟩) (isC (i, s)) from by
    have := Row.of_block (heap_alloc_new w2.drew (.cells (isC (i, s)).toArray 66))
    simpa using this)
  have HONE := hid (show ∀ u ∈ isC (i, s), u.oneCell' = true from fun u hu => by
    unfold isC at hu
    rcases List.mem_cons.1 hu with rfl | hu
    · rfl
    · exact one_B8 s u hu)
  have HBS := hid (show b0 ≤ (w2.drew.alloc (.cells (isC (i, s)).toArray 66)).heap.size from by
    have := (Mine.lt HL.out.1 d (.inl rfl))
    simp
    omega)
  obtain ⟨ie0, hie, hiz, hi1, hi2⟩ := info_parts issS.info
  have Hie := hid hie
  have Hiz := hid hiz
  have Hi1 := hid hi1
  clear hie hiz hi1 hi2
  refine wp_region_noPanic ?_
  refine wp_region_held_drew (S := (fun W => W.rangeAt bb off (s.map B8))) (by kernel_rfl) (by first | assumption | trivial) (fun hHeld => ?_)
  refine wpAnyH_take (i := 0) (v := ?_) rfl (by kernel_rfl) (by kernel_rfl) (by kernel_rfl) (fun _ _ _ h => h) (Or.inl ⟨by kernel_rfl, ?_⟩) (by first | assumption | trivial) ?_
  rotate_left
  · (intro wS hSw; (try dsimp only at hSw); go_simp; try with_reducible rfl)
  (try simp only [List.append_eq, List.cons_append, List.nil_append, List.getElem_toArray, List.getElem_cons_succ, List.getElem_cons_zero, Act.put, List.setIfInBounds_toArray, List.set_cons_zero, List.set_cons_succ])
  refine wpAnyH_take (i := 1) (v := ?_) rfl (by kernel_rfl) (by kernel_rfl) (by kernel_rfl) (fun _ _ _ h => h) (Or.inl ⟨by kernel_rfl, ?_⟩) (by first | assumption | trivial) ?_
  rotate_left
  · (intro wS hSw; (try dsimp only at hSw); go_simp; try with_reducible rfl)
  (try simp only [List.append_eq, List.cons_append, List.nil_append, List.getElem_toArray, List.getElem_cons_succ, List.getElem_cons_zero, Act.put, List.setIfInBounds_toArray, List.set_cons_zero, List.set_cons_succ])
  refine wpAnyH_take (i := 2) (v := ?_) rfl (by kernel_rfl) (by kernel_rfl) (by kernel_rfl) (fun _ _ _ h => h) (Or.inl ⟨by kernel_rfl, ?_⟩) (by first | assumption | trivial) ?_
  rotate_left
  · (intro wS hSw; (try dsimp only at hSw); go_simp; try with_reducible rfl)
  (try simp only [List.append_eq, List.cons_append, List.nil_append, List.getElem_toArray, List.getElem_cons_succ, List.getElem_cons_zero, Act.put, List.setIfInBounds_toArray, List.set_cons_zero, List.set_cons_succ])
  refine wpAnyH_take (i := 3) (v := ?_) rfl (by kernel_rfl) (by kernel_rfl) (by kernel_rfl) (fun _ _ _ h => h) (Or.inl ⟨by kernel_rfl, ?_⟩) (by first | assumption | trivial) ?_
  rotate_left
  · (intro wS hSw; (try dsimp only at hSw); go_simp; try with_reducible rfl)
  (try simp only [List.append_eq, List.cons_append, List.nil_append, List.getElem_toArray, List.getElem_cons_succ, List.getElem_cons_zero, Act.put, List.setIfInBounds_toArray, List.set_cons_zero, List.set_cons_succ])
  refine wpAnyH_take (i := 5) (v := ?_) rfl (by kernel_rfl) (by kernel_rfl) (by kernel_rfl) (fun _ _ _ h => h) (Or.inl ⟨by kernel_rfl, ?_⟩) (by first | assumption | trivial) ?_
  rotate_left
  · (intro wS hSw; (try dsimp only at hSw); go_simp; try with_reducible rfl)
  (try simp only [List.append_eq, List.cons_append, List.nil_append, List.getElem_toArray, List.getElem_cons_succ, List.getElem_cons_zero, Act.put, List.setIfInBounds_toArray, List.set_cons_zero, List.set_cons_succ])
  refine wpAnyH_take (i := 6) (v := ?_) rfl (by kernel_rfl) (by kernel_rfl) (by kernel_rfl) (fun _ _ _ h => h) (Or.inl ⟨by kernel_rfl, ?_⟩) (by first | assumption | trivial) ?_
  rotate_left
  · (intro wS hSw; (try dsimp only at hSw); go_simp; try with_reducible rfl)
  (try simp only [List.append_eq, List.cons_append, List.nil_append, List.getElem_toArray, List.getElem_cons_succ, List.getElem_cons_zero, Act.put, List.setIfInBounds_toArray, List.set_cons_zero, List.set_cons_succ])
  refine wpAnyH_take (i := 7) (v := ?_) rfl (by kernel_rfl) (by kernel_rfl) (by kernel_rfl) (fun _ _ _ h => h) (Or.inl ⟨by kernel_rfl, ?_⟩) (by first | assumption | trivial) ?_
  rotate_left
  · (intro wS hSw; (try dsimp only at hSw); go_simp; try with_reducible rfl)
  (try simp only [List.append_eq, List.cons_append, List.nil_append, List.getElem_toArray, List.getElem_cons_succ, List.getElem_cons_zero, Act.put, List.setIfInBounds_toArray, List.set_cons_zero, List.set_cons_succ])
  refine wpAnyH_take (i := 8) (v := .agg (s.map B8).toArray) rfl (by kernel_rfl) (by kernel_rfl) (by kernel_rfl) (fun _ _ _ h => h) (yieldsIf_load_mid (by kernel_rfl) 64 (.tmp 27) rfl bb off rfl (s.map B8) _ (fun w h => h) Try.underlying64 rfl HSZ.out) (by assumption) ?_
  (try simp only [List.getElem_toArray, List.getElem_cons_succ, List.getElem_cons_zero, Act.put, List.setIfInBounds_toArray, List.set_cons_zero, List.set_cons_succ])
  refine wpAnyH_take (i := 9) (v := .agg (isC (i, s)).toArray) rfl (by kernel_rfl) (by kernel_rfl) (by kernel_rfl) (fun _ _ _ h => h) (yieldsIf_build (by kernel_rfl) 66 _ rfl [(0, .int .i64 i), (1, .agg (s.map B8).toArray)] rfl _ hio) (by assumption) ?_
  (try simp only [List.getElem_toArray, List.getElem_cons_succ, List.getElem_cons_zero, Act.put, List.setIfInBounds_toArray, List.set_cons_zero, List.set_cons_succ])
  refine wpAnyH_ready (rs := [4, 10]) (by kernel_rfl) (by simp) ?_
  refine AllReadyH.cons rfl (fun K hK => ?_) (AllReadyH.cons rfl (fun K hK => ?_) AllReadyH.nil)
  · skip
    have q1 : w2.drew.cell? ⟨d, 1, none⟩ = some V := HQ1.out
    have q3 : (w2.alloc (.cells (isC (i, s)).toArray 66)).cell? ⟨d, 1, none⟩ = some V := cells_keep ((Below.refl _ w2).alloc (Nat.le_refl _) _) HQ1.out
    have q2 : (w2.drew.alloc (.cells (isC (i, s)).toArray 66)).cell? ⟨d, 1, none⟩ = some V := cells_keep ((Below.refl _ w2.drew).alloc (Nat.le_refl _) _) HQ1.out
    rw [if_pos (by kernel_rfl)]
    go_simp
    go_wp2_with fail
    refine hK.out _ _ (by assumption) (fun hHeld => ?_)
    clear hK K q1 q2 q3
    (try simp only [List.getElem_toArray, List.getElem_cons_succ, List.getElem_cons_zero, Act.put, List.setIfInBounds_toArray, List.set_cons_zero, List.set_cons_succ])
    refine wpAnyH_ready (rs := [10]) (by kernel_rfl) (by simp) ?_
    refine AllReadyH.cons rfl (fun K hK => ?_) AllReadyH.nil
    rw [if_pos (by kernel_rfl)]
    refine wp_buildSlice_to 59 66 1 _ rfl [(0, .agg (isC (i, s)).toArray)] rfl (isC (i, s)).toArray ie0 (.agg zIss) Try.underlying59 Hie.out Hiz.out (by rw [Hi1.out]; decide) (by rw [Hi1.out]; decide) (iss_one (i, s) HSL.out ie0 Hi1.out _ (by rw [Hi1.out]; simp)) ?_
    refine hK.out _ _ (World.rangeAt_alloc hHeld _) (fun hHeld => ?_)
    clear hK K
    (try simp only [List.getElem_toArray, List.getElem_cons_succ, List.getElem_cons_zero, Act.put, List.setIfInBounds_toArray, List.set_cons_zero, List.set_cons_succ])
    refine wpAnyH_ready (rs := [11]) (by kernel_rfl) (by simp) ?_
    refine AllReadyH.cons rfl (fun K hK => ?_) AllReadyH.nil
    rw [if_pos (by kernel_rfl)]
    refine wp_append_at (.tmp 24) (.tmp 30) issS rfl b0 V D.waits.length (waitC D.waits) rfl HOWN.out (some ⟨w2.heap.size, 0, none⟩) 1 1 (isC (i, s)) rfl (by rw [isC_len (i, s) HSL.out]) HNEW.out (fun u hu => HONE.out u hu) (by unfold maxLen; omega) (by omega) HBS.out ?_
    intro A3 c3 w3 hown3 hgr3 hat3
    have hS3 := range_only hHeld (Only.of_grown (T := fun g => V.ownBlock = some g) hgr3 (fun g hg => hg)) (fun h => HBM.out (.inr (.inr h)))
    refine hK.out _ _ hS3 (fun hHeld => ?_)
    clear hK K hS3
    (try simp only [List.getElem_toArray, List.getElem_cons_succ, List.getElem_cons_zero, Act.put, List.setIfInBounds_toArray, List.set_cons_zero, List.set_cons_succ])
    refine wpAnyH_take (i := 12) (v := ?_) rfl (by kernel_rfl) (by kernel_rfl) (by kernel_rfl) (fun _ _ _ h => h) (Or.inl ⟨by kernel_rfl, ?_⟩) (by first | assumption | trivial) ?_
    rotate_left
    · (intro wS hSw; (try dsimp only at hSw); go_simp; try with_reducible rfl)
    (try simp only [List.append_eq, List.cons_append, List.nil_append, List.getElem_toArray, List.getElem_cons_succ, List.getElem_cons_zero, Act.put, List.setIfInBounds_toArray, List.set_cons_zero, List.set_cons_succ])
    refine wpAnyH_take (i := 13) (v := ?_) rfl (by kernel_rfl) (by kernel_rfl) (by kernel_rfl) (fun _ _ _ h => h) (Or.inl ⟨by kernel_rfl, ?_⟩) (by first | assumption | trivial) ?_
    rotate_left
    · (intro wS hSw; (try dsimp only at hSw); go_simp; try with_reducible rfl)
    (try simp only [List.append_eq, List.cons_append, List.nil_append, List.getElem_toArray, List.getElem_cons_succ, List.getElem_cons_zero, Act.put, List.setIfInBounds_toArray, List.set_cons_zero, List.set_cons_succ])
    refine wpAnyH_ready (rs := [14]) (by kernel_rfl) (by simp) ?_
    refine AllReadyH.cons rfl (fun K hK => ?_) AllReadyH.nil
    have hfin := write_fin HK2.out HSL.out (by rw [HEH.out]; exact hi) (by rw [HE.out]; exact hown3) hgr3 (by rw [HE.out]; exact hat3)
    rw [HE.out] at hfin
    obtain ⟨⟨x3, f3⟩, hfin⟩ := hfin
    have HFIN := hid hfin
    have hS4 := range_only hHeld (Only.of_set (T := fun g => g = d) w3 ⟨d, 1, none⟩ (.slice A3 (D.waits.length + 1) c3) rfl) (fun h => HBM.out (.inl h))
    clear hfin hown3 hgr3 hat3
    rw [if_pos (by kernel_rfl)]
    go_simp
    go_wp2_with fail
    refine hK.out _ _ hS4 (fun hHeld => ?_)
    clear hK K
    (try simp only [List.getElem_toArray, List.getElem_cons_succ, List.getElem_cons_zero, Act.put, List.setIfInBounds_toArray, List.set_cons_zero, List.set_cons_succ])
    refine wpAnyH_done (by kernel_rfl) ?_ _
    refine NoPanic.normal ?_
    go_wp2_with fail
    go_ret
    refine ⟨rfl, _, HFIN.out.1, ?_, ?_⟩
    · exact (HL.out.2.trans (Only.of_below (T := Mine d hb V) (show Below w2.heap.size w2 (w2.drew.alloc (.cells (isC (i, s)).toArray 66)) from (bq (Below.refl _ w2) 1).alloc (Nat.le_refl _) _)) (fun g h => .inl h)).trans HFIN.out.2.1 (fun g h => .inl h)
    · rcases HFIN.out.2.2 with h | h
      · exact .inl h
      · right
        intro g hg
        have h1 := h g hg
        have h2 := HL.out.2.size
        have h3 : (w2.drew.alloc (.cells (isC (i, s)).toArray 66)).heap.size = w2.heap.size + 1 := by simp
        omega
  · skip
    rw [if_pos (by kernel_rfl)]
    refine wp_buildSlice_to 59 66 1 _ rfl [(0, .agg (isC (i, s)).toArray)] rfl (isC (i, s)).toArray ie0 (.agg zIss) Try.underlying59 Hie.out Hiz.out (by rw [Hi1.out]; decide) (by rw [Hi1.out]; decide) (iss_one (i, s) HSL.out ie0 Hi1.out _ (by rw [Hi1.out]; simp)) ?_
    refine hK.out _ _ (World.rangeAt_alloc hHeld _) (fun hHeld => ?_)
    clear hK K
    (try simp only [List.getElem_toArray, List.getElem_cons_succ, List.getElem_cons_zero, Act.put, List.setIfInBounds_toArray, List.set_cons_zero, List.set_cons_succ])
    refine wpAnyH_ready (rs := [4]) (by kernel_rfl) (by simp) ?_
    refine AllReadyH.cons rfl (fun K hK => ?_) AllReadyH.nil
    have q1 : w2.drew.cell? ⟨d, 1, none⟩ = some V := HQ1.out
    have q3 : (w2.alloc (.cells (isC (i, s)).toArray 66)).cell? ⟨d, 1, none⟩ = some V := cells_keep ((Below.refl _ w2).alloc (Nat.le_refl _) _) HQ1.out
    have q2 : (w2.drew.alloc (.cells (isC (i, s)).toArray 66)).cell? ⟨d, 1, none⟩ = some V := cells_keep ((Below.refl _ w2.drew).alloc (Nat.le_refl _) _) HQ1.out
    rw [if_pos (by kernel_rfl)]
    go_simp
    go_wp2_with fail
    refine hK.out _ _ (by assumption) (fun hHeld => ?_)
    clear hK K q1 q2 q3
    (try simp only [List.getElem_toArray, List.getElem_cons_succ, List.getElem_cons_zero, Act.put, List.setIfInBounds_toArray, List.set_cons_zero, List.set_cons_succ])
    refine wpAnyH_ready (rs := [11]) (by kernel_rfl) (by simp) ?_
    refine AllReadyH.cons rfl (fun K hK => ?_) AllReadyH.nil
    rw [if_pos (by kernel_rfl)]
    refine wp_append_at (.tmp 24) (.tmp 30) issS rfl b0 V D.waits.length (waitC D.waits) rfl HOWN.out (some ⟨w2.heap.size, 0, none⟩) 1 1 (isC (i, s)) rfl (by rw [isC_len (i, s) HSL.out]) HNEW.out (fun u hu => HONE.out u hu) (by unfold maxLen; omega) (by omega) HBS.out ?_
    intro A3 c3 w3 hown3 hgr3 hat3
    have hS3 := range_only hHeld (Only.of_grown (T := fun g => V.ownBlock = some g) hgr3 (fun g hg => hg)) (fun h => HBM.out (.inr (.inr h)))
    refine hK.out _ _ hS3 (fun hHeld => ?_)
    clear hK K hS3
    (try simp only [List.getElem_toArray, List.getElem_cons_succ, List.getElem_cons_zero, Act.put, List.setIfInBounds_toArray, List.set_cons_zero, List.set_cons_succ])
    refine wpAnyH_take (i := 12) (v := ?_) rfl (by kernel_rfl) (by kernel_rfl) (by kernel_rfl) (fun _ _ _ h => h) (Or.inl ⟨by kernel_rfl, ?_⟩) (by first | assumption | trivial) ?_
    rotate_left
    · (intro wS hSw; (try dsimp only at hSw); go_simp; try with_reducible rfl)
    (try simp only [List.append_eq, List.cons_append, List.nil_append, List.getElem_toArray, List.getElem_cons_succ, List.getElem_cons_zero, Act.put, List.setIfInBounds_toArray, List.set_cons_zero, List.set_cons_succ])
    refine wpAnyH_take (i := 13) (v := ?_) rfl (by kernel_rfl) (by kernel_rfl) (by kernel_rfl) (fun _ _ _ h => h) (Or.inl ⟨by kernel_rfl, ?_⟩) (by first | assumption | trivial) ?_
    rotate_left
    · (intro wS hSw; (try dsimp only at hSw); go_simp; try with_reducible rfl)
    (try simp only [List.append_eq, List.cons_append, List.nil_append, List.getElem_toArray, List.getElem_cons_succ, List.getElem_cons_zero, Act.put, List.setIfInBounds_toArray, List.set_cons_zero, List.set_cons_succ])
    refine wpAnyH_ready (rs := [14]) (by kernel_rfl) (by simp) ?_
    refine AllReadyH.cons rfl (fun K hK => ?_) AllReadyH.nil
    have hfin := write_fin HK2.out HSL.out (by rw [HEH.out]; exact hi) (by rw [HE.out]; exact hown3) hgr3 (by rw [HE.out]; exact hat3)
    rw [HE.out] at hfin
    obtain ⟨⟨x3, f3⟩, hfin⟩ := hfin
    have HFIN := hid hfin
    have hS4 := range_only hHeld (Only.of_set (T := fun g => g = d) w3 ⟨d, 1, none⟩ (.slice A3 (D.waits.length + 1) c3) rfl) (fun h => HBM.out (.inl h))
    clear hfin hown3 hgr3 hat3
    rw [if_pos (by kernel_rfl)]
    go_simp
    go_wp2_with fail
    refine hK.out _ _ hS4 (fun hHeld => ?_)
    clear hK K
    (try simp only [List.getElem_toArray, List.getElem_cons_succ, List.getElem_cons_zero, Act.put, List.setIfInBounds_toArray, List.set_cons_zero, List.set_cons_succ])
    refine wpAnyH_done (by kernel_rfl) ?_ _
    refine NoPanic.normal ?_
    go_wp2_with fail
    go_ret
    refine ⟨rfl, _, HFIN.out.1, ?_, ?_⟩
    · exact (HL.out.2.trans (Only.of_below (T := Mine d hb V) (show Below w2.heap.size w2 (w2.drew.alloc (.cells (isC (i, s)).toArray 66)) from (bq (Below.refl _ w2) 1).alloc (Nat.le_refl _) _)) (fun g h => .inl h)).trans HFIN.out.2.1 (fun g h => .inl h)
    · rcases HFIN.out.2.2 with h | h
      · exact .inl h
      · right
        intro g hg
        have h1 := h g hg
        have h2 := HL.out.2.size
        have h3 : (w2.drew.alloc (.cells (isC (i, s)).toArray 66)).heap.size = w2.heap.size + 1 := by simp
        omega
end Go.Proofs.Ytkadehdbnkinlaa
