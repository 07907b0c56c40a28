/-
  Clone. A part of the proof: see the head of the text that ends in 'Law'.
-/
import Derived.Test.YtkadehdbnkinlaaDk26
import Derived.Lib.SliceRun
namespace Go.Proofs.Ytkadehdbnkinlaa
open Go.RowKit
set_option linter.unusedVariables false
attribute [local go_sem] Oper.semAt_some

theorem secC_one (l : List (List UInt8)) : ∀ u ∈ secC l, u.oneCell' = true := by
  intro u hu
  unfold secC at hu
  obtain ⟨s, _, hs⟩ := List.mem_flatMap.1 hu
  obtain ⟨b, _, rfl⟩ := List.mem_map.1 hs
  rfl
theorem waitC_one (l : List Iss) : ∀ u ∈ waitC l, u.oneCell' = true := by
  intro u hu
  unfold waitC at hu
  obtain ⟨s, _, hs⟩ := List.mem_flatMap.1 hu
  unfold isC at hs
  rcases List.mem_cons.1 hs with rfl | hs
  · rfl
  · obtain ⟨b, _, rfl⟩ := List.mem_map.1 hs
    rfl
/-- slices.Clone of sectors. -/
theorem cloneS_any (hb n c : Nat) (xs : List Value) (W : World) (hx : Row W (some ⟨hb, 0, none⟩) xs) (hl : xs.length = n * 128) (h1 : ∀ u ∈ xs, u.oneCell' = true) (hn : n ≤ 2048) :
    Calls Try.prog 36 #[.slice (some ⟨hb, 0, none⟩) n c] W fun e w' => ∃ A3 c3, e = .returned (.slice A3 n c3) ∧ w'.ownsRow W.heap.size 64 128 (.slice A3 n c3) n xs ∧ Below W.heap.size W w' := by
  have q : ∀ (w : World) (a : Option Addr) (n c n' c' : Nat), (binOp .eql 58 (.slice a n c) (.slice none n' c')).run Try.prog w = .ok (.bool a.isNone) w := fun w a n c n' c' => Lib.run_eql_slice_nil w _ _ a n c n' c' Try.underlying58
  have HX := hid (hx.alloc (Obj.cells #[] 64))
  have HL := hid hl
  have H1 := hid h1
  have HN := hid hn
  clear hx hl h1 hn
  go_enter Try.func36, Try.ntmps36
  go_wp2_with (
    at_builtin
    refine wpList_append_row _ rfl (.tmp 5) (.tmp 6) secS rfl W.heap.size (.slice (some ⟨W.heap.size, 0, none⟩) 0 0) 0 [] rfl (World.ownsRow_lit W #[] 0 (Nat.le_refl _) (Nat.zero_le _) rfl) (some ⟨hb, 0, none⟩) n c xs rfl HL.out HX.out H1.out (by have := HN.out; simp only [maxLen]; omega) (by have := HN.out; omega) (by simp) ?_
    intro A3 c3 w3 hown3 hgr3 hat3
    have b3 : Below W.heap.size W w3 := ((Below.refl _ W).alloc (Nat.le_refl _) _).grown hgr3 (by simp) (fun k hk => by simp [Value.ownBlock] at hk; omega)
    simp only [Nat.zero_add, List.nil_append] at hown3
    have B3 := hid b3
    have OW := hid hown3
    clear hgr3 hat3 hown3 b3)
  go_ret
  exact ⟨A3, c3, by simp, OW.out, B3.out⟩
theorem own_row_ {W : World} {b0 n size : Nat} {e : TypeId} {A : Option Addr} {c : Nat} {xs : List Value} (h : W.ownsRow b0 e size (.slice A n c) n xs) : Row W A xs := fun hn => by
  rcases h.2 with ⟨hv, h0⟩ | ⟨g, cap, cur, hv, hb, hg, h1, h2, h3, h4⟩
  · have := h.1
    rw [h0, Nat.zero_mul] at this
    exact absurd (List.eq_nil_of_length_eq_zero this) hn
  · injection hv with hv
    refine ⟨g, 0, hv, fun j v hj => ?_⟩
    subst hv
    have hlt : j < n * size := by
      rw [← h.1]
      exact (List.getElem?_eq_some_iff.1 hj).1
    rw [Nat.zero_add, h.cellAt j hlt, hj]
/-- slices.Clone of what waits. -/
theorem cloneI_any (b0 n : Nat) (V : Value) (xs : List Value) (W : World) (h : W.ownsRow b0 66 129 V n xs) (h1 : ∀ u ∈ xs, u.oneCell' = true) (hn : n ≤ 100000) :
    Calls Try.prog 37 #[V] W fun e w' => ∃ A3 c3, e = .returned (.slice A3 n c3) ∧ w'.ownsRow W.heap.size 66 129 (.slice A3 n c3) n xs ∧ Below W.heap.size W w' := by
  have q : ∀ (w : World) (a : Option Addr) (n c n' c' : Nat), (binOp .eql 59 (.slice a n c) (.slice none n' c')).run Try.prog w = .ok (.bool a.isNone) w := fun w a n c n' c' => Lib.run_eql_slice_nil w _ _ a n c n' c' Try.underlying59
  rcases id h.2 with ⟨rfl, rfl⟩ | ⟨g, c, cur, rfl, -⟩
  · have hx : xs = [] := List.eq_nil_of_length_eq_zero (by rw [h.1])
    subst hx
    clear h h1 hn
    go_enter Try.func37, Try.ntmps37
    go_wp2
    go_ret
    exact ⟨none, 0, rfl, World.ownsRow_nil _ _ _ _, Below.refl _ _⟩
  · have HX := hid ((own_row_ h).alloc (Obj.cells #[] 66))
    have HL := hid h.1
    have H1 := hid h1
    have HN := hid hn
    clear h h1 hn
    go_enter Try.func37, Try.ntmps37
    go_wp2_with (
      at_builtin
      refine wpList_append_row _ rfl (.tmp 5) (.tmp 6) issS rfl W.heap.size (.slice (some ⟨W.heap.size, 0, none⟩) 0 0) 0 [] rfl (World.ownsRow_lit W #[] 0 (Nat.le_refl _) (Nat.zero_le _) rfl) (some ⟨g, 0, none⟩) n c xs rfl HL.out HX.out H1.out (by have := HN.out; simp only [maxLen]; omega) (by have := HN.out; omega) (by simp) ?_
      intro A3 c3 w3 hown3 hgr3 hat3
      have b3 : Below W.heap.size W w3 := ((Below.refl _ W).alloc (Nat.le_refl _) _).grown hgr3 (by simp) (fun k hk => by simp [Value.ownBlock] at hk; omega)
      simp only [Nat.zero_add, List.nil_append] at hown3
      have B3 := hid b3
      have OW := hid hown3
      clear hgr3 hat3 hown3 b3)
    go_ret
    exact ⟨A3, c3, by simp, OW.out, B3.out⟩
/-- Two disks in memory, none of which has a block of the other's. -/
def Two (w0 W : World) (d hb : Nat) (D : Dsk) (d2 hb2 : Nat) (D2 : Dsk) : Prop := ∃ V V2, DkAt W w0.heap.size d hb V D ∧ DkAt W w0.heap.size d2 hb2 V2 D2 ∧ (∀ g, Mine d hb V g → ¬ Mine d2 hb2 V2 g) ∧ Below w0.heap.size w0 W
theorem Two.left {w0 W : World} {d hb d2 hb2 : Nat} {D D2 : Dsk} (h : Two w0 W d hb D d2 hb2 D2) : St w0 W d hb D := by
  obtain ⟨V, V2, h1, h2, h3, h4⟩ := h
  exact ⟨⟨V, h1⟩, h4⟩
theorem Two.right {w0 W : World} {d hb d2 hb2 : Nat} {D D2 : Dsk} (h : Two w0 W d hb D d2 hb2 D2) : St w0 W d2 hb2 D2 := by
  obtain ⟨V, V2, h1, h2, h3, h4⟩ := h
  exact ⟨⟨V2, h2⟩, h4⟩
theorem Two.below {w0 W w' : World} {d hb d2 hb2 : Nat} {D D2 : Dsk} (h : Two w0 W d hb D d2 hb2 D2) (hb' : Below W.heap.size W w') : Two w0 w' d hb D d2 hb2 D2 := by
  obtain ⟨V, V2, h1, h2, h3, h4⟩ := h
  exact ⟨V, V2, h1.below hb', h2.below hb', h3, next h4 hb'⟩
theorem Two.step {w0 W w' : World} {d hb d2 hb2 : Nat} {V V' V2 : Value} {D D' D2 : Dsk} (h1 : DkAt W w0.heap.size d hb V D) (h2 : DkAt W w0.heap.size d2 hb2 V2 D2) (h3 : ∀ g, Mine d hb V g → ¬ Mine d2 hb2 V2 g) (h4 : Below w0.heap.size w0 W)
    (k1 : DkAt w' w0.heap.size d hb V' D') (hO : Only (Mine d hb V) W w') (hv : V'.ownBlock = V.ownBlock ∨ ∀ g, V'.ownBlock = some g → W.heap.size ≤ g) : Two w0 w' d hb D' d2 hb2 D2 ∧ Lets d hb W w' := by
  refine ⟨⟨V', V2, k1, h2.only hO h3, ?_, h4.trans (hO.below h4.size (fun g hg => (Mine.lt h1 g hg).1))⟩, Lets.of_only h1 hO⟩
  intro g hg
  rcases hg with e | e | e
  · exact h3 g (.inl e)
  · exact h3 g (.inr (.inl e))
  · rcases hv with hv | hv
    · exact h3 g (.inr (.inr (hv ▸ e)))
    · intro hm
      have := (Mine.lt h2 g hm).2
      have := hv g e
      omega
theorem two_write {w0 W : World} {d hb d2 hb2 : Nat} {D D2 : Dsk} (h : Two w0 W d hb D d2 hb2 D2) (i : Int) (g : Nat) (s : List UInt8) (hs : s.length = 128) (hr : OwnC W g 5 (s.map B8)) (hw : D.waits.length ≤ 100000) :
    Calls Try.prog 8 #[.pointer (some ⟨d, 0, none⟩), .int .i64 i, .slice (some ⟨g, 0, none⟩) 128 128] W fun e w' => ∃ (n : Int) (D' : Dsk), e = .returned (.int .i64 n) ∧ Two w0 w' d hb D' d2 hb2 D2 ∧ Lets d hb W w' ∧ D'.waits.length ≤ D.waits.length + 1 := by
  obtain ⟨V, V2, h1, h2, h3, h4⟩ := h
  by_cases hi : 0 ≤ i ∧ i < D.has.length
  · by_cases ho : onD D = true
    · have hbm : ¬ Mine d hb V g := by
        obtain ⟨cur, hg, hc⟩ := hr
        rintro (e | e | e)
        · rw [e, show W.heap[d]? = _ from h1.cells] at hg
          cases hg
        · rw [e, show W.heap[hb]? = _ from h1.sect] at hg
          cases hg
        · rcases h1.wait.2 with ⟨e2, _⟩ | ⟨g', cap, cur', e2, _, hg', _⟩
          · rw [e2] at e; simp [Value.ownBlock] at e
          · rw [e2] at e
            obtain rfl : g' = g := by simpa [Value.ownBlock] using e
            rw [hg] at hg'
            cases hg'
      have hran : W.rangeAt g 0 (s.map B8) := fun j v hv => by rw [Nat.zero_add]; exact hr.cell hv
      refine (write_on h1 i hi g 0 128 (by omega) s hs hran hbm ho hw).mono ?_
      rintro e w' ⟨rfl, V', k1, k2, k3⟩
      obtain ⟨r1, r2⟩ := Two.step h1 h2 h3 h4 k1 k2 k3
      exact ⟨_, _, rfl, r1, r2, by show (D.waits ++ [(i, s)]).length ≤ _; simp⟩
    · refine (write_off h1 i hi _ _ (by simpa using ho)).mono ?_
      rintro e w' ⟨rfl, k1, k2⟩
      obtain ⟨r1, r2⟩ := Two.step h1 h2 h3 h4 k1 k2 (.inl rfl)
      exact ⟨_, _, rfl, r1, r2, by rw [(spend_has D).2]; omega⟩
  · refine (write_no h1 i hi _ _ _).mono ?_
    rintro e w' ⟨rfl, rfl⟩
    exact ⟨_, _, rfl, ⟨V, V2, h1, h2, h3, h4⟩, Lets.refl _ _ _, by omega⟩
theorem two_flush {w0 W : World} {d hb d2 hb2 : Nat} {D D2 : Dsk} (h : Two w0 W d hb D d2 hb2 D2) (hw : D.waits.length ≤ 100000) :
    Calls Try.prog 10 #[.pointer (some ⟨d, 0, none⟩)] W fun e w' => ∃ (n : Int) (D' : Dsk), e = .returned (.int .i64 n) ∧ Two w0 w' d hb D' d2 hb2 D2 ∧ Lets d hb W w' := by
  obtain ⟨V, V2, h1, h2, h3, h4⟩ := h
  by_cases ho : onD D = true
  · refine (flush_on h1 ho hw).mono ?_
    rintro e w' ⟨rfl, k1, k2⟩
    obtain ⟨r1, r2⟩ := Two.step h1 h2 h3 h4 k1 k2 (.inr (fun g hg => by simp [Value.ownBlock] at hg))
    exact ⟨_, _, rfl, r1, r2⟩
  · refine (flush_off h1 (by simpa using ho)).mono ?_
    rintro e w' ⟨rfl, k1, k2⟩
    obtain ⟨r1, r2⟩ := Two.step h1 h2 h3 h4 k1 k2 (.inl rfl)
    exact ⟨_, _, rfl, r1, r2⟩
/-- A disk of its own, by what the two clones made. -/
theorem cl_end {W w3 : World} {b0 d hb d2 c3 c4 : Nat} {V : Value} {A3 A4 : Option Addr} {D : Dsk} (h : DkAt W b0 d hb V D) (hn : 1 ≤ D.has.length) (hw : Below W.heap.size W w3) (h2 : W.heap.size ≤ d2)
    (hc : OwnE w3 d2 61 [.slice A3 D.has.length c3, .slice A4 D.waits.length c4, .int .i64 D.bud, .bool D.off])
    (r1 : w3.ownsRow W.heap.size 64 128 (.slice A3 D.has.length c3) D.has.length (secC D.has)) (r2 : w3.ownsRow W.heap.size 66 129 (.slice A4 D.waits.length c4) D.waits.length (waitC D.waits)) :
    b0 ≤ W.heap.size → ∃ hb2 V2 D2, DkAt w3 b0 d hb V D ∧ DkAt w3 b0 d2 hb2 V2 D2 ∧ (∀ g, Mine d hb V g → ¬ Mine d2 hb2 V2 g) ∧ D2.has = D.has ∧ D2.waits = D.waits ∧ D2.bud = D.bud ∧ D2.off = D.off := by
  intro hb0
  rcases r1.2 with ⟨_, h0⟩ | ⟨g, cap, cur, hv, hbg, hg, hcn, hcm, hsz, htk⟩
  · omega
  · injection hv with hv _ hcp
    subst hv
    subst hcp
    refine ⟨g, .slice A4 D.waits.length c4, ⟨D.has, D.waits, D.bud, D.off, cur.toList.drop (D.has.length * 128), c3⟩, h.below hw, ⟨by omega, by omega, hc, ?_, ⟨r2.1, ?_⟩, h.len, h.wlen, h.nb, h.bd⟩, ?_, rfl, rfl, rfl, rfl⟩
    · show OwnE w3 g _ (secC D.has ++ cur.toList.drop (D.has.length * 128))
      rw [← htk, List.take_append_drop]
      exact hg
    · rcases r2.2 with hq | ⟨k, cap, cur, e2, k1, k2, k3⟩
      · exact .inl hq
      · exact .inr ⟨k, cap, cur, e2, by omega, k2, k3⟩
    · intro x hx hx2
      have hlt := (Mine.lt h x hx).2
      rcases hx2 with e | e | e
      · omega
      · omega
      · have := own_base r2 x e
        omega
end Go.Proofs.Ytkadehdbnkinlaa
