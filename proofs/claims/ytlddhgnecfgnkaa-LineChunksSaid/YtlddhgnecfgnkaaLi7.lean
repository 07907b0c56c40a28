/-
  Does a token fit? A part of the proof: see the head of the text that ends in 'Law'.
-/
import Derived.Test.YtlddhgnecfgnkaaLi6
namespace Go.Proofs.Ytlddhgnecfgnkaa
open Go.RowKit
set_option linter.unusedVariables false
attribute [local go_sem] Oper.semAt_some

def tkC (t : Tk) : List Value := [.int .i64 (t.kind : Int), .string (str t.s)]
theorem tkC_len (t : Tk) : (tkC t).length = 2 := rfl
theorem flatMap_get {α : Type} (f : α → List Value) (m : Nat) (hf : ∀ a, (f a).length = m) : ∀ (l : List α) (k j : Nat) (hk : k < l.length), j < m → (l.flatMap f)[k * m + j]? = (f (l[k]'hk))[j]?
  | [], k, j, hk, _ => by simp at hk
  | a :: l, 0, j, _, hj => by
    rw [List.flatMap_cons, Nat.zero_mul, Nat.zero_add, List.getElem?_append_left (by rw [hf]; exact hj)]
    rfl
  | a :: l, k + 1, j, hk, hj => by
    rw [List.flatMap_cons, List.getElem?_append_right (by rw [hf, Nat.succ_mul]; omega), hf, show (k + 1) * m + j - m = k * m + j by rw [Nat.succ_mul]; omega]
    exact flatMap_get f m hf l k j (by simpa using hk) hj
theorem tokS : SliceT Try.prog 35 34 (.agg #[.int .i64 0, .string ⟨#[]⟩]) 2 24 := ⟨Try.underlying35, by kernel_rfl, rfl, by decide⟩
/-- The tokens so far, and the spaces, in boxes. -/
structure TkI (W : World) (b0 ob sb : Nat) (out : List Tk) (sp : Nat) : Prop where
  o0 : b0 ≤ ob
  s0 : b0 ≤ sb
  o : ∃ V, OwnE W ob 35 [V] ∧ W.ownsRow b0 34 2 V out.length (out.flatMap tkC)
  s : OwnE W sb 3 [.int .i64 (sp : Int)]
/-- What a word of Tokens' leaves as it was. -/
structure TLets (b0 : Nat) (W w' : World) : Prop where
  bel : Below b0 W w'
  block : ∀ (k : Nat) (cur : Array Value) (T : TypeId) (fr : Nat × Nat), T ≠ 35 → T ≠ 3 → T ≠ 34 → W.heap[k]? = some (.cells cur T fr) → w'.heap[k]? = some (.cells cur T fr)
theorem TLets.refl (b0 : Nat) (W : World) : TLets b0 W W := ⟨Below.refl _ _, fun _ _ _ _ _ _ _ h => h⟩
theorem TLets.trans {b0 : Nat} {a b c : World} (h : TLets b0 a b) (k : TLets b0 b c) : TLets b0 a c := ⟨h.bel.trans k.bel, fun i cur T fr h1 h2 h3 hk => k.block i cur T fr h1 h2 h3 (h.block i cur T fr h1 h2 h3 hk)⟩
theorem TLets.of_below {b0 : Nat} {a b : World} (h : Below a.heap.size a b) (hs : b0 ≤ a.heap.size) : TLets b0 a b := ⟨h.mono hs, fun k cur T fr _ _ _ hk => (h.block k (lt_of_heap hk)).trans hk⟩
theorem TkI.below {W w' : World} {b0 ob sb : Nat} {out : List Tk} {sp : Nat} (h : TkI W b0 ob sb out sp) (hb : Below W.heap.size W w') : TkI w' b0 ob sb out sp := by
  obtain ⟨V, h1, h2⟩ := h.o
  exact ⟨h.o0, h.s0, ⟨V, h1.below hb, own_below h2 hb⟩, h.s.below hb⟩
/-- A cell of a block of another type is written. -/
theorem TkI.far {W : World} {b0 ob sb : Nat} {out : List Tk} {sp : Nat} (h : TkI W b0 ob sb out sp) {g : Nat} {T : TypeId} {xs : List Value} (hg : OwnE W g T xs) (h1 : T ≠ 35) (h2 : T ≠ 3) (h3 : T ≠ 34) (i : Nat) (v : Value) : TkI (W.setCell ⟨g, i, none⟩ v) b0 ob sb out sp := by
  obtain ⟨V, k1, k2⟩ := h.o
  exact ⟨h.o0, h.s0, ⟨V, k1.far (hg.type_ne k1 h1).symm _, row_far k2 (hg.row_ne k2 h3) _⟩, h.s.far (hg.type_ne h.s h2).symm _⟩
theorem TkI.spaces {W : World} {b0 ob sb : Nat} {out : List Tk} {sp : Nat} (h : TkI W b0 ob sb out sp) (k : Nat) : TkI (W.setCell ⟨sb, 0, none⟩ (.int .i64 (k : Int))) b0 ob sb out k ∧ TLets b0 W (W.setCell ⟨sb, 0, none⟩ (.int .i64 (k : Int))) := by
  obtain ⟨V, k1, k2⟩ := h.o
  refine ⟨⟨h.o0, h.s0, ⟨V, k1.far (h.s.type_ne k1 (by decide)).symm _, row_far k2 (h.s.row_ne k2 (by decide)) _⟩, h.s.set 0 _⟩, (Below.refl _ _).setCell h.s0 _, fun j cur T fr h1 h2 h3 hk => ?_⟩
  rw [heap_setCell_other _ _ _ _ (fun e => ?_)]
  · exact hk
  · dsimp only at e
    subst e
    rw [show W.heap[j]? = _ from h.s] at hk
    injection hk with hk
    injection hk with _ e
    exact h2 e.symm
theorem last_kind (out : List Tk) (sp : Nat) (t : Tk) (x : Tk) (init : List Tk) (h : out = init ++ [x]) : fitL out sp t = (sp == (if x.kind = 2 ∨ t.kind = 3 then 0 else 1)) := by
  unfold fitL
  subst h
  simp
theorem fits_end {W w3 : World} {b0 ob sb : Nat} {out : List Tk} {sp : Nat} {V : Value} {A3 : Option Addr} {c3 : Nat} (t : Tk) (o0 : b0 ≤ ob) (s0 : b0 ≤ sb) (hb0 : b0 ≤ W.heap.size) (k1 : OwnE W ob 35 [V]) (k2 : W.ownsRow b0 34 2 V out.length (out.flatMap tkC)) (ks : OwnE W sb 3 [.int .i64 (sp : Int)])
    (ho : w3.ownsRow b0 34 2 (.slice A3 (out.length + 1) c3) (out.length + 1) (out.flatMap tkC ++ tkC t)) (hg : W.grownBy w3 V.ownBlock) :
    OwnE w3 ob 35 [V] ∧ OwnE w3 sb 3 [.int .i64 (sp : Int)] ∧ TkI ((w3.setCell ⟨ob, 0, none⟩ (.slice A3 (out.length + 1) c3)).setCell ⟨sb, 0, none⟩ (.int .i64 0)) b0 ob sb (out ++ [t]) 0 ∧ TLets b0 W ((w3.setCell ⟨ob, 0, none⟩ (.slice A3 (out.length + 1) c3)).setCell ⟨sb, 0, none⟩ (.int .i64 0)) := by
  have e1 := k1.grown hg (k1.row_ne k2 (by decide))
  have e2 := ks.grown hg (ks.row_ne k2 (by decide))
  have hne : ob ≠ sb := k1.type_ne ks (by decide)
  have n1 : Value.ownBlock (.slice A3 (out.length + 1) c3) ≠ some ob := e1.row_ne ho (by decide)
  have n2 : Value.ownBlock (.slice A3 (out.length + 1) c3) ≠ some sb := e2.row_ne ho (by decide)
  refine ⟨e1, e2, ⟨o0, s0, ⟨_, (e1.set 0 _).far hne _, ?_⟩, (e2.far hne.symm _).set 0 _⟩, ⟨?_, ?_⟩⟩
  · have := row_far (row_far ho n1 (i := 0) (.slice A3 (out.length + 1) c3)) n2 (i := 0) (.int .i64 0)
    rw [show (out ++ [t]).length = out.length + 1 by simp, show (out ++ [t]).flatMap tkC = out.flatMap tkC ++ tkC t by rw [List.flatMap_append]; simp]
    exact this
  · exact (((Below.refl b0 W).grown hg hb0 (fun k hk => own_base k2 k hk)).setCell o0 _).setCell s0 _
  · intro j cur T fr h1 h2 h3 hk
    have hj3 : w3.heap[j]? = some (.cells cur T fr) := (hg.block j (lt_of_heap hk) (fun e => by
      obtain ⟨c2, hc2⟩ := own_type k2 j e.symm
      rw [hk] at hc2
      injection hc2 with hc2
      injection hc2 with _ e3
      exact h3 e3)).trans hk
    rw [heap_setCell_other _ _ _ _ (fun e => ?_), heap_setCell_other _ _ _ _ (fun e => ?_)]
    · exact hj3
    · dsimp only at e
      subst e
      rw [show w3.heap[j]? = _ from e1] at hj3
      injection hj3 with hj3
      injection hj3 with _ e3
      exact h1 e3.symm
    · dsimp only at e
      subst e
      rw [show w3.heap[j]? = _ from e2] at hj3
      injection hj3 with hj3
      injection hj3 with _ e3
      exact h2 e3.symm
set_option maxRecDepth 100000 in
set_option maxHeartbeats 4000000 in
theorem fits_any (W : World) (b0 ob sb : Nat) (out : List Tk) (sp : Nat) (t : Tk) (h : TkI W b0 ob sb out sp) (hn : out.length ≤ 100000) (hb0 : b0 ≤ W.heap.size) :
    Calls Try.prog 17 #[.agg #[.int .i64 (t.kind : Int), .string (str t.s)], .pointer (some ⟨ob, 0, none⟩), .pointer (some ⟨sb, 0, none⟩)] W fun e w' => e = .returned (.bool (fitL out sp t)) ∧ TkI w' b0 ob sb (out ++ [t]) 0 ∧ TLets b0 W w' := by
  obtain ⟨V, k1, k2⟩ := h.o
  obtain ⟨A, c, rfl, hA⟩ := own_slice k2
  obtain ⟨kd, hkd⟩ : ∃ i : Int, (t.kind : Int) = i := ⟨_, rfl⟩
  obtain ⟨tx, htx⟩ : ∃ x : ByteArray, str t.s = x := ⟨_, rfl⟩
  have htc : tkC t = [.int .i64 kd, .string tx] := by rw [← hkd, ← htx]; rfl
  have bA : Below W.heap.size W (W.alloc (.cells #[.int .i64 kd, .string tx] 34)) := (Below.refl _ _).alloc (Nat.le_refl _) _
  have kb1 := k1.below bA
  have kb2 := own_below k2 bA
  have kbs := h.s.below bA
  have bx := OwnE.new_ W [.int .i64 kd, .string tx] 34
  have x0 := kb1.cell (j := 0) rfl
  have s0 := kbs.cell (j := 0) rfl
  have b0' := bx.cell (j := 0) rfl
  have b1' := bx.cell (j := 1) rfl
  have HFE := hid (fun (w3 : World) (A3 : Option Addr) (c3 : Nat) => fits_end (W := (W.alloc (.cells #[.int .i64 kd, .string tx] 34)).alloc (.cells #[.int .i64 kd, .string tx] 34)) (w3 := w3) (A3 := A3) (c3 := c3) (sp := sp) t h.o0 h.s0 (by simp; omega) (kb1.below ((Below.refl _ _).alloc (Nat.le_refl _) _)) (own_below kb2 ((Below.refl _ _).alloc (Nat.le_refl _) _)) (kbs.below ((Below.refl _ _).alloc (Nat.le_refl _) _)))
  have HL2 : Hid (TLets b0 W ((W.alloc (.cells #[.int .i64 kd, .string tx] 34)).alloc (.cells #[.int .i64 kd, .string tx] 34))) := hid (TLets.of_below (bA.alloc (by simp) _) hb0)
  have HTC := hid htc
  have KR := hid kb2
  have HN := hid hn
  have HB : Hid (b0 ≤ (W.alloc (.cells #[.int .i64 kd, .string tx] 34)).heap.size) := hid (by simp; omega)
  have HKD := hid hkd
  have HTX := hid htx
  rw [htx, hkd]
  obtain ⟨n, hnn⟩ : ∃ n, out.length = n := ⟨_, rfl⟩
  have HNN := hid hnn
  rw [hnn] at x0 KR HFE HN
  have hlast : n = 0 ∨ ∃ (m : Nat) (x : Tk) (g : Nat) (init : List Tk), n = m + 1 ∧ out = init ++ [x] ∧ A = some ⟨g, 0, none⟩ ∧ (W.alloc (.cells #[.int .i64 kd, .string tx] 34)).cell? ⟨g, m * 2, none⟩ = some (.int .i64 (x.kind : Int)) := by
    rcases List.eq_nil_or_concat out with rfl | ⟨init, x, ho⟩
    · exact .inl (by rw [← hnn]; rfl)
    · rw [List.concat_eq_append] at ho
      refine .inr ?_
      have hm : n = init.length + 1 := by rw [← hnn, ho]; simp
      obtain ⟨g, hg⟩ := hA (by omega)
      refine ⟨init.length, x, g, init, hm, ho, hg, ?_⟩
      subst hg
      rw [hnn] at kb2
      rw [kb2.cellAt (init.length * 2) (by omega)]
      have := flatMap_get tkC 2 tkC_len out init.length 0 (by rw [ho]; simp) (by omega)
      rw [Nat.add_zero] at this
      rw [this]
      simp [ho, tkC]
  clear k1 k2 kb1 kb2 kbs bx bA hA htc hkd htx hnn hn h hb0
  rcases hlast with h0 | ⟨m, x, g, init, hm, ho, hg, xk⟩
  · have hfit : fitL out sp t = (sp == 0) := by
      have : out = [] := List.eq_nil_of_length_eq_zero (by rw [HNN.out, h0])
      unfold fitL
      simp [this]
    have d9 : ((sp : Int) == 0) = (sp == 0) := by rw [Bool.eq_iff_iff, beq_iff_eq, beq_iff_eq]; omega
    have d1 : ((n : Int) == 0) = true := by simp; omega
    have d1' : (n == 0) = true := by simp; omega
    rw [hfit]
    clear hfit h0
    go_enter Try.func17, Try.ntmps17
    go_upto_region 4 with fail
    generalize W.alloc (.cells #[.int .i64 kd, .string tx] 34) = wb at x0 s0 b0' b1' HFE HL2 KR HB ⊢
    go_wp2_with (
      refine wpList_append_row _ rfl (.tmp 28) (.tmp 30) tokS rfl b0 (.slice A n c) n (out.flatMap tkC) rfl (own_below KR.out ((Below.refl _ wb).alloc (Nat.le_refl _) _)) (some ⟨wb.heap.size, 0, none⟩) 1 1 [.int .i64 kd, .string tx] rfl rfl (Row.of_block (heap_alloc_new wb (Obj.cells #[.int .i64 kd, .string tx] 34))) (by simp [Value.oneCell']) (by have := HN.out; simp only [maxLen]; omega) (by have := HN.out; omega) (by have := HB.out; simp; omega) ?_
      intro A3 c3 w3 ho3 hg3 hh3
      rw [← HTC.out] at ho3
      have hE := HFE.out _ _ _ ho3 hg3
      have y1 := hE.1.cell (j := 0) rfl
      have z1 := hE.1.frozen 0
      have hne2 := (hE.2.1.far (i := 0) (hE.1.type_ne hE.2.1 (by decide)).symm (.slice A3 (n + 1) c3))
      have y3 := hne2.cell (j := 0) rfl
      have z3 := hne2.frozen 0
      have HE := hid hE
      clear ho3 hg3 hh3 hE hne2)
    go_ret
    exact ⟨rfl, HE.out.2.2.1, HL2.out.trans HE.out.2.2.2⟩
  · subst hg
    have hfit := last_kind out sp t x init ho
    have d1 : ((n : Int) == 0) = false := by simp; omega
    have d1' : (n == 0) = false := by simp; omega
    have e1 : ((n : Int) - 1).toNat = m := by omega
    have e2 : (0 : Int) ≤ (n : Int) - 1 := by omega
    have e3 : (n : Int) - 1 < (n : Int) := by omega
    have e4 : (n : Int) ≤ 100000 := by have := HN.out; omega
    clear hm
    obtain ⟨xi, hxi⟩ : ∃ i : Int, (x.kind : Int) = i := ⟨_, rfl⟩
    rw [hxi] at xk
    clear ho
    by_cases h2 : x.kind = 2
    · have d2 : (xi == 2) = true := by rw [← hxi, h2]; rfl
      have d9 : ((sp : Int) == 0) = (sp == 0) := by rw [Bool.eq_iff_iff, beq_iff_eq, beq_iff_eq]; omega
      rw [if_pos (.inl h2)] at hfit
      rw [hfit]
      clear hfit hxi h2
      go_enter Try.func17, Try.ntmps17
      go_upto_region 4 with fail
      generalize W.alloc (.cells #[.int .i64 kd, .string tx] 34) = wb at x0 s0 b0' b1' HFE HL2 KR HB ⊢
      go_wp2_with (
        refine wpList_append_row _ rfl (.tmp 28) (.tmp 30) tokS rfl b0 (.slice (some ⟨g,0,none⟩) n c) n (out.flatMap tkC) rfl (own_below KR.out ((Below.refl _ wb).alloc (Nat.le_refl _) _)) (some ⟨wb.heap.size, 0, none⟩) 1 1 [.int .i64 kd, .string tx] rfl rfl (Row.of_block (heap_alloc_new wb (Obj.cells #[.int .i64 kd, .string tx] 34))) (by simp [Value.oneCell']) (by have := HN.out; simp only [maxLen]; omega) (by have := HN.out; omega) (by have := HB.out; simp; omega) ?_
        intro A3 c3 w3 ho3 hg3 hh3
        rw [← HTC.out] at ho3
        have hE := HFE.out _ _ _ ho3 hg3
        have y1 := hE.1.cell (j := 0) rfl
        have z1 := hE.1.frozen 0
        have hne2 := (hE.2.1.far (i := 0) (hE.1.type_ne hE.2.1 (by decide)).symm (.slice A3 (n + 1) c3))
        have y3 := hne2.cell (j := 0) rfl
        have z3 := hne2.frozen 0
        have HE := hid hE
        clear ho3 hg3 hh3 hE hne2)
      go_ret
      exact ⟨rfl, HE.out.2.2.1, HL2.out.trans HE.out.2.2.2⟩
    · have d2 : (xi == 2) = false := by rw [← hxi]; simp; omega
      by_cases h3 : t.kind = 3
      · have d3 : (kd == 3) = true := by rw [← HKD.out, h3]; rfl
        have d9 : ((sp : Int) == 0) = (sp == 0) := by rw [Bool.eq_iff_iff, beq_iff_eq, beq_iff_eq]; omega
        rw [if_pos (.inr h3)] at hfit
        rw [hfit]
        clear hfit hxi h2 h3
        go_enter Try.func17, Try.ntmps17
        go_upto_region 4 with fail
        generalize W.alloc (.cells #[.int .i64 kd, .string tx] 34) = wb at x0 s0 b0' b1' HFE HL2 KR HB ⊢
        go_wp2_with (
          refine wpList_append_row _ rfl (.tmp 28) (.tmp 30) tokS rfl b0 (.slice (some ⟨g,0,none⟩) n c) n (out.flatMap tkC) rfl (own_below KR.out ((Below.refl _ wb).alloc (Nat.le_refl _) _)) (some ⟨wb.heap.size, 0, none⟩) 1 1 [.int .i64 kd, .string tx] rfl rfl (Row.of_block (heap_alloc_new wb (Obj.cells #[.int .i64 kd, .string tx] 34))) (by simp [Value.oneCell']) (by have := HN.out; simp only [maxLen]; omega) (by have := HN.out; omega) (by have := HB.out; simp; omega) ?_
          intro A3 c3 w3 ho3 hg3 hh3
          rw [← HTC.out] at ho3
          have hE := HFE.out _ _ _ ho3 hg3
          have y1 := hE.1.cell (j := 0) rfl
          have z1 := hE.1.frozen 0
          have hne2 := (hE.2.1.far (i := 0) (hE.1.type_ne hE.2.1 (by decide)).symm (.slice A3 (n + 1) c3))
          have y3 := hne2.cell (j := 0) rfl
          have z3 := hne2.frozen 0
          have HE := hid hE
          clear ho3 hg3 hh3 hE hne2)
        go_ret
        exact ⟨rfl, HE.out.2.2.1, HL2.out.trans HE.out.2.2.2⟩
      · have d3 : (kd == 3) = false := by rw [← HKD.out]; simp; omega
        have d9 : ((sp : Int) == 1) = (sp == 1) := by rw [Bool.eq_iff_iff, beq_iff_eq, beq_iff_eq]; omega
        rw [if_neg (by omega)] at hfit
        rw [hfit]
        clear hfit hxi h2 h3
        go_enter Try.func17, Try.ntmps17
        go_upto_region 4 with fail
        generalize W.alloc (.cells #[.int .i64 kd, .string tx] 34) = wb at x0 s0 b0' b1' HFE HL2 KR HB ⊢
        go_wp2_with (
          refine wpList_append_row _ rfl (.tmp 28) (.tmp 30) tokS rfl b0 (.slice (some ⟨g,0,none⟩) n c) n (out.flatMap tkC) rfl (own_below KR.out ((Below.refl _ wb).alloc (Nat.le_refl _) _)) (some ⟨wb.heap.size, 0, none⟩) 1 1 [.int .i64 kd, .string tx] rfl rfl (Row.of_block (heap_alloc_new wb (Obj.cells #[.int .i64 kd, .string tx] 34))) (by simp [Value.oneCell']) (by have := HN.out; simp only [maxLen]; omega) (by have := HN.out; omega) (by have := HB.out; simp; omega) ?_
          intro A3 c3 w3 ho3 hg3 hh3
          rw [← HTC.out] at ho3
          have hE := HFE.out _ _ _ ho3 hg3
          have y1 := hE.1.cell (j := 0) rfl
          have z1 := hE.1.frozen 0
          have hne2 := (hE.2.1.far (i := 0) (hE.1.type_ne hE.2.1 (by decide)).symm (.slice A3 (n + 1) c3))
          have y3 := hne2.cell (j := 0) rfl
          have z3 := hne2.frozen 0
          have HE := hid hE
          clear ho3 hg3 hh3 hE hne2)
        go_ret
        exact ⟨rfl, HE.out.2.2.1, HL2.out.trans HE.out.2.2.2⟩
end Go.Proofs.Ytlddhgnecfgnkaa
