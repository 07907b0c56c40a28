/-
  SpaceTakes: the walk. A part of the proof: see the head of the text that ends in 'Law'.
-/
import Derived.Test.YtccdgfacdohknaaSp22
namespace Go.Proofs.Ytccdgfacdohknaa
open Go.RowKit Go.Shelf
set_option linter.unusedVariables false

theorem SpV.store {W : World} {g : Nat} {N : Int} {A : Option Addr} {n c : Nat} (bx : OwnC W g 24 [.int .i64 N, .slice A n c]) (N' : Int) {A' : Option Addr} {n' : Nat} (c' : Nat) {bits : List UInt8} (o : Oct W A' n' bits) :
    SpV ((W.setCell ⟨g, 0, none⟩ (.int .i64 N')).setCell ⟨g, 1, none⟩ (.slice A' n' c')) g N' A' n' c' bits :=
  ⟨(bx.set 0 (.int .i64 N')).set 1 (.slice A' n' c'), (o.poke (bx.cell (j := 0) (u := .int .i64 N) rfl) (by intro x; simp [B8]) _).poke ((bx.set 0 (.int .i64 N')).cell (j := 1) (u := .slice A n c) rfl) (by intro x; simp [B8]) _⟩

/-- An append under a guard that says yes. -/
theorem wpList_append_rowG {P : Program} (w : World) {ops : Array Oper} {rest : List Oper} {o : Oper} {a : Act} {Q : Exit → Act → World → Prop} (hgd : Region.wanted o (yielded ops a.tmps) = true) (s x : Operand) {t e : TypeId} {z : Value} {size bytes : Nat} (T : SliceT P t e z size bytes)
    (ho : o.op = .call { callee := .builtin .append, args := #[s, x], argTypes := #[t, t] })
    (base : Nat) (v : Value) (n : Nat) (xs : List Value) (hs : a.eval s = v) (hown : w.ownsRow base e size v n xs)
    (A : Option Addr) (m c : Nat) (news : List Value) (hx : a.eval x = .slice A m c) (hl : news.length = m * size) (hr : Row w A news) (h1 : ∀ u ∈ news, u.oneCell' = true)
    (h63 : n + m ≤ maxLen) (hbytes : (n + m) * bytes ≤ 140737488355328) (hbase : base ≤ w.heap.size)
    (h : ∀ A' c' w', w'.ownsRow base e size (.slice A' (n + m) c') (n + m) (xs ++ news) → w.grownBy w' v.ownBlock →
      (Value.ownBlock (.slice A' (n + m) c') = v.ownBlock ∨ Value.ownBlock (.slice A' (n + m) c') = some w.heap.size) → wpList P ops Q rest (a.put o.dst (.slice A' (n + m) c')) w') : wpList P ops Q (o :: rest) a w :=
  wpList_step fun K hK => by rw [if_pos hgd]; exact wp_append_row w s x T ho base v n xs hs hown A m c news hx hl hr h1 h63 hbytes hbase fun A' c' w' h2 h3 h4 => hK _ _ (h A' c' w' h2 h3 h4)
theorem irow_i8 {w : World} {A : Option Addr} {n : Nat} {q : List Nat} (h : IRow w A n (q.map Int.ofNat)) : Row w A (q.map I8) := by
  have h2 := h.2
  rw [List.map_map] at h2
  exact h2
theorem irow_len {w : World} {A : Option Addr} {n : Nat} {q : List Nat} (h : IRow w A n (q.map Int.ofNat)) : q.length = n := by simpa using h.1

/-- Take's answer, its numbers as letters. -/
def TkE (w : World) (f : List Bool) (E : Nat) (q : List Nat) (e : Ending) (w' : World) : Prop :=
  ∃ A' c' A2 c2 N2 n2 m2, Hid (N2 = f.length ∧ n2 = (f.length + 7) / 8 ∧ m2 = q.length) ∧ e = .returned (.tuple #[.agg #[.int .i64 (N2 : Nat), .slice A' n2 c'], .slice A2 m2 c2, .int .i64 E]) ∧ Oct w' A' n2 (packL f) ∧ IRow w' A2 m2 (q.map Int.ofNat) ∧ Below w.heap.size w w'
theorem TakePost.tke {w : World} {T : (List Bool × Nat) × List Nat} {e : Ending} {w' : World} (h : TakePost w T.1 T.2 e w') : TkE w T.1.1 T.1.2 T.2 e w' := by
  obtain ⟨A', c', A2, c2, he, ho, hr, hb⟩ := h
  exact ⟨A', c', A2, c2, _, _, _, hid ⟨rfl, rfl, rfl⟩, he, ho, hr, hb⟩

set_option maxRecDepth 20000 in
set_option maxHeartbeats 4000000 in
theorem walkSpaceTakes (N : Int) (A : Option Addr) (n c : Nat) (bits : List UInt8) (k m : Nat) (w : World) (ho : Oct w A n bits) (hc : n ≤ c) (hcm : c ≤ maxLen) (hN : -9223372036854775808 ≤ N ∧ N ≤ 9223372036854775807) (hk : k < 256) (hm : m < 256) :
    Calls Try.prog 4 #[.agg #[.int .i64 N, .slice A n c], .int .u8 k, .int .u8 m] w fun e w' => e = .returned (.bool true) ∧ Below w.heap.size w w' := by
  have HN := hid hN
  have X0 := hid (SpV.new_ N c ho)
  have B0 := hid (varW_below w N A n c)
  have x00 := X0.out.k0
  have x01 := X0.out.k1
  clear ho
  go_enter Try.func4, Try.ntmps4
  go_upto_region 2 with (go_at_call 7; refine (few_any N A n c bits _ X0.out.o hc hcm).mono ?_; rintro e w1 ⟨n', bits', rfl, o1, hn', hcc, b1⟩; have Z1 := hid (X0.out.bx.below b1); have x10 := Z1.out.cell (j := 0) (u := .int .i64 N) rfl; have x11 := Z1.out.cell (j := 1) (u := .slice A n c) rfl; have f10 := Z1.out.frozen 0; have f11 := Z1.out.frozen 1)
  have X2 := SpV.store Z1.out N c (o1.below b1)
  have B2 := (next B0.out b1).setCell (p := ⟨w.heap.size, 0, none⟩) (Nat.le_refl _) (.int .i64 N)
  have B2 := B2.setCell (p := ⟨w.heap.size, 1, none⟩) (Nat.le_refl _) (.slice A n' c)
  obtain ⟨W2, hW2⟩ : ∃ W2, (w1.setCell ⟨w.heap.size, 0, none⟩ (.int .i64 N)).setCell ⟨w.heap.size, 1, none⟩ (.slice A n' c) = W2 := ⟨_, rfl⟩
  rw [hW2] at X2 B2 ⊢
  clear hW2 x10 x11 f10 f11 x00 x01
  obtain ⟨o, hfo⟩ := flO N bits'
  have hlaw := takes_law o k m
  have hT1 := fun (W : World) (ho : Oct W A n' bits') => (take_any N A n' c bits' k W o hfo ho HN.out (by omega) (by omega)).mono fun e w' h => h.tke
  have hT3 := fun (W : World) (ho : Oct W A n' bits') => (take_any N A n' c bits' (k + m) W o hfo ho HN.out (by omega) (by omega)).mono fun e w' h => h.tke
  have hle := takeF_len N bits' o k hfo
  have hq1 := takeF_qlen N bits' o k hfo
  have hq3 := takeF_qlen N bits' o (k + m) hfo
  have hq2 := takeF_qlen (takeF o k).1.1.length (packL (takeF o k).1.1) (some (takeF o k).1.1) m (FlO.pack hle)
  have hT2 : ∀ (W : World) (A' : Option Addr) (c' N2 n2 : Nat), N2 = (takeF o k).1.1.length → n2 = ((takeF o k).1.1.length + 7) / 8 → Oct W A' n2 (packL (takeF o k).1.1) →
      Calls Try.prog 8 #[.agg #[.int .i64 N2, .slice A' n2 c'], .int .i64 m] W (TkE W (takeF (some (takeF o k).1.1) m).1.1 (takeF (some (takeF o k).1.1) m).1.2 (takeF (some (takeF o k).1.1) m).2) := by
    rintro W A' c' N2 n2 rfl rfl ho
    exact (take_any _ A' _ c' _ m W _ (FlO.pack hle) ho (by omega) (by omega) (by omega)).mono fun e w' h => h.tke
  rw [Int.natCast_add] at hT3
  generalize takeF (some (takeF o k).1.1) m = T2 at hlaw hT2 hq2
  generalize takeF o (k + m) = T3 at hlaw hT3 hq3
  generalize takeF o k = T1 at hlaw hT1 hT2 hle hq1
  obtain ⟨⟨f1, e1⟩, q1⟩ := T1
  obtain ⟨⟨f2, e2⟩, q2⟩ := T2
  obtain ⟨⟨f3, e3⟩, q3⟩ := T3
  simp only at hlaw hT1 hT2 hT3 hle hq1 hq2 hq3
  have x20 := X2.k0
  have x21 := X2.k1
  have X2 := hid X2
  have B2 := hid B2
  have HT1 := hid hT1
  have HT2 := hid hT2
  have HT3 := hid hT3
  have HL := hid hlaw
  clear hT1 hT2 hT3 hlaw
  go_upto_region 5 with (first
    | (go_at_call 8; (with_reducible refine (HT1.out _ X2.out.o).mono ?_); rintro e w3 ⟨A3, c3, L3, d3, N3, n3, m3, hz3, rfl, o3, l3, b3⟩; have Y3 := hid ((X2.out.below b3).below (varW_below w3 N3 A3 n3 c3)); have V3 := hid (SpV.new_ N3 c3 o3); have R3 := hid (l3.below (varW_below w3 N3 A3 n3 c3)); have B3 := hid (next (next B2.out b3) (varW_below w3 N3 A3 n3 c3)); have x30 := V3.out.k0; have x31 := V3.out.k1; clear x20 x21 X2 B2 b3 o3 l3)
    | (go_at_call 8; (with_reducible refine (HT2.out _ A3 c3 N3 n3 hz3.out.1 hz3.out.2.1 V3.out.o).mono ?_); rintro e w4 ⟨A4, c4, L4, d4, N4, n4, m4, hz4, rfl, o4, l4, b4⟩; have q4 := next b4 (varW_below w4 N4 A4 n4 c4); have Y4 := hid (Y3.out.below q4); have V4 := hid (SpV.new_ N4 c4 o4); have R4 := hid (R3.out.below q4); have S4 := hid (l4.below (varW_below w4 N4 A4 n4 c4)); have B4 := hid (next B3.out q4); have x40 := Y4.out.k0; have x41 := Y4.out.k1; clear x30 x31 Y3 V3 R3 B3 q4 b4 o4 l4)
    | (go_at_call 8; (with_reducible refine (HT3.out _ Y4.out.o).mono ?_); rintro e w5 ⟨A5, c5, L5, d5, N5, n5, m5, hz5, rfl, o5, l5, b5⟩; have q5 := next b5 (varW_below w5 N5 A5 n5 c5); have V5 := hid (V4.out.below q5); have C5 := hid (SpV.new_ N5 c5 o5); have R5 := hid (R4.out.below q5); have S5 := hid (S4.out.below q5); have Q5 := hid (l5.below (varW_below w5 N5 A5 n5 c5)); have B5 := hid (next B4.out q5); clear x40 x41 Y4 V4 R4 S4 B4 q5 b5 o5 l5))
  rcases Nat.eq_zero_or_pos e1 with h1 | h1
  · rcases Nat.eq_zero_or_pos e2 with h2 | h2
    · obtain ⟨h3, hq, hf⟩ := HL.out.2 h1 h2
      subst h1 h2 h3
      have HQ := hid hq
      have HF := hid hf
      clear hq hf HT1 HT2 HT3 HL
      have hm3 := irow_len R5.out
      have hm4 := irow_len S5.out
      have bE := (Below.refl (varW w5 N5 A5 n5 c5).heap.size (varW w5 N5 A5 n5 c5)).alloc (Nat.le_refl _) (Obj.cells #[] 3)
      have rE := irow_i8 (R5.out.below bE)
      have oE := World.ownsRow_lit (varW w5 N5 A5 n5 c5) (e := 3) (size := 1) #[] 0 (Nat.le_refl _) (Nat.zero_le _) rfl
      have hb3 : m3 ≤ 2048 := by omega
      have hb4 : m4 ≤ 2048 := by omega
      have hb5 : m5 ≤ 100000 := by have := irow_len Q5.out; omega
      have e12 : ((q3.map Int.ofNat) == ((q1 ++ q2).map Int.ofNat)) = true := by rw [HQ.out]; exact beq_self_eq_true _
      have e23 : (((N4 : Int) == (N5 : Int)) && (packL f2 == packL f3)) = true := by rw [hz4.out.1, hz5.out.1, HF.out]; simp
      have E12 := hid e12
      have E23 := hid e23
      have BE := hid bE
      have HM3 := hid hm3
      have HM4 := hid hm4
      clear e12 e23 bE hm3 hm4
      rw [World.size_alloc] at oE
      go_wp2_with (first
        | (at_builtin; refine wpList_append_rowG _ rfl (.tmp 64) (.tmp 65) intsT rfl (w5.heap.size + 1) (.slice (some ⟨w5.heap.size + 1, 0, none⟩) 0 0) 0 [] rfl oE L3 m3 d3 (q1.map I8) rfl (by simpa using HM3.out) rE (one_nat _) (by simp only [maxLen]; omega) (by omega) (by simp) ?_
           intro A6 c6 w6 hown6 hgr6 hat6
           simp only [Nat.zero_add, List.nil_append] at hown6
           have b6 := BE.out.grown hgr6 (by simp) (fun k hk => by simp [Value.ownBlock] at hk; simp; omega)
           have O6 := hid hown6
           have B6 := hid b6
           have r6 := irow_i8 (S5.out.below b6)
           clear hgr6 hat6 hown6 b6 oE rE)
        | (at_builtin; refine wpList_append_rowG _ rfl (.tmp 66) (.tmp 67) intsT rfl (w5.heap.size + 1) (.slice A6 m3 c6) m3 (q1.map I8) rfl O6.out L4 m4 d4 (q2.map I8) rfl (by simpa using HM4.out) r6 (one_nat _) (by simp only [maxLen]; omega) (by omega) (by have := B6.out.size; simp at this; omega) ?_
           intro A7 c7 w7 hown7 hgr7 hat7
           have b7 := B6.out.grown hgr7 B6.out.size (fun k hk => by have := own_base O6.out k hk; simp; omega)
           rw [← List.map_append] at hown7
           have I7 := hid (irow_nat (q := q1 ++ q2) (by rw [List.length_append, HM3.out, HM4.out]) (Row.of_own hown7))
           have B7 := hid (next B5.out b7)
           have Q7 := hid (Q5.out.below b7)
           have V7 := hid (V5.out.below b7)
           have C7 := hid (C5.out.below b7)
           clear hgr7 hat7 hown7 b7 r6 O6 B6)
        | (go_at_call 16; (with_reducible refine (ints_any L5 A7 m5 d5 (m3 + m4) c7 (q3.map Int.ofNat) ((q1 ++ q2).map Int.ofNat) _ Q7.out I7.out hb5).mono ?_); rw [E12.out]; rintro e w8 ⟨rfl, b8⟩; have B8' := hid (next B7.out b8); have V8 := hid (V7.out.below b8); have C8 := hid (C7.out.below b8); have x80 := V8.out.k0; have x81 := V8.out.k1; have y80 := C8.out.k0; have y81 := C8.out.k1; clear b8 B7 V7 C7 Q7 I7)
        | (go_at_call 12; (with_reducible refine (same_any N4 N5 A4 A5 n4 c4 n5 c5 (packL f2) (packL f3) _ V8.out.o C8.out.o).mono ?_); rw [E23.out]; rintro e w9 ⟨rfl, b9⟩; have B9 := hid (next B8'.out b9); clear b9 B8' V8 C8 x80 x81 y80 y81)
        | (go_at_call 13; refine (awake_any _).mono ?_; rintro e w10 ⟨rfl, hx⟩; have B10 := hid (next B9.out hx); clear hx))
      go_ret
      exact ⟨rfl, B10.out⟩
    · have h3 := HL.out.1 h1 (by omega)
      subst h1
      have h30 : ((e3 : Int) != 0) = true := by simpa using h3
      have h31 : ((e3 : Int) == 0) = false := by simp; omega
      clear HT1 HT2 HT3 HL
      go_wp2_with (go_at_call 13; refine (awake_any _).mono ?_; rintro e w6 ⟨rfl, hx⟩; have B6 := hid (next B5.out hx); clear hx)
      go_ret
      exact ⟨rfl, B6.out⟩
  · clear HT1 HT2 HT3 HL
    go_wp2_with (go_at_call 13; refine (awake_any _).mono ?_; rintro e w6 ⟨rfl, hx⟩; have B6 := hid (next B5.out hx); clear hx)
    go_ret
    exact ⟨rfl, B6.out⟩
end Go.Proofs.Ytccdgfacdohknaa
