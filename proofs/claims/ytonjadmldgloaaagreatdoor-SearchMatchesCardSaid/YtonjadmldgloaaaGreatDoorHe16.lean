/-
  A field's text: the program's walk. A part of the proof: see the head of the text that ends in 'Law'.
-/
import Derived.Test.YtonjadmldgloaaaGreatDoorHeD
namespace Go.Proofs.YtonjadmldgloaaaGreatDoor.D17
open Go.RowKit Go.Shelf
set_option linter.unusedVariables false
attribute [local go_sem] Oper.semAt_some

theorem bld_own {β : Type} (B b : Nat) (f : β → List UInt8) : Own (fun s W => BldAt B b (f s) W) := by
  rintro s X Y row hs hg hrow
  have key : ∀ p bs, Lib.BuilderAt 137 5 B b p bs X → Lib.BuilderAt 137 5 B b p bs Y := fun p bs h => by
    obtain ⟨hB, v, hb, hr, hne⟩ := h
    refine ⟨hB, v, (hg.block b (lt_of_heap hb) (fun e' => ?_)).trans hb, hr.kept hg ?_, hne⟩
    · obtain ⟨o, ho, hc⟩ := hrow b e'.symm
      rw [hb] at ho; cases ho; cases hc
    · rcases hr.2 with ⟨rfl, _⟩ | ⟨g, cap, cur, rfl, _, hgb, _⟩
      · exact .inl rfl
      · refine .inr fun e' => ?_
        obtain ⟨o, ho, hc⟩ := hrow g (by simpa [Value.ownBlock] using e'.symm)
        rw [hgb] at ho; cases ho; cases hc
  rcases hs with h | h
  · exact .inl (key _ _ h)
  · exact .inr (key _ _ h)
theorem bld_low {B B' b : Nat} {l : List UInt8} {W : World} (h : BldAt B b l W) (hB : B' ≤ B) : BldAt B' b l W := by
  have key : ∀ p bs, Lib.BuilderAt 137 5 B b p bs W → Lib.BuilderAt 137 5 B' b p bs W := fun p bs ⟨h1, v, h2, h3, h4⟩ => ⟨by omega, v, h2, own_low h3 hB, h4⟩
  rcases h with h | h
  · exact .inl (key _ _ h)
  · exact .inr (key _ _ h)
theorem bld_keep {B b : Nat} {l : List UInt8} {W W' : World} (h : BldAt B b l W) (hb : Below W.heap.size W W') : BldAt B b l W' := by
  have key : ∀ p bs, Lib.BuilderAt 137 5 B b p bs W → Lib.BuilderAt 137 5 B b p bs W' := fun p bs ⟨h1, v, h2, h3, h4⟩ => ⟨h1, v, (hb.block b (lt_of_heap h2)).trans h2, own_below h3 hb, h4⟩
  rcases h with h | h
  · exact .inl (key _ _ h)
  · exact .inr (key _ _ h)
theorem lineL_sub (l : List UInt8) (a t i j : Nat) (hj : a + j ≤ t) (hi : i ≤ j) : lineL (lineL l (a, t)) (i, j) = lineL l (a + i, a + j) := by
  unfold lineL
  dsimp only
  rw [List.drop_take, List.drop_drop, List.take_take]
  congr 1
  omega
/-- What the program writes of a line. -/
theorem chop_off (x : List UInt8) : chop x = if x.getLast? = some 10 then off1 (off1 x 10) 13 else off1 x 10 := by
  unfold chop off1
  by_cases h : x.getLast? = some 10
  · rw [if_pos h, if_pos h, if_pos h]
  · rw [if_neg h, if_neg h, if_neg h]
theorem off1_len (x : List UInt8) (k : UInt8) : (off1 x k).length ≤ x.length := by
  unfold off1
  split
  · rw [List.length_dropLast]; omega
  · exact Nat.le_refl _
theorem chop_len (x : List UInt8) : (chop x).length ≤ x.length := by
  rw [chop_off]
  split
  · exact Nat.le_trans (off1_len _ _) (off1_len _ _)
  · exact off1_len _ _
/-- What is written of the lines so far. -/
def wrote (l : List UInt8) {m : Nat} (pre : List (Pr m)) : List UInt8 := ((pre.map (·.val)).map (fun p => chop (lineL l p))).flatten
theorem wrote_snoc (l : List UInt8) {m : Nat} (pre : List (Pr m)) (p : Pr m) : wrote l (pre ++ [p]) = wrote l pre ++ chop (lineL l p.val) := by
  unfold wrote
  simp
theorem wrote_len (l : List UInt8) {m : Nat} (hl : l.length ≤ 100000) (pre : List (Pr m)) : (wrote l pre).length ≤ pre.length * 100000 := by
  induction pre using rev_ind with
  | h0 => simp [wrote]
  | h1 pre p ih =>
    rw [wrote_snoc, List.length_append, List.length_append]
    have h1 := chop_len (lineL l p.val)
    have h2 : (lineL l p.val).length ≤ l.length := by
      unfold lineL
      rw [List.length_take, List.length_drop]
      omega
    simp only [List.length_cons, List.length_nil]
    omega
theorem wrote_all (l : List UInt8) {m : Nat} (pre : List (Pr m)) (h : pre.map (·.val) = posL l) : trimB (wrote l pre) = textL l := by
  unfold wrote textL
  rw [h, ← lines_of, List.map_map]
  rfl
set_option maxRecDepth 100000 in
set_option maxHeartbeats 8000000 in
theorem text_any (A : Option Addr) (n c : Nat) (l : List UInt8) (f : Fd) (w : World) (ho : Oct w A n l) (hnc : n ≤ c) (hl : n ≤ 100000) (h1 : f.at_ ≤ f.te) (h2 : f.te ≤ n) (hfr : f.fr ≤ n) :
    Calls Tryz.prog 90 #[.slice A n c, .agg #[.string (str f.nm), .int .i64 (f.fr : Int), .int .i64 (f.te : Int), .int .i64 (f.at_ : Int)]] w fun e w' => e = .returned (.string (str (fdText l f))) ∧ Below w.heap.size w w' := by
  obtain ⟨nm, fr, te, at_⟩ := f
  dsimp only at h1 h2 hfr ⊢
  have HO := hid ho
  have HN : Hid (l.length = n) := hid ho.1
  have HNC := hid hnc
  obtain ⟨l3, hl3⟩ : ∃ l3, lineL l (at_, te) = l3 := ⟨_, rfl⟩
  have HT : Hid (fdText l ⟨nm, fr, te, at_⟩ = textL l3) := hid (by rw [← hl3]; rfl)
  have hl3n : l3.length = te - at_ := by rw [← hl3]; unfold lineL; rw [List.length_take, List.length_drop, HN.out]; omega
  have HLN := hid hl3
  clear hl3
  obtain ⟨A3, hA3⟩ : ∃ A3, (if c = at_ then A else A.map (fun x => x.add at_)) = A3 := ⟨_, rfl⟩
  have HO3 : Hid (Oct w A3 (te - at_) l3) := hid (by
    by_cases h : at_ < te
    · obtain ⟨b, off, rfl, -⟩ := HO.out.at_ (by omega)
      rw [if_neg (by have := HNC.out; omega), Option.map_some, Addr.add_mid] at hA3
      rw [← hA3, ← HLN.out]
      exact oct_mid HO.out at_ te h h2
    · have e : te - at_ = 0 := by omega
      have e2 : l3 = [] := List.eq_nil_of_length_eq_zero (by omega)
      rw [e, e2]
      exact Oct.nil _ _)
  have a0 : (0 : Int) ≤ (at_ : Int) := by omega
  have a1 : (at_ : Int) ≤ (te : Int) := by omega
  have a2 : (te : Int) ≤ (c : Int) := by have := HNC.out; omega
  have a3 : (at_ : Int).toNat = at_ := by omega
  have a4 : (te : Int).toNat = te := by omega
  have a5 : te ≤ c := by have := HNC.out; omega
  have a6 : at_ ≤ te := h1
  refine (callsIn_wide (n := 8)).1 (callsIn_of_wp_marks Tryz.func90 rfl trivial ?_ rfl)
  simp only [Tryz.ntmps90, List.size_toArray, List.length_cons, List.length_nil, Nat.reduceAdd, Nat.reduceSub, Array.replicate_succ, Array.replicate_zero, List.push_toArray, List.append_toArray, List.nil_append, List.cons_append]
  refine wpIn_wide.2 ?_
  go_wp2_with (go_at_call 75; refine (lines_any A3 (te - at_) (c - at_) _).mono ?_; rintro e w6 ⟨rfl, rfl⟩)
  obtain ⟨w0, hw0⟩ : ∃ w0, ((w.alloc (.cells #[.slice A n c] 28)).alloc (.cells #[.string (str nm), .int .i64 (fr : Int), .int .i64 (te : Int), .int .i64 (at_ : Int)] 67)).alloc (.cells #[.pointer none, .slice none 0 0] 137) = w0 := ⟨_, rfl⟩
  have hs0 : w0.heap.size = w.heap.size + 1 + 1 + 1 := by rw [← hw0]; simp
  have B0 : Below w.heap.size w w0 := by rw [← hw0]; exact (((Below.refl _ w).alloc (Nat.le_refl _) _).alloc (by simp) _).alloc (by simp; omega) _
  have X0 : Boxed w0 w.heap.size 28 (.slice A n c) := by rw [← hw0]; exact ((Boxed.new w _ _).alloc _).alloc _
  have X1 : LaidF w0 (w.heap.size + 1) #[.string (str nm), .int .i64 (fr : Int), .int .i64 (te : Int), .int .i64 (at_ : Int)] 67 (0, 0) := by
    rw [← hw0]
    have h := heap_alloc_new (w.alloc (.cells #[.slice A n c] 28)) (.cells #[.string (str nm), .int .i64 (fr : Int), .int .i64 (te : Int), .int .i64 (at_ : Int)] 67)
    rw [World.size_alloc] at h
    exact (((Below.refl _ _).alloc (Nat.le_refl _) _).block _ (lt_of_heap h)).trans h
  have X2 : BldAt w.heap.size (w.heap.size + 1 + 1) [] w0 := by
    rw [← hw0]
    have h := bld_new ((w.alloc (.cells #[.slice A n c] 28)).alloc (.cells #[.string (str nm), .int .i64 (fr : Int), .int .i64 (te : Int), .int .i64 (at_ : Int)] 67))
    rw [World.size_alloc, World.size_alloc] at h
    exact bld_low h (by omega)
  have B1 : Below w.heap.size w (w0.alloc (.cells #[.slice A3 (te - at_) (c - at_)] 28)) := B0.alloc B0.size _
  have BX : Boxed (w0.alloc (.cells #[.slice A3 (te - at_) (c - at_)] 28)) (w.heap.size + 1 + 1 + 1) 28 (.slice A3 (te - at_) (c - at_)) := by
    have := Boxed.new w0 28 (.slice A3 (te - at_) (c - at_))
    rwa [hs0] at this
  have BA : Below w0.heap.size w0 (w0.alloc (.cells #[.slice A3 (te - at_) (c - at_)] 28)) := (Below.refl _ _).alloc (Nat.le_refl _) _
  have HWR := hid (show ∀ (pre : List (Pr (te - at_))) (x : Pr (te - at_)), wrote l3 (pre ++ [x]) = wrote l3 pre ++ chop (lineL l3 x.val) from fun pre x => wrote_snoc l3 pre x)
  have HL3 : Hid (l3.length ≤ 100000) := hid (by omega)
  have HN3 := hid hl3n
  have HPL : Hid ((posL l3).length ≤ 100000) := hid (by
    have h1 := cutL_len l3
    have h2 : (posL l3).length = (cutL l3).length := by rw [← lines_of, List.length_map]
    omega)
  clear hA3 hl3n
  rw [hw0]
  refine (wpIn_wide (n := 8)).1 ?_
  refine wpIn_rangeFunc_ownG rfl (by omega) (gf := 102) (lb := #[.pointer (some ⟨w.heap.size + 1 + 1 + 1, 0, none⟩)]) rfl trivial (enters_of Tryz.func102 (by kernel_rfl) rfl)
    (lines_stops (8 - 1) (by omega) (w.heap.size + 1 + 1 + 1) l3 A3 (te - at_) (c - at_) w HO3.out (by omega) (by omega) _ B1 BX.cell (by simp [hs0])) kpf_t (kpf_b (by simp; omega) (by simp [hs0])) (Below.refl _ _) (fun _ => rfl)
    (fun (pre : List (Pr (te - at_))) W => ((Boxed W w.heap.size 28 (.slice A n c) ∧ LaidF W (w.heap.size + 1) #[.string (str nm), .int .i64 (fr : Int), .int .i64 (te : Int), .int .i64 (at_ : Int)] 67 (0, 0)) ∧ (BldAt w.heap.size (w.heap.size + 1 + 1) (wrote l3 pre) W ∧ Boxed W (w.heap.size + 1 + 1 + 1) 28 (.slice A3 (te - at_) (c - at_)))) ∧ Below w.heap.size w W)
    (fun c' (pre : List (Pr (te - at_))) W => False)
    (OwnFrom.and (OwnFrom.and (OwnFrom.and (Own.from (boxed_own _ _ (fun _ => .slice A n c)) _) (Own.from (laidF_own _ _ _ _) _)) (OwnFrom.and (Own.from (bld_own _ _ (fun (pre : List (Pr (te - at_))) => wrote l3 pre)) _) (Own.from (boxed_own _ _ (fun _ => .slice A3 (te - at_) (c - at_))) _))) (ownFrom_below (Nat.le_refl _) (by simp [hs0]; omega)))
    (fun _ _ _ _ _ hs _ _ => hs)
    ⟨⟨⟨X0.alloc _, (BA.block _ (lt_of_heap X1)).trans X1⟩, bld_keep X2 BA, BX⟩, B1⟩
    ?a1 ?assign ?body ?done ?stop
  case a1 => exact (fun x => { tmps := #[.slice A n c, .agg #[.string (str nm), .int .i64 (fr : Int), .int .i64 (te : Int), .int .i64 (at_ : Int)], .pointer (some ⟨w.heap.size, 0, none⟩), .pointer (some ⟨w.heap.size + 1, 0, none⟩), .string ⟨#[]⟩, .pointer (some ⟨w.heap.size + 1 + 1, 0, none⟩), I64 x.val.1, I64 x.val.2, undef, .slice A n c, .pointer (some ⟨w.heap.size + 1, 3, none⟩), .int .i64 (at_ : Int), .pointer (some ⟨w.heap.size + 1, 2, none⟩), .int .i64 (te : Int), .slice A3 (te - at_) (c - at_), .func (.func 102) #[] #[.pointer (some ⟨w.heap.size + 1 + 1 + 1, 0, none⟩)], I64 x.val.1, I64 x.val.2, undef, undef, undef, undef, undef, undef, undef, undef, undef, undef, undef, undef, undef, undef, undef, undef, undef, undef, undef, undef, undef, undef, undef, undef, undef, undef, undef, undef, undef, undef, undef, undef, undef, undef, undef, undef], defers := [] })
  case assign =>
    intro lq x W K hK
    dsimp only [I64, prV] at hK ⊢
    gi_wp2
    exact hK
  case body =>
    rintro lq pre ⟨⟨i, j⟩, hij⟩ W ⟨⟨⟨x0, x1⟩, x2, x3⟩, hB⟩ hlt
    dsimp only [I64]
    have c0 := x0.cell
    have c1 := cell_of_row W (w.heap.size + 1) 2 _ _ _ x1
    have c2 := cell_of_row W (w.heap.size + 1) 3 _ _ _ x1
    obtain ⟨b, off, rfl, -⟩ := (HO.out.below hB).at_ (by omega)
    have hij1 : i < j := hij.1
    have hij2 : j ≤ te - at_ := hij.2
    obtain ⟨p, hp⟩ : ∃ p, at_ + i = p := ⟨_, rfl⟩
    obtain ⟨q, hq⟩ : ∃ q, at_ + j = q + 1 := ⟨at_ + j - 1, by omega⟩
    have HM := hid (oct_mid (HO.out.below hB) p (q + 1) (by omega) (by omega))
    have HX : Hid (lineL l (p, q + 1) = lineL l3 (i, j)) := hid (by rw [← HLN.out, lineL_sub l at_ te i j (by omega) (by omega), hp, hq])
    rw [HX.out] at HM
    have HWX := hid (HWR.out pre ⟨(i, j), hij⟩)
    dsimp only at HWX
    obtain ⟨x, hx⟩ : ∃ x, lineL l3 (i, j) = x := ⟨_, rfl⟩
    rw [hx] at HM HWX
    have hxl : x.length = q + 1 - p := HM.out.1
    have hpq : p < q + 1 := by omega
    have hqt : q + 1 ≤ te := by omega
    have hW3 : (wrote l3 pre).length ≤ 10000000000 := by
      have h1 := wrote_len l3 HL3.out pre
      have h2 := HPL.out
      have h3 : pre.length * 100000 ≤ 100000 * 100000 := Nat.mul_le_mul_right _ (by omega)
      omega
    obtain ⟨wr, hwr⟩ : ∃ wr, wrote l3 pre = wr := ⟨_, rfl⟩
    rw [hwr] at HWX hW3 x2
    obtain ⟨y, z, hyz⟩ : ∃ y z, x = y ++ [z] := by
      rcases List.eq_nil_or_concat x with h | ⟨y, c, h⟩
      · rw [h] at hxl; simp at hxl; omega
      · exact ⟨y, c, by rw [h, List.concat_eq_append]⟩
    have z0 : W.cell? ⟨b, off + q, none⟩ = some (.int .u8 (z.toNat : Int)) := by
      obtain ⟨b', off', h1, h2⟩ := HM.out.at_ (by omega)
      injection h1 with h1
      injection h1 with h3 h4
      subst h3 h4
      have h5 : q - p < x.length := by omega
      have h6 := h2 (q - p) h5
      rw [show off + p + (q - p) = off + q by omega] at h6
      rw [h6]
      have h7 : x[q - p]'h5 = z := by
        subst hyz
        rw [List.getElem_append_right (by simp at hxl; omega)]
        simp
      rw [h7]
    have kc : (convert 28 9 (.slice (some ⟨b, off + p, none⟩) (q + 1 - p) (c - p))).run Tryz.prog W = .ok (.string (str x)) W := run_string_oct (c - p) HM.out Tryz.underlying28 Tryz.underlying5 Tryz.underlying9
    have i1 : (at_ : Int) + (i : Int) = (p : Int) := by omega
    have i2 : (at_ : Int) + (j : Int) = (q : Int) + 1 := by omega
    have i3 : (0 : Int) ≤ (p : Int) := by omega
    have i4 : (p : Int) ≤ (q : Int) + 1 := by omega
    have i5 : (q : Int) + 1 ≤ (c : Int) := by have := HNC.out; omega
    have i6 : (p : Int).toNat = p := by omega
    have i7 : ((q : Int) + 1).toNat = q + 1 := by omega
    have i8 : ¬ c = p := by have := HNC.out; omega
    have i9 : (0 : Int) ≤ (q : Int) := by omega
    have i10 : (q : Int) < (n : Int) := by omega
    have i11 : (q : Int).toNat = q := by omega
    have i12 : decide ((q : Int) + 1 ≤ (te : Int)) = true := by simp; omega
    have i13 : (q : Int) ≤ 100000 := by omega
    have HS1 := hid (fun X => suffix_any x 10 X (by omega))
    have hol1 := off1_len x 10
    have HS2 := hid (fun X => suffix_any (off1 x 10) 13 X (by omega))
    have hol2 := off1_len (off1 x 10) 13
    have HBX := hid x2
    have HB := hid hB
    have HX0 := hid x0
    have HX1 := hid x1
    have HX3 := hid x3
    have HHX := hid hx
    have hch := chop_off x
    have hlast : (x.getLast? = some 10) ↔ z.toNat = 10 := by
      rw [hyz, List.getLast?_concat]
      constructor
      · intro e; injection e with e; rw [e]; rfl
      · intro e; rw [UInt8.toNat_inj.1 (show z.toNat = (10 : UInt8).toNat from e)]
    have HFIN : Hid (∀ (u : List UInt8) (w2 : World), chop x = u → BldAt w.heap.size (w.heap.size + 1 + 1) (wr ++ u) w2 → Below w.heap.size W w2 → KeptB (w.heap.size + 1 + 1) W w2 →
        KeepsOthers W w2 ∧ KpF w.heap.size (w.heap.size + 1 + 1 + 1) W w2 ∧ ((Boxed w2 w.heap.size 28 (.slice (some ⟨b, off, none⟩) n c) ∧ LaidF w2 (w.heap.size + 1) #[.string (str nm), .int .i64 (fr : Int), .int .i64 (te : Int), .int .i64 (at_ : Int)] 67 (0, 0)) ∧ (BldAt w.heap.size (w.heap.size + 1 + 1) (wr ++ chop x) w2 ∧ Boxed w2 (w.heap.size + 1 + 1 + 1) 28 (.slice A3 (te - at_) (c - at_)))) ∧ Below w.heap.size w w2) := hid (fun u w2 hu h1 h2 h3 => by
      have k0 := h3.2 w.heap.size 28 _ (by decide) (by omega) HX0.out
      have k1 := h3.2 (w.heap.size + 1) 67 _ (by decide) (by omega) HX1.out
      have k3 := h3.2 (w.heap.size + 1 + 1 + 1) 28 _ (by decide) (by omega) HX3.out
      refine ⟨h3.1, kpf_of h2 (k3.trans (Eq.symm HX3.out)), ⟨⟨k0, k1⟩, ?_, k3⟩, HB.out.trans h2⟩
      rw [hu]
      exact h1)
    have hbs : w.heap.size ≤ W.heap.size := hB.size
    have hxm : x.length ≤ 100001 := by omega
    clear hp hq hx hxl hyz hwr HX HM hij1 hij2 hB
    by_cases h10 : z.toNat = 10
    · rw [if_pos (hlast.2 h10)] at hch
      have HCH := hid hch
      have q1 : ((z.toNat : Int) == 10) = true := by rw [h10]; rfl
      have q1' : (z.toNat == 10) = true := by rw [h10]; rfl
      have HWS := hid (writeStr_any w.heap.size (w.heap.size + 1 + 1) wr (off1 (off1 x 10) 13) W HBX.out (by omega) hbs)
      clear hch hlast h10 x2
      gi_wp2_with (first
        | (refine ⟨trivial, ?_⟩; gi_at_call 93; refine (callsIn_wide.2 (HS1.out _)).mono ?_; rintro e w3 ⟨rfl, rfl⟩; clear HS1)
        | (refine ⟨trivial, ?_⟩; gi_at_call 93; refine (callsIn_wide.2 (HS2.out _)).mono ?_; rintro e w3 ⟨rfl, rfl⟩; clear HS2)
        | (refine ⟨trivial, ?_⟩; gi_at_call 109; refine (callsIn_wide.2 HWS.out).mono ?_; rintro e w4 ⟨⟨v, rfl⟩, h1, h2, h3⟩; have HE := hid (HFIN.out _ _ HCH.out h1 h2 h3); clear h1 h2 h3))
      refine ⟨HE.out.1.from _, HE.out.2.1, ?_⟩
      dsimp only
      rw [HWX.out]
      exact HE.out.2.2
    · rw [if_neg (fun e => h10 (hlast.1 e))] at hch
      have HCH := hid hch
      have q1 : ((z.toNat : Int) == 10) = false := ne_f h10
      have q1' := ne_n h10
      have HWS := hid (writeStr_any w.heap.size (w.heap.size + 1 + 1) wr (off1 x 10) W HBX.out (by omega) hbs)
      clear hch hlast h10 x2
      gi_wp2_with (first
        | (refine ⟨trivial, ?_⟩; gi_at_call 93; refine (callsIn_wide.2 (HS1.out _)).mono ?_; rintro e w3 ⟨rfl, rfl⟩; clear HS1)
        | (refine ⟨trivial, ?_⟩; gi_at_call 109; refine (callsIn_wide.2 HWS.out).mono ?_; rintro e w4 ⟨⟨v, rfl⟩, h1, h2, h3⟩; have HE := hid (HFIN.out _ _ HCH.out h1 h2 h3); clear h1 h2 h3))
      refine ⟨HE.out.1.from _, HE.out.2.1, ?_⟩
      dsimp only
      rw [HWX.out]
      exact HE.out.2.2
  case done =>
    rintro D q W hD hys ⟨⟨⟨x0, x1⟩, x2, x3⟩, hB⟩ hK
    have HF : Hid (fdText l ⟨nm, fr, te, at_⟩ = trimB (wrote l3 q)) := hid (by rw [HT.out, wrote_all l3 q hys])
    obtain ⟨u, hu⟩ : ∃ u, wrote l3 q = u := ⟨_, rfl⟩
    have hul : u.length ≤ 100000000000 := by
      have h1 := wrote_len l3 HL3.out q
      have h2 := HPL.out
      have h3 : q.length = (posL l3).length := by rw [← hys, List.length_map]
      have h4 : q.length * 100000 ≤ 100000 * 100000 := Nat.mul_le_mul_right _ (by omega)
      rw [hu] at h1
      omega
    rw [hu] at x2 HF
    have HST := hid (string_k w.heap.size (w.heap.size + 1 + 1) u W x2 hB.size)
    have HTM := hid (fun X => trim_any u X hul)
    have HK := hid hK
    have HB := hid hB
    have HDD : Hid (D ≠ w.heap.size + 1 + 1 ∧ w.heap.size ≤ D) := hid (by simp [hs0] at hD; omega)
    clear hK hB hu
    go_wp2_with (first
      | (go_at_call 111; refine HST.out.mono ?_; rintro e w3 ⟨rfl, hb3, hk3⟩; have HB3 := hid (HB.out.trans hb3); have HK3 := hid (hk3 _ _ HK.out (fun e => HDD.out.1 (by injection e)) (fun _ _ e => by cases e)); clear hb3 hk3)
      | (go_at_call 110; refine (HTM.out _).mono ?_; rintro e w4 ⟨rfl, hb4⟩; have HB4 := hid (past HB3.out hb4); have HK4 := hid ((hb4.block D (lt_of_heap HK3.out)).trans HK3.out); clear hb4))
    refine ⟨by simp, .inl ⟨_, _, rfl, run_takeDeferred HK4.out, ?_⟩⟩
    refine ⟨_, results_tmp rfl _ _ _, ?_, HB4.out.trans (belowK_b (w := w) (Nat.le_refl _) _ D _ (.deferred none) HDD.out.2 HK4.out rfl rfl)⟩
    rw [HF.out]
    rfl
  case stop =>
    rintro D c' pre W hD hSp hf hK
    exact hf.elim
end Go.Proofs.YtonjadmldgloaaaGreatDoor.D17
