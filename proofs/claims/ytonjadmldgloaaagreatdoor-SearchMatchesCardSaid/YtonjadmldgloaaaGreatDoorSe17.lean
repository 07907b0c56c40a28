/-
  No more of a key than is looked at. A part of the proof: see the head of the text that ends in 'Law'.
-/
import Derived.Test.YtonjadmldgloaaaGreatDoorSe18
namespace Go.Proofs.YtonjadmldgloaaaGreatDoor
open Go.RowKit Go.Shelf
set_option linter.unusedVariables false
set_option maxRecDepth 100000
attribute [local go_sem] Oper.semAt_some

/-- Where a key's rows lie, and those of the keys within it. -/
inductive KeyBl (B : Nat → Prop) : KeyT → Prop
  | mk (k : KeyT) (sa : ∀ a, k.sp ≠ [] → k.SA = some a → B a.block) (la : ∀ a, k.l ≠ [] → k.LA = some a → B a.block) (ch : ∀ x ∈ k.l, KeyBl B x) : KeyBl B k
theorem KeyBl.sa {B : Nat → Prop} {k : KeyT} (h : KeyBl B k) : ∀ a, k.sp ≠ [] → k.SA = some a → B a.block := by
  cases h with
  | mk _ sa _ _ => exact sa
theorem KeyBl.la {B : Nat → Prop} {k : KeyT} (h : KeyBl B k) : ∀ a, k.l ≠ [] → k.LA = some a → B a.block := by
  cases h with
  | mk _ _ la _ => exact la
theorem KeyBl.ch {B : Nat → Prop} {k : KeyT} (h : KeyBl B k) : ∀ x ∈ k.l, KeyBl B x := by
  cases h with
  | mk _ _ _ ch => exact ch
theorem KeyBl.imp {B C : Nat → Prop} (hc : ∀ b, B b → C b) {k : KeyT} (h : KeyBl B k) : KeyBl C k := by
  induction h with
  | mk k sa la ch ih => exact .mk k (fun a h1 h2 => hc _ (sa a h1 h2)) (fun a h1 h2 => hc _ (la a h1 h2)) ih
/-- A key's rows lie in memory. -/
theorem KeyIn.bl {w : World} {m : Nat} {k : KeyT} (h : KeyIn w m k) : KeyBl (fun b => b < w.heap.size) k := by
  induction h with
  | mk k ok ch ih =>
    refine .mk k (fun a h1 h2 => ?_) (fun a h1 h2 => ?_) ih
    · obtain ⟨b, off, hA, hc⟩ := span_at ok.sr (k := 0) (List.length_pos_iff.mpr h1)
      obtain rfl := Option.some.inj (h2.symm.trans hA)
      exact World.block_lt_of_cell? w _ (hc 0 (List.length_pos_iff.mpr h1)).1
    · obtain ⟨b, off, hA, hc⟩ := key_at ok.lr (k := 0) (List.length_pos_iff.mpr h1)
      obtain rfl := Option.some.inj (h2.symm.trans hA)
      exact World.block_lt_of_cell? w _ (hc 0 (List.length_pos_iff.mpr h1)).1
theorem KeyBl.and {B C : Nat → Prop} {k : KeyT} (h : KeyBl B k) (h2 : KeyBl C k) : KeyBl (fun b => B b ∧ C b) k := by
  induction h with
  | mk k sa la ch ih => exact .mk k (fun a e1 e2 => ⟨sa a e1 e2, h2.sa a e1 e2⟩) (fun a e1 e2 => ⟨la a e1 e2, h2.la a e1 e2⟩) (fun x hx => ih x hx (h2.ch x hx))
/-- A key stays where nothing but blocks of T is changed, and its rows lie in none of these. -/
theorem KeyIn.only {T : Nat → Prop} {w w' : World} (hO : Only T w w') {m : Nat} {k : KeyT} (h : KeyIn w m k) (hb : KeyBl (fun b => ¬ T b) k) : KeyIn w' m k := by
  induction h with
  | mk k ok ch ih =>
    refine .mk k ⟨ok.kind, ok.n, ok.s, ok.t, ok.sl, ok.sm, ok.sc, ?_, ok.s64, ok.ll, ok.lm, ok.lc, ?_⟩ (fun x hx => ih x hx (hb.ch x hx))
    · by_cases h1 : k.sp = []
      · rw [h1]; exact fun h => absurd rfl h
      · exact row_only ok.sr hO (fun a ha => hb.sa a h1 ha)
    · by_cases h1 : k.l = []
      · rw [h1]; exact fun h => absurd rfl h
      · exact row_only ok.lr hO (fun a ha => hb.la a h1 ha)
/-- What lies in memory while a key is cut. -/
structure CutS (w0 W : World) (k : KeyT) : Prop where
  box : OwnE W w0.heap.size 37 (keyC k)
  res : OwnE W (w0.heap.size + 1) 37 [.int .i64 0, .string ⟨#[]⟩, .string ⟨#[]⟩, .int .i64 0, .slice none 0 0, .slice none 0 0]
  b : Below w0.heap.size w0 W
theorem CutS.below {w0 W X : World} {k : KeyT} (m : CutS w0 W k) (b : Below W.heap.size W X) : CutS w0 X k := ⟨m.box.below b, m.res.below b, past m.b b⟩
theorem cs_start (w : World) (k : KeyT) : CutS w ((w.alloc (.cells (keyC k).toArray 37)).alloc (.cells #[.int .i64 0, .string ⟨#[]⟩, .string ⟨#[]⟩, .int .i64 0, .slice none 0 0, .slice none 0 0] 37)) k := by
  have a1 : Below w.heap.size w (w.alloc (.cells (keyC k).toArray 37)) := (Below.refl _ _).alloc (Nat.le_refl _) _
  have a2 := a1.alloc a1.size (.cells #[.int .i64 0, .string ⟨#[]⟩, .string ⟨#[]⟩, .int .i64 0, .slice none 0 0, .slice none 0 0] 37)
  refine ⟨(OwnE.new_ w (keyC k) 37).below ((Below.refl _ _).alloc (Nat.le_refl _) _), ?_, a2⟩
  have := OwnE.new_ (w.alloc (.cells (keyC k).toArray 37)) [.int .i64 0, .string ⟨#[]⟩, .string ⟨#[]⟩, .int .i64 0, .slice none 0 0, .slice none 0 0] 37
  rw [World.size_alloc] at this
  exact this
/-- A key is cut, so deep: what comes is a key, no longer than is looked at; its rows lie where the given ones do, or are new. -/
def Cut (f : Nat) : Prop := ∀ (k : KeyT) (L D h : Nat) (w : World), KeyIn w maxLen k → KeyBl (fun b => b < h) k → h ≤ w.heap.size → D + f = 12 → 1 ≤ L → L ≤ 80 →
  Calls Tryz.prog 20 #[.agg (keyC k).toArray, .int .i64 (L : Int), .int .i64 (D : Int)] w fun e w' => ∃ (k' : KeyT) (n : Nat), e = .returned (.tuple #[.agg (keyC k').toArray, .int .i64 (n : Int)]) ∧ n + 1 ≤ L ∧ KeyIn w' 100 k' ∧ KeyBl (fun b => b < h ∨ w.heap.size ≤ b) k' ∧ Below w.heap.size w w'
/-- The key with its own texts and spans cut. -/
def cutK (k : KeyT) (q : Nat) : KeyT := { k with s := k.s.take 60, t := k.t.take 60, sn := q, sp := k.sp.take 66 }
theorem ct_sets {w0 W : World} {k : KeyT} (m : CutS w0 W k) (q : Nat) : CutS w0 (((W.setCell ⟨w0.heap.size, 1, none⟩ (.string (str (k.s.take 60)))).setCell ⟨w0.heap.size, 2, none⟩ (.string (str (k.t.take 60)))).setCell ⟨w0.heap.size, 4, none⟩ (.slice k.SA q k.sc)).drew (cutK k q) := by
  have b1 : Below w0.heap.size w0 (((W.setCell ⟨w0.heap.size, 1, none⟩ (.string (str (k.s.take 60)))).setCell ⟨w0.heap.size, 2, none⟩ (.string (str (k.t.take 60)))).setCell ⟨w0.heap.size, 4, none⟩ (.slice k.SA q k.sc)) := ((m.b.setCell (Nat.le_refl _) _).setCell (Nat.le_refl _) _).setCell (Nat.le_refl _) _
  exact ⟨((m.box.set 1 _).set 2 _).set 4 _, ((m.res.far (by omega) _).far (by omega) _).far (by omega) _, bq b1 1⟩
theorem keyS : SliceT Tryz.prog 35 37 (.agg #[.int .i64 0, .string ⟨#[]⟩, .string ⟨#[]⟩, .int .i64 0, .slice none 0 0, .slice none 0 0]) 6 96 := ⟨Tryz.underlying35, by kernel_rfl, rfl, by decide⟩
/-- The keys that are taken over, so far. -/
structure CutL (w0 W : World) (h : Nat) (k : KeyT) (A1 : Option Addr) (j c1 : Nat) (xs : List KeyT) : Prop where
  s : CutS w0 W k
  own : W.ownsRow (w0.heap.size + 2) 37 6 (.slice A1 j c1) j (xs.flatMap keyC)
  len : xs.length = j
  ki : ∀ x ∈ xs, KeyIn W 100 x
  bl : ∀ x ∈ xs, KeyBl (fun b => b < h ∨ (w0.heap.size + 2 ≤ b ∧ b < W.heap.size ∧ (Value.slice A1 j c1).ownBlock ≠ some b)) x
theorem CutL.start {w0 W : World} {h : Nat} {k : KeyT} (m : CutS w0 W k) : CutL w0 W h k none 0 0 [] := ⟨m, World.ownsRow_nil _ _ _ _, rfl, fun x hx => (by cases hx), fun x hx => (by cases hx)⟩
theorem CutL.below {w0 W X : World} {h : Nat} {k : KeyT} {A1 : Option Addr} {j c1 : Nat} {xs : List KeyT} (m : CutL w0 W h k A1 j c1 xs) (b : Below W.heap.size W X) : CutL w0 X h k A1 j c1 xs :=
  ⟨m.s.below b, own_below m.own b, m.len, fun x hx => (m.ki x hx).on b, fun x hx => (m.bl x hx).imp (fun c hc => by
    rcases hc with hc | ⟨h1, h2, h3⟩
    · exact .inl hc
    · exact .inr ⟨h1, Nat.lt_of_lt_of_le h2 b.size, h3⟩)⟩
theorem CutL.push {w0 W w3 : World} {h : Nat} {k : KeyT} {A1 A3 : Option Addr} {j c1 c3 : Nat} {xs : List KeyT} (m : CutL w0 W h k A1 j c1 xs) (hh : h ≤ w0.heap.size) (x : KeyT) (hx : KeyIn W 100 x)
    (hb : KeyBl (fun b => b < h ∨ (w0.heap.size + 2 ≤ b ∧ b < W.heap.size ∧ (Value.slice A1 j c1).ownBlock ≠ some b)) x)
    (ho : w3.ownsRow (w0.heap.size + 2) 37 6 (.slice A3 (j + 1) c3) (j + 1) (xs.flatMap keyC ++ keyC x)) (hg : W.grownBy w3 (Value.slice A1 j c1).ownBlock)
    (ha : (Value.slice A3 (j + 1) c3).ownBlock = (Value.slice A1 j c1).ownBlock ∨ (Value.slice A3 (j + 1) c3).ownBlock = some W.heap.size) : CutL w0 w3 h k A3 (j + 1) c3 (xs ++ [x]) := by
  have hO : Only (fun b => (Value.slice A1 j c1).ownBlock = some b) W w3 := Only.of_grown hg (fun g e => e)
  have base := own_base m.own
  have keep : ∀ y, KeyIn W 100 y → KeyBl (fun b => b < h ∨ (w0.heap.size + 2 ≤ b ∧ b < W.heap.size ∧ (Value.slice A1 j c1).ownBlock ≠ some b)) y → KeyIn w3 100 y := fun y h1 h2 => h1.only hO (h2.imp (fun c hc e => by
    rcases hc with hc | ⟨_, _, h3⟩
    · have := base c e
      omega
    · exact h3 e))
  have lies : ∀ y, KeyBl (fun b => b < h ∨ (w0.heap.size + 2 ≤ b ∧ b < W.heap.size ∧ (Value.slice A1 j c1).ownBlock ≠ some b)) y → KeyBl (fun b => b < h ∨ (w0.heap.size + 2 ≤ b ∧ b < w3.heap.size ∧ (Value.slice A3 (j + 1) c3).ownBlock ≠ some b)) y := fun y h2 => h2.imp (fun c hc => by
    rcases hc with hc | ⟨h1, h2, h3⟩
    · exact .inl hc
    · refine .inr ⟨h1, Nat.lt_of_lt_of_le h2 hO.size, fun e => ?_⟩
      rcases ha with ha | ha
      · exact h3 (ha ▸ e)
      · rw [ha] at e
        injection e with e
        omega)
  refine ⟨⟨m.s.box.grown hg (fun e => by have := base _ e; omega), m.s.res.grown hg (fun e => by have := base _ e; omega), m.s.b.grown hg m.s.b.size (fun c e => by have := base c e; omega)⟩, ?_, ?_, ?_, ?_⟩
  · have e : (xs ++ [x]).flatMap keyC = xs.flatMap keyC ++ keyC x := by simp
    rw [e]
    exact ho
  · rw [List.length_append, m.len]
    rfl
  · intro y hy
    rcases List.mem_append.1 hy with hy | hy
    · exact keep y (m.ki y hy) (m.bl y hy)
    · rw [List.mem_singleton.1 hy]
      exact keep x hx hb
  · intro y hy
    rcases List.mem_append.1 hy with hy | hy
    · exact lies y (m.bl y hy)
    · rw [List.mem_singleton.1 hy]
      exact lies x hb
/-- The beginning of a row. -/
theorem row_front {w : World} {A : Option Addr} {xs ys : List Value} (h : Row w A (xs ++ ys)) : Row w A xs := fun hne => by
  obtain ⟨b, off, hA, hc⟩ := h (by intro e; exact hne (List.append_eq_nil_iff.1 e).1)
  refine ⟨b, off, hA, fun j v hv => hc j v ?_⟩
  rw [List.getElem?_append_left (List.getElem?_eq_some_iff.1 hv).1]
  exact hv
theorem row_take {w : World} {A : Option Addr} {α : Type} {f : α → List Value} {l : List α} (h : Row w A (l.flatMap f)) (m : Nat) : Row w A ((l.take m).flatMap f) := by
  refine row_front (ys := (l.drop m).flatMap f) ?_
  rw [← List.flatMap_append, List.take_append_drop]
  exact h
theorem CutL.done {w0 W F : World} {h : Nat} {k : KeyT} {q : Nat} {A1 : Option Addr} {j c1 : Nat} {xs : List KeyT} (m : CutL w0 W h (cutK k q) A1 j c1 xs) (hq : (if k.sn ≤ 66 then k.sn else 66) = q) (hj : j ≤ 100) (KI : KeyIn w0 maxLen k) (KB : KeyBl (fun b => b < h) k) (hh : h ≤ w0.heap.size)
    (hO : Only (fun b => b = w0.heap.size ∨ b = w0.heap.size + 1) W F) :
    KeyIn F 100 ⟨k.kind, k.s.take 60, k.t.take 60, k.n, k.SA, q, k.sc, k.sp.take 66, A1, j, c1, xs⟩ ∧ KeyBl (fun b => b < h ∨ w0.heap.size ≤ b) ⟨k.kind, k.s.take 60, k.t.take 60, k.n, k.SA, q, k.sc, k.sp.take 66, A1, j, c1, xs⟩ ∧ Below w0.heap.size w0 F := by
  have bb : Below w0.heap.size w0 F := m.s.b.trans (hO.below m.s.b.size (fun g hg => by rcases hg with hg | hg <;> omega))
  have base := own_base m.own
  have hsl := KI.ok.sl
  have hsc := KI.ok.sc
  have hq1 : q ≤ 66 ∧ q ≤ k.sn ∧ min 66 k.sn = q := by split at hq <;> omega
  refine ⟨.mk _ ⟨KI.ok.kind, KI.ok.n, ?_, ?_, ?_, ?_, ?_, ?_, ?_, m.len, hj, (own_cap m.own).1, ?_⟩ ?_, .mk _ ?_ ?_ ?_, bb⟩
  · show (k.s.take 60).length ≤ 100
    rw [List.length_take]; omega
  · show (k.t.take 60).length ≤ 100
    rw [List.length_take]; omega
  · show (k.sp.take 66).length = q
    rw [List.length_take, hsl]; exact hq1.2.2
  · show q ≤ 100
    omega
  · show q ≤ k.sc
    omega
  · exact row_take (KI.ok.sr.below bb) 66
  · intro p hp
    exact KI.ok.s64 p (List.mem_of_mem_take hp)
  · refine Row.of_own (own_only m.own hO (fun g hg => ?_))
    have := base g hg
    rintro (e | e) <;> omega
  · intro x hx
    refine (m.ki x hx).only hO ((m.bl x hx).imp (fun c hc => ?_))
    rintro (e | e) <;> rcases hc with hc | ⟨h1, _, _⟩ <;> omega
  · intro a h1 h2
    refine .inl (KB.sa a (fun e => h1 ?_) h2)
    show k.sp.take 66 = []
    rw [e]; rfl
  · intro a h1 h2
    have h3 : A1 = some a := h2
    have := base a.block (by rw [h3]; rfl)
    exact .inr (by omega)
  · intro x hx
    refine (m.bl x hx).imp (fun c hc => ?_)
    rcases hc with hc | ⟨h1, _, _⟩
    · exact .inl hc
    · exact .inr (by omega)
/-- No more spans than are looked at. -/
theorem lfew25_free (A : Option Addr) (n c : Nat) (w : World) (hc : n ≤ c) :
    Calls Tryz.prog 45 #[.slice A n c] w fun e w' => e = .returned (.slice A (if n ≤ 66 then n else 66) c) ∧ w = w' := by
  by_cases h : n ≤ 66
  · have d1 : decide ((66 : Int) < (n : Int)) = false := by simp; omega
    have d1' : decide (66 < n) = false := by simp; omega
    rw [if_pos h]
    go_enter Tryz.func45, Tryz.ntmps45
    go_wp2_with fail
    go_ret
    exact ⟨rfl, rfl⟩
  · have d1 : decide ((66 : Int) < (n : Int)) = true := by simp; omega
    have d1' : decide (66 < n) = true := by simp; omega
    have c1 : (66 : Int) ≤ (c : Int) := by omega
    have c2 : ¬ c = 0 := by omega
    have c3 : 66 ≤ c := by omega
    rw [if_neg h]
    go_enter Tryz.func45, Tryz.ntmps45
    go_wp2_with fail
    go_ret
    exact ⟨by simp, rfl⟩
set_option maxHeartbeats 16000000 in
theorem cut_step (f : Nat) (ih : ∀ g, f = g + 1 → Cut g) : Cut f := by
  intro k L D h w hk hb hh hD hL1 hL2
  have IH := hid ih
  have KI := hid hk
  have KB := hid hb
  have HS := hid (cs_start w k)
  have HF := hid few_any
  obtain ⟨kind, s, t, n, SA, sn, sc, sp, LA, ln, lc, l⟩ := k
  have hfw := fun X => lfew25_free SA sn sc X hk.ok.sc
  obtain ⟨sq, hsq⟩ : ∃ q, (if sn ≤ 66 then sn else 66) = q := ⟨_, rfl⟩
  rw [hsq] at hfw
  have HFW := hid hfw
  have HSQ := hid hsq
  clear hsq hfw
  clear ih hk hb
  show Calls Tryz.prog 20 #[.agg #[.int .i64 kind, .string (str s), .string (str t), .int .i64 n, .slice SA sn sc, .slice LA ln lc], .int .i64 (L : Int), .int .i64 (D : Int)] w fun e w' => ∃ (k' : KeyT) (n : Nat), e = .returned (.tuple #[.agg (keyC k').toArray, .int .i64 (n : Int)]) ∧ n + 1 ≤ L ∧ KeyIn w' 100 k' ∧ KeyBl (fun b => b < h ∨ w.heap.size ≤ b) k' ∧ Below w.heap.size w w'
  obtain ⟨W3, hW3⟩ : ∃ W3, ((w.alloc (.cells #[.int .i64 kind, .string (str s), .string (str t), .int .i64 n, .slice SA sn sc, .slice LA ln lc] 37)).alloc (.cells #[.int .i64 0, .string ⟨#[]⟩, .string ⟨#[]⟩, .int .i64 0, .slice none 0 0, .slice none 0 0] 37)) = W3 := ⟨_, rfl⟩
  have M : Hid (CutS w W3 ⟨kind, s, t, n, SA, sn, sc, sp, LA, ln, lc, l⟩) := hid (by rw [← hW3]; exact HS.out)
  clear HS
  have y0 := M.out.box.cell (j := 0) rfl
  have y1 := M.out.box.cell (j := 1) rfl
  have y2 := M.out.box.cell (j := 2) rfl
  have y3 := M.out.box.cell (j := 3) rfl
  have y4 := M.out.box.cell (j := 4) rfl
  have y5 := M.out.box.cell (j := 5) rfl
  have n1 := M.out.box.frozen 1
  have n2 := M.out.box.frozen 2
  have n4 := M.out.box.frozen 4
  go_enter Tryz.func20, Tryz.ntmps20
  go_upto_region 1 with fail
  clear hW3
  go_cut [12] (fun a wx => Hid (CutS w wx (cutK ⟨kind, s, t, n, SA, sn, sc, sp, LA, ln, lc, l⟩ sq)))
  case first =>
    have CS := hid (ct_sets M.out sq)
    dsimp only at CS
    clear IH KI KB HSQ
    go_region_with (first
      | (go_at_call 16; refine (HF.out _ _).mono ?_; rintro e w4 ⟨rfl, rfl⟩)
      | (go_at_call 45; refine (HFW.out _).mono ?_; rintro e w4 ⟨rfl, rfl⟩))
    all_goals (go_wp2_with fail; go_meet; exact CS)
  case rest =>
  have M2 := hcut
  clear y0 y1 y2 y3 y4 y5 n1 n2 n4 M HF HFW
  rename World => X
  have wl : IntKind.i64.wrap ((L : Int) - 1) = ((L - 1 : Nat) : Int) := by rw [IntKind.wrap_i64]; omega
  obtain ⟨l0, hl0⟩ : ∃ l0, L - 1 = l0 := ⟨_, rfl⟩
  rw [hl0] at wl
  have HL0 := hid hl0
  clear hl0
  have HLL : Hid (l.length = ln) := hid KI.out.ok.ll
  go_wp2_with fail
  go_loopw [1, 8, 9] (fun v1 v8 v9 wr => ∃ (j lv : Nat) (A1 : Option Addr) (c1 : Nat), j ≤ ln ∧ j + lv + 1 ≤ L ∧ v1 = .int .i64 (lv : Int) ∧ v8 = .slice A1 j c1 ∧ v9 = .int .i64 (j : Int) ∧ Hid (∃ xs, CutL w wr h (cutK ⟨kind, s, t, n, SA, sn, sc, sp, LA, ln, lc, l⟩ sq) A1 j c1 xs)) (fun v1 v8 v9 wr => ln - (intOf v9).toNat)
  case atStart => exact ⟨0, l0, none, 0, Nat.zero_le _, by have := HL0.out; omega, rfl, rfl, rfl, hid ⟨[], CutL.start M2.out⟩⟩
  case round =>
    clear M2
    obtain ⟨j, lv, A1, c1, hj, hjl, rfl, rfl, rfl, HX⟩ := hrel
    rename World => wr
    obtain ⟨xs, hxs⟩ := HX.out
    have M := hid hxs
    clear hxs HX
    have y5 := M.out.s.box.cell (j := 5) (u := .slice LA ln lc) rfl
    by_cases hlt : j < ln ∧ 0 < lv ∧ D < 12
    · obtain ⟨h1, h2, h3⟩ := hlt
      have q1 : decide ((j : Int) < (ln : Int)) = true := by rw [decide_eq_true_iff]; omega
      have q1' : decide (j < ln) = true := by simpa using h1
      have q2 : decide ((0 : Int) < (lv : Int)) = true := by rw [decide_eq_true_iff]; omega
      have q2' : decide (0 < lv) = true := by simpa using h2
      have q3 : decide ((D : Int) < 12) = true := by rw [decide_eq_true_iff]; omega
      have q3' : decide (D < 12) = true := by simpa using h3
      have i0 : (0 : Int) ≤ (j : Int) := by omega
      have i1 : (j : Int) < (ln : Int) := by omega
      have i2 : (j : Int).toNat = j := by omega
      obtain ⟨dp, hdp⟩ : ∃ dp, D + 1 = dp := ⟨_, rfl⟩
      have jd : IntKind.i64.wrap ((D : Int) + 1) = (dp : Int) := by rw [IntKind.wrap_i64]; omega
      have hjx : j < l.length := by rw [HLL.out]; exact h1
      have hIC := IH.out (f - 1) (by omega)
      obtain ⟨cb, off, hLA, hcc⟩ := key_at (KI.out.ok.lr.below M.out.s.b) hjx
      have hmem : l[j]'hjx ∈ l := List.getElem_mem hjx
      have hc := hcc j hjx
      dsimp only at hLA hc
      obtain ⟨x, hx⟩ : ∃ x, l[j]'hjx = x := ⟨_, rfl⟩
      rw [hx] at hmem hc
      have hIX := hIC x lv dp h wr ((KI.out.ch x hmem).on M.out.s.b) (KB.out.ch x hmem) (Nat.le_trans hh M.out.s.b.size) (by omega) (by omega) (by omega)
      obtain ⟨xk, xs1, xt, xn, xA, xm, xc, xl, xB, xp, xq, xr⟩ := x
      have HIX : Hid (Calls Tryz.prog 20 #[.agg #[.int .i64 xk, .string (str xs1), .string (str xt), .int .i64 xn, .slice xA xm xc, .slice xB xp xq], .int .i64 (lv : Int), .int .i64 (dp : Int)] wr fun e w' => ∃ (k' : KeyT) (n : Nat), e = .returned (.tuple #[.agg #[.int .i64 k'.kind, .string (str k'.s), .string (str k'.t), .int .i64 k'.n, .slice k'.SA k'.sn k'.sc, .slice k'.LA k'.ln k'.lc], .int .i64 (n : Int)]) ∧ n + 1 ≤ lv ∧ KeyIn w' 100 k' ∧ KeyBl (fun b => b < h ∨ wr.heap.size ≤ b) k' ∧ Below wr.heap.size wr w') := hid hIX
      dsimp only at hc
      have c0 := hc.1
      have d1 := hc.2.1
      have d2 := hc.2.2.1
      have d3 := hc.2.2.2.1
      have d4 := hc.2.2.2.2.1
      have d5 := hc.2.2.2.2.2
      subst hLA
      clear hcc hmem hx hIX hc hIC hdp
      go_upto_region 8 with (go_at_call 20; (with_reducible refine HIX.out.mono ?_); rintro e w4 ⟨k', n', he, hn', hk', hb', b4⟩; obtain ⟨ek, es, et, en, eA, em, ec, el, eB, ep, eq, er⟩ := k'; dsimp only at he; subst he; have M4 := hid (M.out.below b4); have K4 := hid hk'; have KB4 := hid hb'; have B4 := hid b4; clear hk' hb' b4 c0 d1 d2 d3 d4 d5 y5 HIX)
      obtain ⟨W5, hW5⟩ : ∃ W5, w4.alloc (.cells #[.int .i64 ek, .string (str es), .string (str et), .int .i64 en, .slice eA em ec, .slice eB ep eq] 37) = W5 := ⟨_, rfl⟩
      simp only [hW5]
      have b5 : Below w4.heap.size w4 W5 := by rw [← hW5]; exact (Below.refl _ _).alloc (Nat.le_refl _) _
      have o5 : OwnE W5 w4.heap.size 37 [.int .i64 ek, .string (str es), .string (str et), .int .i64 en, .slice eA em ec, .slice eB ep eq] := by rw [← hW5]; exact OwnE.new_ w4 _ _
      have b6 : Below W5.heap.size W5 (W5.alloc (.cells #[.int .i64 ek, .string (str es), .string (str et), .int .i64 en, .slice eA em ec, .slice eB ep eq] 37)) := (Below.refl _ _).alloc (Nat.le_refl _) _
      have M5 := hid (M4.out.below b5)
      have HBL := hid ((KB4.out.and K4.out.bl).imp (C := fun b => b < h ∨ (w.heap.size + 2 ≤ b ∧ b < (W5.alloc (.cells #[.int .i64 ek, .string (str es), .string (str et), .int .i64 en, .slice eA em ec, .slice eB ep eq] 37)).heap.size ∧ (Value.slice A1 j c1).ownBlock ≠ some b)) (fun b hb => by
        obtain ⟨hb1, hb2⟩ := hb
        rcases hb1 with hb1 | hb1
        · exact .inl hb1
        · have s1 := M.out.s.res.lt
          have s2 := b5.size
          have s3 := b6.size
          refine .inr ⟨by omega, by omega, fun e => ?_⟩
          have := (own_lt M.out.own b e).2
          omega))
      have HPT := hid (fun (w' : World) (A' : Option Addr) (c' : Nat) h1 h2 h3 => (M5.out.below b6).push (w3 := w') (A3 := A') (c3 := c') hh ⟨ek, es, et, en, eA, em, ec, el, eB, ep, eq, er⟩ ((K4.out.on b5).on b6) HBL.out h1 h2 h3)
      have x0 := o5.cell (j := 0) rfl
      have x1 := o5.cell (j := 1) rfl
      have x2 := o5.cell (j := 2) rfl
      have x3 := o5.cell (j := 3) rfl
      have x4 := o5.cell (j := 4) rfl
      have x5 := o5.cell (j := 5) rfl
      have S5 : Hid (w.heap.size + 2 ≤ W5.heap.size) := hid (by have s1 := M.out.s.res.lt; have s2 := b5.size; have s3 := B4.out.size; omega)
      clear hW5 b5 b6 o5 HBL K4 KB4 M M4
      go_wp2_with (refine wpList_append_row _ rfl (.tmp 54) (.tmp 56) keyS rfl (w.heap.size + 2) (.slice A1 j c1) j (xs.flatMap keyC) rfl (own_below M5.out.own ((Below.refl W5.heap.size W5).alloc (Nat.le_refl _) (.cells #[.int .i64 ek, .string (str es), .string (str et), .int .i64 en, .slice eA em ec, .slice eB ep eq] 37))) (some ⟨W5.heap.size, 0, none⟩) 1 1 (keyC ⟨ek, es, et, en, eA, em, ec, el, eB, ep, eq, er⟩) rfl rfl (Row.of_block (heap_alloc_new W5 (Obj.cells #[.int .i64 ek, .string (str es), .string (str et), .int .i64 en, .slice eA em ec, .slice eB ep eq] 37))) (by simp [keyC, Value.oneCell']) (by simp only [maxLen]; omega) (by omega) (by simp; have := S5.out; omega) ?_; intro A3 c3 w7 ho hg hat; have P := hid (HPT.out w7 A3 c3 ho hg hat); clear ho hg hat x0 x1 x2 x3 x4 x5)
      go_roundw
      case rel => exact ⟨j + 1, n', A3, c3, by omega, by omega, rfl, rfl, by go_num, hid ⟨_, P.out⟩⟩
      case measure => simp [intOf]; omega
    · have n5 := M.out.s.box.frozen 5
      by_cases h1 : j < ln
      · have q1 : decide ((j : Int) < (ln : Int)) = true := by rw [decide_eq_true_iff]; omega
        have q1' : decide (j < ln) = true := by simpa using h1
        by_cases h2 : 0 < lv
        · have q2 : decide ((0 : Int) < (lv : Int)) = true := by rw [decide_eq_true_iff]; omega
          have q2' : decide (0 < lv) = true := by simpa using h2
          have h3 : ¬ D < 12 := fun h3 => hlt ⟨h1, h2, h3⟩
          have q3 : decide ((D : Int) < 12) = false := by rw [decide_eq_false_iff_not]; omega
          have q3' : decide (D < 12) = false := by simpa using h3
          clear h3 hlt
          go_upto_region 11 with fail
          obtain ⟨W9, hW9⟩ : ∃ W9, wr.setCell ⟨w.heap.size, 5, none⟩ (.slice A1 j c1) = W9 := ⟨_, rfl⟩
          simp only [hW9]
          have OX : OwnE W9 w.heap.size 37 [.int .i64 kind, .string (str (s.take 60)), .string (str (t.take 60)), .int .i64 n, .slice SA sq sc, .slice A1 j c1] := by rw [← hW9]; exact M.out.s.box.set 5 _
          have RX : OwnE W9 (w.heap.size + 1) 37 [.int .i64 0, .string ⟨#[]⟩, .string ⟨#[]⟩, .int .i64 0, .slice none 0 0, .slice none 0 0] := by rw [← hW9]; exact M.out.s.res.far (by omega) _
          have O9 : Hid (Only (fun b => b = w.heap.size ∨ b = w.heap.size + 1) wr W9) := hid (by rw [← hW9]; exact Only.of_set _ _ _ (.inl rfl))
          have y0 := OX.cell (j := 0) rfl
          have y1 := OX.cell (j := 1) rfl
          have y2 := OX.cell (j := 2) rfl
          have y3 := OX.cell (j := 3) rfl
          have y4 := OX.cell (j := 4) rfl
          have y5 := OX.cell (j := 5) rfl
          have z0 := RX.cell (j := 0) rfl
          have z1 := RX.cell (j := 1) rfl
          have z2 := RX.cell (j := 2) rfl
          have z3 := RX.cell (j := 3) rfl
          have z4 := RX.cell (j := 4) rfl
          have z5 := RX.cell (j := 5) rfl
          have n0 := RX.frozen 0
          have n1 := RX.frozen 1
          have n2 := RX.frozen 2
          have n3 := RX.frozen 3
          have n4 := RX.frozen 4
          have n5 := RX.frozen 5
          clear hW9 OX RX
          go_wp2_with fail
          refine bodyPost_ret (v := .tuple #[.agg #[.int .i64 kind, .string (str (s.take 60)), .string (str (t.take 60)), .int .i64 n, .slice SA sq sc, .slice A1 j c1], .int .i64 (lv : Int)]) (by simp [results, Tryz.results20, go_sem, z0, z1, z2, z3, z4, z5]) rfl ?_
          have hO : Only (fun b => b = w.heap.size ∨ b = w.heap.size + 1) wr ((((((W9.setCell ⟨w.heap.size + 1, 0, none⟩ (.int .i64 kind)).setCell ⟨w.heap.size + 1, 1, none⟩ (.string (str (s.take 60)))).setCell ⟨w.heap.size + 1, 2, none⟩ (.string (str (t.take 60)))).setCell ⟨w.heap.size + 1, 3, none⟩ (.int .i64 n)).setCell ⟨w.heap.size + 1, 4, none⟩ (.slice SA sq sc)).setCell ⟨w.heap.size + 1, 5, none⟩ (.slice A1 j c1)) :=
            (((((O9.out.put ⟨w.heap.size + 1, 0, none⟩ _ (.inr rfl)).put ⟨w.heap.size + 1, 1, none⟩ _ (.inr rfl)).put ⟨w.heap.size + 1, 2, none⟩ _ (.inr rfl)).put ⟨w.heap.size + 1, 3, none⟩ _ (.inr rfl)).put ⟨w.heap.size + 1, 4, none⟩ _ (.inr rfl)).put ⟨w.heap.size + 1, 5, none⟩ _ (.inr rfl)
          have HD := CutL.done M.out HSQ.out (by omega) KI.out KB.out hh hO
          exact ⟨⟨kind, s.take 60, t.take 60, n, SA, sq, sc, sp.take 66, A1, j, c1, xs⟩, lv, rfl, by omega, HD.1, HD.2.1, HD.2.2⟩
        · have q2 : decide ((0 : Int) < (lv : Int)) = false := by rw [decide_eq_false_iff_not]; omega
          have q2' : decide (0 < lv) = false := by simpa using h2
          clear hlt
          go_upto_region 11 with fail
          obtain ⟨W9, hW9⟩ : ∃ W9, wr.setCell ⟨w.heap.size, 5, none⟩ (.slice A1 j c1) = W9 := ⟨_, rfl⟩
          simp only [hW9]
          have OX : OwnE W9 w.heap.size 37 [.int .i64 kind, .string (str (s.take 60)), .string (str (t.take 60)), .int .i64 n, .slice SA sq sc, .slice A1 j c1] := by rw [← hW9]; exact M.out.s.box.set 5 _
          have RX : OwnE W9 (w.heap.size + 1) 37 [.int .i64 0, .string ⟨#[]⟩, .string ⟨#[]⟩, .int .i64 0, .slice none 0 0, .slice none 0 0] := by rw [← hW9]; exact M.out.s.res.far (by omega) _
          have O9 : Hid (Only (fun b => b = w.heap.size ∨ b = w.heap.size + 1) wr W9) := hid (by rw [← hW9]; exact Only.of_set _ _ _ (.inl rfl))
          have y0 := OX.cell (j := 0) rfl
          have y1 := OX.cell (j := 1) rfl
          have y2 := OX.cell (j := 2) rfl
          have y3 := OX.cell (j := 3) rfl
          have y4 := OX.cell (j := 4) rfl
          have y5 := OX.cell (j := 5) rfl
          have z0 := RX.cell (j := 0) rfl
          have z1 := RX.cell (j := 1) rfl
          have z2 := RX.cell (j := 2) rfl
          have z3 := RX.cell (j := 3) rfl
          have z4 := RX.cell (j := 4) rfl
          have z5 := RX.cell (j := 5) rfl
          have n0 := RX.frozen 0
          have n1 := RX.frozen 1
          have n2 := RX.frozen 2
          have n3 := RX.frozen 3
          have n4 := RX.frozen 4
          have n5 := RX.frozen 5
          clear hW9 OX RX
          go_wp2_with fail
          refine bodyPost_ret (v := .tuple #[.agg #[.int .i64 kind, .string (str (s.take 60)), .string (str (t.take 60)), .int .i64 n, .slice SA sq sc, .slice A1 j c1], .int .i64 (lv : Int)]) (by simp [results, Tryz.results20, go_sem, z0, z1, z2, z3, z4, z5]) rfl ?_
          have hO : Only (fun b => b = w.heap.size ∨ b = w.heap.size + 1) wr ((((((W9.setCell ⟨w.heap.size + 1, 0, none⟩ (.int .i64 kind)).setCell ⟨w.heap.size + 1, 1, none⟩ (.string (str (s.take 60)))).setCell ⟨w.heap.size + 1, 2, none⟩ (.string (str (t.take 60)))).setCell ⟨w.heap.size + 1, 3, none⟩ (.int .i64 n)).setCell ⟨w.heap.size + 1, 4, none⟩ (.slice SA sq sc)).setCell ⟨w.heap.size + 1, 5, none⟩ (.slice A1 j c1)) :=
            (((((O9.out.put ⟨w.heap.size + 1, 0, none⟩ _ (.inr rfl)).put ⟨w.heap.size + 1, 1, none⟩ _ (.inr rfl)).put ⟨w.heap.size + 1, 2, none⟩ _ (.inr rfl)).put ⟨w.heap.size + 1, 3, none⟩ _ (.inr rfl)).put ⟨w.heap.size + 1, 4, none⟩ _ (.inr rfl)).put ⟨w.heap.size + 1, 5, none⟩ _ (.inr rfl)
          have HD := CutL.done M.out HSQ.out (by omega) KI.out KB.out hh hO
          exact ⟨⟨kind, s.take 60, t.take 60, n, SA, sq, sc, sp.take 66, A1, j, c1, xs⟩, lv, rfl, by omega, HD.1, HD.2.1, HD.2.2⟩
      · have q1 : decide ((j : Int) < (ln : Int)) = false := by rw [decide_eq_false_iff_not]; omega
        have q1' : decide (j < ln) = false := by simpa using h1
        clear hlt
        go_upto_region 11 with fail
        obtain ⟨W9, hW9⟩ : ∃ W9, wr.setCell ⟨w.heap.size, 5, none⟩ (.slice A1 j c1) = W9 := ⟨_, rfl⟩
        simp only [hW9]
        have OX : OwnE W9 w.heap.size 37 [.int .i64 kind, .string (str (s.take 60)), .string (str (t.take 60)), .int .i64 n, .slice SA sq sc, .slice A1 j c1] := by rw [← hW9]; exact M.out.s.box.set 5 _
        have RX : OwnE W9 (w.heap.size + 1) 37 [.int .i64 0, .string ⟨#[]⟩, .string ⟨#[]⟩, .int .i64 0, .slice none 0 0, .slice none 0 0] := by rw [← hW9]; exact M.out.s.res.far (by omega) _
        have O9 : Hid (Only (fun b => b = w.heap.size ∨ b = w.heap.size + 1) wr W9) := hid (by rw [← hW9]; exact Only.of_set _ _ _ (.inl rfl))
        have y0 := OX.cell (j := 0) rfl
        have y1 := OX.cell (j := 1) rfl
        have y2 := OX.cell (j := 2) rfl
        have y3 := OX.cell (j := 3) rfl
        have y4 := OX.cell (j := 4) rfl
        have y5 := OX.cell (j := 5) rfl
        have z0 := RX.cell (j := 0) rfl
        have z1 := RX.cell (j := 1) rfl
        have z2 := RX.cell (j := 2) rfl
        have z3 := RX.cell (j := 3) rfl
        have z4 := RX.cell (j := 4) rfl
        have z5 := RX.cell (j := 5) rfl
        have n0 := RX.frozen 0
        have n1 := RX.frozen 1
        have n2 := RX.frozen 2
        have n3 := RX.frozen 3
        have n4 := RX.frozen 4
        have n5 := RX.frozen 5
        clear hW9 OX RX
        go_wp2_with fail
        refine bodyPost_ret (v := .tuple #[.agg #[.int .i64 kind, .string (str (s.take 60)), .string (str (t.take 60)), .int .i64 n, .slice SA sq sc, .slice A1 j c1], .int .i64 (lv : Int)]) (by simp [results, Tryz.results20, go_sem, z0, z1, z2, z3, z4, z5]) rfl ?_
        have hO : Only (fun b => b = w.heap.size ∨ b = w.heap.size + 1) wr ((((((W9.setCell ⟨w.heap.size + 1, 0, none⟩ (.int .i64 kind)).setCell ⟨w.heap.size + 1, 1, none⟩ (.string (str (s.take 60)))).setCell ⟨w.heap.size + 1, 2, none⟩ (.string (str (t.take 60)))).setCell ⟨w.heap.size + 1, 3, none⟩ (.int .i64 n)).setCell ⟨w.heap.size + 1, 4, none⟩ (.slice SA sq sc)).setCell ⟨w.heap.size + 1, 5, none⟩ (.slice A1 j c1)) :=
          (((((O9.out.put ⟨w.heap.size + 1, 0, none⟩ _ (.inr rfl)).put ⟨w.heap.size + 1, 1, none⟩ _ (.inr rfl)).put ⟨w.heap.size + 1, 2, none⟩ _ (.inr rfl)).put ⟨w.heap.size + 1, 3, none⟩ _ (.inr rfl)).put ⟨w.heap.size + 1, 4, none⟩ _ (.inr rfl)).put ⟨w.heap.size + 1, 5, none⟩ _ (.inr rfl)
        have HD := CutL.done M.out HSQ.out (by omega) KI.out KB.out hh hO
        exact ⟨⟨kind, s.take 60, t.take 60, n, SA, sq, sc, sp.take 66, A1, j, c1, xs⟩, lv, rfl, by omega, HD.1, HD.2.1, HD.2.2⟩
theorem cuts : ∀ f, Cut f
  | 0 => cut_step 0 (fun g h => absurd h (by omega))
  | f + 1 => cut_step (f + 1) (fun g h => by obtain rfl : f = g := by omega
                                             exact cuts f)
end Go.Proofs.YtonjadmldgloaaaGreatDoor
