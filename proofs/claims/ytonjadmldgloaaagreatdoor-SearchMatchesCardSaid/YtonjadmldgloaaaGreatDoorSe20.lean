/-
  SearchMatches: the walk. A part of the proof: see the head of the text that ends in 'Law'.
-/
import Derived.Test.YtonjadmldgloaaaGreatDoorSe17
import Derived.Test.YtonjadmldgloaaaGreatDoorSe9
namespace Go.Proofs.YtonjadmldgloaaaGreatDoor
open Go.RowKit Go.Shelf
set_option linter.unusedVariables false
set_option maxRecDepth 100000
attribute [local go_sem] Oper.semAt_some

/-- A key put into a block. -/
theorem only_six (w : World) (g : Nat) (T : Nat → Prop) (hT : T g) (v0 v1 v2 v3 v4 v5 : Value) : Only T w ((((((w.setCell ⟨g, 0, none⟩ v0).setCell ⟨g, 1, none⟩ v1).setCell ⟨g, 2, none⟩ v2).setCell ⟨g, 3, none⟩ v3).setCell ⟨g, 4, none⟩ v4).setCell ⟨g, 5, none⟩ v5) :=
  (((((Only.of_set (T := T) w ⟨g, 0, none⟩ _ hT).put ⟨g, 1, none⟩ _ hT).put ⟨g, 2, none⟩ _ hT).put ⟨g, 3, none⟩ _ hT).put ⟨g, 4, none⟩ _ hT).put ⟨g, 5, none⟩ _ hT
set_option maxHeartbeats 8000000 in
/-- No more of a key than is looked at. -/
theorem kfew_any (k : KeyT) (h : Nat) (w : World) (hk : KeyIn w maxLen k) (hb : KeyBl (fun b => b < h) k) (hh : h ≤ w.heap.size) :
    Calls Tryz.prog 10 #[.agg (keyC k).toArray] w fun e w' => ∃ k' : KeyT, e = .returned (.agg (keyC k').toArray) ∧ KeyIn w' 100 k' ∧ KeyBl (fun b => b < h ∨ w.heap.size ≤ b) k' ∧ Below w.heap.size w w' := by
  have HS := hid (cs_start w k)
  have HC := fun (X : World) (b : Below w.heap.size w X) => cuts 12 k 80 0 h X (hk.on b) hb (Nat.le_trans hh b.size) rfl (by decide) (Nat.le_refl _)
  obtain ⟨kind, s, t, n, SA, sn, sc, sp, LA, ln, lc, l⟩ := k
  have HCC := hid (fun X b => (by exact HC X b : Calls Tryz.prog 20 #[.agg #[.int .i64 kind, .string (str s), .string (str t), .int .i64 n, .slice SA sn sc, .slice LA ln lc], .int .i64 80, .int .i64 0] X fun e w' => ∃ (k' : KeyT) (n : Nat), e = .returned (.tuple #[.agg #[.int .i64 k'.kind, .string (str k'.s), .string (str k'.t), .int .i64 k'.n, .slice k'.SA k'.sn k'.sc, .slice k'.LA k'.ln k'.lc], .int .i64 (n : Int)]) ∧ n + 1 ≤ 80 ∧ KeyIn w' 100 k' ∧ KeyBl (fun b => b < h ∨ X.heap.size ≤ b) k' ∧ Below X.heap.size X w'))
  clear HC hk hb
  show Calls Tryz.prog 10 #[.agg #[.int .i64 kind, .string (str s), .string (str t), .int .i64 n, .slice SA sn sc, .slice LA ln lc]] w fun e w' => ∃ k' : KeyT, e = .returned (.agg (keyC k').toArray) ∧ KeyIn w' 100 k' ∧ KeyBl (fun b => b < h ∨ w.heap.size ≤ b) k' ∧ Below w.heap.size w w'
  obtain ⟨W3, hW3⟩ : ∃ W3, ((w.alloc (.cells #[.int .i64 kind, .string (str s), .string (str t), .int .i64 n, .slice SA sn sc, .slice LA ln lc] 37)).alloc (.cells #[.int .i64 0, .string ⟨#[]⟩, .string ⟨#[]⟩, .int .i64 0, .slice none 0 0, .slice none 0 0] 37)) = W3 := ⟨_, rfl⟩
  have M : Hid (CutS w W3 ⟨kind, s, t, n, SA, sn, sc, sp, LA, ln, lc, l⟩) := hid (by rw [← hW3]; exact HS.out)
  clear HS
  have y0 := M.out.box.cell (j := 0) rfl
  have y1 := M.out.box.cell (j := 1) rfl
  have y2 := M.out.box.cell (j := 2) rfl
  have y3 := M.out.box.cell (j := 3) rfl
  have y4 := M.out.box.cell (j := 4) rfl
  have y5 := M.out.box.cell (j := 5) rfl
  have HIX := hid (HCC.out W3 M.out.b)
  clear HCC
  go_enter Tryz.func10, Tryz.ntmps10
  go_upto_region 2 with (go_at_call 20; (with_reducible refine HIX.out.mono ?_); rintro e w4 ⟨k', n', he, hn', hk', hb', b4⟩; obtain ⟨ek, es, et, en, eA, em, ec, el, eB, ep, eq, er⟩ := k'; dsimp only at he; subst he; have M4 := hid (M.out.below b4); have K4 := hid hk'; have KB4 := hid hb'; clear hk' hb' b4 y0 y1 y2 y3 y4 y5 HIX hW3)
  obtain ⟨W5, hW5⟩ : ∃ W5, w4.alloc (.cells #[.int .i64 ek, .string (str es), .string (str et), .int .i64 en, .slice eA em ec, .slice eB ep eq] 37) = W5 := ⟨_, rfl⟩
  simp only [hW5]
  have b5 : Below w4.heap.size w4 W5 := by rw [← hW5]; exact (Below.refl _ _).alloc (Nat.le_refl _) _
  have OX : OwnE W5 w4.heap.size 37 [.int .i64 ek, .string (str es), .string (str et), .int .i64 en, .slice eA em ec, .slice eB ep eq] := by rw [← hW5]; exact OwnE.new_ w4 _ _
  have RX := M4.out.res.below b5
  have K5 := hid (K4.out.on b5)
  have B5 := hid (past M4.out.b b5)
  have SZ : Hid (w.heap.size + 2 ≤ W3.heap.size) := hid (by have := M.out.res.lt; omega)
  have y0 := OX.cell (j := 0) rfl
  have y1 := OX.cell (j := 1) rfl
  have y2 := OX.cell (j := 2) rfl
  have y3 := OX.cell (j := 3) rfl
  have y4 := OX.cell (j := 4) rfl
  have y5 := OX.cell (j := 5) rfl
  have z0 := RX.cell (j := 0) rfl
  have z1 := RX.cell (j := 1) rfl
  have z2 := RX.cell (j := 2) rfl
  have z3 := RX.cell (j := 3) rfl
  have z4 := RX.cell (j := 4) rfl
  have z5 := RX.cell (j := 5) rfl
  have n0 := RX.frozen 0
  have n1 := RX.frozen 1
  have n2 := RX.frozen 2
  have n3 := RX.frozen 3
  have n4 := RX.frozen 4
  have n5 := RX.frozen 5
  clear hW5 b5 OX RX K4 M4 M
  go_wp2_with fail
  refine bodyPost_ret (v := .agg #[.int .i64 ek, .string (str es), .string (str et), .int .i64 en, .slice eA em ec, .slice eB ep eq]) (by simp [results, Tryz.results10, go_sem, z0, z1, z2, z3, z4, z5]) rfl ?_
  have hO := only_six W5 (w.heap.size + 1) (fun b => b = w.heap.size + 1) rfl (.int .i64 ek) (.string (str es)) (.string (str et)) (.int .i64 en) (.slice eA em ec) (.slice eB ep eq)
  refine ⟨⟨ek, es, et, en, eA, em, ec, el, eB, ep, eq, er⟩, rfl, K5.out.only hO (KB4.out.imp (fun c hc e => ?_)), KB4.out.imp (fun c hc => ?_), B5.out.trans (hO.below B5.out.size (fun g hg => by omega))⟩
  · have e2 : c = w.heap.size + 1 := e
    have := SZ.out
    omega
  · have := SZ.out
    rcases hc with hc | hc
    · exact .inl hc
    · exact .inr (by omega)
/-- A row lies where nothing is changed. -/
theorem hit_only {T : Nat → Prop} {w w' : World} (hO : Only T w w') {h : HitV} (hi : HitIn w h) (hf : ∀ a, h.fl ≠ [] → h.FA = some a → ¬ T a.block) (hb : ∀ a, h.b ≠ [] → h.BA = some a → ¬ T a.block) : HitIn w' h := by
  refine ⟨hi.i64, hi.blob, hi.fl, hi.fm, hi.fc, ?_, ⟨hi.bl.1, ?_⟩, hi.bm, hi.bc⟩
  · by_cases h1 : h.fl = []
    · rw [h1]; exact fun h => absurd rfl h
    · exact row_only hi.fr hO (fun a ha => hf a h1 ha)
  · by_cases h1 : h.b = []
    · rw [h1]; exact fun h => absurd rfl h
    · exact row_only hi.bl.2 hO (fun a ha => hb a h1 ha)
/-- What lies in memory while a key is held against a message. -/
structure SmR (w0 W : World) (k : KeyT) (h : HitV) : Prop where
  key : OwnE W w0.heap.size 37 (keyC k)
  hit : OwnE W (w0.heap.size + 1) 30 (hitC h)
  ki : KeyIn W 100 k
  hi : HitIn W h
  t : Tabs W
  b : Below w0.heap.size w0 W
theorem SmR.below {w0 W X : World} {k : KeyT} {h : HitV} (m : SmR w0 W k h) (b : Below W.heap.size W X) : SmR w0 X k h := ⟨m.key.below b, m.hit.below b, m.ki.on b, m.hi.below b, m.t.below b, past m.b b⟩
def setK (w : World) (g : Nat) (k : KeyT) : World := (((((w.setCell ⟨g, 0, none⟩ (.int .i64 k.kind)).setCell ⟨g, 1, none⟩ (.string (str k.s))).setCell ⟨g, 2, none⟩ (.string (str k.t))).setCell ⟨g, 3, none⟩ (.int .i64 k.n)).setCell ⟨g, 4, none⟩ (.slice k.SA k.sn k.sc)).setCell ⟨g, 5, none⟩ (.slice k.LA k.ln k.lc)
theorem setK_own {w : World} {g : Nat} {T : TypeId} {k0 : KeyT} (o : OwnE w g T (keyC k0)) (k : KeyT) : OwnE (setK w g k) g T (keyC k) := (((((o.set 0 _).set 1 _).set 2 _).set 3 _).set 4 _).set 5 _
theorem setK_only (w : World) (g : Nat) (k : KeyT) : Only (fun b => b = g) w (setK w g k) := only_six w g (fun b => b = g) rfl _ _ _ _ _ _
theorem sm_put {w0 W : World} {k0 k : KeyT} {h0 h : HitV} (ht : Tabs w0) (m : Mt2 w0 W k0 h0 w0.heap.size (w0.heap.size + 1)) (K : KeyIn W 100 k) (KB : KeyBl (fun b => b < w0.heap.size ∨ w0.heap.size + 2 ≤ b) k) (hi : HitIn W h)
    (hf : ∀ a, h.FA = some a → w0.heap.size + 2 ≤ a.block) (hb : ∀ a, h.b ≠ [] → h.BA = some a → a.block < w0.heap.size) : SmR w0 (setH (setK W w0.heap.size k) (w0.heap.size + 1) h) k h := by
  have O1 : Only (fun b => b = w0.heap.size ∨ b = w0.heap.size + 1) W (setK W w0.heap.size k) := (setK_only W w0.heap.size k).mono (fun _ e => .inl e)
  have O2 : Only (fun b => b = w0.heap.size ∨ b = w0.heap.size + 1) (setK W w0.heap.size k) (setH (setK W w0.heap.size k) (w0.heap.size + 1) h) := (setH_only _ _ h).mono (fun _ e => .inr e)
  have O := O1.trans O2 (fun _ e => .inl e)
  have bb : Below w0.heap.size w0 (setH (setK W w0.heap.size k) (w0.heap.size + 1) h) := m.b.trans (O.below m.b.size (fun g hg => by rcases hg with hg | hg <;> omega))
  refine ⟨(setK_own m.key k).only (setH_only _ _ h) (fun e => ?_), setH_own (m.hit.only (setK_only _ _ k) (fun e => ?_)) h, K.only O (KB.imp (fun c hc e => ?_)), hit_only O hi (fun a _ ha e => ?_) (fun a h1 ha e => ?_), ht.below bb, bb⟩
  · have e2 : w0.heap.size = w0.heap.size + 1 := e
    omega
  · have e2 : w0.heap.size + 1 = w0.heap.size := e
    omega
  · rcases hc with hc | hc <;> rcases e with e | e <;> omega
  · have := hf a ha
    rcases e with e | e <;> omega
  · have := hb a h1 ha
    rcases e with e | e <;> omega
set_option maxHeartbeats 16000000 in
theorem walkSearchMatches (k : KeyT) (h : HitV) (w : World) (hk : KeyIn w maxLen k) (hb : HitBig w h) (ht : Tabs w) :
    Calls Tryz.prog 4 #[.agg (keyC k).toArray, .agg (hitC h).toArray] w fun e w' => e = .returned (.bool true) ∧ Below w.heap.size w w' := by
  have HT := hid ht
  have HA := hid awake_any
  have HS := hid (mt_start w k h)
  have HFE0 : ∀ X, Mt2 w X k h w.heap.size (w.heap.size + 1) → Calls Tryz.prog 10 #[.agg (keyC k).toArray] X fun e w' => ∃ k' : KeyT, e = .returned (.agg (keyC k').toArray) ∧ KeyIn w' 100 k' ∧ KeyBl (fun b => b < w.heap.size ∨ w.heap.size + 2 ≤ b) k' ∧ Below X.heap.size X w' := fun X m => (kfew_any k w.heap.size X (hk.on m.b) hk.bl m.b.size).mono fun e w' ⟨k', h1, h2, h3, h4⟩ => ⟨k', h1, h2, h3.imp (fun c hc => by
    have := m.hit.lt
    rcases hc with hc | hc
    · exact .inl hc
    · exact .inr (by omega)), h4⟩
  have HHI0 : ∀ X, Mt2 w X k h w.heap.size (w.heap.size + 1) → Calls Tryz.prog 7 #[.agg (hitC h).toArray] X fun e w' => ∃ h' : HitV, e = .returned (.agg (hitC h').toArray) ∧ HitIn w' h' ∧ Below X.heap.size X w' ∧ (∀ a, h'.FA = some a → w.heap.size + 2 ≤ a.block) ∧ (∀ a, h'.b ≠ [] → h'.BA = some a → a.block < w.heap.size) := fun X m => (hit_where h X (hb.below m.b)).mono fun e w' ⟨h', h1, h2, h3, h4, h5, h6⟩ => ⟨h', h1, h2, h3, fun a ha => by
      have := m.hit.lt
      have := h4 a ha
      omega, fun a hne ha => by
      have h7 := h6 hne
      obtain ⟨b0, off, hA, hc⟩ := hb.bl.at_ (by rw [← hb.bl.len]; exact List.length_pos_iff.mpr h7)
      rw [h5] at ha
      obtain rfl := Option.some.inj (ha.symm.trans hA)
      exact World.block_lt_of_cell? w _ (hc 0 (List.length_pos_iff.mpr h7))⟩
  obtain ⟨kind, s, t, n, SA, sn, sc, sp, LA, ln, lc, l⟩ := k
  obtain ⟨uid, sec, zone, size, blob, FA, fn, fc, fl, place, many, great, BA, bn, bc, b⟩ := h
  have HFE := hid (fun X m => (by exact HFE0 X m : Calls Tryz.prog 10 #[.agg #[.int .i64 kind, .string (str s), .string (str t), .int .i64 n, .slice SA sn sc, .slice LA ln lc]] X fun e w' => ∃ k' : KeyT, e = .returned (.agg #[.int .i64 k'.kind, .string (str k'.s), .string (str k'.t), .int .i64 k'.n, .slice k'.SA k'.sn k'.sc, .slice k'.LA k'.ln k'.lc]) ∧ KeyIn w' 100 k' ∧ KeyBl (fun b => b < w.heap.size ∨ w.heap.size + 2 ≤ b) k' ∧ Below X.heap.size X w'))
  have HHI := hid (fun X m => (by exact HHI0 X m : Calls Tryz.prog 7 #[.agg #[.int .i64 uid, .int .i64 sec, .int .i64 zone, .int .i64 size, .int .u64 (blob : Int), .slice FA fn fc, .int .i64 place, .int .i64 many, .int .i64 great, .slice BA bn bc]] X fun e w' => ∃ h' : HitV, e = .returned (.agg #[.int .i64 h'.uid, .int .i64 h'.sec, .int .i64 h'.zone, .int .i64 h'.size, .int .u64 (h'.blob : Int), .slice h'.FA h'.fn h'.fc, .int .i64 h'.place, .int .i64 h'.many, .int .i64 h'.great, .slice h'.BA h'.bn h'.bc]) ∧ HitIn w' h' ∧ Below X.heap.size X w' ∧ (∀ a, h'.FA = some a → w.heap.size + 2 ≤ a.block) ∧ (∀ a, h'.b ≠ [] → h'.BA = some a → a.block < w.heap.size)))
  obtain ⟨W3, hW3⟩ : ∃ W3, ((w.alloc (.cells #[.int .i64 kind, .string (str s), .string (str t), .int .i64 n, .slice SA sn sc, .slice LA ln lc] 37)).alloc (.cells #[.int .i64 uid, .int .i64 sec, .int .i64 zone, .int .i64 size, .int .u64 (blob : Int), .slice FA fn fc, .int .i64 place, .int .i64 many, .int .i64 great, .slice BA bn bc] 30)) = W3 := ⟨_, rfl⟩
  have M : Hid (Mt2 w W3 ⟨kind, s, t, n, SA, sn, sc, sp, LA, ln, lc, l⟩ ⟨uid, sec, zone, size, blob, FA, fn, fc, fl, place, many, great, BA, bn, bc, b⟩ w.heap.size (w.heap.size + 1)) := hid (by rw [← hW3]; exact HS.out)
  clear HS HFE0 HHI0 hk hb ht
  have MD := hid (M.out.below (drew_below W3))
  have y0 := M.out.key.cell (j := 0) (u := .int .i64 kind) rfl
  have y1 := M.out.key.cell (j := 1) (u := .string (str s)) rfl
  have y2 := M.out.key.cell (j := 2) (u := .string (str t)) rfl
  have y3 := M.out.key.cell (j := 3) (u := .int .i64 n) rfl
  have y4 := M.out.key.cell (j := 4) (u := .slice SA sn sc) rfl
  have y5 := M.out.key.cell (j := 5) (u := .slice LA ln lc) rfl
  have z0 := M.out.hit.cell (j := 0) (u := .int .i64 uid) rfl
  have z1 := M.out.hit.cell (j := 1) (u := .int .i64 sec) rfl
  have z2 := M.out.hit.cell (j := 2) (u := .int .i64 zone) rfl
  have z3 := M.out.hit.cell (j := 3) (u := .int .i64 size) rfl
  have z4 := M.out.hit.cell (j := 4) (u := .int .u64 (blob : Int)) rfl
  have z5 := M.out.hit.cell (j := 5) (u := .slice FA fn fc) rfl
  have z6 := M.out.hit.cell (j := 6) (u := .int .i64 place) rfl
  have z7 := M.out.hit.cell (j := 7) (u := .int .i64 many) rfl
  have z8 := M.out.hit.cell (j := 8) (u := .int .i64 great) rfl
  have z9 := M.out.hit.cell (j := 9) (u := .slice BA bn bc) rfl
  show Calls Tryz.prog 4 #[.agg #[.int .i64 kind, .string (str s), .string (str t), .int .i64 n, .slice SA sn sc, .slice LA ln lc], .agg #[.int .i64 uid, .int .i64 sec, .int .i64 zone, .int .i64 size, .int .u64 (blob : Int), .slice FA fn fc, .int .i64 place, .int .i64 many, .int .i64 great, .slice BA bn bc]] w fun e w' => e = .returned (.bool true) ∧ Below w.heap.size w w'
  go_enter Tryz.func4, Tryz.ntmps4
  go_upto_region 1 with fail
  clear hW3
  go_cut [6] (fun a wx => ∃ (k' : KeyT) (h' : HitV), Hid (SmR w wx k' h'))
  case first =>
    go_region_with (first
      | (go_at_call 10; refine (HFE.out _ MD.out).mono ?_; rintro e w4 ⟨k', he, hk', kb', b4⟩; obtain ⟨ek, es, et, en, eA, em, ec, el, eB, ep, eq, er⟩ := k'; dsimp only at he; subst he; have M4 := hid (MD.out.below b4); have K4 := hid hk'; have KB4 := hid kb'; clear hk' kb' b4 y0 y1 y2 y3 y4 y5 z0 z1 z2 z3 z4 z5 z6 z7 z8 z9
         have z0 := M4.out.hit.cell (j := 0) (u := .int .i64 uid) rfl
         have z1 := M4.out.hit.cell (j := 1) (u := .int .i64 sec) rfl
         have z2 := M4.out.hit.cell (j := 2) (u := .int .i64 zone) rfl
         have z3 := M4.out.hit.cell (j := 3) (u := .int .i64 size) rfl
         have z4 := M4.out.hit.cell (j := 4) (u := .int .u64 (blob : Int)) rfl
         have z5 := M4.out.hit.cell (j := 5) (u := .slice FA fn fc) rfl
         have z6 := M4.out.hit.cell (j := 6) (u := .int .i64 place) rfl
         have z7 := M4.out.hit.cell (j := 7) (u := .int .i64 many) rfl
         have z8 := M4.out.hit.cell (j := 8) (u := .int .i64 great) rfl
         have z9 := M4.out.hit.cell (j := 9) (u := .slice BA bn bc) rfl
         skip)
      | (go_at_call 7; refine (HHI.out _ M4.out).mono ?_; rintro e w5 ⟨h', he, hi', b5, f5, g5⟩; obtain ⟨euid, esec, ezone, esize, eblob, eFA, efn, efc, efl, eplace, emany, egreat, eBA, ebn, ebc, eb⟩ := h'; dsimp only at he; subst he; have M5 := hid (M4.out.below b5); have RR := hid (sm_put HT.out M5.out (K4.out.on b5) KB4.out hi' f5 g5); dsimp only [setK, setH] at RR; clear hi' b5 f5 g5 z0 z1 z2 z3 z4 z5 z6 z7 z8 z9
         have y0 := M5.out.key.cell (j := 0) (u := .int .i64 kind) rfl
         have y1 := M5.out.key.cell (j := 1) (u := .string (str s)) rfl
         have y2 := M5.out.key.cell (j := 2) (u := .string (str t)) rfl
         have y3 := M5.out.key.cell (j := 3) (u := .int .i64 n) rfl
         have y4 := M5.out.key.cell (j := 4) (u := .slice SA sn sc) rfl
         have y5 := M5.out.key.cell (j := 5) (u := .slice LA ln lc) rfl
         have z0 := M5.out.hit.cell (j := 0) (u := .int .i64 uid) rfl
         have z1 := M5.out.hit.cell (j := 1) (u := .int .i64 sec) rfl
         have z2 := M5.out.hit.cell (j := 2) (u := .int .i64 zone) rfl
         have z3 := M5.out.hit.cell (j := 3) (u := .int .i64 size) rfl
         have z4 := M5.out.hit.cell (j := 4) (u := .int .u64 (blob : Int)) rfl
         have z5 := M5.out.hit.cell (j := 5) (u := .slice FA fn fc) rfl
         have z6 := M5.out.hit.cell (j := 6) (u := .int .i64 place) rfl
         have z7 := M5.out.hit.cell (j := 7) (u := .int .i64 many) rfl
         have z8 := M5.out.hit.cell (j := 8) (u := .int .i64 great) rfl
         have z9 := M5.out.hit.cell (j := 9) (u := .slice BA bn bc) rfl
         have k0 := M5.out.key.frozen 0
         have k1 := M5.out.key.frozen 1
         have k2 := M5.out.key.frozen 2
         have k3 := M5.out.key.frozen 3
         have k4 := M5.out.key.frozen 4
         have k5 := M5.out.key.frozen 5
         have f0 := M5.out.hit.frozen 0
         have f1 := M5.out.hit.frozen 1
         have f2 := M5.out.hit.frozen 2
         have f3 := M5.out.hit.frozen 3
         have f4 := M5.out.hit.frozen 4
         have f5 := M5.out.hit.frozen 5
         have f6 := M5.out.hit.frozen 6
         have f7 := M5.out.hit.frozen 7
         have f8 := M5.out.hit.frozen 8
         have f9 := M5.out.hit.frozen 9
         skip))
    all_goals (go_wp2_with fail; go_meet; exact ⟨⟨ek, es, et, en, eA, em, ec, el, eB, ep, eq, er⟩, ⟨euid, esec, ezone, esize, eblob, eFA, efn, efc, efl, eplace, emany, egreat, eBA, ebn, ebc, eb⟩, RR⟩)
  case rest =>
  obtain ⟨k', h', M1⟩ := hcut
  clear y0 y1 y2 y3 y4 y5 z0 z1 z2 z3 z4 z5 z6 z7 z8 z9 M MD HFE HHI
  rename World => X0
  have M := M1
  clear M1
  obtain ⟨q, hq⟩ : ∃ q, mayB k' = q := ⟨_, rfl⟩
  obtain ⟨r, hr⟩ : ∃ r, meansF 9 h' k' = r := ⟨_, rfl⟩
  obtain ⟨v, hv⟩ : ∃ v, readsF 9 k' = v := ⟨_, rfl⟩
  have D11 := fun (X : World) (m : SmR w X k' h') => rmay_any k' X m.ki
  have D12 := fun (X : World) (m : SmR w X k' h') => may_any k' X m.ki
  have D9 := fun (X : World) (m : SmR w X k' h') => match_any k' h' X m.ki m.hi m.t
  have D14 := fun (X : World) (m : SmR w X k' h') => reads_any k' X m.ki
  have D13 := fun (hm : mayB k' = true) (X : World) (m : SmR w X k' h') => rasks 9 k' h' X m.ki (may_of hm) m.hi m.t
  have D15 := fun (hm : mayB k' = true) (X : World) (m : SmR w X k' h') => rrdss 9 k' X m.ki (may_of hm)
  rw [hq] at D11 D12 D9 D14 D13 D15
  rw [hr] at D9 D13
  rw [hv] at D14 D15
  clear hq hr hv
  obtain ⟨kind, s, t, n, SA, sn, sc, sp, LA, ln, lc, l⟩ := k'
  obtain ⟨uid, sec, zone, size, blob, FA, fn, fc, fl, place, many, great, BA, bn, bc, b⟩ := h'
  cases q with
  | false =>
    have C11 := hid (fun X m => (by exact D11 X m : Calls Tryz.prog 11 #[.agg #[.int .i64 kind, .string (str s), .string (str t), .int .i64 n, .slice SA sn sc, .slice LA ln lc]] X fun e w' => e = .returned (.bool false) ∧ Below X.heap.size X w'))
    have C12 := hid (fun X m => (by exact D12 X m : Calls Tryz.prog 12 #[.agg #[.int .i64 kind, .string (str s), .string (str t), .int .i64 n, .slice SA sn sc, .slice LA ln lc]] X fun e w' => e = .returned (.bool false) ∧ Below X.heap.size X w'))
    have C9 := hid (fun X m => (by exact D9 X m : Calls Tryz.prog 9 #[.agg #[.int .i64 kind, .string (str s), .string (str t), .int .i64 n, .slice SA sn sc, .slice LA ln lc], .agg #[.int .i64 uid, .int .i64 sec, .int .i64 zone, .int .i64 size, .int .u64 (blob : Int), .slice FA fn fc, .int .i64 place, .int .i64 many, .int .i64 great, .slice BA bn bc]] X fun e w' => e = .returned (.bool false) ∧ Below X.heap.size X w'))
    have C14 := hid (fun X m => (by exact D14 X m : Calls Tryz.prog 14 #[.agg #[.int .i64 kind, .string (str s), .string (str t), .int .i64 n, .slice SA sn sc, .slice LA ln lc]] X fun e w' => e = .returned (.bool false) ∧ Below X.heap.size X w'))
    clear D11 D12 D9 D14 D13 D15
    have y0 := M.out.key.cell (j := 0) (u := .int .i64 kind) rfl
    have y1 := M.out.key.cell (j := 1) (u := .string (str s)) rfl
    have y2 := M.out.key.cell (j := 2) (u := .string (str t)) rfl
    have y3 := M.out.key.cell (j := 3) (u := .int .i64 n) rfl
    have y4 := M.out.key.cell (j := 4) (u := .slice SA sn sc) rfl
    have y5 := M.out.key.cell (j := 5) (u := .slice LA ln lc) rfl
    have z0 := M.out.hit.cell (j := 0) (u := .int .i64 uid) rfl
    have z1 := M.out.hit.cell (j := 1) (u := .int .i64 sec) rfl
    have z2 := M.out.hit.cell (j := 2) (u := .int .i64 zone) rfl
    have z3 := M.out.hit.cell (j := 3) (u := .int .i64 size) rfl
    have z4 := M.out.hit.cell (j := 4) (u := .int .u64 (blob : Int)) rfl
    have z5 := M.out.hit.cell (j := 5) (u := .slice FA fn fc) rfl
    have z6 := M.out.hit.cell (j := 6) (u := .int .i64 place) rfl
    have z7 := M.out.hit.cell (j := 7) (u := .int .i64 many) rfl
    have z8 := M.out.hit.cell (j := 8) (u := .int .i64 great) rfl
    have z9 := M.out.hit.cell (j := 9) (u := .slice BA bn bc) rfl
    go_wp2_with first
      | (go_at_call 11; (with_reducible refine (C11.out _ M.out).mono ?_); rintro e w4 ⟨rfl, b4⟩; have M := hid (M.out.below b4); clear b4 y0 y1 y2 y3 y4 y5 z0 z1 z2 z3 z4 z5 z6 z7 z8 z9 C11
         have y0 := M.out.key.cell (j := 0) (u := .int .i64 kind) rfl
         have y1 := M.out.key.cell (j := 1) (u := .string (str s)) rfl
         have y2 := M.out.key.cell (j := 2) (u := .string (str t)) rfl
         have y3 := M.out.key.cell (j := 3) (u := .int .i64 n) rfl
         have y4 := M.out.key.cell (j := 4) (u := .slice SA sn sc) rfl
         have y5 := M.out.key.cell (j := 5) (u := .slice LA ln lc) rfl
         have z0 := M.out.hit.cell (j := 0) (u := .int .i64 uid) rfl
         have z1 := M.out.hit.cell (j := 1) (u := .int .i64 sec) rfl
         have z2 := M.out.hit.cell (j := 2) (u := .int .i64 zone) rfl
         have z3 := M.out.hit.cell (j := 3) (u := .int .i64 size) rfl
         have z4 := M.out.hit.cell (j := 4) (u := .int .u64 (blob : Int)) rfl
         have z5 := M.out.hit.cell (j := 5) (u := .slice FA fn fc) rfl
         have z6 := M.out.hit.cell (j := 6) (u := .int .i64 place) rfl
         have z7 := M.out.hit.cell (j := 7) (u := .int .i64 many) rfl
         have z8 := M.out.hit.cell (j := 8) (u := .int .i64 great) rfl
         have z9 := M.out.hit.cell (j := 9) (u := .slice BA bn bc) rfl
         skip)
      | (go_at_call 12; (with_reducible refine (C12.out _ M.out).mono ?_); rintro e w4 ⟨rfl, b4⟩; have M := hid (M.out.below b4); clear b4 y0 y1 y2 y3 y4 y5 z0 z1 z2 z3 z4 z5 z6 z7 z8 z9 C12
         have y0 := M.out.key.cell (j := 0) (u := .int .i64 kind) rfl
         have y1 := M.out.key.cell (j := 1) (u := .string (str s)) rfl
         have y2 := M.out.key.cell (j := 2) (u := .string (str t)) rfl
         have y3 := M.out.key.cell (j := 3) (u := .int .i64 n) rfl
         have y4 := M.out.key.cell (j := 4) (u := .slice SA sn sc) rfl
         have y5 := M.out.key.cell (j := 5) (u := .slice LA ln lc) rfl
         have z0 := M.out.hit.cell (j := 0) (u := .int .i64 uid) rfl
         have z1 := M.out.hit.cell (j := 1) (u := .int .i64 sec) rfl
         have z2 := M.out.hit.cell (j := 2) (u := .int .i64 zone) rfl
         have z3 := M.out.hit.cell (j := 3) (u := .int .i64 size) rfl
         have z4 := M.out.hit.cell (j := 4) (u := .int .u64 (blob : Int)) rfl
         have z5 := M.out.hit.cell (j := 5) (u := .slice FA fn fc) rfl
         have z6 := M.out.hit.cell (j := 6) (u := .int .i64 place) rfl
         have z7 := M.out.hit.cell (j := 7) (u := .int .i64 many) rfl
         have z8 := M.out.hit.cell (j := 8) (u := .int .i64 great) rfl
         have z9 := M.out.hit.cell (j := 9) (u := .slice BA bn bc) rfl
         skip)
      | (go_at_call 9; (with_reducible refine (C9.out _ M.out).mono ?_); rintro e w4 ⟨rfl, b4⟩; have M := hid (M.out.below b4); clear b4 y0 y1 y2 y3 y4 y5 z0 z1 z2 z3 z4 z5 z6 z7 z8 z9 C9
         have y0 := M.out.key.cell (j := 0) (u := .int .i64 kind) rfl
         have y1 := M.out.key.cell (j := 1) (u := .string (str s)) rfl
         have y2 := M.out.key.cell (j := 2) (u := .string (str t)) rfl
         have y3 := M.out.key.cell (j := 3) (u := .int .i64 n) rfl
         have y4 := M.out.key.cell (j := 4) (u := .slice SA sn sc) rfl
         have y5 := M.out.key.cell (j := 5) (u := .slice LA ln lc) rfl
         have z0 := M.out.hit.cell (j := 0) (u := .int .i64 uid) rfl
         have z1 := M.out.hit.cell (j := 1) (u := .int .i64 sec) rfl
         have z2 := M.out.hit.cell (j := 2) (u := .int .i64 zone) rfl
         have z3 := M.out.hit.cell (j := 3) (u := .int .i64 size) rfl
         have z4 := M.out.hit.cell (j := 4) (u := .int .u64 (blob : Int)) rfl
         have z5 := M.out.hit.cell (j := 5) (u := .slice FA fn fc) rfl
         have z6 := M.out.hit.cell (j := 6) (u := .int .i64 place) rfl
         have z7 := M.out.hit.cell (j := 7) (u := .int .i64 many) rfl
         have z8 := M.out.hit.cell (j := 8) (u := .int .i64 great) rfl
         have z9 := M.out.hit.cell (j := 9) (u := .slice BA bn bc) rfl
         skip)
      | (go_at_call 14; (with_reducible refine (C14.out _ M.out).mono ?_); rintro e w4 ⟨rfl, b4⟩; have M := hid (M.out.below b4); clear b4 y0 y1 y2 y3 y4 y5 z0 z1 z2 z3 z4 z5 z6 z7 z8 z9 C14
         have y0 := M.out.key.cell (j := 0) (u := .int .i64 kind) rfl
         have y1 := M.out.key.cell (j := 1) (u := .string (str s)) rfl
         have y2 := M.out.key.cell (j := 2) (u := .string (str t)) rfl
         have y3 := M.out.key.cell (j := 3) (u := .int .i64 n) rfl
         have y4 := M.out.key.cell (j := 4) (u := .slice SA sn sc) rfl
         have y5 := M.out.key.cell (j := 5) (u := .slice LA ln lc) rfl
         have z0 := M.out.hit.cell (j := 0) (u := .int .i64 uid) rfl
         have z1 := M.out.hit.cell (j := 1) (u := .int .i64 sec) rfl
         have z2 := M.out.hit.cell (j := 2) (u := .int .i64 zone) rfl
         have z3 := M.out.hit.cell (j := 3) (u := .int .i64 size) rfl
         have z4 := M.out.hit.cell (j := 4) (u := .int .u64 (blob : Int)) rfl
         have z5 := M.out.hit.cell (j := 5) (u := .slice FA fn fc) rfl
         have z6 := M.out.hit.cell (j := 6) (u := .int .i64 place) rfl
         have z7 := M.out.hit.cell (j := 7) (u := .int .i64 many) rfl
         have z8 := M.out.hit.cell (j := 8) (u := .int .i64 great) rfl
         have z9 := M.out.hit.cell (j := 9) (u := .slice BA bn bc) rfl
         skip)
      | (go_at_call 8; (with_reducible refine (HA.out _ M.out.t).mono ?_); rintro e w8 ⟨rfl, b8⟩; have B8 := hid (past M.out.b b8); clear b8)
    go_ret
    exact ⟨rfl, B8.out⟩
  | true =>
    have C11 := hid (fun X m => (by exact D11 X m : Calls Tryz.prog 11 #[.agg #[.int .i64 kind, .string (str s), .string (str t), .int .i64 n, .slice SA sn sc, .slice LA ln lc]] X fun e w' => e = .returned (.bool true) ∧ Below X.heap.size X w'))
    have C12 := hid (fun X m => (by exact D12 X m : Calls Tryz.prog 12 #[.agg #[.int .i64 kind, .string (str s), .string (str t), .int .i64 n, .slice SA sn sc, .slice LA ln lc]] X fun e w' => e = .returned (.bool true) ∧ Below X.heap.size X w'))
    have C9 := hid (fun X m => (by exact D9 X m : Calls Tryz.prog 9 #[.agg #[.int .i64 kind, .string (str s), .string (str t), .int .i64 n, .slice SA sn sc, .slice LA ln lc], .agg #[.int .i64 uid, .int .i64 sec, .int .i64 zone, .int .i64 size, .int .u64 (blob : Int), .slice FA fn fc, .int .i64 place, .int .i64 many, .int .i64 great, .slice BA bn bc]] X fun e w' => e = .returned (.bool r) ∧ Below X.heap.size X w'))
    have C14 := hid (fun X m => (by exact D14 X m : Calls Tryz.prog 14 #[.agg #[.int .i64 kind, .string (str s), .string (str t), .int .i64 n, .slice SA sn sc, .slice LA ln lc]] X fun e w' => e = .returned (.bool v) ∧ Below X.heap.size X w'))
    have C13 := hid (fun X m => (by exact D13 rfl X m : Calls Tryz.prog 13 #[.agg #[.int .i64 kind, .string (str s), .string (str t), .int .i64 n, .slice SA sn sc, .slice LA ln lc], .agg #[.int .i64 uid, .int .i64 sec, .int .i64 zone, .int .i64 size, .int .u64 (blob : Int), .slice FA fn fc, .int .i64 place, .int .i64 many, .int .i64 great, .slice BA bn bc]] X fun e w' => e = .returned (.bool r) ∧ Below X.heap.size X w'))
    have C15 := hid (fun X m => (by exact D15 rfl X m : Calls Tryz.prog 15 #[.agg #[.int .i64 kind, .string (str s), .string (str t), .int .i64 n, .slice SA sn sc, .slice LA ln lc]] X fun e w' => e = .returned (.bool v) ∧ Below X.heap.size X w'))
    clear D11 D12 D9 D14 D13 D15
    have y0 := M.out.key.cell (j := 0) (u := .int .i64 kind) rfl
    have y1 := M.out.key.cell (j := 1) (u := .string (str s)) rfl
    have y2 := M.out.key.cell (j := 2) (u := .string (str t)) rfl
    have y3 := M.out.key.cell (j := 3) (u := .int .i64 n) rfl
    have y4 := M.out.key.cell (j := 4) (u := .slice SA sn sc) rfl
    have y5 := M.out.key.cell (j := 5) (u := .slice LA ln lc) rfl
    have z0 := M.out.hit.cell (j := 0) (u := .int .i64 uid) rfl
    have z1 := M.out.hit.cell (j := 1) (u := .int .i64 sec) rfl
    have z2 := M.out.hit.cell (j := 2) (u := .int .i64 zone) rfl
    have z3 := M.out.hit.cell (j := 3) (u := .int .i64 size) rfl
    have z4 := M.out.hit.cell (j := 4) (u := .int .u64 (blob : Int)) rfl
    have z5 := M.out.hit.cell (j := 5) (u := .slice FA fn fc) rfl
    have z6 := M.out.hit.cell (j := 6) (u := .int .i64 place) rfl
    have z7 := M.out.hit.cell (j := 7) (u := .int .i64 many) rfl
    have z8 := M.out.hit.cell (j := 8) (u := .int .i64 great) rfl
    have z9 := M.out.hit.cell (j := 9) (u := .slice BA bn bc) rfl
    cases r
    all_goals cases v
    · go_wp2_with first
        | (go_at_call 11; (with_reducible refine (C11.out _ M.out).mono ?_); rintro e w4 ⟨rfl, b4⟩; have M := hid (M.out.below b4); clear b4 y0 y1 y2 y3 y4 y5 z0 z1 z2 z3 z4 z5 z6 z7 z8 z9 C11
           have y0 := M.out.key.cell (j := 0) (u := .int .i64 kind) rfl
           have y1 := M.out.key.cell (j := 1) (u := .string (str s)) rfl
           have y2 := M.out.key.cell (j := 2) (u := .string (str t)) rfl
           have y3 := M.out.key.cell (j := 3) (u := .int .i64 n) rfl
           have y4 := M.out.key.cell (j := 4) (u := .slice SA sn sc) rfl
           have y5 := M.out.key.cell (j := 5) (u := .slice LA ln lc) rfl
           have z0 := M.out.hit.cell (j := 0) (u := .int .i64 uid) rfl
           have z1 := M.out.hit.cell (j := 1) (u := .int .i64 sec) rfl
           have z2 := M.out.hit.cell (j := 2) (u := .int .i64 zone) rfl
           have z3 := M.out.hit.cell (j := 3) (u := .int .i64 size) rfl
           have z4 := M.out.hit.cell (j := 4) (u := .int .u64 (blob : Int)) rfl
           have z5 := M.out.hit.cell (j := 5) (u := .slice FA fn fc) rfl
           have z6 := M.out.hit.cell (j := 6) (u := .int .i64 place) rfl
           have z7 := M.out.hit.cell (j := 7) (u := .int .i64 many) rfl
           have z8 := M.out.hit.cell (j := 8) (u := .int .i64 great) rfl
           have z9 := M.out.hit.cell (j := 9) (u := .slice BA bn bc) rfl
           skip)
        | (go_at_call 12; (with_reducible refine (C12.out _ M.out).mono ?_); rintro e w4 ⟨rfl, b4⟩; have M := hid (M.out.below b4); clear b4 y0 y1 y2 y3 y4 y5 z0 z1 z2 z3 z4 z5 z6 z7 z8 z9 C12
           have y0 := M.out.key.cell (j := 0) (u := .int .i64 kind) rfl
           have y1 := M.out.key.cell (j := 1) (u := .string (str s)) rfl
           have y2 := M.out.key.cell (j := 2) (u := .string (str t)) rfl
           have y3 := M.out.key.cell (j := 3) (u := .int .i64 n) rfl
           have y4 := M.out.key.cell (j := 4) (u := .slice SA sn sc) rfl
           have y5 := M.out.key.cell (j := 5) (u := .slice LA ln lc) rfl
           have z0 := M.out.hit.cell (j := 0) (u := .int .i64 uid) rfl
           have z1 := M.out.hit.cell (j := 1) (u := .int .i64 sec) rfl
           have z2 := M.out.hit.cell (j := 2) (u := .int .i64 zone) rfl
           have z3 := M.out.hit.cell (j := 3) (u := .int .i64 size) rfl
           have z4 := M.out.hit.cell (j := 4) (u := .int .u64 (blob : Int)) rfl
           have z5 := M.out.hit.cell (j := 5) (u := .slice FA fn fc) rfl
           have z6 := M.out.hit.cell (j := 6) (u := .int .i64 place) rfl
           have z7 := M.out.hit.cell (j := 7) (u := .int .i64 many) rfl
           have z8 := M.out.hit.cell (j := 8) (u := .int .i64 great) rfl
           have z9 := M.out.hit.cell (j := 9) (u := .slice BA bn bc) rfl
           skip)
        | (go_at_call 9; (with_reducible refine (C9.out _ M.out).mono ?_); rintro e w4 ⟨rfl, b4⟩; have M := hid (M.out.below b4); clear b4 y0 y1 y2 y3 y4 y5 z0 z1 z2 z3 z4 z5 z6 z7 z8 z9 C9
           have y0 := M.out.key.cell (j := 0) (u := .int .i64 kind) rfl
           have y1 := M.out.key.cell (j := 1) (u := .string (str s)) rfl
           have y2 := M.out.key.cell (j := 2) (u := .string (str t)) rfl
           have y3 := M.out.key.cell (j := 3) (u := .int .i64 n) rfl
           have y4 := M.out.key.cell (j := 4) (u := .slice SA sn sc) rfl
           have y5 := M.out.key.cell (j := 5) (u := .slice LA ln lc) rfl
           have z0 := M.out.hit.cell (j := 0) (u := .int .i64 uid) rfl
           have z1 := M.out.hit.cell (j := 1) (u := .int .i64 sec) rfl
           have z2 := M.out.hit.cell (j := 2) (u := .int .i64 zone) rfl
           have z3 := M.out.hit.cell (j := 3) (u := .int .i64 size) rfl
           have z4 := M.out.hit.cell (j := 4) (u := .int .u64 (blob : Int)) rfl
           have z5 := M.out.hit.cell (j := 5) (u := .slice FA fn fc) rfl
           have z6 := M.out.hit.cell (j := 6) (u := .int .i64 place) rfl
           have z7 := M.out.hit.cell (j := 7) (u := .int .i64 many) rfl
           have z8 := M.out.hit.cell (j := 8) (u := .int .i64 great) rfl
           have z9 := M.out.hit.cell (j := 9) (u := .slice BA bn bc) rfl
           skip)
        | (go_at_call 13; (with_reducible refine (C13.out _ M.out).mono ?_); rintro e w4 ⟨rfl, b4⟩; have M := hid (M.out.below b4); clear b4 y0 y1 y2 y3 y4 y5 z0 z1 z2 z3 z4 z5 z6 z7 z8 z9 C13
           have y0 := M.out.key.cell (j := 0) (u := .int .i64 kind) rfl
           have y1 := M.out.key.cell (j := 1) (u := .string (str s)) rfl
           have y2 := M.out.key.cell (j := 2) (u := .string (str t)) rfl
           have y3 := M.out.key.cell (j := 3) (u := .int .i64 n) rfl
           have y4 := M.out.key.cell (j := 4) (u := .slice SA sn sc) rfl
           have y5 := M.out.key.cell (j := 5) (u := .slice LA ln lc) rfl
           have z0 := M.out.hit.cell (j := 0) (u := .int .i64 uid) rfl
           have z1 := M.out.hit.cell (j := 1) (u := .int .i64 sec) rfl
           have z2 := M.out.hit.cell (j := 2) (u := .int .i64 zone) rfl
           have z3 := M.out.hit.cell (j := 3) (u := .int .i64 size) rfl
           have z4 := M.out.hit.cell (j := 4) (u := .int .u64 (blob : Int)) rfl
           have z5 := M.out.hit.cell (j := 5) (u := .slice FA fn fc) rfl
           have z6 := M.out.hit.cell (j := 6) (u := .int .i64 place) rfl
           have z7 := M.out.hit.cell (j := 7) (u := .int .i64 many) rfl
           have z8 := M.out.hit.cell (j := 8) (u := .int .i64 great) rfl
           have z9 := M.out.hit.cell (j := 9) (u := .slice BA bn bc) rfl
           skip)
        | (go_at_call 14; (with_reducible refine (C14.out _ M.out).mono ?_); rintro e w4 ⟨rfl, b4⟩; have M := hid (M.out.below b4); clear b4 y0 y1 y2 y3 y4 y5 z0 z1 z2 z3 z4 z5 z6 z7 z8 z9 C14
           have y0 := M.out.key.cell (j := 0) (u := .int .i64 kind) rfl
           have y1 := M.out.key.cell (j := 1) (u := .string (str s)) rfl
           have y2 := M.out.key.cell (j := 2) (u := .string (str t)) rfl
           have y3 := M.out.key.cell (j := 3) (u := .int .i64 n) rfl
           have y4 := M.out.key.cell (j := 4) (u := .slice SA sn sc) rfl
           have y5 := M.out.key.cell (j := 5) (u := .slice LA ln lc) rfl
           have z0 := M.out.hit.cell (j := 0) (u := .int .i64 uid) rfl
           have z1 := M.out.hit.cell (j := 1) (u := .int .i64 sec) rfl
           have z2 := M.out.hit.cell (j := 2) (u := .int .i64 zone) rfl
           have z3 := M.out.hit.cell (j := 3) (u := .int .i64 size) rfl
           have z4 := M.out.hit.cell (j := 4) (u := .int .u64 (blob : Int)) rfl
           have z5 := M.out.hit.cell (j := 5) (u := .slice FA fn fc) rfl
           have z6 := M.out.hit.cell (j := 6) (u := .int .i64 place) rfl
           have z7 := M.out.hit.cell (j := 7) (u := .int .i64 many) rfl
           have z8 := M.out.hit.cell (j := 8) (u := .int .i64 great) rfl
           have z9 := M.out.hit.cell (j := 9) (u := .slice BA bn bc) rfl
           skip)
        | (go_at_call 15; (with_reducible refine (C15.out _ M.out).mono ?_); rintro e w4 ⟨rfl, b4⟩; have M := hid (M.out.below b4); clear b4 y0 y1 y2 y3 y4 y5 z0 z1 z2 z3 z4 z5 z6 z7 z8 z9 C15
           have y0 := M.out.key.cell (j := 0) (u := .int .i64 kind) rfl
           have y1 := M.out.key.cell (j := 1) (u := .string (str s)) rfl
           have y2 := M.out.key.cell (j := 2) (u := .string (str t)) rfl
           have y3 := M.out.key.cell (j := 3) (u := .int .i64 n) rfl
           have y4 := M.out.key.cell (j := 4) (u := .slice SA sn sc) rfl
           have y5 := M.out.key.cell (j := 5) (u := .slice LA ln lc) rfl
           have z0 := M.out.hit.cell (j := 0) (u := .int .i64 uid) rfl
           have z1 := M.out.hit.cell (j := 1) (u := .int .i64 sec) rfl
           have z2 := M.out.hit.cell (j := 2) (u := .int .i64 zone) rfl
           have z3 := M.out.hit.cell (j := 3) (u := .int .i64 size) rfl
           have z4 := M.out.hit.cell (j := 4) (u := .int .u64 (blob : Int)) rfl
           have z5 := M.out.hit.cell (j := 5) (u := .slice FA fn fc) rfl
           have z6 := M.out.hit.cell (j := 6) (u := .int .i64 place) rfl
           have z7 := M.out.hit.cell (j := 7) (u := .int .i64 many) rfl
           have z8 := M.out.hit.cell (j := 8) (u := .int .i64 great) rfl
           have z9 := M.out.hit.cell (j := 9) (u := .slice BA bn bc) rfl
           skip)
        | (go_at_call 8; (with_reducible refine (HA.out _ M.out.t).mono ?_); rintro e w8 ⟨rfl, b8⟩; have B8 := hid (past M.out.b b8); clear b8)
      go_ret
      exact ⟨rfl, B8.out⟩
    · go_wp2_with first
        | (go_at_call 11; (with_reducible refine (C11.out _ M.out).mono ?_); rintro e w4 ⟨rfl, b4⟩; have M := hid (M.out.below b4); clear b4 y0 y1 y2 y3 y4 y5 z0 z1 z2 z3 z4 z5 z6 z7 z8 z9 C11
           have y0 := M.out.key.cell (j := 0) (u := .int .i64 kind) rfl
           have y1 := M.out.key.cell (j := 1) (u := .string (str s)) rfl
           have y2 := M.out.key.cell (j := 2) (u := .string (str t)) rfl
           have y3 := M.out.key.cell (j := 3) (u := .int .i64 n) rfl
           have y4 := M.out.key.cell (j := 4) (u := .slice SA sn sc) rfl
           have y5 := M.out.key.cell (j := 5) (u := .slice LA ln lc) rfl
           have z0 := M.out.hit.cell (j := 0) (u := .int .i64 uid) rfl
           have z1 := M.out.hit.cell (j := 1) (u := .int .i64 sec) rfl
           have z2 := M.out.hit.cell (j := 2) (u := .int .i64 zone) rfl
           have z3 := M.out.hit.cell (j := 3) (u := .int .i64 size) rfl
           have z4 := M.out.hit.cell (j := 4) (u := .int .u64 (blob : Int)) rfl
           have z5 := M.out.hit.cell (j := 5) (u := .slice FA fn fc) rfl
           have z6 := M.out.hit.cell (j := 6) (u := .int .i64 place) rfl
           have z7 := M.out.hit.cell (j := 7) (u := .int .i64 many) rfl
           have z8 := M.out.hit.cell (j := 8) (u := .int .i64 great) rfl
           have z9 := M.out.hit.cell (j := 9) (u := .slice BA bn bc) rfl
           skip)
        | (go_at_call 12; (with_reducible refine (C12.out _ M.out).mono ?_); rintro e w4 ⟨rfl, b4⟩; have M := hid (M.out.below b4); clear b4 y0 y1 y2 y3 y4 y5 z0 z1 z2 z3 z4 z5 z6 z7 z8 z9 C12
           have y0 := M.out.key.cell (j := 0) (u := .int .i64 kind) rfl
           have y1 := M.out.key.cell (j := 1) (u := .string (str s)) rfl
           have y2 := M.out.key.cell (j := 2) (u := .string (str t)) rfl
           have y3 := M.out.key.cell (j := 3) (u := .int .i64 n) rfl
           have y4 := M.out.key.cell (j := 4) (u := .slice SA sn sc) rfl
           have y5 := M.out.key.cell (j := 5) (u := .slice LA ln lc) rfl
           have z0 := M.out.hit.cell (j := 0) (u := .int .i64 uid) rfl
           have z1 := M.out.hit.cell (j := 1) (u := .int .i64 sec) rfl
           have z2 := M.out.hit.cell (j := 2) (u := .int .i64 zone) rfl
           have z3 := M.out.hit.cell (j := 3) (u := .int .i64 size) rfl
           have z4 := M.out.hit.cell (j := 4) (u := .int .u64 (blob : Int)) rfl
           have z5 := M.out.hit.cell (j := 5) (u := .slice FA fn fc) rfl
           have z6 := M.out.hit.cell (j := 6) (u := .int .i64 place) rfl
           have z7 := M.out.hit.cell (j := 7) (u := .int .i64 many) rfl
           have z8 := M.out.hit.cell (j := 8) (u := .int .i64 great) rfl
           have z9 := M.out.hit.cell (j := 9) (u := .slice BA bn bc) rfl
           skip)
        | (go_at_call 9; (with_reducible refine (C9.out _ M.out).mono ?_); rintro e w4 ⟨rfl, b4⟩; have M := hid (M.out.below b4); clear b4 y0 y1 y2 y3 y4 y5 z0 z1 z2 z3 z4 z5 z6 z7 z8 z9 C9
           have y0 := M.out.key.cell (j := 0) (u := .int .i64 kind) rfl
           have y1 := M.out.key.cell (j := 1) (u := .string (str s)) rfl
           have y2 := M.out.key.cell (j := 2) (u := .string (str t)) rfl
           have y3 := M.out.key.cell (j := 3) (u := .int .i64 n) rfl
           have y4 := M.out.key.cell (j := 4) (u := .slice SA sn sc) rfl
           have y5 := M.out.key.cell (j := 5) (u := .slice LA ln lc) rfl
           have z0 := M.out.hit.cell (j := 0) (u := .int .i64 uid) rfl
           have z1 := M.out.hit.cell (j := 1) (u := .int .i64 sec) rfl
           have z2 := M.out.hit.cell (j := 2) (u := .int .i64 zone) rfl
           have z3 := M.out.hit.cell (j := 3) (u := .int .i64 size) rfl
           have z4 := M.out.hit.cell (j := 4) (u := .int .u64 (blob : Int)) rfl
           have z5 := M.out.hit.cell (j := 5) (u := .slice FA fn fc) rfl
           have z6 := M.out.hit.cell (j := 6) (u := .int .i64 place) rfl
           have z7 := M.out.hit.cell (j := 7) (u := .int .i64 many) rfl
           have z8 := M.out.hit.cell (j := 8) (u := .int .i64 great) rfl
           have z9 := M.out.hit.cell (j := 9) (u := .slice BA bn bc) rfl
           skip)
        | (go_at_call 13; (with_reducible refine (C13.out _ M.out).mono ?_); rintro e w4 ⟨rfl, b4⟩; have M := hid (M.out.below b4); clear b4 y0 y1 y2 y3 y4 y5 z0 z1 z2 z3 z4 z5 z6 z7 z8 z9 C13
           have y0 := M.out.key.cell (j := 0) (u := .int .i64 kind) rfl
           have y1 := M.out.key.cell (j := 1) (u := .string (str s)) rfl
           have y2 := M.out.key.cell (j := 2) (u := .string (str t)) rfl
           have y3 := M.out.key.cell (j := 3) (u := .int .i64 n) rfl
           have y4 := M.out.key.cell (j := 4) (u := .slice SA sn sc) rfl
           have y5 := M.out.key.cell (j := 5) (u := .slice LA ln lc) rfl
           have z0 := M.out.hit.cell (j := 0) (u := .int .i64 uid) rfl
           have z1 := M.out.hit.cell (j := 1) (u := .int .i64 sec) rfl
           have z2 := M.out.hit.cell (j := 2) (u := .int .i64 zone) rfl
           have z3 := M.out.hit.cell (j := 3) (u := .int .i64 size) rfl
           have z4 := M.out.hit.cell (j := 4) (u := .int .u64 (blob : Int)) rfl
           have z5 := M.out.hit.cell (j := 5) (u := .slice FA fn fc) rfl
           have z6 := M.out.hit.cell (j := 6) (u := .int .i64 place) rfl
           have z7 := M.out.hit.cell (j := 7) (u := .int .i64 many) rfl
           have z8 := M.out.hit.cell (j := 8) (u := .int .i64 great) rfl
           have z9 := M.out.hit.cell (j := 9) (u := .slice BA bn bc) rfl
           skip)
        | (go_at_call 14; (with_reducible refine (C14.out _ M.out).mono ?_); rintro e w4 ⟨rfl, b4⟩; have M := hid (M.out.below b4); clear b4 y0 y1 y2 y3 y4 y5 z0 z1 z2 z3 z4 z5 z6 z7 z8 z9 C14
           have y0 := M.out.key.cell (j := 0) (u := .int .i64 kind) rfl
           have y1 := M.out.key.cell (j := 1) (u := .string (str s)) rfl
           have y2 := M.out.key.cell (j := 2) (u := .string (str t)) rfl
           have y3 := M.out.key.cell (j := 3) (u := .int .i64 n) rfl
           have y4 := M.out.key.cell (j := 4) (u := .slice SA sn sc) rfl
           have y5 := M.out.key.cell (j := 5) (u := .slice LA ln lc) rfl
           have z0 := M.out.hit.cell (j := 0) (u := .int .i64 uid) rfl
           have z1 := M.out.hit.cell (j := 1) (u := .int .i64 sec) rfl
           have z2 := M.out.hit.cell (j := 2) (u := .int .i64 zone) rfl
           have z3 := M.out.hit.cell (j := 3) (u := .int .i64 size) rfl
           have z4 := M.out.hit.cell (j := 4) (u := .int .u64 (blob : Int)) rfl
           have z5 := M.out.hit.cell (j := 5) (u := .slice FA fn fc) rfl
           have z6 := M.out.hit.cell (j := 6) (u := .int .i64 place) rfl
           have z7 := M.out.hit.cell (j := 7) (u := .int .i64 many) rfl
           have z8 := M.out.hit.cell (j := 8) (u := .int .i64 great) rfl
           have z9 := M.out.hit.cell (j := 9) (u := .slice BA bn bc) rfl
           skip)
        | (go_at_call 15; (with_reducible refine (C15.out _ M.out).mono ?_); rintro e w4 ⟨rfl, b4⟩; have M := hid (M.out.below b4); clear b4 y0 y1 y2 y3 y4 y5 z0 z1 z2 z3 z4 z5 z6 z7 z8 z9 C15
           have y0 := M.out.key.cell (j := 0) (u := .int .i64 kind) rfl
           have y1 := M.out.key.cell (j := 1) (u := .string (str s)) rfl
           have y2 := M.out.key.cell (j := 2) (u := .string (str t)) rfl
           have y3 := M.out.key.cell (j := 3) (u := .int .i64 n) rfl
           have y4 := M.out.key.cell (j := 4) (u := .slice SA sn sc) rfl
           have y5 := M.out.key.cell (j := 5) (u := .slice LA ln lc) rfl
           have z0 := M.out.hit.cell (j := 0) (u := .int .i64 uid) rfl
           have z1 := M.out.hit.cell (j := 1) (u := .int .i64 sec) rfl
           have z2 := M.out.hit.cell (j := 2) (u := .int .i64 zone) rfl
           have z3 := M.out.hit.cell (j := 3) (u := .int .i64 size) rfl
           have z4 := M.out.hit.cell (j := 4) (u := .int .u64 (blob : Int)) rfl
           have z5 := M.out.hit.cell (j := 5) (u := .slice FA fn fc) rfl
           have z6 := M.out.hit.cell (j := 6) (u := .int .i64 place) rfl
           have z7 := M.out.hit.cell (j := 7) (u := .int .i64 many) rfl
           have z8 := M.out.hit.cell (j := 8) (u := .int .i64 great) rfl
           have z9 := M.out.hit.cell (j := 9) (u := .slice BA bn bc) rfl
           skip)
        | (go_at_call 8; (with_reducible refine (HA.out _ M.out.t).mono ?_); rintro e w8 ⟨rfl, b8⟩; have B8 := hid (past M.out.b b8); clear b8)
      go_ret
      exact ⟨rfl, B8.out⟩
    · go_wp2_with first
        | (go_at_call 11; (with_reducible refine (C11.out _ M.out).mono ?_); rintro e w4 ⟨rfl, b4⟩; have M := hid (M.out.below b4); clear b4 y0 y1 y2 y3 y4 y5 z0 z1 z2 z3 z4 z5 z6 z7 z8 z9 C11
           have y0 := M.out.key.cell (j := 0) (u := .int .i64 kind) rfl
           have y1 := M.out.key.cell (j := 1) (u := .string (str s)) rfl
           have y2 := M.out.key.cell (j := 2) (u := .string (str t)) rfl
           have y3 := M.out.key.cell (j := 3) (u := .int .i64 n) rfl
           have y4 := M.out.key.cell (j := 4) (u := .slice SA sn sc) rfl
           have y5 := M.out.key.cell (j := 5) (u := .slice LA ln lc) rfl
           have z0 := M.out.hit.cell (j := 0) (u := .int .i64 uid) rfl
           have z1 := M.out.hit.cell (j := 1) (u := .int .i64 sec) rfl
           have z2 := M.out.hit.cell (j := 2) (u := .int .i64 zone) rfl
           have z3 := M.out.hit.cell (j := 3) (u := .int .i64 size) rfl
           have z4 := M.out.hit.cell (j := 4) (u := .int .u64 (blob : Int)) rfl
           have z5 := M.out.hit.cell (j := 5) (u := .slice FA fn fc) rfl
           have z6 := M.out.hit.cell (j := 6) (u := .int .i64 place) rfl
           have z7 := M.out.hit.cell (j := 7) (u := .int .i64 many) rfl
           have z8 := M.out.hit.cell (j := 8) (u := .int .i64 great) rfl
           have z9 := M.out.hit.cell (j := 9) (u := .slice BA bn bc) rfl
           skip)
        | (go_at_call 12; (with_reducible refine (C12.out _ M.out).mono ?_); rintro e w4 ⟨rfl, b4⟩; have M := hid (M.out.below b4); clear b4 y0 y1 y2 y3 y4 y5 z0 z1 z2 z3 z4 z5 z6 z7 z8 z9 C12
           have y0 := M.out.key.cell (j := 0) (u := .int .i64 kind) rfl
           have y1 := M.out.key.cell (j := 1) (u := .string (str s)) rfl
           have y2 := M.out.key.cell (j := 2) (u := .string (str t)) rfl
           have y3 := M.out.key.cell (j := 3) (u := .int .i64 n) rfl
           have y4 := M.out.key.cell (j := 4) (u := .slice SA sn sc) rfl
           have y5 := M.out.key.cell (j := 5) (u := .slice LA ln lc) rfl
           have z0 := M.out.hit.cell (j := 0) (u := .int .i64 uid) rfl
           have z1 := M.out.hit.cell (j := 1) (u := .int .i64 sec) rfl
           have z2 := M.out.hit.cell (j := 2) (u := .int .i64 zone) rfl
           have z3 := M.out.hit.cell (j := 3) (u := .int .i64 size) rfl
           have z4 := M.out.hit.cell (j := 4) (u := .int .u64 (blob : Int)) rfl
           have z5 := M.out.hit.cell (j := 5) (u := .slice FA fn fc) rfl
           have z6 := M.out.hit.cell (j := 6) (u := .int .i64 place) rfl
           have z7 := M.out.hit.cell (j := 7) (u := .int .i64 many) rfl
           have z8 := M.out.hit.cell (j := 8) (u := .int .i64 great) rfl
           have z9 := M.out.hit.cell (j := 9) (u := .slice BA bn bc) rfl
           skip)
        | (go_at_call 9; (with_reducible refine (C9.out _ M.out).mono ?_); rintro e w4 ⟨rfl, b4⟩; have M := hid (M.out.below b4); clear b4 y0 y1 y2 y3 y4 y5 z0 z1 z2 z3 z4 z5 z6 z7 z8 z9 C9
           have y0 := M.out.key.cell (j := 0) (u := .int .i64 kind) rfl
           have y1 := M.out.key.cell (j := 1) (u := .string (str s)) rfl
           have y2 := M.out.key.cell (j := 2) (u := .string (str t)) rfl
           have y3 := M.out.key.cell (j := 3) (u := .int .i64 n) rfl
           have y4 := M.out.key.cell (j := 4) (u := .slice SA sn sc) rfl
           have y5 := M.out.key.cell (j := 5) (u := .slice LA ln lc) rfl
           have z0 := M.out.hit.cell (j := 0) (u := .int .i64 uid) rfl
           have z1 := M.out.hit.cell (j := 1) (u := .int .i64 sec) rfl
           have z2 := M.out.hit.cell (j := 2) (u := .int .i64 zone) rfl
           have z3 := M.out.hit.cell (j := 3) (u := .int .i64 size) rfl
           have z4 := M.out.hit.cell (j := 4) (u := .int .u64 (blob : Int)) rfl
           have z5 := M.out.hit.cell (j := 5) (u := .slice FA fn fc) rfl
           have z6 := M.out.hit.cell (j := 6) (u := .int .i64 place) rfl
           have z7 := M.out.hit.cell (j := 7) (u := .int .i64 many) rfl
           have z8 := M.out.hit.cell (j := 8) (u := .int .i64 great) rfl
           have z9 := M.out.hit.cell (j := 9) (u := .slice BA bn bc) rfl
           skip)
        | (go_at_call 13; (with_reducible refine (C13.out _ M.out).mono ?_); rintro e w4 ⟨rfl, b4⟩; have M := hid (M.out.below b4); clear b4 y0 y1 y2 y3 y4 y5 z0 z1 z2 z3 z4 z5 z6 z7 z8 z9 C13
           have y0 := M.out.key.cell (j := 0) (u := .int .i64 kind) rfl
           have y1 := M.out.key.cell (j := 1) (u := .string (str s)) rfl
           have y2 := M.out.key.cell (j := 2) (u := .string (str t)) rfl
           have y3 := M.out.key.cell (j := 3) (u := .int .i64 n) rfl
           have y4 := M.out.key.cell (j := 4) (u := .slice SA sn sc) rfl
           have y5 := M.out.key.cell (j := 5) (u := .slice LA ln lc) rfl
           have z0 := M.out.hit.cell (j := 0) (u := .int .i64 uid) rfl
           have z1 := M.out.hit.cell (j := 1) (u := .int .i64 sec) rfl
           have z2 := M.out.hit.cell (j := 2) (u := .int .i64 zone) rfl
           have z3 := M.out.hit.cell (j := 3) (u := .int .i64 size) rfl
           have z4 := M.out.hit.cell (j := 4) (u := .int .u64 (blob : Int)) rfl
           have z5 := M.out.hit.cell (j := 5) (u := .slice FA fn fc) rfl
           have z6 := M.out.hit.cell (j := 6) (u := .int .i64 place) rfl
           have z7 := M.out.hit.cell (j := 7) (u := .int .i64 many) rfl
           have z8 := M.out.hit.cell (j := 8) (u := .int .i64 great) rfl
           have z9 := M.out.hit.cell (j := 9) (u := .slice BA bn bc) rfl
           skip)
        | (go_at_call 14; (with_reducible refine (C14.out _ M.out).mono ?_); rintro e w4 ⟨rfl, b4⟩; have M := hid (M.out.below b4); clear b4 y0 y1 y2 y3 y4 y5 z0 z1 z2 z3 z4 z5 z6 z7 z8 z9 C14
           have y0 := M.out.key.cell (j := 0) (u := .int .i64 kind) rfl
           have y1 := M.out.key.cell (j := 1) (u := .string (str s)) rfl
           have y2 := M.out.key.cell (j := 2) (u := .string (str t)) rfl
           have y3 := M.out.key.cell (j := 3) (u := .int .i64 n) rfl
           have y4 := M.out.key.cell (j := 4) (u := .slice SA sn sc) rfl
           have y5 := M.out.key.cell (j := 5) (u := .slice LA ln lc) rfl
           have z0 := M.out.hit.cell (j := 0) (u := .int .i64 uid) rfl
           have z1 := M.out.hit.cell (j := 1) (u := .int .i64 sec) rfl
           have z2 := M.out.hit.cell (j := 2) (u := .int .i64 zone) rfl
           have z3 := M.out.hit.cell (j := 3) (u := .int .i64 size) rfl
           have z4 := M.out.hit.cell (j := 4) (u := .int .u64 (blob : Int)) rfl
           have z5 := M.out.hit.cell (j := 5) (u := .slice FA fn fc) rfl
           have z6 := M.out.hit.cell (j := 6) (u := .int .i64 place) rfl
           have z7 := M.out.hit.cell (j := 7) (u := .int .i64 many) rfl
           have z8 := M.out.hit.cell (j := 8) (u := .int .i64 great) rfl
           have z9 := M.out.hit.cell (j := 9) (u := .slice BA bn bc) rfl
           skip)
        | (go_at_call 15; (with_reducible refine (C15.out _ M.out).mono ?_); rintro e w4 ⟨rfl, b4⟩; have M := hid (M.out.below b4); clear b4 y0 y1 y2 y3 y4 y5 z0 z1 z2 z3 z4 z5 z6 z7 z8 z9 C15
           have y0 := M.out.key.cell (j := 0) (u := .int .i64 kind) rfl
           have y1 := M.out.key.cell (j := 1) (u := .string (str s)) rfl
           have y2 := M.out.key.cell (j := 2) (u := .string (str t)) rfl
           have y3 := M.out.key.cell (j := 3) (u := .int .i64 n) rfl
           have y4 := M.out.key.cell (j := 4) (u := .slice SA sn sc) rfl
           have y5 := M.out.key.cell (j := 5) (u := .slice LA ln lc) rfl
           have z0 := M.out.hit.cell (j := 0) (u := .int .i64 uid) rfl
           have z1 := M.out.hit.cell (j := 1) (u := .int .i64 sec) rfl
           have z2 := M.out.hit.cell (j := 2) (u := .int .i64 zone) rfl
           have z3 := M.out.hit.cell (j := 3) (u := .int .i64 size) rfl
           have z4 := M.out.hit.cell (j := 4) (u := .int .u64 (blob : Int)) rfl
           have z5 := M.out.hit.cell (j := 5) (u := .slice FA fn fc) rfl
           have z6 := M.out.hit.cell (j := 6) (u := .int .i64 place) rfl
           have z7 := M.out.hit.cell (j := 7) (u := .int .i64 many) rfl
           have z8 := M.out.hit.cell (j := 8) (u := .int .i64 great) rfl
           have z9 := M.out.hit.cell (j := 9) (u := .slice BA bn bc) rfl
           skip)
        | (go_at_call 8; (with_reducible refine (HA.out _ M.out.t).mono ?_); rintro e w8 ⟨rfl, b8⟩; have B8 := hid (past M.out.b b8); clear b8)
      go_ret
      exact ⟨rfl, B8.out⟩
    · go_wp2_with first
        | (go_at_call 11; (with_reducible refine (C11.out _ M.out).mono ?_); rintro e w4 ⟨rfl, b4⟩; have M := hid (M.out.below b4); clear b4 y0 y1 y2 y3 y4 y5 z0 z1 z2 z3 z4 z5 z6 z7 z8 z9 C11
           have y0 := M.out.key.cell (j := 0) (u := .int .i64 kind) rfl
           have y1 := M.out.key.cell (j := 1) (u := .string (str s)) rfl
           have y2 := M.out.key.cell (j := 2) (u := .string (str t)) rfl
           have y3 := M.out.key.cell (j := 3) (u := .int .i64 n) rfl
           have y4 := M.out.key.cell (j := 4) (u := .slice SA sn sc) rfl
           have y5 := M.out.key.cell (j := 5) (u := .slice LA ln lc) rfl
           have z0 := M.out.hit.cell (j := 0) (u := .int .i64 uid) rfl
           have z1 := M.out.hit.cell (j := 1) (u := .int .i64 sec) rfl
           have z2 := M.out.hit.cell (j := 2) (u := .int .i64 zone) rfl
           have z3 := M.out.hit.cell (j := 3) (u := .int .i64 size) rfl
           have z4 := M.out.hit.cell (j := 4) (u := .int .u64 (blob : Int)) rfl
           have z5 := M.out.hit.cell (j := 5) (u := .slice FA fn fc) rfl
           have z6 := M.out.hit.cell (j := 6) (u := .int .i64 place) rfl
           have z7 := M.out.hit.cell (j := 7) (u := .int .i64 many) rfl
           have z8 := M.out.hit.cell (j := 8) (u := .int .i64 great) rfl
           have z9 := M.out.hit.cell (j := 9) (u := .slice BA bn bc) rfl
           skip)
        | (go_at_call 12; (with_reducible refine (C12.out _ M.out).mono ?_); rintro e w4 ⟨rfl, b4⟩; have M := hid (M.out.below b4); clear b4 y0 y1 y2 y3 y4 y5 z0 z1 z2 z3 z4 z5 z6 z7 z8 z9 C12
           have y0 := M.out.key.cell (j := 0) (u := .int .i64 kind) rfl
           have y1 := M.out.key.cell (j := 1) (u := .string (str s)) rfl
           have y2 := M.out.key.cell (j := 2) (u := .string (str t)) rfl
           have y3 := M.out.key.cell (j := 3) (u := .int .i64 n) rfl
           have y4 := M.out.key.cell (j := 4) (u := .slice SA sn sc) rfl
           have y5 := M.out.key.cell (j := 5) (u := .slice LA ln lc) rfl
           have z0 := M.out.hit.cell (j := 0) (u := .int .i64 uid) rfl
           have z1 := M.out.hit.cell (j := 1) (u := .int .i64 sec) rfl
           have z2 := M.out.hit.cell (j := 2) (u := .int .i64 zone) rfl
           have z3 := M.out.hit.cell (j := 3) (u := .int .i64 size) rfl
           have z4 := M.out.hit.cell (j := 4) (u := .int .u64 (blob : Int)) rfl
           have z5 := M.out.hit.cell (j := 5) (u := .slice FA fn fc) rfl
           have z6 := M.out.hit.cell (j := 6) (u := .int .i64 place) rfl
           have z7 := M.out.hit.cell (j := 7) (u := .int .i64 many) rfl
           have z8 := M.out.hit.cell (j := 8) (u := .int .i64 great) rfl
           have z9 := M.out.hit.cell (j := 9) (u := .slice BA bn bc) rfl
           skip)
        | (go_at_call 9; (with_reducible refine (C9.out _ M.out).mono ?_); rintro e w4 ⟨rfl, b4⟩; have M := hid (M.out.below b4); clear b4 y0 y1 y2 y3 y4 y5 z0 z1 z2 z3 z4 z5 z6 z7 z8 z9 C9
           have y0 := M.out.key.cell (j := 0) (u := .int .i64 kind) rfl
           have y1 := M.out.key.cell (j := 1) (u := .string (str s)) rfl
           have y2 := M.out.key.cell (j := 2) (u := .string (str t)) rfl
           have y3 := M.out.key.cell (j := 3) (u := .int .i64 n) rfl
           have y4 := M.out.key.cell (j := 4) (u := .slice SA sn sc) rfl
           have y5 := M.out.key.cell (j := 5) (u := .slice LA ln lc) rfl
           have z0 := M.out.hit.cell (j := 0) (u := .int .i64 uid) rfl
           have z1 := M.out.hit.cell (j := 1) (u := .int .i64 sec) rfl
           have z2 := M.out.hit.cell (j := 2) (u := .int .i64 zone) rfl
           have z3 := M.out.hit.cell (j := 3) (u := .int .i64 size) rfl
           have z4 := M.out.hit.cell (j := 4) (u := .int .u64 (blob : Int)) rfl
           have z5 := M.out.hit.cell (j := 5) (u := .slice FA fn fc) rfl
           have z6 := M.out.hit.cell (j := 6) (u := .int .i64 place) rfl
           have z7 := M.out.hit.cell (j := 7) (u := .int .i64 many) rfl
           have z8 := M.out.hit.cell (j := 8) (u := .int .i64 great) rfl
           have z9 := M.out.hit.cell (j := 9) (u := .slice BA bn bc) rfl
           skip)
        | (go_at_call 13; (with_reducible refine (C13.out _ M.out).mono ?_); rintro e w4 ⟨rfl, b4⟩; have M := hid (M.out.below b4); clear b4 y0 y1 y2 y3 y4 y5 z0 z1 z2 z3 z4 z5 z6 z7 z8 z9 C13
           have y0 := M.out.key.cell (j := 0) (u := .int .i64 kind) rfl
           have y1 := M.out.key.cell (j := 1) (u := .string (str s)) rfl
           have y2 := M.out.key.cell (j := 2) (u := .string (str t)) rfl
           have y3 := M.out.key.cell (j := 3) (u := .int .i64 n) rfl
           have y4 := M.out.key.cell (j := 4) (u := .slice SA sn sc) rfl
           have y5 := M.out.key.cell (j := 5) (u := .slice LA ln lc) rfl
           have z0 := M.out.hit.cell (j := 0) (u := .int .i64 uid) rfl
           have z1 := M.out.hit.cell (j := 1) (u := .int .i64 sec) rfl
           have z2 := M.out.hit.cell (j := 2) (u := .int .i64 zone) rfl
           have z3 := M.out.hit.cell (j := 3) (u := .int .i64 size) rfl
           have z4 := M.out.hit.cell (j := 4) (u := .int .u64 (blob : Int)) rfl
           have z5 := M.out.hit.cell (j := 5) (u := .slice FA fn fc) rfl
           have z6 := M.out.hit.cell (j := 6) (u := .int .i64 place) rfl
           have z7 := M.out.hit.cell (j := 7) (u := .int .i64 many) rfl
           have z8 := M.out.hit.cell (j := 8) (u := .int .i64 great) rfl
           have z9 := M.out.hit.cell (j := 9) (u := .slice BA bn bc) rfl
           skip)
        | (go_at_call 14; (with_reducible refine (C14.out _ M.out).mono ?_); rintro e w4 ⟨rfl, b4⟩; have M := hid (M.out.below b4); clear b4 y0 y1 y2 y3 y4 y5 z0 z1 z2 z3 z4 z5 z6 z7 z8 z9 C14
           have y0 := M.out.key.cell (j := 0) (u := .int .i64 kind) rfl
           have y1 := M.out.key.cell (j := 1) (u := .string (str s)) rfl
           have y2 := M.out.key.cell (j := 2) (u := .string (str t)) rfl
           have y3 := M.out.key.cell (j := 3) (u := .int .i64 n) rfl
           have y4 := M.out.key.cell (j := 4) (u := .slice SA sn sc) rfl
           have y5 := M.out.key.cell (j := 5) (u := .slice LA ln lc) rfl
           have z0 := M.out.hit.cell (j := 0) (u := .int .i64 uid) rfl
           have z1 := M.out.hit.cell (j := 1) (u := .int .i64 sec) rfl
           have z2 := M.out.hit.cell (j := 2) (u := .int .i64 zone) rfl
           have z3 := M.out.hit.cell (j := 3) (u := .int .i64 size) rfl
           have z4 := M.out.hit.cell (j := 4) (u := .int .u64 (blob : Int)) rfl
           have z5 := M.out.hit.cell (j := 5) (u := .slice FA fn fc) rfl
           have z6 := M.out.hit.cell (j := 6) (u := .int .i64 place) rfl
           have z7 := M.out.hit.cell (j := 7) (u := .int .i64 many) rfl
           have z8 := M.out.hit.cell (j := 8) (u := .int .i64 great) rfl
           have z9 := M.out.hit.cell (j := 9) (u := .slice BA bn bc) rfl
           skip)
        | (go_at_call 15; (with_reducible refine (C15.out _ M.out).mono ?_); rintro e w4 ⟨rfl, b4⟩; have M := hid (M.out.below b4); clear b4 y0 y1 y2 y3 y4 y5 z0 z1 z2 z3 z4 z5 z6 z7 z8 z9 C15
           have y0 := M.out.key.cell (j := 0) (u := .int .i64 kind) rfl
           have y1 := M.out.key.cell (j := 1) (u := .string (str s)) rfl
           have y2 := M.out.key.cell (j := 2) (u := .string (str t)) rfl
           have y3 := M.out.key.cell (j := 3) (u := .int .i64 n) rfl
           have y4 := M.out.key.cell (j := 4) (u := .slice SA sn sc) rfl
           have y5 := M.out.key.cell (j := 5) (u := .slice LA ln lc) rfl
           have z0 := M.out.hit.cell (j := 0) (u := .int .i64 uid) rfl
           have z1 := M.out.hit.cell (j := 1) (u := .int .i64 sec) rfl
           have z2 := M.out.hit.cell (j := 2) (u := .int .i64 zone) rfl
           have z3 := M.out.hit.cell (j := 3) (u := .int .i64 size) rfl
           have z4 := M.out.hit.cell (j := 4) (u := .int .u64 (blob : Int)) rfl
           have z5 := M.out.hit.cell (j := 5) (u := .slice FA fn fc) rfl
           have z6 := M.out.hit.cell (j := 6) (u := .int .i64 place) rfl
           have z7 := M.out.hit.cell (j := 7) (u := .int .i64 many) rfl
           have z8 := M.out.hit.cell (j := 8) (u := .int .i64 great) rfl
           have z9 := M.out.hit.cell (j := 9) (u := .slice BA bn bc) rfl
           skip)
        | (go_at_call 8; (with_reducible refine (HA.out _ M.out.t).mono ?_); rintro e w8 ⟨rfl, b8⟩; have B8 := hid (past M.out.b b8); clear b8)
      go_ret
      exact ⟨rfl, B8.out⟩
end Go.Proofs.YtonjadmldgloaaaGreatDoor
