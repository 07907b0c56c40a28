/-
  A command's end. A part of the proof: see the head of the text that ends in 'Law'.
-/
import Derived.Test.YtlddhgnecfgnkaaLi12
namespace Go.Proofs.Ytlddhgnecfgnkaa
open Go.RowKit
set_option linter.unusedVariables false
attribute [local go_sem] Oper.semAt_some

/-- What is known ahead of a command's end. -/
structure EnI (w0 W X : World) (r : Nat) (VP VH : Value) (R : Rdr) (bx : Nat) (x : Inp) (A : Option Addr) (c : Nat) : Prop where
  rd : RdAt X w0.heap.size r VP VH R
  bel : Below W.heap.size W X
  bc : OwnE X bx 45 [.int .i64 (x.kind : Int), .string (str x.tag), .slice A x.l.length c]
  lo : W.heap.size ≤ bx
  tk : X.ownsRow W.heap.size 34 2 (.slice A x.l.length c) x.l.length (x.l.flatMap tkC)
theorem EnI.past {w0 W X X' : World} {r : Nat} {VP VH : Value} {R : Rdr} {bx : Nat} {x : Inp} {A : Option Addr} {c : Nat} (h : EnI w0 W X r VP VH R bx x A c) (hb : Below X.heap.size X X') : EnI w0 W X' r VP VH R bx x A c :=
  ⟨h.rd.below hb, next h.bel hb, h.bc.below hb, h.lo, own_below h.tk hb⟩
theorem RdAt.other {X : World} {b0 r : Nat} {VP VH : Value} {R : Rdr} (h : RdAt X b0 r VP VH R) {g : Nat} {T : TypeId} {xs : List Value} (hg : OwnE X g T xs) (h1 : T ≠ 48) (h2 : T ≠ 40) (h3 : T ≠ 5) : ∀ x, x = g → ¬ RM r VP VH x := by
  rintro x rfl (e | e | e)
  · exact hg.type_ne h.cells h1 e
  · exact hg.row_ne h.ps h2 e
  · exact hg.row_ne h.hv h3 e
theorem RdAt.put {X : World} {b0 r : Nat} {VP VH : Value} {R : Rdr} (h : RdAt X b0 r VP VH R) {g : Nat} {T : TypeId} {xs : List Value} (hg : OwnE X g T xs) (h1 : T ≠ 48) (h2 : T ≠ 40) (h3 : T ≠ 5) (i : Nat) (v : Value) : RdAt (X.setCell ⟨g, i, none⟩ v) b0 r VP VH R :=
  h.only (T := fun x => x = g) (Only.of_set X ⟨g, i, none⟩ v rfl) (h.other hg h1 h2 h3)
theorem EnI.start {w0 W w3 : World} {r : Nat} {VP VH : Value} {R : Rdr} (h : RdAt w3 w0.heap.size r VP VH R) (hb : Below W.heap.size W w3) (x : Inp) (ki : Int) (hki : (x.kind : Int) = ki) (A : Option Addr) (n c : Nat) (hn : x.l.length = n) (ho : w3.ownsRow W.heap.size 34 2 (.slice A n c) n (x.l.flatMap tkC)) :
    EnI w0 W (w3.alloc (.cells #[.int .i64 ki, .string (str x.tag), .slice A n c] 45)) r VP VH R w3.heap.size x A c := by
  subst hki
  subst hn
  exact ⟨h.below ((Below.refl _ _).alloc (Nat.le_refl _) _), hb.alloc hb.size _, OwnE.new_ w3 [.int .i64 (x.kind : Int), .string (str x.tag), .slice A x.l.length c] _, hb.size, own_below ho ((Below.refl _ _).alloc (Nat.le_refl _) _)⟩
theorem EnI.wipe {w0 W X : World} {r : Nat} {VP VH : Value} {R : Rdr} {bx : Nat} {x : Inp} {A : Option Addr} {c : Nat} (h : EnI w0 W X r VP VH R bx x A c) (hs : w0.heap.size ≤ W.heap.size) : ∀ X', X' = (((((X.setCell ⟨r, 0, none⟩ (.slice none 0 0)).setCell ⟨r, 1, none⟩ (.slice none 0 0)).setCell ⟨r, 2, none⟩ (.bool false)).setCell ⟨r, 3, none⟩ (.int .i64 0)).setCell ⟨r, 4, none⟩ (.int .i64 0)).setCell ⟨r, 5, none⟩ (.int .i64 0) →
    RdAt X' w0.heap.size r (.slice none 0 0) (.slice none 0 0) nilR ∧ Only (fun g => g = r) W X' ∧ OwnE X' bx 45 [.int .i64 (x.kind : Int), .string (str x.tag), .slice A x.l.length c] ∧ X'.ownsRow W.heap.size 34 2 (.slice A x.l.length c) x.l.length (x.l.flatMap tkC) := by
  rintro X' rfl
  have hne : bx ≠ r := h.bc.type_ne h.rd.cells (by decide)
  have hnt : Value.ownBlock (.slice A x.l.length c) ≠ some r := h.rd.cells.row_ne h.tk (by decide)
  have st : ∀ (Y : World) (i : Nat) (v : Value), OwnE Y bx 45 [.int .i64 (x.kind : Int), .string (str x.tag), .slice A x.l.length c] ∧ Y.ownsRow W.heap.size 34 2 (.slice A x.l.length c) x.l.length (x.l.flatMap tkC) ∧ Only (fun g => g = r) W Y →
      OwnE (Y.setCell ⟨r, i, none⟩ v) bx 45 [.int .i64 (x.kind : Int), .string (str x.tag), .slice A x.l.length c] ∧ (Y.setCell ⟨r, i, none⟩ v).ownsRow W.heap.size 34 2 (.slice A x.l.length c) x.l.length (x.l.flatMap tkC) ∧ Only (fun g => g = r) W (Y.setCell ⟨r, i, none⟩ v) := fun Y i v hY =>
    ⟨hY.1.far hne v, row_far hY.2.1 hnt v, hY.2.2.trans (Only.of_set (T := fun g => g = r) Y ⟨r, i, none⟩ v rfl) (fun g e => .inl e)⟩
  have s6 := st _ 5 (.int .i64 0) (st _ 4 (.int .i64 0) (st _ 3 (.int .i64 0) (st _ 2 (.bool false) (st _ 1 (.slice none 0 0) (st _ 0 (.slice none 0 0) ⟨h.bc, h.tk, Only.of_below h.bel⟩)))))
  refine ⟨⟨h.rd.r0, (((((h.rd.cells.set 0 _).set 1 _).set 2 _).set 3 _).set 4 _).set 5 _, World.ownsRow_nil _ _ _ _, World.ownsRow_nil _ _ _ _⟩, s6.2.2, s6.1, s6.2.1⟩
theorem TokPost.any {w : World} {r : Option (List Tk)} {e : Ending} {w' : World} (h : TokPost w r e w') : Below w.heap.size w w' ∧ ∃ v u, e = .returned (.tuple #[v, .int .i64 u]) := by
  refine ⟨h.1, ?_⟩
  have h2 := h.2
  cases r with
  | none => exact ⟨_, _, h2⟩
  | some out =>
    obtain ⟨A, c, he, _⟩ := h2
    exact ⟨_, _, he⟩
/-- What a command's end, or a line's, leaves. -/
def EndPost (w0 W : World) (r : Nat) (xs : List Inp) (e : Ending) (w' : World) : Prop := ∃ A n c vs, e = .returned (.slice A n c) ∧ n = xs.length ∧ w'.ownsRow W.heap.size 45 3 (.slice A n c) n vs ∧ InsC w' W.heap.size vs xs ∧ RdAt w' w0.heap.size r (.slice none 0 0) (.slice none 0 0) nilR ∧ Only (fun g => g = r) W w'
set_option maxRecDepth 100000 in
set_option maxHeartbeats 4000000 in
theorem end_any (w0 W : World) (r : Nat) (VP VH : Value) (R : Rdr) (k : Nat) (h : RdAt W w0.heap.size r VP VH R) (bel : Below w0.heap.size w0 W) (hG : GM w0) (hk : k = 0 ∨ k = 3) (hsz : szP R.ps ≤ 50000) (hn : R.ps.length ≤ 100) :
    Calls Try.prog 21 #[.pointer (some ⟨r, 0, none⟩), .int .i64 (k : Int)] W (EndPost w0 W r (endL R.ps k)) := by
  have x0 := h.cells.cell (j := 0) rfl
  obtain ⟨AP, cP, rfl, -⟩ := own_slice h.ps
  obtain ⟨np, hnp⟩ : ∃ n, R.ps.length = n := ⟨_, rfl⟩
  rw [hnp] at x0 h
  have HNP := hid hnp
  have HN := hid hn
  have HH := hid h
  have HG := hid (hG.below bel)
  have HSZ := hid bel.size
  have HTK := hid (tokens_any AP np cP R.ps W (h.pcs hnp) hsz)
  have HTG := hid (fun (X : World) (hX : PcIn X AP np R.ps) (hG : GM X) => tag_any AP np cP R.ps X hX hsz hG)
  have HEX : Hid (endL R.ps k = if R.ps.any pcSome = true then [endX R.ps k] else []) := hid rfl
  obtain ⟨sm, hsm⟩ : ∃ b, R.ps.any pcSome = b := ⟨_, rfl⟩
  rw [hsm] at HEX
  have HSM := hid hsm
  clear h hn hsz hG hnp hsm bel
  rcases hk with rfl | rfl
  · rcases htk : tokensL R.ps with _ | l
    · rw [htk] at HTK
      have HX : Hid (endX R.ps 0 = ⟨2, tagL R.ps, []⟩) := hid (by unfold endX; rw [htk]; rfl)
      clear htk
      obtain ⟨tg, htg⟩ : ∃ t, tagL R.ps = t := ⟨_, rfl⟩
      rw [htg] at HTG HX
      clear htg
      rw [HEX.out, HX.out]
      go_enter Try.func21, Try.ntmps21
      go_upto_region 2 with (go_at_call 13
                             refine HTK.out.mono ?_
                             rintro e w2 ⟨b2, rfl⟩
                             have B := hid b2
                             have HH2 := hid (HH.out.below b2)
                             have G2 := hid (HG.out.below b2)
                             have y0 := HH2.out.cells.cell (j := 0) rfl
                             clear b2 x0)
      go_upto_region 3 with (go_at_call 28
                             refine (HTG.out _ (HH2.out.pcs HNP.out) G2.out).mono ?_
                             rintro e w3 ⟨rfl, b3⟩
                             have B := hid (next B.out b3)
                             have HH3 := hid (HH2.out.below b3)
                             clear b3 y0)
      have J := hid (EnI.start HH3.out B.out ⟨2, tg, []⟩ 2 rfl none 0 0 rfl (World.ownsRow_nil _ _ _ _))
      go_upto_region 7 with fail
      have y0 := J.out.rd.cells.cell (j := 0) rfl
      go_upto_region 8 with (go_at_call 29
                             refine (containsF_any AP np cP R.ps _ (J.out.rd.pcs HNP.out) (by have := HN.out; have := HNP.out; omega)).mono ?_
                             rw [HSM.out]
                             rintro e w5 ⟨rfl, b5⟩
                             have J := hid (J.out.past b5)
                             clear b5)
      clear y0
      have x0 := J.out.rd.cells.cell (j := 0) rfl
      have x1 := J.out.rd.cells.cell (j := 1) rfl
      have x2 := J.out.rd.cells.cell (j := 2) rfl
      have x3 := J.out.rd.cells.cell (j := 3) rfl
      have x4 := J.out.rd.cells.cell (j := 4) rfl
      have x5 := J.out.rd.cells.cell (j := 5) rfl
      have f0 := J.out.rd.cells.frozen 0
      have f1 := J.out.rd.cells.frozen 1
      have f2 := J.out.rd.cells.frozen 2
      have f3 := J.out.rd.cells.frozen 3
      have f4 := J.out.rd.cells.frozen 4
      have f5 := J.out.rd.cells.frozen 5
      go_upto_region 9 with fail
      obtain ⟨wX, hwX, K⟩ : ∃ X, X = (((((w5.setCell ⟨r, 0, none⟩ (.slice none 0 0)).setCell ⟨r, 1, none⟩ (.slice none 0 0)).setCell ⟨r, 2, none⟩ (.bool false)).setCell ⟨r, 3, none⟩ (.int .i64 0)).setCell ⟨r, 4, none⟩ (.int .i64 0)).setCell ⟨r, 5, none⟩ (.int .i64 0) ∧ Hid (RdAt X w0.heap.size r (.slice none 0 0) (.slice none 0 0) nilR ∧ Only (fun g => g = r) W X ∧ OwnE X w3.heap.size 45 [.int .i64 2, .string (str tg), .slice none 0 0] ∧ X.ownsRow W.heap.size 34 2 (.slice none 0 0) 0 (List.flatMap tkC [])) := ⟨_, rfl, hid (J.out.wipe HSZ.out _ rfl)⟩
      rw [← hwX]
      clear hwX J x0 x1 x2 x3 x4 x5 f0 f1 f2 f3 f4 f5
      have z0 := K.out.2.2.1.cell (j := 0) rfl
      have z1 := K.out.2.2.1.cell (j := 1) rfl
      have z2 := K.out.2.2.1.cell (j := 2) rfl
      cases sm with
      | true =>
        go_wp2_with fail
        go_ret
        have hb : Below wX.heap.size wX (wX.alloc (.cells #[.int .i64 2, .string (str tg), .slice none 0 0] 45)) := (Below.refl _ _).alloc (Nat.le_refl _) _
        exact ⟨some ⟨wX.heap.size, 0, none⟩, 1, 1, [.int .i64 2, .string (str tg), .slice none 0 0], rfl, rfl, World.ownsRow_lit wX #[.int .i64 2, .string (str tg), .slice none 0 0] 1 K.out.2.1.size (by decide) rfl, .cons none 0 ⟨(2 : Nat), tg, []⟩ [] [] (own_below K.out.2.2.2 hb) .nil, K.out.1.below hb, K.out.2.1.trans (Only.of_below (T := fun g => g = r) hb) (fun g e => .inl e)⟩
      | false =>
        go_wp2_with fail
        go_ret
        exact ⟨none, 0, 0, [], rfl, rfl, World.ownsRow_nil _ _ _ _, .nil, K.out.1, K.out.2.1⟩
    · rw [htk] at HTK
      have HX : Hid (endX R.ps 0 = ⟨0, tagL R.ps, l⟩) := hid (by unfold endX; rw [htk]; rfl)
      clear htk
      obtain ⟨tg, htg⟩ : ∃ t, tagL R.ps = t := ⟨_, rfl⟩
      rw [htg] at HTG HX
      clear htg
      rw [HEX.out, HX.out]
      go_enter Try.func21, Try.ntmps21
      go_upto_region 2 with (go_at_call 13
                             refine HTK.out.mono ?_
                             rintro e w2 ⟨b2, A2, c2, rfl, o2⟩
                             have B := hid b2
                             have O := hid o2
                             have HH2 := hid (HH.out.below b2)
                             have G2 := hid (HG.out.below b2)
                             have y0 := HH2.out.cells.cell (j := 0) rfl
                             clear b2 o2 x0)
      go_upto_region 3 with (go_at_call 28
                             refine (HTG.out _ (HH2.out.pcs HNP.out) G2.out).mono ?_
                             rintro e w3 ⟨rfl, b3⟩
                             have B := hid (next B.out b3)
                             have O := hid (own_below O.out b3)
                             have HH3 := hid (HH2.out.below b3)
                             clear b3 y0)
      have J := hid (EnI.start HH3.out B.out ⟨0, tg, l⟩ 0 rfl A2 l.length c2 rfl O.out)
      go_upto_region 7 with fail
      have y0 := J.out.rd.cells.cell (j := 0) rfl
      go_upto_region 8 with (go_at_call 29
                             refine (containsF_any AP np cP R.ps _ (J.out.rd.pcs HNP.out) (by have := HN.out; have := HNP.out; omega)).mono ?_
                             rw [HSM.out]
                             rintro e w5 ⟨rfl, b5⟩
                             have J := hid (J.out.past b5)
                             clear b5)
      clear y0
      have x0 := J.out.rd.cells.cell (j := 0) rfl
      have x1 := J.out.rd.cells.cell (j := 1) rfl
      have x2 := J.out.rd.cells.cell (j := 2) rfl
      have x3 := J.out.rd.cells.cell (j := 3) rfl
      have x4 := J.out.rd.cells.cell (j := 4) rfl
      have x5 := J.out.rd.cells.cell (j := 5) rfl
      have f0 := J.out.rd.cells.frozen 0
      have f1 := J.out.rd.cells.frozen 1
      have f2 := J.out.rd.cells.frozen 2
      have f3 := J.out.rd.cells.frozen 3
      have f4 := J.out.rd.cells.frozen 4
      have f5 := J.out.rd.cells.frozen 5
      go_upto_region 9 with fail
      obtain ⟨wX, hwX, K⟩ : ∃ X, X = (((((w5.setCell ⟨r, 0, none⟩ (.slice none 0 0)).setCell ⟨r, 1, none⟩ (.slice none 0 0)).setCell ⟨r, 2, none⟩ (.bool false)).setCell ⟨r, 3, none⟩ (.int .i64 0)).setCell ⟨r, 4, none⟩ (.int .i64 0)).setCell ⟨r, 5, none⟩ (.int .i64 0) ∧ Hid (RdAt X w0.heap.size r (.slice none 0 0) (.slice none 0 0) nilR ∧ Only (fun g => g = r) W X ∧ OwnE X w3.heap.size 45 [.int .i64 0, .string (str tg), .slice A2 l.length c2] ∧ X.ownsRow W.heap.size 34 2 (.slice A2 l.length c2) l.length (List.flatMap tkC l)) := ⟨_, rfl, hid (J.out.wipe HSZ.out _ rfl)⟩
      rw [← hwX]
      clear hwX J x0 x1 x2 x3 x4 x5 f0 f1 f2 f3 f4 f5
      have z0 := K.out.2.2.1.cell (j := 0) rfl
      have z1 := K.out.2.2.1.cell (j := 1) rfl
      have z2 := K.out.2.2.1.cell (j := 2) rfl
      cases sm with
      | true =>
        go_wp2_with fail
        go_ret
        have hb : Below wX.heap.size wX (wX.alloc (.cells #[.int .i64 0, .string (str tg), .slice A2 l.length c2] 45)) := (Below.refl _ _).alloc (Nat.le_refl _) _
        exact ⟨some ⟨wX.heap.size, 0, none⟩, 1, 1, [.int .i64 0, .string (str tg), .slice A2 l.length c2], rfl, rfl, World.ownsRow_lit wX #[.int .i64 0, .string (str tg), .slice A2 l.length c2] 1 K.out.2.1.size (by decide) rfl, .cons A2 c2 ⟨(0 : Nat), tg, l⟩ [] [] (own_below K.out.2.2.2 hb) .nil, K.out.1.below hb, K.out.2.1.trans (Only.of_below (T := fun g => g = r) hb) (fun g e => .inl e)⟩
      | false =>
        go_wp2_with fail
        go_ret
        exact ⟨none, 0, 0, [], rfl, rfl, World.ownsRow_nil _ _ _ _, .nil, K.out.1, K.out.2.1⟩
  · have HX : Hid (endX R.ps 3 = ⟨3, tagL R.ps, []⟩) := hid rfl
    obtain ⟨tg, htg⟩ : ∃ t, tagL R.ps = t := ⟨_, rfl⟩
    rw [htg] at HTG HX
    clear htg
    rw [HEX.out, HX.out]
    go_enter Try.func21, Try.ntmps21
    go_upto_region 2 with (go_at_call 13
                           refine HTK.out.mono ?_
                           intro e w2 h2
                           obtain ⟨b2, v2, u2, rfl⟩ := h2.any
                           clear h2
                           have B := hid b2
                           have HH2 := hid (HH.out.below b2)
                           have G2 := hid (HG.out.below b2)
                           have y0 := HH2.out.cells.cell (j := 0) rfl
                           clear b2 x0)
    go_upto_region 3 with (go_at_call 28
                           refine (HTG.out _ (HH2.out.pcs HNP.out) G2.out).mono ?_
                           rintro e w3 ⟨rfl, b3⟩
                           have B := hid (next B.out b3)
                           have HH3 := hid (HH2.out.below b3)
                           clear b3 y0)
    have J := hid (EnI.start HH3.out B.out ⟨3, tg, []⟩ 3 rfl none 0 0 rfl (World.ownsRow_nil _ _ _ _))
    go_upto_region 7 with fail
    have y0 := J.out.rd.cells.cell (j := 0) rfl
    go_upto_region 8 with (go_at_call 29
                           refine (containsF_any AP np cP R.ps _ (J.out.rd.pcs HNP.out) (by have := HN.out; have := HNP.out; omega)).mono ?_
                           rw [HSM.out]
                           rintro e w5 ⟨rfl, b5⟩
                           have J := hid (J.out.past b5)
                           clear b5)
    clear y0
    have x0 := J.out.rd.cells.cell (j := 0) rfl
    have x1 := J.out.rd.cells.cell (j := 1) rfl
    have x2 := J.out.rd.cells.cell (j := 2) rfl
    have x3 := J.out.rd.cells.cell (j := 3) rfl
    have x4 := J.out.rd.cells.cell (j := 4) rfl
    have x5 := J.out.rd.cells.cell (j := 5) rfl
    have f0 := J.out.rd.cells.frozen 0
    have f1 := J.out.rd.cells.frozen 1
    have f2 := J.out.rd.cells.frozen 2
    have f3 := J.out.rd.cells.frozen 3
    have f4 := J.out.rd.cells.frozen 4
    have f5 := J.out.rd.cells.frozen 5
    go_upto_region 9 with fail
    obtain ⟨wX, hwX, K⟩ : ∃ X, X = (((((w5.setCell ⟨r, 0, none⟩ (.slice none 0 0)).setCell ⟨r, 1, none⟩ (.slice none 0 0)).setCell ⟨r, 2, none⟩ (.bool false)).setCell ⟨r, 3, none⟩ (.int .i64 0)).setCell ⟨r, 4, none⟩ (.int .i64 0)).setCell ⟨r, 5, none⟩ (.int .i64 0) ∧ Hid (RdAt X w0.heap.size r (.slice none 0 0) (.slice none 0 0) nilR ∧ Only (fun g => g = r) W X ∧ OwnE X w3.heap.size 45 [.int .i64 3, .string (str tg), .slice none 0 0] ∧ X.ownsRow W.heap.size 34 2 (.slice none 0 0) 0 (List.flatMap tkC [])) := ⟨_, rfl, hid (J.out.wipe HSZ.out _ rfl)⟩
    rw [← hwX]
    clear hwX J x0 x1 x2 x3 x4 x5 f0 f1 f2 f3 f4 f5
    have z0 := K.out.2.2.1.cell (j := 0) rfl
    have z1 := K.out.2.2.1.cell (j := 1) rfl
    have z2 := K.out.2.2.1.cell (j := 2) rfl
    cases sm with
    | true =>
      go_wp2_with fail
      go_ret
      have hb : Below wX.heap.size wX (wX.alloc (.cells #[.int .i64 3, .string (str tg), .slice none 0 0] 45)) := (Below.refl _ _).alloc (Nat.le_refl _) _
      exact ⟨some ⟨wX.heap.size, 0, none⟩, 1, 1, [.int .i64 3, .string (str tg), .slice none 0 0], rfl, rfl, World.ownsRow_lit wX #[.int .i64 3, .string (str tg), .slice none 0 0] 1 K.out.2.1.size (by decide) rfl, .cons none 0 ⟨(3 : Nat), tg, []⟩ [] [] (own_below K.out.2.2.2 hb) .nil, K.out.1.below hb, K.out.2.1.trans (Only.of_below (T := fun g => g = r) hb) (fun g e => .inl e)⟩
    | false =>
      go_wp2_with fail
      go_ret
      exact ⟨none, 0, 0, [], rfl, rfl, World.ownsRow_nil _ _ _ _, .nil, K.out.1, K.out.2.1⟩
end Go.Proofs.Ytlddhgnecfgnkaa
