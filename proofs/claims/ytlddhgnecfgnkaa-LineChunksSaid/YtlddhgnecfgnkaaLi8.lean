/-
  Tokens. A part of the proof: see the head of the text that ends in 'Law'.
-/
import Derived.Test.YtlddhgnecfgnkaaLi7
namespace Go.Proofs.Ytlddhgnecfgnkaa
open Go.RowKit
set_option linter.unusedVariables false
attribute [local go_sem] Oper.semAt_some

def pcC (p : Pc) : List Value := [.bool p.lit, .string (str p.s)]
theorem pcC_len (p : Pc) : (pcC p).length = 2 := rfl
theorem TkI.only {W w' : World} {b0 ob sb : Nat} {out : List Tk} {sp : Nat} (h : TkI W b0 ob sb out sp) {g : Nat} {T : TypeId} {xs : List Value} (hg : OwnE W g T xs) (h1 : T ≠ 35) (h2 : T ≠ 3) (h3 : T ≠ 34) (hO : Only (fun x => x = g) W w') : TkI w' b0 ob sb out sp := by
  obtain ⟨V, k1, k2⟩ := h.o
  exact ⟨h.o0, h.s0, ⟨V, k1.only hO (fun e => (hg.type_ne k1 h1).symm e), own_only k2 hO (fun x hx e => by subst e; exact hg.row_ne k2 h3 hx)⟩, h.s.only hO (fun e => (hg.type_ne h.s h2).symm e)⟩
/-- The pieces handed in. -/
def PcIn (W : World) (A : Option Addr) (n : Nat) (ps : List Pc) : Prop := ps.length = n ∧ Row W A (ps.flatMap pcC)
theorem PcIn.cell {W : World} {A : Option Addr} {n : Nat} {ps : List Pc} (h : PcIn W A n ps) (hn : 0 < n) : ∃ b off, A = some ⟨b, off, none⟩ ∧ ∀ (j : Nat) (hj : j < ps.length), W.cell? ⟨b, off + j * 2, none⟩ = some (.bool (ps[j]'hj).lit) ∧ W.cell? ⟨b, off + j * 2 + 1, none⟩ = some (.string (str (ps[j]'hj).s)) := by
  obtain ⟨hl, hr⟩ := h
  have hne : ps.flatMap pcC ≠ [] := by
    cases ps with
    | nil => simp at hl; omega
    | cons a l => rw [List.flatMap_cons]; unfold pcC; simp
  obtain ⟨b, off, hA, hc⟩ := hr hne
  refine ⟨b, off, hA, fun j hj => ?_⟩
  have g := fun k hk => flatMap_get pcC 2 pcC_len ps j k hj hk
  exact ⟨hc (j * 2 + 0) _ ((g 0 (by omega)).trans rfl), hc (j * 2 + 1) _ ((g 1 (by omega)).trans rfl)⟩
theorem PcIn.below {W w' : World} {A : Option Addr} {n : Nat} {ps : List Pc} (h : PcIn W A n ps) (hb : Below W.heap.size W w') : PcIn w' A n ps := ⟨h.1, h.2.below hb⟩
/-- What Tokens answers. -/
def TokPost (w : World) (r : Option (List Tk)) (e : Ending) (w' : World) : Prop := Below w.heap.size w w' ∧ match r with
  | none => e = .returned (.tuple #[.slice none 0 0, .int .i64 20])
  | some out => ∃ A c, e = .returned (.tuple #[.slice A out.length c, .int .i64 0]) ∧ w'.ownsRow w.heap.size 34 2 (.slice A out.length c) out.length (out.flatMap tkC)
theorem tk_start (w : World) : ∀ X, X = ((w.alloc (.cells #[.slice none 0 0] 35)).alloc (.cells #[.int .i64 0] 3)) → TkI X w.heap.size w.heap.size (w.heap.size + 1) [] 0 ∧ Below w.heap.size w X := by
  rintro X rfl
  have h1 := OwnE.new_ w [.slice none 0 0] 35
  have h2 := OwnE.new_ (w.alloc (.cells #[.slice none 0 0] 35)) [.int .i64 0] 3
  rw [World.size_alloc] at h2
  exact ⟨⟨Nat.le_refl _, by omega, ⟨_, h1.below ((Below.refl _ _).alloc (Nat.le_refl _) _), World.ownsRow_nil _ _ _ _⟩, h2⟩, ((Below.refl _ _).alloc (Nat.le_refl _) _).alloc (by simp) _⟩
/-- Tokens' memory: the boxes, and what was there stays. -/
structure TokS (w W : World) (out : List Tk) (sp : Nat) : Prop where
  t : TkI W w.heap.size w.heap.size (w.heap.size + 1) out sp
  b : Below w.heap.size w W
theorem TokS.below {w W w' : World} {out : List Tk} {sp : Nat} (h : TokS w W out sp) (hb : Below W.heap.size W w') : TokS w w' out sp := ⟨h.t.below hb, next h.b hb⟩
/-- .. and a cutter. -/
structure TkJ (w W : World) (g : Nat) (s : List UInt8) (k : Nat) (out : List Tk) (sp : Nat) : Prop where
  t : TokS w W out sp
  c : OwnE W g 54 [.string (str s), .int .i64 (k : Int)]
  g0 : w.heap.size ≤ g
theorem TkJ.at_ {w W : World} {g : Nat} {s : List UInt8} {k : Nat} {out : List Tk} {sp : Nat} (h : TkJ w W g s k out sp) : atOf W g = k := by
  unfold atOf
  rw [h.c.cell (j := 1) rfl]
  simp [intOf]
theorem TkJ.below {w W W' : World} {g : Nat} {s : List UInt8} {k : Nat} {out : List Tk} {sp : Nat} (h : TkJ w W g s k out sp) (hb : Below W.heap.size W W') : TkJ w W' g s k out sp := ⟨h.t.below hb, h.c.below hb, h.g0⟩
theorem TkJ.drewN {w W : World} {g : Nat} {s : List UInt8} {k : Nat} {out : List Tk} {sp : Nat} (h : TkJ w W g s k out sp) (n : Nat) : TkJ w (W.drewN n) g s k out sp := h.below (bq (Below.refl _ _) n)
theorem TkJ.space {w W : World} {g : Nat} {s : List UInt8} {k : Nat} {out : List Tk} {sp : Nat} (h : TkJ w W g s k out sp) : TkJ w ((W.setCell ⟨w.heap.size + 1, 0, none⟩ (.int .i64 ((sp : Int) + 1))).setCell ⟨g, 1, none⟩ (.int .i64 ((k : Int) + 1))) g s (k + 1) out (sp + 1) := by
  obtain ⟨h1, h2⟩ := h.t.t.spaces (sp + 1)
  rw [show ((sp : Int) + 1) = ((sp + 1 : Nat) : Int) by omega, show ((k : Int) + 1) = ((k + 1 : Nat) : Int) by omega]
  have hc : OwnE (W.setCell ⟨w.heap.size + 1, 0, none⟩ (.int .i64 ((sp + 1 : Nat) : Int))) g 54 [.string (str s), .int .i64 (k : Int)] := h2.block _ _ _ _ (by decide) (by decide) (by decide) h.c
  exact ⟨⟨h1.far hc (by decide) (by decide) (by decide) 1 _, (h.t.b.trans h2.bel).setCell (p := ⟨g, 1, none⟩) h.g0 _⟩, hc.set 1 _, h.g0⟩
theorem TkJ.next {w W W' : World} {g : Nat} {s : List UInt8} {k k' : Nat} {out : List Tk} {sp : Nat} (h : TkJ w W g s k out sp) (hO : Only (fun x => x = g) W W') (hc : OwnE W' g 54 [.string (str s), .int .i64 (k' : Int)]) : TkJ w W' g s k' out sp :=
  ⟨⟨h.t.t.only h.c (by decide) (by decide) (by decide) hO, h.t.b.trans (hO.below h.t.b.size (fun x e => by rw [e]; exact h.g0))⟩, hc, h.g0⟩
theorem TkJ.fits {w W W' : World} {g : Nat} {s : List UInt8} {k : Nat} {out out' : List Tk} {sp sp' : Nat} (h : TkJ w W g s k out sp) (ht : TkI W' w.heap.size w.heap.size (w.heap.size + 1) out' sp') (hl : TLets w.heap.size W W') : TkJ w W' g s k out' sp' :=
  ⟨⟨ht, h.t.b.trans hl.bel⟩, hl.block _ _ _ _ (by decide) (by decide) (by decide) h.c, h.g0⟩
set_option maxRecDepth 100000 in
set_option maxHeartbeats 8000000 in
theorem tokens_any (A : Option Addr) (n c : Nat) (ps : List Pc) (w : World) (h : PcIn w A n ps) (hsz : szP ps ≤ 50000) :
    Calls Try.prog 13 #[.slice A n c] w (TokPost w (tokensL ps)) := by
  have HP := hid h
  have HL := hid h.1
  have HSZ := hid hsz
  have hst := tk_start w _ rfl
  have I0 : Hid (TokS w ((w.alloc (.cells #[.slice none 0 0] 35)).alloc (.cells #[.int .i64 0] 3)) [] 0) := hid ⟨hst.1, hst.2⟩
  have sz0 : n ≤ 50000 := by
    have : ps.length ≤ szP ps := by
      clear h hsz HP HL HSZ hst I0
      unfold szP
      induction ps with
      | nil => simp
      | cons a l ih => simp; omega
    have := h.1
    omega
  clear h hsz hst
  go_enter Try.func13, Try.ntmps13
  go_wp2_with fail
  go_loopw [2, 3, 15] (fun r e i wr => ∃ (j : Nat) (out : List Tk) (sp : Nat), j ≤ n ∧ r = .slice none 0 0 ∧ e = .int .i64 0 ∧ i = .int .i64 (j : Int) ∧ Hid (TokS w wr out sp ∧ out.length ≤ szP (ps.take j) ∧ sp ≤ szP (ps.take j) ∧ tokL (ps.drop j) out sp = tokL ps [] 0)) (fun r e i wr => n - (intOf i).toNat)
  case atStart => exact ⟨0, [], 0, by omega, rfl, rfl, rfl, hid ⟨I0.out, by simp, by simp, rfl⟩⟩
  case round =>
    clear I0
    obtain ⟨j, out, sp, hj, rfl, rfl, rfl, hI⟩ := hrel
    have I := hid hI.out.1
    have HO := hid hI.out.2.1
    have HS := hid hI.out.2.2.1
    have HE := hid hI.out.2.2.2
    clear hI
    by_cases hlt : j < n
    · have d1 : decide ((j : Int) < (n : Int)) = true := by simp; omega
      have d1' : decide (j < n) = true := by simp; omega
      obtain ⟨pb, po, rfl, hcell⟩ := HP.out.cell (by omega)
      have hjl : j < ps.length := by rw [HL.out]; exact hlt
      have hc := hcell j hjl
      obtain ⟨p, hp⟩ : ∃ p, ps[j]'hjl = p := ⟨_, rfl⟩
      rw [hp] at hc
      have hd : ps.drop j = p :: ps.drop (j + 1) := by rw [List.drop_eq_getElem_cons hjl, hp]
      have hts := szP_take ps j hjl
      rw [hp] at hts
      have hle := szP_le ps (j + 1)
      have HTS := hid hts
      have HLE := hid hle
      have HD := hid hd
      have c0 := cells_keep I.out.b hc.1
      have c1 := cells_keep I.out.b hc.2
      have i0 : (0 : Int) ≤ (j : Int) := by omega
      have i1 : (j : Int) < (n : Int) := by omega
      have i2 : (j : Int).toNat = j := by omega
      obtain ⟨lit, s⟩ := p
      dsimp only at c0 c1 HTS
      have bA : Below wr.heap.size wr (wr.alloc (.cells #[.bool lit, .string (str s)] 40)) := (Below.refl _ _).alloc (Nat.le_refl _) _
      have bx := OwnE.new_ wr [.bool lit, .string (str s)] 40
      have y0 := bx.cell (j := 0) rfl
      have y1 := bx.cell (j := 1) rfl
      have I2 := hid (I.out.below bA)
      clear hc hcell hp hd hts hle hjl bA bx
      cases lit with
      | true =>
        obtain ⟨b, hb⟩ : ∃ b, fitL out sp ⟨1, s⟩ = b := ⟨_, rfl⟩
        have HF := hid (fits_any _ _ _ _ out sp ⟨1, s⟩ I2.out.t (by have := HO.out; have := HTS.out; have := HLE.out; have := HSZ.out; omega) I2.out.b.size)
        rw [hb] at HF
        have HB := hid hb
        clear hb
        cases b with
        | true =>
          go_wp2_with (go_at_call 17
                       refine HF.out.mono ?_
                       rintro e w2 ⟨rfl, t2, l2⟩
                       have J : Hid (TokS w w2 (out ++ [⟨1, s⟩]) 0) := hid ⟨t2, I2.out.b.trans l2.bel⟩
                       clear t2 l2)
          go_roundw
          case rel => exact ⟨j + 1, out ++ [⟨1, s⟩], 0, by omega, rfl, rfl, by go_num, hid ⟨J.out, by have := HO.out; have := HTS.out; simp; omega, by omega, by rw [← HE.out, HD.out, tokL, if_pos rfl, if_pos HB.out]⟩⟩
          case measure => simp [intOf]; omega
        | false =>
          have HR : Hid (tokensL ps = none) := hid (by unfold tokensL; rw [← HE.out, HD.out, tokL, if_pos rfl, if_neg (by rw [HB.out]; decide)])
          go_wp2_with (go_at_call 17
                       refine HF.out.mono ?_
                       rintro e w2 ⟨rfl, t2, l2⟩
                       have J := hid (I2.out.b.trans l2.bel)
                       clear t2 l2)
          go_ret2
          refine ⟨J.out, ?_⟩
          rw [HR.out]
          rfl
      | false =>
        have HNS : Hid ((∀ o q, tokP s.length s out sp = some (o, q) → tokL (ps.drop (j + 1)) o q = tokL ps [] 0) ∧ (tokP s.length s out sp = none → tokensL ps = none)) := hid ⟨fun o q h => by rw [← HE.out, HD.out, tokL, if_neg (by simp), h], fun h => by unfold tokensL; rw [← HE.out, HD.out, tokL, if_neg (by simp), h]⟩
        have J0 : Hid (TkJ w ((wr.alloc (.cells #[.bool false, .string (str s)] 40)).alloc (.cells #[.string (str s), .int .i64 0] 54)) (wr.heap.size + 1) s 0 out sp) := hid (by
          have hc := OwnE.new_ (wr.alloc (.cells #[.bool false, .string (str s)] 40)) [.string (str s), .int .i64 0] 54
          rw [World.size_alloc] at hc
          exact ⟨I2.out.below ((Below.refl _ _).alloc (Nat.le_refl _) _), hc, by have := I.out.b.size; omega⟩)
        obtain ⟨g, hg⟩ : ∃ g, wr.heap.size + 1 = g := ⟨_, rfl⟩
        have HGG := hid hg
        have hsz : (str s).size = s.length := rfl
        have HSL : Hid (szP (ps.take j) + s.length ≤ 50000) := hid (by have := HTS.out; have := HLE.out; have := HSZ.out; omega)
        go_wp2_with fail
        rw [hg] at J0
        clear hg
        go_loopw [2, 3] (fun r e wx => r = .slice none 0 0 ∧ e = .int .i64 0 ∧ ∃ (fuel k : Nat) (o : List Tk) (q : Nat), k ≤ s.length ∧ s.length - k ≤ fuel ∧ Hid (TkJ w wx g s k o q ∧ o.length ≤ szP (ps.take j) + k ∧ q ≤ szP (ps.take j) + k ∧ tokP fuel (s.drop k) o q = tokP s.length s out sp)) (fun r e wx => s.length - atOf wx g)
        case atStart => exact ⟨rfl, rfl, s.length, 0, out, sp, by omega, by omega, hid ⟨J0.out, by have := HO.out; omega, by have := HS.out; omega, rfl⟩⟩
        case round =>
          clear J0 I I2 HE y0 y1 c0 c1
          obtain ⟨rfl, rfl, fuel, k, o, q, hk, hfu, hJ⟩ := hrel
          have J := hid hJ.out.1
          have HA := hid hJ.out.1.at_
          have HOL := hid hJ.out.2.1
          have HQL := hid hJ.out.2.2.1
          have HT := hid hJ.out.2.2.2
          clear hJ
          have x0 := J.out.c.cell (j := 0) rfl
          have x1 := J.out.c.cell (j := 1) rfl
          have f1 := J.out.c.frozen 1
          have y0 := J.out.t.t.s.cell (j := 0) rfl
          have g0 := J.out.t.t.s.frozen 0
          by_cases hks0 : k < s.length
          · have e1 : decide ((k : Int) < ((str s).size : Int)) = true := by rw [hsz]; simp; omega
            have e1' : decide (k < (str s).size) = true := by rw [hsz]; simp; omega
            have hks : k < (str s).size := by rw [hsz]; omega
            obtain ⟨ch, hch⟩ : ∃ c, ((str s)[k]'hks) = c := ⟨_, rfl⟩
            have z0 : (0 : Int) ≤ (k : Int) := by omega
            have z1 : (k : Int) < ((str s).size : Int) := by rw [hsz]; omega
            have HDK := hid (drop_get hks hch)
            obtain ⟨fuel', hfl⟩ : ∃ f, fuel = f + 1 := ⟨fuel - 1, by omega⟩
            rw [hfl] at HT
            have hfu' : s.length - (k + 1) ≤ fuel' := by omega
            clear hfl hfu
            go_upto_region 11 with fail
            go_quiet (fail)
            obtain ⟨wq, hwq, J2⟩ : ∃ X, X = wr.drewN nq ∧ Hid (TkJ w X g s k o q) := ⟨_, rfl, hid (J.out.drewN nq)⟩
            rw [← hwq]
            clear hwq x0 x1 f1 y0 g0 J nq
            rename World => wr
            have J := J2
            clear J2
            have x0 := J.out.c.cell (j := 0) rfl
            have x1 := J.out.c.cell (j := 1) rfl
            have f1 := J.out.c.frozen 1
            have y0 := J.out.t.t.s.cell (j := 0) rfl
            have g0 := J.out.t.t.s.frozen 0
            by_cases h32 : ch.toNat = 32
            · have d2 : ((ch.toNat : Int) == 32) = true := by rw [h32]; rfl
              have HT2 : Hid (tokP fuel' (s.drop (k + 1)) o (q + 1) = tokP s.length s out sp) := hid (by rw [← HT.out, HDK.out, tokP, if_pos h32])
              have q0 : (q : Int) ≤ 100000 := by have := HQL.out; have := HSL.out; omega
              have q1 : (k : Int) ≤ 100000 := by have := HSL.out; omega
              clear HT h32
              go_upto_region 12 with fail
              go_quiet (fail)
              obtain ⟨wq, hwq, J2⟩ : ∃ X, X = wr.drewN nq ∧ Hid (TkJ w X g s k o q) := ⟨_, rfl, hid (J.out.drewN nq)⟩
              rw [← hwq]
              clear hwq x0 x1 f1 y0 g0 J nq
              rename World => wr
              have J := J2
              clear J2
              have x0 := J.out.c.cell (j := 0) rfl
              have x1 := J.out.c.cell (j := 1) rfl
              have f1 := J.out.c.frozen 1
              have y0 := J.out.t.t.s.cell (j := 0) rfl
              have g0 := J.out.t.t.s.frozen 0
              go_wp2_with fail
              go_roundw
              case rel => exact ⟨rfl, rfl, fuel', k + 1, o, q + 1, by omega, hfu', hid ⟨J.out.space, by have := HOL.out; omega, by have := HQL.out; omega, HT2.out⟩⟩
              case measure => rw [J.out.space.at_, HA.out]; omega
            · have d2 : ((ch.toNat : Int) == 32) = false := by simp; omega
              have HNX := hid (fun (X : World) (hX : OwnE X g 54 [.string (str s), .int .i64 (k : Int)]) => next_any g s k X hX hks0 (by have := HSL.out; omega))
              go_upto_region 12 with fail
              go_quiet (fail)
              obtain ⟨wq, hwq, J2⟩ : ∃ X, X = wr.drewN nq ∧ Hid (TkJ w X g s k o q) := ⟨_, rfl, hid (J.out.drewN nq)⟩
              rw [← hwq]
              clear hwq x0 x1 f1 y0 g0 J nq
              rename World => wr
              have J := J2
              clear J2
              have x0 := J.out.c.cell (j := 0) rfl
              have x1 := J.out.c.cell (j := 1) rfl
              have f1 := J.out.c.frozen 1
              have y0 := J.out.t.t.s.cell (j := 0) rfl
              have g0 := J.out.t.t.s.frozen 0
              rcases hr : nextL (s.drop k) with _ | ⟨t, m⟩
              · have HR : Hid (tokensL ps = none) := hid (HNS.out.2 (by rw [← HT.out, HDK.out, tokP, if_neg h32, ← HDK.out, hr]))
                rw [hr] at HNX
                clear hr h32 HT
                have HC := hid (HNX.out wr J.out.c)
                clear HNX
                go_wp2_with (go_at_call 18
                             refine HC.out.mono ?_
                             rintro e w2 ⟨hO, ka, kt, k', rfl, hc2⟩
                             have J1 := J.out.next hO hc2
                             have HJB := hid (J1.t.b.alloc J1.t.b.size (.cells #[.int .i64 ka, .string kt] 34))
                             clear hO hc2 J1 J x0 x1 f1 y0 g0)
                go_ret2
                refine ⟨HJB.out, ?_⟩
                rw [HR.out]
                rfl
              · have hle := nextL_le _ _ _ hr
                rw [List.length_drop] at hle
                obtain ⟨b, hb⟩ : ∃ b, fitL o q t = b := ⟨_, rfl⟩
                have HTT := HT.out
                rw [HDK.out, tokP, if_neg h32, ← HDK.out, hr] at HTT
                dsimp only at HTT
                rw [hb] at HTT
                have HT2 := hid HTT
                have HB := hid hb
                rw [hr] at HNX
                clear hr h32 HT HTT hb
                have HC := hid (HNX.out wr J.out.c)
                have HOB : Hid (o.length ≤ 100000) := hid (by have := HOL.out; have := HSL.out; omega)
                clear HNX
                cases b with
                | true =>
                  go_wp2_with (first
                    | (go_at_call 18
                       refine HC.out.mono ?_
                       rintro e w2 ⟨hO, rfl, hc2⟩
                       have J1 := J.out.next hO hc2
                       have bA : Below w2.heap.size w2 (w2.alloc (.cells #[.int .i64 (t.kind : Int), .string (str t.s)] 34)) := (Below.refl _ _).alloc (Nat.le_refl _) _
                       have J2 := J1.below bA
                       have JJ := hid J2
                       have bx := OwnE.new_ w2 [.int .i64 (t.kind : Int), .string (str t.s)] 34
                       have b0 := bx.cell (j := 0) rfl
                       have b1 := bx.cell (j := 1) rfl
                       clear hO hc2 J1 J2 bA bx J x0 x1 f1 y0 g0)
                    | (go_at_call 17
                       refine (fits_any _ _ _ _ o q t JJ.out.t.t HOB.out JJ.out.t.b.size).mono ?_
                       rw [HB.out]
                       rintro e w3 ⟨rfl, t3, l3⟩
                       have J3 := JJ.out.fits t3 l3
                       have J := hid J3
                       clear t3 l3 J3 JJ b0 b1))
                  go_roundw
                  case rel => exact ⟨rfl, rfl, fuel', k + m, o ++ [t], 0, by omega, by omega, hid ⟨J.out, by have := HOL.out; simp; omega, by omega, by rw [← HT2.out, if_pos (by trivial), List.drop_drop]⟩⟩
                  case measure => rw [J.out.at_, HA.out]; omega
                | false =>
                  have HR : Hid (tokensL ps = none) := hid (HNS.out.2 HT2.out.symm)
                  go_wp2_with (first
                    | (go_at_call 18
                       refine HC.out.mono ?_
                       rintro e w2 ⟨hO, rfl, hc2⟩
                       have J1 := J.out.next hO hc2
                       have bA : Below w2.heap.size w2 (w2.alloc (.cells #[.int .i64 (t.kind : Int), .string (str t.s)] 34)) := (Below.refl _ _).alloc (Nat.le_refl _) _
                       have J2 := J1.below bA
                       have JJ := hid J2
                       have bx := OwnE.new_ w2 [.int .i64 (t.kind : Int), .string (str t.s)] 34
                       have b0 := bx.cell (j := 0) rfl
                       have b1 := bx.cell (j := 1) rfl
                       clear hO hc2 J1 J2 bA bx J x0 x1 f1 y0 g0)
                    | (go_at_call 17
                       refine (fits_any _ _ _ _ o q t JJ.out.t.t HOB.out JJ.out.t.b.size).mono ?_
                       rw [HB.out]
                       rintro e w3 ⟨rfl, t3, l3⟩
                       have J3 := JJ.out.fits t3 l3
                       have J := hid J3
                       clear t3 l3 J3 JJ b0 b1))
                  have HJB := hid J.out.t.b
                  go_ret2
                  refine ⟨HJB.out, ?_⟩
                  rw [HR.out]
                  rfl
          · have e1 : decide ((k : Int) < ((str s).size : Int)) = false := by rw [hsz]; simp; omega
            have e1' : decide (k < (str s).size) = false := by rw [hsz]; simp; omega
            have HT2 : Hid (tokP s.length s out sp = some (o, q)) := hid (by rw [← HT.out, List.drop_of_length_le (by omega)]; cases fuel <;> rfl)
            clear HT
            go_upto_region 11 with fail
            go_quiet (fail)
            obtain ⟨wq, hwq, J2⟩ : ∃ X, X = wr.drewN nq ∧ Hid (TkJ w X g s k o q) := ⟨_, rfl, hid (J.out.drewN nq)⟩
            rw [← hwq]
            clear hwq x0 x1 f1 y0 g0 J nq
            rename World => wr
            have J := J2
            clear J2
            have x0 := J.out.c.cell (j := 0) rfl
            have x1 := J.out.c.cell (j := 1) rfl
            have f1 := J.out.c.frozen 1
            have y0 := J.out.t.t.s.cell (j := 0) rfl
            have g0 := J.out.t.t.s.frozen 0
            go_wp2_with fail
            go_roundw
            case rel => exact ⟨j + 1, o, q, by omega, rfl, rfl, by go_num, hid ⟨J.out.t, by have := HOL.out; have := HTS.out; omega, by have := HQL.out; have := HTS.out; omega, HNS.out.1 _ _ HT2.out⟩⟩
            case measure => simp [intOf]; omega
    · have d1 : decide ((j : Int) < (n : Int)) = false := by simp; omega
      have d1' : decide (j < n) = false := by simp; omega
      obtain ⟨V, k1, k2⟩ := I.out.t.o
      have x0 := k1.cell (j := 0) rfl
      have x1 := I.out.t.s.cell (j := 0) rfl
      obtain ⟨A3, c3, rfl, -⟩ := own_slice k2
      have HB := hid I.out.b
      have K2 := hid k2
      have HT : Hid (tokL ps [] 0 = some (out, sp)) := hid (by rw [← HE.out, List.drop_of_length_le (by have := HL.out; omega)]; rfl)
      clear k1 k2 I
      by_cases hs0 : sp = 0
      · have d2 : decide ((0 : Int) < (sp : Int)) = false := by simp; omega
        have d2' : decide (0 < sp) = false := by simp; omega
        have HR : Hid (tokensL ps = some out) := hid (by unfold tokensL; rw [HT.out]; simp [hs0])
        clear hs0 HT
        go_wp2_with fail
        go_ret2
        refine ⟨HB.out, ?_⟩
        rw [HR.out]
        exact ⟨A3, c3, rfl, K2.out⟩
      · have d2 : decide ((0 : Int) < (sp : Int)) = true := by simp; omega
        have d2' : decide (0 < sp) = true := by simp; omega
        have HR : Hid (tokensL ps = none) := hid (by unfold tokensL; rw [HT.out]; simp [hs0])
        clear hs0 HT
        go_wp2_with fail
        go_ret2
        refine ⟨HB.out, ?_⟩
        rw [HR.out]
        rfl
end Go.Proofs.Ytlddhgnecfgnkaa
