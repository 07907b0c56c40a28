/-
  List and Says: the program's walk. A part of the proof: see the head of the text that ends in 'Law'.
-/
import Derived.Test.YtdanhdiinkgjnaaDoorAd7
namespace Go.Proofs.YtdanhdiinkgjnaaDoor
open Go.RowKit
set_option linter.unusedVariables false
attribute [local go_sem] Oper.semAt_some

def adC (a : Ad) : List Value := [SV a.name, SV a.box, SV a.host]
def nilA : Ad := ⟨[], [], []⟩
theorem run_equal_ad (w : World) (x y : Ad) : (Op.equalIn 10000 35 (.agg #[.string (str x.name), .string (str x.box), .string (str x.host)]) (.agg #[.string (str y.name), .string (str y.box), .string (str y.host)])).run Tryd.prog w = .ok (decide (x = y)) w := by
  rw [run_equalIn_struct w 9999 35 _ _ (by kernel_rfl) (by kernel_rfl)]
  obtain ⟨a, b, c⟩ := x
  obtain ⟨d, e, f⟩ := y
  by_cases h1 : a = d
  · subst h1
    by_cases h2 : b = e
    · subst h2
      by_cases h3 : c = f
      · subst h3
        simp [Program.fieldsOf, Tryd.underlying35, Op.eqFields, go_sem]
      · have q : (str c == str f) = false := by rw [str_eqv]; simpa using h3
        simp [Program.fieldsOf, Tryd.underlying35, Op.eqFields, go_sem, q, h3]
    · have q : (str b == str e) = false := by rw [str_eqv]; simpa using h2
      simp [Program.fieldsOf, Tryd.underlying35, Op.eqFields, go_sem, q, h2]
  · have q : (str a == str d) = false := by rw [str_eqv]; simpa using h1
    simp [Program.fieldsOf, Tryd.underlying35, Op.eqFields, go_sem, q, h1]
def listP (ps : List (List UInt8)) : List Ad := (ps.map oneL).filter fun a => decide (a ≠ nilA)
def listL (l : List UInt8) : List Ad := listP (piecesL l)
theorem pcs_len : ∀ (P : List (UInt8 × Nat)) (a : Bool) (cur : List UInt8), ∀ p ∈ pcs a cur P, p.length ≤ cur.length + P.length
  | [], a, cur, p, hp => by
    rw [pcs, List.mem_singleton] at hp
    subst hp
    simp
  | (c, u) :: P, a, cur, p, hp => by
    rw [pcs] at hp
    split at hp
    · rcases List.mem_cons.1 hp with rfl | hp
      · simp
      · have := pcs_len P a [] p hp
        simp only [List.length_nil, List.length_cons] at this ⊢
        omega
    · have := pcs_len P _ _ p hp
      simp only [List.length_append, List.length_cons, List.length_nil] at this ⊢
      omega
theorem pieces_len (l : List UInt8) : ∀ p ∈ piecesL l, p.length ≤ l.length := fun p hp => by
  have := pcs_len _ _ _ p hp
  rw [prs_len] at this
  simpa using this
theorem adS : SliceT Tryd.prog 24 35 (.agg #[.string ⟨#[]⟩, .string ⟨#[]⟩, .string ⟨#[]⟩]) 3 48 := ⟨Tryd.underlying24, by kernel_rfl, rfl, by decide⟩
/-- k pieces are looked at; the addresses so far stand in a row of its own. -/
structure LsI (w wr : World) (ps : List (List UInt8)) (k : Nat) (A : Option Addr) (m c : Nat) (out : List Ad) : Prop where
  own : wr.ownsRow w.heap.size 35 3 (.slice A m c) m (out.flatMap adC)
  bel : Below w.heap.size w wr
  eq : listP ps = out ++ listP (ps.drop k)
  len : out.length = m
  le : m ≤ k
theorem LsI.start (w : World) (ps : List (List UInt8)) : LsI w w ps 0 none 0 0 [] := ⟨World.ownsRow_nil _ _ _ _, Below.refl _ _, rfl, rfl, Nat.le_refl _⟩
theorem listP_cons (p : List UInt8) (ps : List (List UInt8)) : listP (p :: ps) = (if oneL p = nilA then [] else [oneL p]) ++ listP ps := by
  unfold listP
  rw [List.map_cons]
  by_cases h : oneL p = nilA
  · rw [List.filter_cons_of_neg (by simpa using h), if_pos h]; rfl
  · rw [List.filter_cons_of_pos (by simpa using h), if_neg h]; rfl
theorem LsI.skip {w wr w' : World} {ps : List (List UInt8)} {k : Nat} {A : Option Addr} {m c : Nat} {out : List Ad} (h : LsI w wr ps k A m c out) (hk : k < ps.length) (p : List UInt8) (hp : ps[k]'hk = p) (h0 : oneL p = nilA) (hb : Below wr.heap.size wr w') : LsI w w' ps (k + 1) A m c out := by
  refine ⟨own_below h.own hb, next h.bel hb, ?_, h.len, by have := h.le; omega⟩
  rw [h.eq, List.drop_eq_getElem_cons hk, hp, listP_cons, if_pos h0]
  rfl
theorem LsI.put {w wr w' : World} {ps : List (List UInt8)} {k : Nat} {A A' : Option Addr} {m c c' : Nat} {out : List Ad} (h : LsI w wr ps k A m c out) (hk : k < ps.length) (p : List UInt8) (hp : ps[k]'hk = p) (a : Ad) (ha : oneL p = a) (h0 : a ≠ nilA)
    (ho : w'.ownsRow w.heap.size 35 3 (.slice A' (m + 1) c') (m + 1) (out.flatMap adC ++ adC a)) (hb : Below w.heap.size w w') : LsI w w' ps (k + 1) A' (m + 1) c' (out ++ [a]) := by
  subst ha
  refine ⟨by rw [List.flatMap_append]; simpa using ho, hb, ?_, by rw [List.length_append, h.len]; rfl, by have := h.le; omega⟩
  rw [h.eq, List.drop_eq_getElem_cons hk, hp, listP_cons, if_neg h0, List.append_assoc]
set_option maxRecDepth 100000 in
set_option maxHeartbeats 8000000 in
theorem list_any (l : List UInt8) (n : Nat) (hn : l.length = n) (w : World) (hl : n ≤ 99999) :
    Calls Tryd.prog 9 #[.string (str l)] w fun e w' => ∃ A m c, e = .returned (.slice A m c) ∧ (listL l).length = m ∧ w'.ownsRow w.heap.size 35 3 (.slice A m c) m ((listL l).flatMap adC) ∧ Below w.heap.size w w' ∧ m ≤ (piecesL l).length := by
  have HN := hid hn
  have HPL : Hid (∀ p ∈ piecesL l, p.length ≤ n) := hid (by rw [← hn]; exact pieces_len l)
  clear hn
  go_enter Tryd.func9, Tryd.ntmps9
  obtain ⟨ps, hps⟩ : ∃ ps, piecesL l = ps := ⟨_, rfl⟩
  have HPC := hid (pieces_any l n HN.out w (by omega))
  rw [hps] at HPC HPL
  have HPS := hid hps
  clear hps
  go_upto_region 3 with (go_at_call 12; refine HPC.out.mono ?_; rintro e w1 ⟨AP, np, cp, rfl, hlp, ho, hb, hle⟩; have HLP := hid hlp; have HR := hid (Row.of_own ho); have B := hid hb; have HNP := hid hle; clear hlp ho hb hle)
  clear HPC
  have hnp : np ≤ 100000 := by have := HNP.out; omega
  have I0 := hid (LsI.start w1 ps)
  go_loopw [3, 10] (fun v3 v10 wr => ∃ (k : Nat) (A : Option Addr) (m c : Nat) (out : List Ad), k ≤ np ∧ v3 = .slice A m c ∧ v10 = .int .i64 (k : Int) ∧ Hid (LsI w1 wr ps k A m c out)) (fun v3 v10 wr => np - (intOf v10).toNat)
  case atStart => exact ⟨0, none, 0, 0, [], Nat.zero_le _, rfl, rfl, I0⟩
  case round =>
    clear I0
    obtain ⟨k, A, m, c, out, hk2, rfl, rfl, HI⟩ := hrel
    by_cases hlt : k < np
    · have d1 : decide ((k : Int) < (np : Int)) = true := by simp; omega
      have d1' : decide (k < np) = true := by simp; omega
      have hkl : k < ps.length := by rw [HLP.out]; exact hlt
      have e0 : (0 : Int) ≤ (k : Int) := by omega
      have e2 : (k : Int) < (np : Int) := by omega
      have e3 : (k : Int).toNat = k := by omega
      have HRK := hid (HR.out.below HI.out.bel)
      obtain ⟨b, off, rfl, hcell⟩ := row_at HRK.out hkl
      have x0 := hcell k hkl
      obtain ⟨p, hp⟩ : ∃ p, ps[k]'hkl = p := ⟨_, rfl⟩
      rw [hp] at x0
      unfold SV at x0
      have HKL := hid hkl
      have HP : Hid (ps[k]'HKL.out = p) := hid hp
      have hpl : p.length ≤ n := by rw [← hp]; exact HPL.out _ (List.getElem_mem hkl)
      have HO := hid (fun X => one_any p p.length rfl X (by omega))
      obtain ⟨a, ha⟩ : ∃ a, oneL p = a := ⟨_, rfl⟩
      rw [ha] at HO
      have HA := hid ha
      have hq := fun W => run_equal_ad W a nilA
      have hg : Tryd.prog.eqGuardType Tryd.prog.depth 35 = false := by kernel_rfl
      have hz : str nilA.name = ⟨#[]⟩ ∧ str nilA.box = ⟨#[]⟩ ∧ str nilA.host = ⟨#[]⟩ := ⟨rfl, rfl, rfl⟩
      rw [hz.1, hz.2.1, hz.2.2] at hq
      clear hcell hkl hp hz ha hpl HRK
      go_upto_region 6 with (go_at_call 17; refine (HO.out _).mono ?_; rintro e w2 ⟨rfl, b2⟩; have B2 := hid b2; clear b2)
      clear x0 HO
      by_cases h0 : a = nilA
      · have hd0 : decide (a = nilA) = true := by simpa using h0
        rw [hd0] at hq
        have HI2 := hid (HI.out.skip HKL.out p HP.out (HA.out.trans h0) (B2.out.alloc B2.out.size (.cells #[.string (str a.name), .string (str a.box), .string (str a.host)] 35)))
        clear hd0 h0
        go_wp2_with fail
        go_roundw
        case rel => exact ⟨k + 1, A, m, c, out, by omega, rfl, by go_num, HI2⟩
        case measure => simp [intOf]; omega
      · have hd0 : decide (a = nilA) = false := by simpa using h0
        rw [hd0] at hq
        have HB3 := hid (HI.out.bel.trans ((B2.out.alloc B2.out.size (.cells #[.string (str a.name), .string (str a.box), .string (str a.host)] 35)).mono HI.out.bel.size))
        have HO3 := hid (own_below HI.out.own (B2.out.alloc B2.out.size (.cells #[.string (str a.name), .string (str a.box), .string (str a.host)] 35)))
        have HPT : Hid (∀ (w' : World) (A' : Option Addr) (c' : Nat), w'.ownsRow w1.heap.size 35 3 (.slice A' (m + 1) c') (m + 1) (out.flatMap adC ++ adC a) → Below w1.heap.size w1 w' → LsI w1 w' ps (k + 1) A' (m + 1) c' (out ++ [a])) := hid (fun w' A' c' h1 h2 => HI.out.put HKL.out p HP.out a HA.out h0 h1 h2)
        clear hd0 h0
        obtain ⟨W, hW⟩ : ∃ W, w2.alloc (.cells #[.string (str a.name), .string (str a.box), .string (str a.host)] 35) = W := ⟨_, rfl⟩
        have c0 : W.cell? ⟨w2.heap.size, 0, none⟩ = some (.string (str a.name)) := by rw [← hW]; exact (OwnE.new_ w2 _ _).cell (j := 0) rfl
        have c1 : W.cell? ⟨w2.heap.size, 1, none⟩ = some (.string (str a.box)) := by rw [← hW]; exact (OwnE.new_ w2 _ _).cell (j := 1) rfl
        have c2 : W.cell? ⟨w2.heap.size, 2, none⟩ = some (.string (str a.host)) := by rw [← hW]; exact (OwnE.new_ w2 _ _).cell (j := 2) rfl
        rw [hW] at HB3 HO3
        have hle := HI.out.le
        rw [hW]
        clear hW HA
        go_wp2_with (
          refine wpList_append_row _ rfl (.tmp 19) (.tmp 21) adS rfl w1.heap.size (.slice A m c) m (out.flatMap adC) rfl (own_below HO3.out ((Below.refl W.heap.size W).alloc (Nat.le_refl _) (.cells #[.string (str a.name), .string (str a.box), .string (str a.host)] 35))) (some ⟨W.heap.size, 0, none⟩) 1 1 (adC a) rfl rfl (Row.of_block (heap_alloc_new W (Obj.cells #[.string (str a.name), .string (str a.box), .string (str a.host)] 35))) (by simp [adC, SV, Value.oneCell']) (by simp only [maxLen]; omega) (by omega) (by simp; have := HB3.out.size; omega) ?_
          intro A4 c4 w4 ho4 hg4 hh4
          have HI2 := hid (HPT.out w4 A4 c4 ho4 ((HB3.out.alloc HB3.out.size _).grown hg4 (by simp; have := HB3.out.size; omega) (fun k hk => own_base HO3.out k hk)))
          clear ho4 hg4 hh4)
        go_roundw
        case rel => exact ⟨k + 1, _, _, _, _, by omega, rfl, by go_num, HI2⟩
        case measure => simp [intOf]; omega
    · have hkn : k = np := by omega
      subst hkn
      have d1 : decide ((k : Int) < (k : Int)) = false := by simp
      have d1' : decide (k < k) = false := by simp
      have HE : Hid (listL l = out) := hid (by
        unfold listL
        rw [HPS.out, HI.out.eq, List.drop_of_length_le (by rw [HLP.out]; exact Nat.le_refl _)]
        exact List.append_nil _)
      go_wp2_with fail
      go_ret
      refine ⟨A, m, c, rfl, by rw [HE.out]; exact HI.out.len, ?_, next B.out (HI.out.bel), by rw [HPS.out, HLP.out]; exact HI.out.le⟩
      rw [HE.out]
      exact own_low HI.out.own B.out.size
theorem mSays_any (l : List UInt8) (n : Nat) (hn : l.length = n) (w : World) (hl : n ≤ 100000) :
    Calls Tryd.prog 14 #[.string (str l)] w fun e w' => e = .returned (.string (str (saysL l))) ∧ Below w.heap.size w w' := by
  have HN := hid hn
  clear hn
  go_enter Tryd.func14, Tryd.ntmps14
  go_wp2_with (first
    | (go_at_call 21; refine (uses_any l _ n HN.out hl).mono ?_; rintro e w1 ⟨rfl, r1, b1, lt1⟩; have RU := hid r1; have B := hid b1; clear r1 b1 lt1)
    | (go_at_call 22; refine (says_any (prs (marks st0 l)) l (prs_c l st0) _ n n (by rw [prs_len]; exact HN.out) _ RU.out hl).mono ?_; rintro e w2 ⟨rfl, b1⟩; have B := hid (next B.out b1); clear b1))
  go_ret
  exact ⟨rfl, B.out⟩
def fewL (l : List UInt8) : List UInt8 := l.take 400
theorem few_any (l : List UInt8) (w : World) : Calls Tryd.prog 7 #[.string (str l)] w fun e w' => e = .returned (.string (str (fewL l))) ∧ w = w' := by
  obtain ⟨n, hn⟩ : ∃ n, l.length = n := ⟨_, rfl⟩
  have hsz : (str l).size = n := hn
  have hx : (str l).extract 0 400 = str (fewL l) := by rw [str_extract]; rfl
  by_cases h : 400 < n
  · have d1 : decide ((400 : Int) < (n : Int)) = true := by simp; omega
    have d1' : decide (400 < n) = true := by simpa using h
    clear hn
    go_enter Tryd.func7, Tryd.ntmps7
    go_wp2
    go_ret
    exact ⟨rfl, rfl⟩
  · have d1 : decide ((400 : Int) < (n : Int)) = false := by simp; omega
    have d1' : decide (400 < n) = false := by simpa using h
    have HF : Hid (fewL l = l) := hid (List.take_of_length_le (by omega))
    clear hn hx
    go_enter Tryd.func7, Tryd.ntmps7
    go_wp2
    go_ret
    exact ⟨by rw [HF.out]; rfl, rfl⟩
theorem fewL_len (l : List UInt8) : (fewL l).length ≤ 400 := by unfold fewL; rw [List.length_take]; omega
end Go.Proofs.YtdanhdiinkgjnaaDoor
