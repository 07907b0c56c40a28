/-
  A piece's address: the program's walk. A part of the proof: see the head of the text that ends in 'Law'.
-/
import Derived.Test.YtdanhdiinkgjnaaDoorAd5
import Derived.Test.YtdanhdiinkgjnaaDoorCarry
namespace Go.Proofs.YtdanhdiinkgjnaaDoor
open Go.RowKit
set_option linter.unusedVariables false
set_option linter.unusedSimpArgs false
attribute [local go_sem] Oper.semAt_some

structure Ad where
  name : List UInt8
  box : List UInt8
  host : List UInt8
deriving DecidableEq
/-- The last @ ahead of a place. -/
def lastN (l : List UInt8) : Nat → Option Nat
  | 0 => none
  | n + 1 => if (l.getD n 0).toNat = 64 then some n else lastN l n
theorem lastN_lt (l : List UInt8) : ∀ (n k : Nat), lastN l n = some k → k < n
  | 0, k, h => by simp [lastN] at h
  | n + 1, k, h => by
    unfold lastN at h
    split at h
    · injection h with h; omega
    · have := lastN_lt l n k h; omega
def adOf (name all : List UInt8) : Ad := match lastN all all.length with
  | none => ⟨name, all, []⟩
  | some k => ⟨name, all.take k, all.drop (k + 1)⟩
def toL (P : List (UInt8 × Nat)) (f : Nat) : Nat := match fdL 62 f (P.drop f) with
  | none => P.length
  | some t => t
def oneL (l : List UInt8) : Ad := match fdL 60 0 (prs (marks st0 l)) with
  | none => adOf (trimB (frM [] (marks st0 l))) (sayL false [] (prs (marks st0 l)))
  | some f => adOf (sayL false [] ((prs (marks st0 l)).take f)) (sayL false [] (((prs (marks st0 l)).drop (f + 1)).take (toL (prs (marks st0 l)) f - (f + 1))))
theorem fdL_lt : ∀ (P : List (UInt8 × Nat)) (z i k : Nat), fdL z i P = some k → i ≤ k ∧ k < i + P.length
  | [], z, i, k, h => by simp [fdL] at h
  | (c, u) :: l, z, i, k, h => by
    unfold fdL at h
    split at h
    · injection h with h; subst h; simp
    · have := fdL_lt l z (i + 1) k h
      simp only [List.length_cons]
      omega
theorem fdL_at : ∀ (P : List (UInt8 × Nat)) (z i k : Nat), fdL z i P = some k → ∃ x, P[k - i]? = some x ∧ x.2 = 0 ∧ x.1.toNat = z
  | [], z, i, k, h => by simp [fdL] at h
  | (c, u) :: l, z, i, k, h => by
    have hb := fdL_lt _ z i k h
    unfold fdL at h
    split at h
    · rename_i h2
      injection h with h; subst h
      exact ⟨(c, u), by simp, h2.1, h2.2⟩
    · have h3 := fdL_lt l z (i + 1) k h
      obtain ⟨x, h4, h5⟩ := fdL_at l z (i + 1) k h
      refine ⟨x, ?_, h5⟩
      rw [show k - i = (k - (i + 1)) + 1 by omega, List.getElem?_cons_succ]
      exact h4
theorem lastIdx_lastN (l : List UInt8) : ∀ n, n ≤ l.length → Lib.lastIdx (str l) 64 n = fdI (lastN l n)
  | 0, _ => rfl
  | n + 1, h => by
    have e : ((str l).data[n]!) = l.getD n 0 := by
      have hl : n < l.length := by omega
      simp [str, hl]
    unfold Lib.lastIdx lastN
    rw [e]
    by_cases h64 : (l.getD n 0).toNat = 64
    · rw [if_pos (by omega), if_pos h64]; rfl
    · rw [if_neg (by omega), if_neg h64]
      exact lastIdx_lastN l n (by omega)
theorem lastAt_any (l : List UInt8) (w : World) (hl : l.length ≤ 1000000) : Calls Tryd.prog 25 #[.string (str l), .int .u8 64] w fun e w' => e = .returned (.int .i64 (fdI (lastN l l.length))) ∧ w = w' :=
  (Tryd.strings_LastIndexByte (str l) 64 (by rw [str_size]; omega) w).mono fun e w' ⟨h1, h2⟩ => ⟨by rw [h1]; unfold Lib.lastIndexByte; rw [str_size, lastIdx_lastN l _ (Nat.le_refl _)], h2.symm⟩
theorem row_take {w : World} {A : Option Addr} {xs : List Value} (h : Row w A xs) (k : Nat) : Row w A (xs.take k) := fun hn => by
  obtain ⟨b, off, hA, hc⟩ := h (by intro e; subst e; simp at hn)
  refine ⟨b, off, hA, fun j v hv => hc j v ?_⟩
  rw [List.getElem?_take] at hv
  split at hv
  · exact hv
  · cases hv
theorem row_drop {w : World} {b off : Nat} {xs : List Value} (h : Row w (some ⟨b, off, none⟩) xs) (k : Nat) : Row w (some ⟨b, off + k, none⟩) (xs.drop k) := fun hn => by
  obtain ⟨b2, off2, hA, hc⟩ := h (by intro e; subst e; simp at hn)
  injection hA with hA
  injection hA with h1 h2
  subst h1 h2
  refine ⟨b, off + k, rfl, fun j v hv => ?_⟩
  rw [List.getElem?_drop] at hv
  rw [show off + k + j = off + (k + j) by omega]
  exact hc (k + j) v hv
/-- What stands ahead of the return: the address is laid into the result's box. -/
structure OnF (w Y : World) (r g : Nat) (a b c : Value) : Prop where
  z : OwnE Y r 35 [.string ⟨#[]⟩, .string ⟨#[]⟩, .string ⟨#[]⟩]
  o : OwnE Y g 35 [a, b, c]
  e : OwnE (((Y.setCell ⟨r, 0, none⟩ a).setCell ⟨r, 1, none⟩ b).setCell ⟨r, 2, none⟩ c) r 35 [a, b, c]
  bel : Below w.heap.size w (((Y.setCell ⟨r, 0, none⟩ a).setCell ⟨r, 1, none⟩ b).setCell ⟨r, 2, none⟩ c)
theorem OnF.of {w X Y : World} {r g : Nat} {a b c : Value} (hr : OwnE X r 35 [.string ⟨#[]⟩, .string ⟨#[]⟩, .string ⟨#[]⟩]) (ho : OwnE Y g 35 [a, b, c]) (hO : Only (fun x => x = g) X Y) (hb : Below w.heap.size w X) (hlt : r + 1 < g) (h1 : w.heap.size ≤ r) (hw : r = w.heap.size) : OnF w Y r g a b c := by
  have z := hr.only hO (fun h => by omega)
  exact ⟨z, ho, ((z.set 0 a).set 1 b).set 2 c, (((hb.trans (hO.below hb.size (fun x h => by subst h; omega))).setCell (p := ⟨r, 0, none⟩) h1 a).setCell (p := ⟨r, 1, none⟩) h1 b).setCell (p := ⟨r, 2, none⟩) h1 c⟩
theorem OnF.ofd {w X Y : World} {r g : Nat} {a b c : Value} (hr : OwnE X r 35 [.string ⟨#[]⟩, .string ⟨#[]⟩, .string ⟨#[]⟩]) (ho : OwnE Y g 35 [a, b, c]) (hO : Only (fun x => x = g) X Y) (hb : Below w.heap.size w X) (hlt : r + 1 < g) (h1 : w.heap.size ≤ r) (hw : r = w.heap.size) : OnF w Y.drew r g a b c :=
  OnF.of hr (show OwnE Y.drew g 35 [a, b, c] from ho) (hO.trans (Only.of_below (T := fun x => x = g) (drew_below _)) (fun x h => .inl h)) hb hlt h1 hw
/-- The result's box at r, the address's at g. -/
structure OnS (w X : World) (r g : Nat) (l nm : List UInt8) : Prop where
  res : OwnE X r 35 [.string ⟨#[]⟩, .string ⟨#[]⟩, .string ⟨#[]⟩]
  own : OwnE X g 35 [.string (str nm), .string ⟨#[]⟩, .string ⟨#[]⟩]
  bel : Below w.heap.size w X
  row : Row X (some ⟨w.heap.size + 1, 0, none⟩) ((prs (marks st0 l)).map fun x => U x.2)
  hr : w.heap.size ≤ r
  lt : r + 1 < g
  hw : r = w.heap.size
theorem OnS.below {w X X' : World} {r g : Nat} {l nm : List UInt8} (h : OnS w X r g l nm) (hb : Below X.heap.size X X') : OnS w X' r g l nm := ⟨h.res.below hb, h.own.below hb, next h.bel hb, h.row.below hb, h.hr, h.lt, h.hw⟩
theorem OnS.name {w X : World} {r g : Nat} {l nm : List UInt8} (h : OnS w X r g l nm) (m2 : List UInt8) : OnS w (X.setCell ⟨g, 0, none⟩ (.string (str m2))) r g l m2 :=
  ⟨h.res.far (by have := h.lt; omega) _, h.own.set 0 _, h.bel.setCell (p := ⟨g, 0, none⟩) (by have := h.lt; have := h.hr; show w.heap.size ≤ g; omega) _, row_only h.row (Only.of_set (T := fun x => x = g) X ⟨g, 0, none⟩ _ rfl) (fun a ha => by injection ha with ha; subst ha; have := h.lt; have := h.hw; show ¬ w.heap.size + 1 = g; omega), h.hr, h.lt, h.hw⟩
set_option maxRecDepth 100000 in
set_option maxHeartbeats 8000000 in
theorem one_any (l : List UInt8) (n : Nat) (hn : l.length = n) (w : World) (hl : n ≤ 100000) :
    Calls Tryd.prog 17 #[.string (str l)] w fun e w' => e = .returned (.agg #[.string (str (oneL l).name), .string (str (oneL l).box), .string (str (oneL l).host)]) ∧ Below w.heap.size w w' := by
  have HN := hid hn
  have B0 := hid ((Below.refl _ w).alloc (Nat.le_refl _) (.cells #[.string ⟨#[]⟩, .string ⟨#[]⟩, .string ⟨#[]⟩] 35))
  have R0 := hid (OwnE.new_ w [.string ⟨#[]⟩, .string ⟨#[]⟩, .string ⟨#[]⟩] 35)
  clear hn
  go_enter Tryd.func17, Tryd.ntmps17
  go_upto_region 2 with (go_at_call 21; refine (uses_any l _ n HN.out hl).mono ?_; rintro e w1 ⟨rfl, r1, b1, lt1⟩; rw [show (w.alloc (.cells #[.string ⟨#[]⟩, .string ⟨#[]⟩, .string ⟨#[]⟩] 35)).heap.size = w.heap.size + 1 by simp] at r1 lt1; have RU := hid r1; have LT := hid lt1; have B := hid (next B0.out b1); have R := hid (R0.out.below b1); clear B0 R0 r1 b1 lt1)
  go_upto_region 3 with (go_at_call 23; refine (first_any l _ n n HN.out _ RU.out hl).mono ?_; rintro e w2 ⟨rfl, b1⟩; have RU := hid (RU.out.below b1); have B := hid (next B.out b1); have R := hid (R.out.below b1); have L2 := hid b1.size; clear b1)
  have LT2 : Hid (w.heap.size + 1 < w2.heap.size) := hid (by have := LT.out; have := L2.out; omega)
  have S := hid (show OnS w (w2.alloc (.cells #[.string (str (trimB (frM [] (marks st0 l)))), .string ⟨#[]⟩, .string ⟨#[]⟩] 35)) w.heap.size w2.heap.size l (trimB (frM [] (marks st0 l))) from
    ⟨R.out.below ((Below.refl _ _).alloc (Nat.le_refl _) _), OwnE.new_ w2 _ _, next B.out ((Below.refl _ _).alloc (Nat.le_refl _) _), RU.out.below ((Below.refl _ _).alloc (Nat.le_refl _) _), Nat.le_refl _, LT2.out, rfl⟩)
  obtain ⟨nm, hnm⟩ : ∃ nm, trimB (frM [] (marks st0 l)) = nm := ⟨_, rfl⟩
  rw [hnm] at S ⊢
  have HNM := hid hnm
  clear hnm RU B R LT LT2 L2
  generalize w2.heap.size = g at *
  generalize w2.alloc (.cells #[.string (str nm), .string ⟨#[]⟩, .string ⟨#[]⟩] 35) = X at *
  have HSA := hid (fun X (h : Row X (some ⟨w.heap.size + 1, 0, none⟩) ((prs (marks st0 l)).map fun x => U x.2)) => says_any (prs (marks st0 l)) l (prs_c l st0) (some ⟨w.heap.size + 1, 0, none⟩) n n (by rw [prs_len]; exact HN.out) X h hl)
  obtain ⟨a0, ha0⟩ : ∃ a0, sayL false [] (prs (marks st0 l)) = a0 := ⟨_, rfl⟩
  rw [ha0] at HSA
  have HA0 := hid ha0
  have HL0 : Hid (a0.length ≤ 200000) := hid (by rw [← ha0]; have := sayL_len (prs (marks st0 l)) false []; rw [prs_len, HN.out] at this; simp at this; omega)
  clear ha0
  go_upto_region 4 with (go_at_call 22; refine (HSA.out _ S.out.row).mono ?_; rintro e w3 ⟨rfl, b1⟩; have S := hid (S.out.below b1); clear b1)
  have HFI := hid (fun X (h : Row X (some ⟨w.heap.size + 1, 0, none⟩) ((prs (marks st0 l)).map fun x => U x.2)) (k0 : Nat) (hk : k0 ≤ n) (z : Nat) => find_any (prs (marks st0 l)) l (prs_c l st0) (some ⟨w.heap.size + 1, 0, none⟩) n n (by rw [prs_len]; exact HN.out) z k0 X h hk (by omega))
  have HF0 := hid (HFI.out _ S.out.row 0 (Nat.zero_le _) 60)
  rw [List.drop_zero] at HF0
  obtain ⟨fo, hfo⟩ : ∃ fo, fdL 60 0 (prs (marks st0 l)) = fo := ⟨_, rfl⟩
  rw [hfo] at HF0
  have HFO := hid hfo
  clear hfo HSA
  go_upto_if 22 with (go_at_call 24; refine HF0.out.mono ?_; rintro e w4 ⟨rfl, rfl⟩)
  clear HF0
  go_cut [5, 7] (fun s5 s7 wx => ∃ (nm2 all : List UInt8), s5 = .string (str all) ∧ Hid (oneL l = adOf nm2 all) ∧ Hid (all.length ≤ 200000) ∧ Hid (OnS w wx w.heap.size g l nm2))
  case first =>
    cases fo with
    | none =>
      have hI : fdI none = -1 := rfl
      have HO : Hid (oneL l = adOf nm a0) := hid (by unfold oneL; rw [HFO.out, HNM.out, HA0.out])
      clear HFI HFO
      go_wp2_with fail
      go_meet
      exact ⟨nm, a0, rfl, HO, HL0, S⟩
    | some f =>
      have hI : fdI (some f) = (f : Int) := rfl
      have hfn : f < n := by have := fdL_lt _ _ _ _ HFO.out; rw [prs_len, HN.out] at this; omega
      have q0 : decide ((0 : Int) ≤ (f : Int)) = true := by simp
      have HF1 := hid (HFI.out _ S.out.row f (by omega) 62)
      obtain ⟨tv, hto⟩ : ∃ tv, fdL 62 f ((prs (marks st0 l)).drop f) = tv := ⟨_, rfl⟩
      rw [hto] at HF1
      have HTO := hid hto
      clear hto HFI HL0
      go_upto_if 28 with (go_at_call 24; refine HF1.out.mono ?_; rintro e w4 ⟨rfl, rfl⟩)
      clear HF1
      go_cut [7] (fun s7 wx => ∃ t : Nat, s7 = .int .i64 (t : Int) ∧ f < t ∧ t ≤ n ∧ Hid (toL (prs (marks st0 l)) f = t) ∧ w3 = wx)
      case first =>
        cases tv with
        | none =>
          have hI2 : fdI none = -1 := rfl
          have HT : Hid (toL (prs (marks st0 l)) f = n) := hid (by unfold toL; rw [HTO.out, prs_len]; exact HN.out)
          have hsz : (str l).size = n := HN.out
          clear HTO HFO
          go_wp2_with fail
          go_meet
          exact ⟨n, rfl, hfn, Nat.le_refl _, HT, rfl⟩
        | some t =>
          have hI2 : fdI (some t) = (t : Int) := rfl
          have q1 : decide ((t : Int) < 0) = false := by simp
          have HT : Hid (toL (prs (marks st0 l)) f = t) := hid (by unfold toL; rw [HTO.out])
          have hb := fdL_lt _ _ _ _ HTO.out
          rw [List.length_drop, prs_len, HN.out] at hb
          have hft : f ≠ t := fun h => by
            subst h
            obtain ⟨x, h1, h2, h3⟩ := fdL_at _ _ _ _ HTO.out
            obtain ⟨y, h4, h5, h6⟩ := fdL_at _ _ _ _ HFO.out
            rw [List.getElem?_drop, show f + (f - f) = f by omega] at h1
            rw [Nat.sub_zero] at h4
            rw [h4] at h1
            injection h1 with h1
            subst h1
            omega
          have HBT := hid (show f < t ∧ t ≤ n by omega)
          clear HTO HFO hb hft
          go_wp2_with fail
          go_meet
          exact ⟨t, rfl, HBT.out.1, HBT.out.2, HT, rfl⟩
      case rest =>
      obtain ⟨t, rfl, hft, htn, HT, rfl⟩ := hcut
      have hx1 : (str l).extract 0 f = str (l.take f) := by rw [str_extract, List.drop_zero, Nat.sub_zero]
      have hx2 : (str l).extract (f + 1) t = str ((l.drop (f + 1)).take (t - (f + 1))) := str_extract _ _ _
      have hsz : (str l).size = n := HN.out
      have i0 : (0 : Int) ≤ (f : Int) := by omega
      have i1 : (f : Int) ≤ (n : Int) := by omega
      have i2 : (0 : Int) ≤ (f : Int) + 1 := by omega
      have i3 : (f : Int) + 1 ≤ (t : Int) := by omega
      have i4 : (t : Int) ≤ (n : Int) := by omega
      have i5 : (f : Int).toNat = f := by omega
      have i6 : ((f : Int) + 1).toNat = f + 1 := by omega
      have i7 : (t : Int).toNat = t := by omega
      have iw : IntKind.i64.wrap ((f : Int) + 1) = (f : Int) + 1 := by rw [IntKind.wrap_i64]; omega
      have hpl : (prs (marks st0 l)).length = n := by rw [prs_len]; exact HN.out
      have H1 := hid (fun (X : World) (h : Row X (some ⟨w.heap.size + 1, 0, none⟩) ((prs (marks st0 l)).map fun x => U x.2)) => says_any ((prs (marks st0 l)).take f) (l.take f) (by rw [List.map_take, prs_c]) (some ⟨w.heap.size + 1, 0, none⟩) f n (by rw [List.length_take, hpl]; omega) X (by rw [List.map_take]; exact row_take h f) (by omega))
      have H2 := hid (fun (X : World) (h : Row X (some ⟨w.heap.size + 1, 0, none⟩) ((prs (marks st0 l)).map fun x => U x.2)) => says_any (((prs (marks st0 l)).drop (f + 1)).take (t - (f + 1))) ((l.drop (f + 1)).take (t - (f + 1))) (by rw [List.map_take, List.map_drop, prs_c]) (if n = f + 1 then some ⟨w.heap.size + 1, 0, none⟩ else some ⟨w.heap.size + 1, f + 1, none⟩) (t - (f + 1)) (n - (f + 1)) (by rw [List.length_take, List.length_drop, hpl]; omega) X (by
        rw [List.map_take, List.map_drop]
        refine row_take ?_ _
        split
        · rw [List.drop_of_length_le (by rw [List.length_map, hpl]; omega)]; exact Row.nil _ _
        · have := row_drop h (f + 1)
          rw [Nat.zero_add] at this
          exact this) (by omega))
      obtain ⟨A3, hA3⟩ : ∃ A3 : Option Addr, (if n = f + 1 then some ⟨w.heap.size + 1, 0, none⟩ else some ⟨w.heap.size + 1, f + 1, none⟩) = A3 := ⟨_, rfl⟩
      rw [hA3] at H2
      obtain ⟨nm3, hnm3⟩ : ∃ x, sayL false [] ((prs (marks st0 l)).take f) = x := ⟨_, rfl⟩
      obtain ⟨al3, hal3⟩ : ∃ x, sayL false [] (((prs (marks st0 l)).drop (f + 1)).take (t - (f + 1))) = x := ⟨_, rfl⟩
      rw [hnm3] at H1
      rw [hal3] at H2
      have HL3 : Hid (al3.length ≤ 200000) := hid (by
        rw [← hal3]
        have := sayL_len (((prs (marks st0 l)).drop (f + 1)).take (t - (f + 1))) false []
        rw [List.length_take, List.length_drop, hpl] at this
        simp at this
        omega)
      have HO3 : Hid (oneL l = adOf nm3 al3) := hid (by unfold oneL; rw [HFO.out]; dsimp only; rw [HT.out, hnm3, hal3])
      clear hnm3 hal3 hpl HT HTO HFO RU B R
      have hS := bq S.out.bel 1
      have S := hid (S.out.below (drew_below _))
      have HB := hid (show f < t ∧ t ≤ n ∧ n ≤ 100000 from ⟨hft, htn, hl⟩)
      clear HNM HA0
      go_upto_region 9 with fail
      refine wp_region_noPanic ?_
      refine wp_region_held_drew (S := (fun W => Below w.heap.size w W)) (by kernel_rfl) (by first | assumption | trivial) (fun hHeld => ?_)
      refine wpAnyH_take (i := 0) (v := ?_) rfl (by kernel_rfl) (by kernel_rfl) (by kernel_rfl) (fun _ _ _ h => h) (Or.inl ⟨by kernel_rfl, ?_⟩) (by first | assumption | trivial) ?_
      rotate_left
      · (intro wS hSw; (try dsimp only at hSw); go_simp; try with_reducible rfl)
      (try simp only [List.append_eq, List.cons_append, List.nil_append, List.getElem_toArray, List.getElem_cons_succ, List.getElem_cons_zero, Act.put, List.setIfInBounds_toArray, List.set_cons_zero, List.set_cons_succ])
      refine wpAnyH_take (i := 1) (v := ?_) rfl (by kernel_rfl) (by kernel_rfl) (by kernel_rfl) (fun _ _ _ h => h) (Or.inl ⟨by kernel_rfl, ?_⟩) (by first | assumption | trivial) ?_
      rotate_left
      · (intro wS hSw; (try dsimp only at hSw); go_simp; try with_reducible rfl)
      (try simp only [List.append_eq, List.cons_append, List.nil_append, List.getElem_toArray, List.getElem_cons_succ, List.getElem_cons_zero, Act.put, List.setIfInBounds_toArray, List.set_cons_zero, List.set_cons_succ])
      refine wpAnyH_take (i := 2) (v := ?_) rfl (by kernel_rfl) (by kernel_rfl) (by kernel_rfl) (fun _ _ _ h => h) (Or.inl ⟨by kernel_rfl, ?_⟩) (by first | assumption | trivial) ?_
      rotate_left
      · (intro wS hSw; (try dsimp only at hSw); go_simp; try with_reducible rfl)
      (try simp only [List.append_eq, List.cons_append, List.nil_append, List.getElem_toArray, List.getElem_cons_succ, List.getElem_cons_zero, Act.put, List.setIfInBounds_toArray, List.set_cons_zero, List.set_cons_succ])
      refine wpAnyH_take (i := 3) (v := ?_) rfl (by kernel_rfl) (by kernel_rfl) (by kernel_rfl) (fun _ _ _ h => h) (Or.inl ⟨by kernel_rfl, ?_⟩) (by first | assumption | trivial) ?_
      rotate_left
      · (intro wS hSw; (try dsimp only at hSw); go_simp; try with_reducible rfl)
      (try simp only [List.append_eq, List.cons_append, List.nil_append, List.getElem_toArray, List.getElem_cons_succ, List.getElem_cons_zero, Act.put, List.setIfInBounds_toArray, List.set_cons_zero, List.set_cons_succ])
      refine wpAnyH_take (i := 4) (v := ?_) rfl (by kernel_rfl) (by kernel_rfl) (by kernel_rfl) (fun _ _ _ h => h) (Or.inl ⟨by kernel_rfl, ?_⟩) (by first | assumption | trivial) ?_
      rotate_left
      · (intro wS hSw; (try dsimp only at hSw); go_simp; try with_reducible rfl)
      (try simp only [List.append_eq, List.cons_append, List.nil_append, List.getElem_toArray, List.getElem_cons_succ, List.getElem_cons_zero, Act.put, List.setIfInBounds_toArray, List.set_cons_zero, List.set_cons_succ])
      refine wpAnyH_take (i := 5) (v := ?_) rfl (by kernel_rfl) (by kernel_rfl) (by kernel_rfl) (fun _ _ _ h => h) (Or.inl ⟨by kernel_rfl, ?_⟩) (by first | assumption | trivial) ?_
      rotate_left
      · (intro wS hSw; (try dsimp only at hSw); go_simp; try with_reducible rfl)
      (try simp only [List.append_eq, List.cons_append, List.nil_append, List.getElem_toArray, List.getElem_cons_succ, List.getElem_cons_zero, Act.put, List.setIfInBounds_toArray, List.set_cons_zero, List.set_cons_succ])
      refine wpAnyH_take (i := 7) (v := ?_) rfl (by kernel_rfl) (by kernel_rfl) (by kernel_rfl) (fun _ _ _ h => h) (Or.inl ⟨by kernel_rfl, ?_⟩) (by first | assumption | trivial) ?_
      rotate_left
      · (intro wS hSw; (try dsimp only at hSw); go_simp; try with_reducible rfl)
      (try simp only [List.append_eq, List.cons_append, List.nil_append, List.getElem_toArray, List.getElem_cons_succ, List.getElem_cons_zero, Act.put, List.setIfInBounds_toArray, List.set_cons_zero, List.set_cons_succ])
      refine wpAnyH_take (i := 8) (v := ?_) rfl (by kernel_rfl) (by kernel_rfl) (by kernel_rfl) (fun _ _ _ h => h) (Or.inl ⟨by kernel_rfl, ?_⟩) (by first | assumption | trivial) ?_
      rotate_left
      · (intro wS hSw; (try dsimp only at hSw); go_simp; try with_reducible rfl)
      (try simp only [List.append_eq, List.cons_append, List.nil_append, List.getElem_toArray, List.getElem_cons_succ, List.getElem_cons_zero, Act.put, List.setIfInBounds_toArray, List.set_cons_zero, List.set_cons_succ])
      refine wpAnyH_take (i := 9) (v := ?_) rfl (by kernel_rfl) (by kernel_rfl) (by kernel_rfl) (fun _ _ _ h => h) (Or.inl ⟨by kernel_rfl, ?_⟩) (by first | assumption | trivial) ?_
      rotate_left
      · (intro wS hSw; (try dsimp only at hSw); go_simp; try with_reducible rfl)
      (try simp only [List.append_eq, List.cons_append, List.nil_append, List.getElem_toArray, List.getElem_cons_succ, List.getElem_cons_zero, Act.put, List.setIfInBounds_toArray, List.set_cons_zero, List.set_cons_succ])
      refine wpAnyH_take (i := 10) (v := ?_) rfl (by kernel_rfl) (by kernel_rfl) (by kernel_rfl) (fun _ _ _ h => h) (Or.inl ⟨by kernel_rfl, ?_⟩) (by first | assumption | trivial) ?_
      rotate_left
      · (intro wS hSw; (try dsimp only at hSw); go_simp; try with_reducible rfl)
      (try simp only [List.append_eq, List.cons_append, List.nil_append, List.getElem_toArray, List.getElem_cons_succ, List.getElem_cons_zero, Act.put, List.setIfInBounds_toArray, List.set_cons_zero, List.set_cons_succ])
      refine wpAnyH_take (i := 11) (v := ?_) rfl (by kernel_rfl) (by kernel_rfl) (by kernel_rfl) (fun _ _ _ h => h) (Or.inl ⟨by kernel_rfl, ?_⟩) (by first | assumption | trivial) ?_
      rotate_left
      · (intro wS hSw; (try dsimp only at hSw); go_simp; try with_reducible rfl)
      (try simp only [List.append_eq, List.cons_append, List.nil_append, List.getElem_toArray, List.getElem_cons_succ, List.getElem_cons_zero, Act.put, List.setIfInBounds_toArray, List.set_cons_zero, List.set_cons_succ])
      refine wpAnyH_take (i := 12) (v := ?_) rfl (by kernel_rfl) (by kernel_rfl) (by kernel_rfl) (fun _ _ _ h => h) (Or.inl ⟨by kernel_rfl, ?_⟩) (by first | assumption | trivial) ?_
      rotate_left
      · (intro wS hSw; (try dsimp only at hSw); go_simp; try with_reducible rfl)
      (try simp only [List.append_eq, List.cons_append, List.nil_append, List.getElem_toArray, List.getElem_cons_succ, List.getElem_cons_zero, Act.put, List.setIfInBounds_toArray, List.set_cons_zero, List.set_cons_succ])
      refine wpAnyH_take (i := 13) (v := ?_) rfl (by kernel_rfl) (by kernel_rfl) (by kernel_rfl) (fun _ _ _ h => h) (Or.inl ⟨by kernel_rfl, ?_⟩) (by first | assumption | trivial) ?_
      rotate_left
      · (intro wS hSw; (try dsimp only at hSw); go_simp; try with_reducible rfl)
      (try simp only [List.append_eq, List.cons_append, List.nil_append, List.getElem_toArray, List.getElem_cons_succ, List.getElem_cons_zero, Act.put, List.setIfInBounds_toArray, List.set_cons_zero, List.set_cons_succ])
      refine wpAnyH_take (i := 14) (v := ?_) rfl (by kernel_rfl) (by kernel_rfl) (by kernel_rfl) (fun _ _ _ h => h) (Or.inl ⟨by kernel_rfl, ?_⟩) (by first | assumption | trivial) ?_
      rotate_left
      · (intro wS hSw; (try dsimp only at hSw); go_simp; try with_reducible rfl)
      (try simp only [List.append_eq, List.cons_append, List.nil_append, List.getElem_toArray, List.getElem_cons_succ, List.getElem_cons_zero, Act.put, List.setIfInBounds_toArray, List.set_cons_zero, List.set_cons_succ])
      refine wpAnyH_take (i := 15) (v := ?_) rfl (by kernel_rfl) (by kernel_rfl) (by kernel_rfl) (fun _ _ _ h => h) (Or.inl ⟨by kernel_rfl, ?_⟩) (by first | assumption | trivial) ?_
      rotate_left
      · (intro wS hSw; (try dsimp only at hSw); go_simp; try with_reducible rfl)
      (try simp only [List.append_eq, List.cons_append, List.nil_append, List.getElem_toArray, List.getElem_cons_succ, List.getElem_cons_zero, Act.put, List.setIfInBounds_toArray, List.set_cons_zero, List.set_cons_succ])
      refine wpAnyH_take (i := 16) (v := ?_) rfl (by kernel_rfl) (by kernel_rfl) (by kernel_rfl) (fun _ _ _ h => h) (Or.inl ⟨by kernel_rfl, ?_⟩) (by first | assumption | trivial) ?_
      rotate_left
      · (intro wS hSw; (try dsimp only at hSw); go_simp; try with_reducible rfl)
      (try simp only [List.append_eq, List.cons_append, List.nil_append, List.getElem_toArray, List.getElem_cons_succ, List.getElem_cons_zero, Act.put, List.setIfInBounds_toArray, List.set_cons_zero, List.set_cons_succ])
      refine wpAnyH_ready (rs := [6]) (by kernel_rfl) (by simp) ?_
      refine AllReadyH.cons rfl (fun K hK => ?_) AllReadyH.nil
      go_simp
      (go_at_call 22; refine (H1.out _ S.out.row).mono ?_; rintro e w4 ⟨rfl, b1⟩; have S := hid (S.out.below b1); have hS2 := S.out.bel; clear b1)
      go_wp2_with fail
      refine hK.out _ _ (by first | assumption | trivial) (fun hHeld => ?_)
      clear hK K
      (try simp only [List.append_eq, List.cons_append, List.nil_append, List.getElem_toArray, List.getElem_cons_succ, List.getElem_cons_zero, Act.put, List.setIfInBounds_toArray, List.set_cons_zero, List.set_cons_succ])
      refine wpAnyH_take (i := 18) (v := ?_) rfl (by kernel_rfl) (by kernel_rfl) (by kernel_rfl) (fun _ _ _ h => h) (Or.inl ⟨by kernel_rfl, ?_⟩) (by first | assumption | trivial) ?_
      rotate_left
      · (intro wS hSw; (try dsimp only at hSw); go_simp; try with_reducible rfl)
      (try simp only [List.append_eq, List.cons_append, List.nil_append, List.getElem_toArray, List.getElem_cons_succ, List.getElem_cons_zero, Act.put, List.setIfInBounds_toArray, List.set_cons_zero, List.set_cons_succ])
      refine wpAnyH_ready (rs := [17]) (by kernel_rfl) (by simp) ?_
      refine AllReadyH.cons rfl (fun K hK => ?_) AllReadyH.nil
      go_simp
      (go_at_call 22; refine (H2.out _ S.out.row).mono ?_; rintro e w5 ⟨rfl, b1⟩; have S := hid (S.out.below b1); have hS3 := S.out.bel; clear b1)
      go_wp2_with fail
      refine hK.out _ _ (by first | assumption | trivial) (fun hHeld => ?_)
      clear hK K
      (try simp only [List.append_eq, List.cons_append, List.nil_append, List.getElem_toArray, List.getElem_cons_succ, List.getElem_cons_zero, Act.put, List.setIfInBounds_toArray, List.set_cons_zero, List.set_cons_succ])
      have x0 := S.out.own.cell (j := 0) rfl
      have f0 := S.out.own.frozen 0
      have S5 := hid (S.out.name nm3)
      have hS4 := S5.out.bel
      refine wpAnyH_ready (rs := [19]) (by kernel_rfl) (by simp) ?_
      refine AllReadyH.cons rfl (fun K hK => ?_) AllReadyH.nil
      go_simp
      skip
      go_wp2_with fail
      refine hK.out _ _ (by first | assumption | trivial) (fun hHeld => ?_)
      clear hK K
      (try simp only [List.append_eq, List.cons_append, List.nil_append, List.getElem_toArray, List.getElem_cons_succ, List.getElem_cons_zero, Act.put, List.setIfInBounds_toArray, List.set_cons_zero, List.set_cons_succ])
      refine wpAnyH_take (i := 20) (v := ?_) rfl (by kernel_rfl) (by kernel_rfl) (by kernel_rfl) (fun _ _ _ h => h) (Or.inl ⟨by kernel_rfl, ?_⟩) (by first | assumption | trivial) ?_
      rotate_left
      · (intro wS hSw; (try dsimp only at hSw); go_simp; try with_reducible rfl)
      (try simp only [List.append_eq, List.cons_append, List.nil_append, List.getElem_toArray, List.getElem_cons_succ, List.getElem_cons_zero, Act.put, List.setIfInBounds_toArray, List.set_cons_zero, List.set_cons_succ])
      refine wpAnyH_done (by kernel_rfl) ?_ _
      refine NoPanic.normal ?_
      go_wp2_with fail
      go_meet
      exact ⟨nm3, al3, rfl, HO3, HL3, S5⟩
  case rest =>
  obtain ⟨nm2, all, rfl, HO, HL, S⟩ := hcut
  clear HNM HA0 HL0 HFI HFO RU B R
  have x1 := S.out.own.cell (j := 1) rfl
  have f1 := S.out.own.frozen 1
  have HLA := hid (fun X => lastAt_any all X (by have := HL.out; omega))
  obtain ⟨lo, hlo⟩ : ∃ lo, lastN all all.length = lo := ⟨_, rfl⟩
  rw [hlo] at HLA
  have HLO := hid hlo
  clear hlo
  go_upto_if 55 with (go_at_call 25; refine (HLA.out _).mono ?_; rintro e w4 ⟨rfl, rfl⟩)
  cases lo with
  | none =>
    have hI : fdI none = -1 := rfl
    have HO2 : Hid (oneL l = ⟨nm2, all, []⟩) := hid (by rw [HO.out]; unfold adOf; rw [HLO.out])
    have HF := hid (OnF.of S.out.res (S.out.own.set 1 (.string (str all))) (Only.of_set (T := fun x => x = g) _ ⟨g, 1, none⟩ (.string (str all)) rfl) S.out.bel S.out.lt S.out.hr S.out.hw)
    clear HLA HLO HO S x1 f1
    have c0 := HF.out.o.cell (j := 0) rfl
    have c1 := HF.out.o.cell (j := 1) rfl
    have c2 := HF.out.o.cell (j := 2) rfl
    have r0 := HF.out.z.cell (j := 0) rfl
    have r1 := HF.out.z.cell (j := 1) rfl
    have r2 := HF.out.z.cell (j := 2) rfl
    have rf0 := HF.out.z.frozen 0
    have rf1 := HF.out.z.frozen 1
    have rf2 := HF.out.z.frozen 2
    have z0 := HF.out.e.cell (j := 0) rfl
    have z1 := HF.out.e.cell (j := 1) rfl
    have z2 := HF.out.e.cell (j := 2) rfl
    go_wp2_with fail
    refine bodyPost_ret (v := .agg #[(.string (str nm2)), (.string (str all)), (.string ⟨#[]⟩)]) (by simp [results, Tryd.results17, go_sem, z0, z1, z2]) rfl ?_
    exact ⟨by rw [HO2.out]; first | done | rfl, HF.out.bel⟩
  | some k =>
    have hI : fdI (some k) = (k : Int) := rfl
    have hk := lastN_lt _ _ _ HLO.out
    have q0 : decide ((0 : Int) ≤ (k : Int)) = true := by simp
    have HO2 : Hid (oneL l = ⟨nm2, all.take k, all.drop (k + 1)⟩) := hid (by rw [HO.out]; unfold adOf; rw [HLO.out])
    obtain ⟨m, hm⟩ : ∃ m, all.length = m := ⟨_, rfl⟩
    have hsz : (str all).size = m := hm
    have hx1 : (str all).extract 0 k = str (all.take k) := by rw [str_extract, List.drop_zero, Nat.sub_zero]
    have hx2 : (str all).extract (k + 1) m = str (all.drop (k + 1)) := by rw [str_extract, List.take_of_length_le (by rw [List.length_drop, hm]; exact Nat.le_refl _)]
    rw [hm] at hk
    have hm2 : m ≤ 200000 := by have := HL.out; omega
    have i0 : (0 : Int) ≤ (k : Int) := by omega
    have i1 : (k : Int) ≤ (m : Int) := by omega
    have i2 : (0 : Int) ≤ (k : Int) + 1 := by omega
    have i3 : (k : Int) + 1 ≤ (m : Int) := by omega
    have i5 : (k : Int).toNat = k := by omega
    have i6 : ((k : Int) + 1).toNat = k + 1 := by omega
    have iw : IntKind.i64.wrap ((k : Int) + 1) = (k : Int) + 1 := by rw [IntKind.wrap_i64]; omega
    have o1 := S.out.own.set 1 (.string (str all))
    have y1 := o1.cell (j := 1) rfl
    have g1 := o1.frozen 1
    have o2 := o1.set 1 (.string (str (all.take k)))
    have y2 := o2.cell (j := 2) rfl
    have g2 := o2.frozen 2
    have HF := hid (OnF.ofd S.out.res (o2.set 2 (.string (str (all.drop (k + 1))))) (((Only.of_set (T := fun x => x = g) _ ⟨g, 1, none⟩ (.string (str all)) rfl).trans (Only.of_set (T := fun x => x = g) _ ⟨g, 1, none⟩ (.string (str (all.take k))) rfl) (fun x h => .inl h)).trans (Only.of_set (T := fun x => x = g) _ ⟨g, 2, none⟩ (.string (str (all.drop (k + 1)))) rfl) (fun x h => .inl h)) S.out.bel S.out.lt S.out.hr S.out.hw)
    clear HLA HLO HO S o1 o2
    go_upto_region 13 with fail
    go_region
    clear y1 g1 y2 g2 x1 f1
    generalize World.drew _ = Y at *
    have c0 := HF.out.o.cell (j := 0) rfl
    have c1 := HF.out.o.cell (j := 1) rfl
    have c2 := HF.out.o.cell (j := 2) rfl
    have r0 := HF.out.z.cell (j := 0) rfl
    have r1 := HF.out.z.cell (j := 1) rfl
    have r2 := HF.out.z.cell (j := 2) rfl
    have rf0 := HF.out.z.frozen 0
    have rf1 := HF.out.z.frozen 1
    have rf2 := HF.out.z.frozen 2
    have z0 := HF.out.e.cell (j := 0) rfl
    have z1 := HF.out.e.cell (j := 1) rfl
    have z2 := HF.out.e.cell (j := 2) rfl
    go_wp2_with fail
    refine bodyPost_ret (v := .agg #[(.string (str nm2)), (.string (str (all.take k))), (.string (str (all.drop (k + 1))))]) (by simp [results, Tryd.results17, go_sem, z0, z1, z2]) rfl ?_
    exact ⟨by rw [HO2.out]; first | done | rfl, HF.out.bel⟩
end Go.Proofs.YtdanhdiinkgjnaaDoor
