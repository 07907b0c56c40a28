/-
  Pieces: the program's walk. A part of the proof: see the head of the text that ends in 'Law'.
-/
import Derived.Test.YtdanhdiinkgjnaaDoorAd6
namespace Go.Proofs.YtdanhdiinkgjnaaDoor
open Go.RowKit
set_option linter.unusedVariables false
attribute [local go_sem] Oper.semAt_some

theorem strS : SliceT Tryd.prog 28 9 (.string ⟨#[]⟩) 1 16 := ⟨Tryd.underlying28, by kernel_rfl, rfl, by decide⟩
/-- k octets are looked at; what was cut stands in a row of its own. -/
structure PcI (w wr : World) (l : List UInt8) (k fr : Nat) (a : Bool) (A : Option Addr) (m c : Nat) (out : List (List UInt8)) : Prop where
  own : wr.ownsRow w.heap.size 9 1 (.slice A m c) m (out.map SV)
  bel : Below w.heap.size w wr
  eq : piecesL l = out ++ pcs a ((l.take k).drop fr) ((prs (marks st0 l)).drop k)
  fr : fr ≤ k
  len : out.length = m
  le : m ≤ k
theorem PcI.start (w : World) (l : List UInt8) : PcI w w l 0 0 false none 0 0 [] := ⟨World.ownsRow_nil _ _ _ _, Below.refl _ _, rfl, Nat.le_refl _, rfl, Nat.le_refl _⟩
theorem prs_drop (l : List UInt8) (k : Nat) (hk : k < l.length) (c : UInt8) (hc : l[k]'hk = c) (u : Nat) (hu : (markS (stAfter st0 (l.take k)) c).1.u = u) : (prs (marks st0 l)).drop k = (c, u) :: (prs (marks st0 l)).drop (k + 1) := by
  have hp : k < (prs (marks st0 l)).length := by rw [prs_len]; exact hk
  rw [List.drop_eq_getElem_cons hp, marks_get l st0 k hk hp, hc, hu]
theorem cur_next (l : List UInt8) (k fr : Nat) (hk : k < l.length) (hf : fr ≤ k) : (l.take (k + 1)).drop fr = (l.take k).drop fr ++ [l[k]'hk] := by
  rw [take_next l k hk, List.drop_append_of_le_length (by rw [List.length_take]; omega)]
theorem PcI.skip {w wr : World} {l : List UInt8} {k fr : Nat} {a : Bool} {A : Option Addr} {m c : Nat} {out : List (List UInt8)} (h : PcI w wr l k fr a A m c out) (hk : k < l.length) (x : UInt8) (hx : l[k]'hk = x) (u : Nat) (hu : (markS (stAfter st0 (l.take k)) x).1.u = u) (hn : cutB a x u = false) (a' : Bool) (ha : ang a x u = a') : PcI w wr l (k + 1) fr a' A m c out := by
  refine ⟨h.own, h.bel, ?_, by have := h.fr; omega, h.len, by have := h.le; omega⟩
  rw [h.eq, prs_drop l k hk x hx u hu, pcs, if_neg (by rw [hn]; decide), ha, cur_next l k fr hk h.fr, hx]
theorem PcI.cut {w wr w' : World} {l : List UInt8} {k fr : Nat} {a : Bool} {A A' : Option Addr} {m c c' : Nat} {out : List (List UInt8)} (h : PcI w wr l k fr a A m c out) (hk : k < l.length) (x : UInt8) (hx : l[k]'hk = x) (u : Nat) (hu : (markS (stAfter st0 (l.take k)) x).1.u = u) (hn : cutB a x u = true)
    (ho : w'.ownsRow w.heap.size 9 1 (.slice A' (m + 1) c') (m + 1) (out.map SV ++ [SV ((l.take k).drop fr)])) (hb : Below w.heap.size w w') : PcI w w' l (k + 1) (k + 1) a A' (m + 1) c' (out ++ [(l.take k).drop fr]) := by
  refine ⟨by rw [List.map_append]; exact ho, hb, ?_, Nat.le_refl _, by rw [List.length_append, h.len]; rfl, by have := h.le; omega⟩
  have e : (l.take (k + 1)).drop (k + 1) = [] := List.drop_of_length_le (by rw [List.length_take]; omega)
  rw [h.eq, prs_drop l k hk x hx u hu, pcs, if_pos hn, e, List.append_assoc]
  rfl
theorem cur_extract (l : List UInt8) (fr k : Nat) : (str l).extract fr k = str ((l.take k).drop fr) := by
  rw [str_extract, List.drop_take]
set_option maxRecDepth 100000 in
set_option maxHeartbeats 8000000 in
theorem pieces_any (l : List UInt8) (n : Nat) (hn : l.length = n) (w : World) (hl : n ≤ 100000) :
    Calls Tryd.prog 12 #[.string (str l)] w fun e w' => ∃ A m c, e = .returned (.slice A m c) ∧ (piecesL l).length = m ∧ w'.ownsRow w.heap.size 9 1 (.slice A m c) m ((piecesL l).map SV) ∧ Below w.heap.size w w' ∧ m ≤ n + 1 := by
  have HN := hid hn
  have hsz : (str l).size = n := hn
  clear hn
  go_enter Tryd.func12, Tryd.ntmps12
  go_upto_region 3 with (go_at_call 21; refine (uses_any l _ n HN.out hl).mono ?_; rintro e w1 ⟨rfl, r1, b1, lt1⟩; have RU := hid r1; have B := hid b1; clear r1 b1 lt1)
  have I0 := hid (PcI.start w1 l)
  go_wp2_with fail
  go_loopw [3, 5, 6, 12] (fun v3 v5 v6 v12 wr => ∃ (k fr : Nat) (a : Bool) (A : Option Addr) (m c : Nat) (out : List (List UInt8)), k ≤ n ∧ v3 = .slice A m c ∧ v5 = .int .i64 (fr : Int) ∧ v6 = .bool a ∧ v12 = .int .i64 (k : Int) ∧ Hid (PcI w1 wr l k fr a A m c out)) (fun v3 v5 v6 v12 wr => n - (intOf v12).toNat)
  case atStart => exact ⟨0, 0, false, none, 0, 0, [], Nat.zero_le _, rfl, rfl, rfl, rfl, I0⟩
  case round =>
    clear I0
    obtain ⟨k, fr, a, A, m, c, out, hk2, rfl, rfl, rfl, rfl, HI⟩ := hrel
    have i0 : (0 : Int) ≤ (fr : Int) := by omega
    have i1 : (fr : Int) ≤ (k : Int) := by have := HI.out.fr; omega
    have i2 : (k : Int) ≤ (n : Int) := by omega
    have i3 : (k : Int).toNat = k := by omega
    have i4 : (fr : Int).toNat = fr := by omega
    obtain ⟨cur, hcur⟩ : ∃ cur, (l.take k).drop fr = cur := ⟨_, rfl⟩
    by_cases hlt : k < n
    · have d1 : decide ((k : Int) < (n : Int)) = true := by simp; omega
      have d1' : decide (k < n) = true := by simp; omega
      have hks : k < (str l).size := by rw [hsz]; omega
      have hkl : k < l.length := by rw [HN.out]; exact hlt
      have e0 : (0 : Int) ≤ (k : Int) := by omega
      have e1 : (k : Int) < ((str l).size : Int) := by rw [hsz]; omega
      have e2 : (k : Int) < (n : Int) := by omega
      have hx : (str l).extract fr k = str cur := by rw [cur_extract, hcur]
      have HRK := hid (RU.out.below HI.out.bel)
      have hkp : k < (prs (marks st0 l)).length := by rw [prs_len]; exact hkl
      obtain ⟨b, off, hA, hcell⟩ := row_at HRK.out hkp
      injection hA with hA
      injection hA with hb hoff
      subst hb hoff
      have x0 := hcell k hkp
      rw [marks_get l st0 k hkl hkp] at x0
      obtain ⟨x, hc0⟩ : ∃ c, l[k]'hkl = c := ⟨_, rfl⟩
      have hc : (str l)[k]'hks = x := hc0
      rw [hc0] at x0
      dsimp only at x0
      obtain ⟨u, hu⟩ : ∃ u, (markS (stAfter st0 (l.take k)) x).1.u = u := ⟨_, rfl⟩
      rw [hu] at x0
      unfold U at x0
      rw [Nat.zero_add] at x0
      have HKL := hid hkl
      have HC : Hid (l[k]'HKL.out = x) := hid hc0
      have HU := hid hu
      have HCUR := hid hcur
      clear hcell hkl hc0 hkp HRK hu hcur
      by_cases hu0 : u = 0
      · subst hu0
        by_cases h60 : x.toNat = 60
        · have q : ((x.toNat : Int) == 60) = true := by rw [h60]; rfl
          have HI2 := hid (HI.out.skip HKL.out x HC.out 0 HU.out (by unfold cutB; simp [h60]) true (by unfold ang; simp [h60]))
          clear HI HC HKL HU h60
          go_wp2_with fail
          go_roundw
          case rel => exact ⟨k + 1, fr, true, A, m, c, out, by omega, rfl, rfl, rfl, by go_num, HI2⟩
          case measure => simp [intOf]; omega
        by_cases h62 : x.toNat = 62
        · have q : ((x.toNat : Int) == 60) = false := ne_f h60
          have q2 : ((x.toNat : Int) == 62) = true := by rw [h62]; rfl
          have HI2 := hid (HI.out.skip HKL.out x HC.out 0 HU.out (by unfold cutB; simp [h62]) false (by unfold ang; simp [h62]))
          clear HI HC HKL HU h60 h62
          go_wp2_with fail
          go_roundw
          case rel => exact ⟨k + 1, fr, false, A, m, c, out, by omega, rfl, rfl, rfl, by go_num, HI2⟩
          case measure => simp [intOf]; omega
        have q : ((x.toNat : Int) == 60) = false := ne_f h60
        have q2 : ((x.toNat : Int) == 62) = false := ne_f h62
        have hang : ang a x 0 = a := by unfold ang; simp [h60, h62]
        by_cases h44 : x.toNat = 44
        · have q3 : ((x.toNat : Int) == 44) = true := by rw [h44]; rfl
          cases a with
          | true =>
            have HI2 := hid (HI.out.skip HKL.out x HC.out 0 HU.out (by unfold cutB; simp) true hang)
            clear HI HC HKL HU h60 h62 h44 hang
            go_wp2_with fail
            go_roundw
            case rel => exact ⟨k + 1, fr, true, A, m, c, out, by omega, rfl, rfl, rfl, by go_num, HI2⟩
            case measure => simp [intOf]; omega
          | false =>
            have HCT : Hid (∀ (w' : World) (A' : Option Addr) (c' : Nat), w'.ownsRow w1.heap.size 9 1 (.slice A' (m + 1) c') (m + 1) (out.map SV ++ [SV cur]) → Below w1.heap.size w1 w' → PcI w1 w' l (k + 1) (k + 1) false A' (m + 1) c' (out ++ [cur])) := hid (fun w' A' c' h1 h2 => by
              rw [← HCUR.out]
              rw [← HCUR.out] at h1
              exact HI.out.cut HKL.out x HC.out 0 HU.out (by unfold cutB; simp [h44]) h1 h2)
            clear HC HKL HU h60 h62 h44 hang
            go_wp2_with (
              refine wpList_append_row _ rfl (.tmp 31) (.tmp 36) strS rfl w1.heap.size (.slice A m c) m (out.map SV) rfl (own_alloc HI.out.own (.cells #[.string (str cur)] 9)) (some ⟨wr.heap.size, 0, none⟩) 1 1 [.string (str cur)] rfl rfl (Row.of_block (heap_alloc_new wr (Obj.cells #[.string (str cur)] 9))) (by simp [Value.oneCell']) (by simp only [maxLen]; have := HI.out.le; omega) (by have := HI.out.le; omega) (by simp; have := HI.out.bel.size; omega) ?_
              intro A2 c2 w2 ho2 hg2 hh2
              have hb2 : Below w1.heap.size w1 w2 := (HI.out.bel.alloc HI.out.bel.size _).grown hg2 (by simp; have := HI.out.bel.size; omega) (fun k hk => own_base HI.out.own k hk)
              have HI2 := hid (HCT.out w2 A2 c2 ho2 hb2)
              clear ho2 hg2 hh2 hb2)
            go_roundw
            case rel => exact ⟨k + 1, k + 1, false, _, _, _, _, by omega, rfl, by go_num, rfl, by go_num, HI2⟩
            case measure => simp [intOf]; omega
        · have q3 : ((x.toNat : Int) == 44) = false := ne_f h44
          have HI2 := hid (HI.out.skip HKL.out x HC.out 0 HU.out (by unfold cutB; simp [h44]) a hang)
          clear HI HC HKL HU h60 h62 h44 hang
          go_wp2_with fail
          go_roundw
          case rel => exact ⟨k + 1, fr, a, A, m, c, out, by omega, rfl, rfl, rfl, by go_num, HI2⟩
          case measure => simp [intOf]; omega
      · have q : ((u : Int) != 0) = true := by rw [bne_iff_ne]; omega
        have HI2 := hid (HI.out.skip HKL.out x HC.out u HU.out (by unfold cutB; simp [hu0]) a (by unfold ang; rw [if_neg hu0]))
        clear HI HC HKL HU hu0
        go_wp2_with fail
        go_roundw
        case rel => exact ⟨k + 1, fr, a, A, m, c, out, by omega, rfl, rfl, rfl, by go_num, HI2⟩
        case measure => simp [intOf]; omega
    · have hkn : k = n := by omega
      subst hkn
      have d1 : decide ((k : Int) < (k : Int)) = false := by simp
      have d1' : decide (k < k) = false := by simp
      have hx : (str l).extract fr k = str cur := by rw [cur_extract, hcur]
      have HE : Hid (piecesL l = out ++ [cur]) := hid (by
        have e : (prs (marks st0 l)).drop k = [] := List.drop_of_length_le (by rw [prs_len, HN.out]; exact Nat.le_refl _)
        rw [HI.out.eq, e, hcur, pcs])
      clear hcur
      go_wp2_with (
        refine wpList_append_row _ rfl (.tmp 41) (.tmp 45) strS rfl w1.heap.size (.slice A m c) m (out.map SV) rfl (own_alloc HI.out.own (.cells #[.string (str cur)] 9)) (some ⟨wr.heap.size, 0, none⟩) 1 1 [.string (str cur)] rfl rfl (Row.of_block (heap_alloc_new wr (Obj.cells #[.string (str cur)] 9))) (by simp [Value.oneCell']) (by simp only [maxLen]; have := HI.out.le; omega) (by have := HI.out.le; omega) (by simp; have := HI.out.bel.size; omega) ?_
        intro A2 c2 w2 ho2 hg2 hh2
        have hb2 : Below w1.heap.size w1 w2 := (HI.out.bel.alloc HI.out.bel.size _).grown hg2 (by simp; have := HI.out.bel.size; omega) (fun k hk => own_base HI.out.own k hk)
        have HO2 := hid ho2
        have HB2 := hid (next B.out hb2)
        clear ho2 hg2 hh2 hb2)
      go_ret
      refine ⟨A2, m + 1, c2, rfl, by rw [HE.out, List.length_append, HI.out.len]; rfl, ?_, HB2.out, by have := HI.out.le; omega⟩
      rw [HE.out, List.map_append]
      exact own_low HO2.out B.out.size
end Go.Proofs.YtdanhdiinkgjnaaDoor
