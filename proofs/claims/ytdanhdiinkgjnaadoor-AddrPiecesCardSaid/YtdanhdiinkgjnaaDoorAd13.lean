/-
  A text's pieces: the document's walk. A part of the proof: see the head of the text that ends in 'Law'.
-/
import Derived.Test.YtdanhdiinkgjnaaDoorAd12
namespace Go.Proofs.YtdanhdiinkgjnaaDoor
open Go.RowKit
set_option linter.unusedVariables false
attribute [local go_sem] Oper.semAt_some

structure RpI (w wr : World) (l : List UInt8) (k fr u d : Nat) (e a : Bool) (A : Option Addr) (m c : Nat) (out : List (List UInt8)) : Prop where
  p : PcI w wr l k fr a A m c out
  st : stAfter st0 (l.take k) = ⟨u, d, e⟩
  le : k < l.length → e = false
  dl : d ≤ k
theorem RpI.ok {w wr : World} {l : List UInt8} {k fr u d : Nat} {e a : Bool} {A : Option Addr} {m c : Nat} {out : List (List UInt8)} (h : RpI w wr l k fr u d e a A m c out) : StOk ⟨u, d, e⟩ := by
  rw [← h.st]
  exact stAfter_ok _ _ st0_ok
theorem RpI.skip {w wr : World} {l : List UInt8} {k fr u d : Nat} {e a : Bool} {A : Option Addr} {m c : Nat} {out : List (List UInt8)} (h : RpI w wr l k fr u d e a A m c out) (hk : k < l.length) (x : UInt8) (hx : l[k]'hk = x) (y : Mk) (u' d' : Nat) (e' : Bool) (hm : markS ⟨u, d, e⟩ x = (y, ⟨u', d', e'⟩)) (hn : cutB a x y.u = false) (a' : Bool) (ha : ang a x y.u = a') (he : k + 1 < l.length → e' = false) (hd : d' ≤ k + 1) : RpI w wr l (k + 1) fr u' d' e' a' A m c out := by
  refine ⟨h.p.skip hk x hx y.u (by rw [h.st, hm]) hn a' ha, ?_, he, hd⟩
  rw [take_next l k hk, stAfter_append, h.st, hx, stAfter, hm, stAfter]
theorem RpI.cut {w wr w' : World} {l : List UInt8} {k fr u d : Nat} {e a : Bool} {A A' : Option Addr} {m c c' : Nat} {out : List (List UInt8)} (h : RpI w wr l k fr u d e a A m c out) (hk : k < l.length) (x : UInt8) (hx : l[k]'hk = x) (y : Mk) (u' d' : Nat) (e' : Bool) (hm : markS ⟨u, d, e⟩ x = (y, ⟨u', d', e'⟩)) (hn : cutB a x y.u = true) (he : k + 1 < l.length → e' = false) (hd : d' ≤ k + 1)
    (ho : w'.ownsRow w.heap.size 9 1 (.slice A' (m + 1) c') (m + 1) (out.map SV ++ [SV ((l.take k).drop fr)])) (hb : Below w.heap.size w w') : RpI w w' l (k + 1) (k + 1) u' d' e' a A' (m + 1) c' (out ++ [(l.take k).drop fr]) := by
  refine ⟨h.p.cut hk x hx y.u (by rw [h.st, hm]) hn ho hb, ?_, he, hd⟩
  rw [take_next l k hk, stAfter_append, h.st, hx, stAfter, hm, stAfter]
theorem RpI.esc {w wr : World} {l : List UInt8} {k fr u d : Nat} {a : Bool} {A : Option Addr} {m c : Nat} {out : List (List UInt8)} (h : RpI w wr l k fr u d false a A m c out) (hk : k < l.length) (x : UInt8) (hx : l[k]'hk = x) (h92 : x.toNat = 92) (hu : u ≠ 0) (n : Nat) (hn : l.length = n) :
    ∃ k', (k' = k + 2 ∧ k' ≤ n ∨ k' = k + 1 ∧ k' = n) ∧ ∃ e', RpI w wr l k' fr u d e' a A m c out := by
  have hd := h.dl
  rcases Nat.lt_or_ge (k + 1) n with h2 | h2
  · have hk2 : k + 1 < l.length := by omega
    refine ⟨k + 2, .inl ⟨rfl, by omega⟩, false, ?_⟩
    have q1 := h.p.skip hk x hx 3 (by rw [h.st, esc1 h92 hu]) (by unfold cutB; rfl) a (by unfold ang; rw [if_neg (by omega)])
    have s1 : stAfter st0 (l.take (k + 1)) = ⟨u, d, true⟩ := by rw [take_next l k hk, stAfter_append, h.st, hx, stAfter, esc1 h92 hu]; rfl
    have hu0 : (u == 0) = false := by simpa using hu
    have q2 := q1.skip hk2 (l[k + 1]'hk2) rfl u (by rw [s1, esc2]) (by unfold cutB; rw [hu0]; rfl) a (by unfold ang; rw [if_neg hu])
    refine ⟨q2, ?_, fun _ => rfl, by omega⟩
    rw [take_next l (k + 1) hk2, stAfter_append, s1, stAfter, esc2]; rfl
  · refine ⟨k + 1, .inr ⟨rfl, by omega⟩, true, ?_⟩
    have q1 := h.p.skip hk x hx 3 (by rw [h.st, esc1 h92 hu]) (by unfold cutB; rfl) a (by unfold ang; rw [if_neg (by omega)])
    exact ⟨q1, by rw [take_next l k hk, stAfter_append, h.st, hx, stAfter, esc1 h92 hu]; rfl, fun h => by omega, by omega⟩
set_option maxRecDepth 100000 in
set_option maxHeartbeats 8000000 in
theorem rpieces_any (l : List UInt8) (n : Nat) (hn : l.length = n) (w : World) (hl : n ≤ 100000) :
    Calls Tryd.prog 13 #[.string (str l)] w fun e w' => ∃ A m c, e = .returned (.slice A m c) ∧ (piecesL l).length = m ∧ w'.ownsRow w.heap.size 9 1 (.slice A m c) m ((piecesL l).map SV) ∧ Below w.heap.size w w' ∧ m ≤ n + 1 := by
  have HN := hid hn
  have hsz : (str l).size = n := hn
  have I0 := hid (show RpI w w l 0 0 0 0 false false none 0 0 [] from ⟨PcI.start w l, rfl, fun _ => rfl, Nat.le_refl _⟩)
  clear hn
  go_enter Tryd.func13, Tryd.ntmps13
  go_wp2_with fail
  go_loopw [3, 4, 5, 6, 7, 8] (fun v3 v4 v5 v6 v7 v8 wr => ∃ (k j fr u d : Nat) (e a : Bool) (A : Option Addr) (m c : Nat) (out : List (List UInt8)), k ≤ n ∧ (j = k ∨ j = n + 1 ∧ k = n) ∧ v3 = .slice A m c ∧ v4 = .int .i64 (fr : Int) ∧ v5 = .bool a ∧ v6 = .bool (u == 1) ∧ v7 = .int .i64 (d : Int) ∧ v8 = .int .i64 (j : Int) ∧ Hid (RpI w wr l k fr u d e a A m c out)) (fun v3 v4 v5 v6 v7 v8 wr => n + 1 - (intOf v8).toNat)
  case atStart => exact ⟨0, 0, 0, 0, 0, false, false, none, 0, 0, [], Nat.zero_le _, .inl rfl, rfl, rfl, rfl, rfl, rfl, rfl, I0⟩
  case round =>
    clear I0
    obtain ⟨k, j, fr, u, d, e, a, A, m, c, out, hk2, hj, rfl, rfl, rfl, rfl, rfl, rfl, HI⟩ := hrel
    have i0 : (0 : Int) ≤ (fr : Int) := by omega
    have i1 : (fr : Int) ≤ (k : Int) := by have := HI.out.p.fr; omega
    have i2 : (k : Int) ≤ (n : Int) := by omega
    have i3 : (k : Int).toNat = k := by omega
    have i4 : (fr : Int).toNat = fr := by omega
    obtain ⟨cur, hcur⟩ : ∃ cur, (l.take k).drop fr = cur := ⟨_, rfl⟩
    by_cases hlt : k < n
    · obtain rfl : k = j := by rcases hj with h | h; exact h.symm; omega
      have d1 : decide ((k : Int) < (n : Int)) = true := by simp; omega
      have d1' : decide (k < n) = true := by simp; omega
      have hks : k < (str l).size := by rw [hsz]; omega
      have hkl : k < l.length := by rw [HN.out]; exact hlt
      have e0 : (0 : Int) ≤ (k : Int) := by omega
      have e1 : (k : Int) < ((str l).size : Int) := by rw [hsz]; omega
      have e2 : (k : Int) < (n : Int) := by omega
      have hx : (str l).extract fr k = str cur := by rw [cur_extract, hcur]
      obtain rfl := HI.out.le hkl
      have hdn : d ≤ n := by have := HI.out.dl; omega
      have hok := HI.out.ok
      have HUD := hid hok.d
      have HU := hid hok.u
      dsimp only at HUD HU
      obtain ⟨x, hc0⟩ : ∃ c, l[k]'hkl = c := ⟨_, rfl⟩
      have hc : (str l)[k]'hks = x := hc0
      have HKL := hid hkl
      have HC : Hid (l[k]'HKL.out = x) := hid hc0
      have HCUR := hid hcur
      clear hok hkl hc0 hj hcur
      rcases (by have := HU.out; omega : u = 0 ∨ u = 1 ∨ u = 2) with rfl | rfl | rfl
      · obtain rfl : d = 0 := by
          rcases Nat.eq_zero_or_pos d with h | h
          · exact h
          · have := HUD.out.2 h; omega
        clear HUD HU
        by_cases hx2 : x.toNat = 34
        · have q2 : ((x.toNat : Int) == 34) = true := by rw [hx2]; rfl
          have HX := hid hx2
          clear hx2
          have HI2 : Hid (RpI w wr l (k + 1) fr 1 0 false a A m c out) := hid (by
            refine HI.out.skip HKL.out x HC.out ⟨x, 3, false, false, false⟩ 1 0 false ?_ (by unfold cutB; simp [HX.out]) a (by unfold ang; simp [HX.out]) (fun _ => rfl) (by have := HI.out.dl; omega)
            unfold markS
            simp [HX.out])
          clear HI HC HKL
          go_wp2_with fail
          go_roundw
          case rel => exact ⟨k + 1, k + 1, fr, 1, 0, false, a, A, m, c, out, by omega, .inl rfl, rfl, rfl, rfl, by first | rfl | go_num | simp, by first | rfl | go_num | simp, by first | rfl | go_num | simp, HI2⟩
          case measure => simp [intOf]; omega
        have q2 : ((x.toNat : Int) == 34) = false := ne_f hx2
        by_cases hx3 : x.toNat = 40
        · have q3 : ((x.toNat : Int) == 40) = true := by rw [hx3]; rfl
          have HX := hid hx3
          clear hx2 hx3
          have HI2 : Hid (RpI w wr l (k + 1) fr 2 1 false a A m c out) := hid (by
            refine HI.out.skip HKL.out x HC.out ⟨x, 2, false, true, false⟩ 2 1 false ?_ (by unfold cutB; simp [HX.out]) a (by unfold ang; simp [HX.out]) (fun _ => rfl) (by have := HI.out.dl; omega)
            unfold markS
            simp [HX.out])
          clear HI HC HKL
          go_wp2_with fail
          go_roundw
          case rel => exact ⟨k + 1, k + 1, fr, 2, 1, false, a, A, m, c, out, by omega, .inl rfl, rfl, rfl, rfl, by first | rfl | go_num | simp, by first | rfl | go_num | simp, by first | rfl | go_num | simp, HI2⟩
          case measure => simp [intOf]; omega
        have q3 : ((x.toNat : Int) == 40) = false := ne_f hx3
        by_cases hx4 : x.toNat = 60
        · have q4 : ((x.toNat : Int) == 60) = true := by rw [hx4]; rfl
          have HX := hid hx4
          clear hx2 hx3 hx4
          have HI2 : Hid (RpI w wr l (k + 1) fr 0 0 false true A m c out) := hid (by
            refine HI.out.skip HKL.out x HC.out ⟨x, 0, false, false, false⟩ 0 0 false ?_ (by unfold cutB; simp [HX.out]) true (by unfold ang; simp [HX.out]) (fun _ => rfl) (by have := HI.out.dl; omega)
            unfold markS
            simp [HX.out])
          clear HI HC HKL
          go_wp2_with fail
          go_roundw
          case rel => exact ⟨k + 1, k + 1, fr, 0, 0, false, true, A, m, c, out, by omega, .inl rfl, rfl, rfl, rfl, by first | rfl | go_num | simp, by first | rfl | go_num | simp, by first | rfl | go_num | simp, HI2⟩
          case measure => simp [intOf]; omega
        have q4 : ((x.toNat : Int) == 60) = false := ne_f hx4
        by_cases hx5 : x.toNat = 62
        · have q5 : ((x.toNat : Int) == 62) = true := by rw [hx5]; rfl
          have HX := hid hx5
          clear hx2 hx3 hx4 hx5
          have HI2 : Hid (RpI w wr l (k + 1) fr 0 0 false false A m c out) := hid (by
            refine HI.out.skip HKL.out x HC.out ⟨x, 0, false, false, false⟩ 0 0 false ?_ (by unfold cutB; simp [HX.out]) false (by unfold ang; simp [HX.out]) (fun _ => rfl) (by have := HI.out.dl; omega)
            unfold markS
            simp [HX.out])
          clear HI HC HKL
          go_wp2_with fail
          go_roundw
          case rel => exact ⟨k + 1, k + 1, fr, 0, 0, false, false, A, m, c, out, by omega, .inl rfl, rfl, rfl, rfl, by first | rfl | go_num | simp, by first | rfl | go_num | simp, by first | rfl | go_num | simp, HI2⟩
          case measure => simp [intOf]; omega
        have q5 : ((x.toNat : Int) == 62) = false := ne_f hx5
        by_cases hx6 : x.toNat = 44
        · have q6 : ((x.toNat : Int) == 44) = true := by rw [hx6]; rfl
          have HX := hid hx6
          clear hx2 hx3 hx4 hx5 hx6
          cases a with
          | true =>
            have HI2 : Hid (RpI w wr l (k + 1) fr 0 0 false true A m c out) := hid (by
              refine HI.out.skip HKL.out x HC.out ⟨x, 0, false, false, false⟩ 0 0 false ?_ (by unfold cutB; simp [HX.out]) true (by unfold ang; simp [HX.out]) (fun _ => rfl) (by have := HI.out.dl; omega)
              unfold markS
              simp [HX.out])
            clear HI HC HKL
            go_wp2_with fail
            go_roundw
            case rel => exact ⟨k + 1, k + 1, fr, 0, 0, false, true, A, m, c, out, by omega, .inl rfl, rfl, rfl, rfl, by first | rfl | go_num | simp, by first | rfl | go_num | simp, by first | rfl | go_num | simp, HI2⟩
            case measure => simp [intOf]; omega
          | false =>
            have HCT : Hid (∀ (w' : World) (A' : Option Addr) (c' : Nat), w'.ownsRow w.heap.size 9 1 (.slice A' (m + 1) c') (m + 1) (out.map SV ++ [SV cur]) → Below w.heap.size w w' → RpI w w' l (k + 1) (k + 1) 0 0 false false A' (m + 1) c' (out ++ [cur])) := hid (fun w' A' c' h1 h2 => by
              rw [← HCUR.out]
              rw [← HCUR.out] at h1
              exact HI.out.cut HKL.out x HC.out ⟨x, 0, false, false, false⟩ 0 0 false (by unfold markS; simp [HX.out]) (by unfold cutB; simp [HX.out]) (fun _ => rfl) (by omega) h1 h2)
            have HI := hid HI.out.p
            clear HC HKL
            go_wp2_with (
              refine wpList_append_row _ rfl (.tmp 78) (.tmp 83) strS rfl w.heap.size (.slice A m c) m (out.map SV) rfl (own_alloc HI.out.own (.cells #[.string (str cur)] 9)) (some ⟨wr.heap.size, 0, none⟩) 1 1 [.string (str cur)] rfl rfl (Row.of_block (heap_alloc_new wr (Obj.cells #[.string (str cur)] 9))) (by simp [Value.oneCell']) (by simp only [maxLen]; have := HI.out.le; omega) (by have := HI.out.le; omega) (by simp; have := HI.out.bel.size; omega) ?_
              intro A2 c2 w2 ho2 hg2 hh2
              have HI2 := hid (HCT.out w2 A2 c2 ho2 ((HI.out.bel.alloc HI.out.bel.size _).grown hg2 (by simp; have := HI.out.bel.size; omega) (fun k hk => own_base HI.out.own k hk)))
              clear ho2 hg2 hh2)
            go_roundw
            case rel => exact ⟨k + 1, k + 1, k + 1, 0, 0, false, false, _, _, _, _, by omega, .inl rfl, rfl, by go_num, rfl, rfl, by first | rfl | go_num | simp, by go_num, HI2⟩
            case measure => simp [intOf]; omega
        have q6 : ((x.toNat : Int) == 44) = false := ne_f hx6
        have HX := hid (show x.toNat ≠ 34 ∧ x.toNat ≠ 40 ∧ x.toNat ≠ 60 ∧ x.toNat ≠ 62 ∧ x.toNat ≠ 44 from ⟨hx2, hx3, hx4, hx5, hx6⟩)
        clear hx2 hx3 hx4 hx5 hx6
        have HI2 : Hid (RpI w wr l (k + 1) fr 0 0 false a A m c out) := hid (by
          refine HI.out.skip HKL.out x HC.out ⟨x, 0, false, false, false⟩ 0 0 false ?_ (by unfold cutB; simp [HX.out.1, HX.out.2.1, HX.out.2.2.1, HX.out.2.2.2.1, HX.out.2.2.2.2]) a (by unfold ang; simp [HX.out.1, HX.out.2.1, HX.out.2.2.1, HX.out.2.2.2.1, HX.out.2.2.2.2]) (fun _ => rfl) (by have := HI.out.dl; omega)
          unfold markS
          simp [HX.out.1, HX.out.2.1, HX.out.2.2.1, HX.out.2.2.2.1, HX.out.2.2.2.2])
        clear HI HC HKL
        go_wp2_with fail
        go_roundw
        case rel => exact ⟨k + 1, k + 1, fr, 0, 0, false, a, A, m, c, out, by omega, .inl rfl, rfl, rfl, rfl, by first | rfl | go_num | simp, by first | rfl | go_num | simp, by first | rfl | go_num | simp, HI2⟩
        case measure => simp [intOf]; omega
      · obtain rfl : d = 0 := by
          rcases Nat.eq_zero_or_pos d with h | h
          · exact h
          · have := HUD.out.2 h; omega
        clear HUD HU
        by_cases hx1 : x.toNat = 92
        · have q1 : ((x.toNat : Int) == 92) = true := by rw [hx1]; rfl
          have HX := hid hx1
          clear hx1
          obtain ⟨k', hk', e', hI'⟩ := HI.out.esc HKL.out x HC.out HX.out (by decide) n HN.out
          have HI2 := hid hI'
          have HK := hid hk'
          clear HI HC HKL hI' hk'
          go_wp2_with fail
          go_roundw
          case rel => exact ⟨k', k + 2, fr, 1, 0, e', a, A, m, c, out, by have := HK.out; omega, by have := HK.out; omega, rfl, rfl, rfl, by first | rfl | go_num | simp, by first | rfl | go_num | simp, by first | rfl | go_num | simp, HI2⟩
          case measure => simp [intOf]; omega
        have q1 : ((x.toNat : Int) == 92) = false := ne_f hx1
        by_cases hx2 : x.toNat = 34
        · have q2 : ((x.toNat : Int) == 34) = true := by rw [hx2]; rfl
          have HX := hid hx2
          clear hx2 hx1
          have HI2 : Hid (RpI w wr l (k + 1) fr 0 0 false a A m c out) := hid (by
            refine HI.out.skip HKL.out x HC.out ⟨x, 3, false, false, false⟩ 0 0 false ?_ (by unfold cutB; simp [HX.out]) a (by unfold ang; simp [HX.out]) (fun _ => rfl) (by have := HI.out.dl; omega)
            unfold markS
            simp [HX.out])
          clear HI HC HKL
          go_wp2_with fail
          go_roundw
          case rel => exact ⟨k + 1, k + 1, fr, 0, 0, false, a, A, m, c, out, by omega, .inl rfl, rfl, rfl, rfl, by first | rfl | go_num | simp, by first | rfl | go_num | simp, by first | rfl | go_num | simp, HI2⟩
          case measure => simp [intOf]; omega
        have q2 : ((x.toNat : Int) == 34) = false := ne_f hx2
        have HX := hid (show x.toNat ≠ 92 ∧ x.toNat ≠ 34 from ⟨hx1, hx2⟩)
        clear hx1 hx2
        have HI2 : Hid (RpI w wr l (k + 1) fr 1 0 false a A m c out) := hid (by
          refine HI.out.skip HKL.out x HC.out ⟨x, 1, false, false, false⟩ 1 0 false ?_ (by unfold cutB; simp [HX.out.1, HX.out.2]) a (by unfold ang; simp [HX.out.1, HX.out.2]) (fun _ => rfl) (by have := HI.out.dl; omega)
          unfold markS
          simp [HX.out.1, HX.out.2])
        clear HI HC HKL
        go_wp2_with fail
        go_roundw
        case rel => exact ⟨k + 1, k + 1, fr, 1, 0, false, a, A, m, c, out, by omega, .inl rfl, rfl, rfl, rfl, by first | rfl | go_num | simp, by first | rfl | go_num | simp, by first | rfl | go_num | simp, HI2⟩
        case measure => simp [intOf]; omega
      · have hd0 : ((d : Int) == 0) = false := by have := HUD.out.1 rfl; rw [beq_eq_false_iff_ne]; omega
        have hd1 : decide ((0 : Int) < (d : Int)) = true := by have := HUD.out.1 rfl; simp; omega
        have hd1' : decide (0 < d) = true := by have := HUD.out.1 rfl; simp; omega
        by_cases hx1 : x.toNat = 92
        · have q1 : ((x.toNat : Int) == 92) = true := by rw [hx1]; rfl
          have HX := hid hx1
          clear hx1 HUD HU
          obtain ⟨k', hk', e', hI'⟩ := HI.out.esc HKL.out x HC.out HX.out (by decide) n HN.out
          have HI2 := hid hI'
          have HK := hid hk'
          clear HI HC HKL hI' hk'
          go_wp2_with fail
          go_roundw
          case rel => exact ⟨k', k + 2, fr, 2, d, e', a, A, m, c, out, by have := HK.out; omega, by have := HK.out; omega, rfl, rfl, rfl, by first | rfl | go_num | simp, by first | rfl | go_num | simp, by first | rfl | go_num | simp, HI2⟩
          case measure => simp [intOf]; omega
        have q1 : ((x.toNat : Int) == 92) = false := ne_f hx1
        by_cases hx3 : x.toNat = 40
        · have q3 : ((x.toNat : Int) == 40) = true := by rw [hx3]; rfl
          have HX := hid hx3
          clear hx1 hx3 HUD HU
          have HI2 : Hid (RpI w wr l (k + 1) fr 2 (d + 1) false a A m c out) := hid (by
            refine HI.out.skip HKL.out x HC.out ⟨x, 2, false, false, false⟩ 2 (d + 1) false ?_ (by unfold cutB; simp [HX.out]) a (by unfold ang; simp [HX.out]) (fun _ => rfl) (by have := HI.out.dl; omega)
            unfold markS
            simp [HX.out])
          clear HI HC HKL
          go_wp2_with fail
          go_roundw
          case rel => exact ⟨k + 1, k + 1, fr, 2, (d + 1), false, a, A, m, c, out, by omega, .inl rfl, rfl, rfl, rfl, by first | rfl | go_num | simp, by first | rfl | go_num | simp, by first | rfl | go_num | simp, HI2⟩
          case measure => simp [intOf]; omega
        have q3 : ((x.toNat : Int) == 40) = false := ne_f hx3
        by_cases hx4 : x.toNat = 41
        · have q4 : ((x.toNat : Int) == 41) = true := by rw [hx4]; rfl
          have HX := hid hx4
          obtain ⟨d2, rfl⟩ : ∃ d2, d = d2 + 1 := ⟨d - 1, by have := HUD.out.1 rfl; omega⟩
          clear hx1 hx3 hx4 HUD HU
          by_cases hd2 : d2 = 0
          · subst hd2
            have HI2 : Hid (RpI w wr l (k + 1) fr 0 0 false a A m c out) := hid (by
              refine HI.out.skip HKL.out x HC.out ⟨x, 2, false, false, true⟩ 0 0 false ?_ (by unfold cutB; simp [HX.out]) a (by unfold ang; simp [HX.out]) (fun _ => rfl) (by have := HI.out.dl; omega)
              unfold markS
              simp [HX.out])
            clear HI HC HKL
            go_wp2_with fail
            go_roundw
            case rel => exact ⟨k + 1, k + 1, fr, 0, 0, false, a, A, m, c, out, by omega, .inl rfl, rfl, rfl, rfl, by first | rfl | go_num | simp, by first | rfl | go_num | simp, by first | rfl | go_num | simp, HI2⟩
            case measure => simp [intOf]; omega
          · have HD2 := hid hd2
            clear hd2
            have HI2 : Hid (RpI w wr l (k + 1) fr 2 d2 false a A m c out) := hid (by
              refine HI.out.skip HKL.out x HC.out ⟨x, 2, false, false, false⟩ 2 d2 false ?_ (by unfold cutB; simp [HX.out, HD2.out]) a (by unfold ang; simp [HX.out, HD2.out]) (fun _ => rfl) (by have := HI.out.dl; omega)
              unfold markS
              simp [HX.out, HD2.out])
            clear HI HC HKL
            go_wp2_with fail
            go_roundw
            case rel => exact ⟨k + 1, k + 1, fr, 2, d2, false, a, A, m, c, out, by omega, .inl rfl, rfl, rfl, rfl, by first | rfl | go_num | simp, by first | rfl | go_num | simp, by first | rfl | go_num | simp, HI2⟩
            case measure => simp [intOf]; omega
        have q4 : ((x.toNat : Int) == 41) = false := ne_f hx4
        have HX := hid (show x.toNat ≠ 92 ∧ x.toNat ≠ 40 ∧ x.toNat ≠ 41 from ⟨hx1, hx3, hx4⟩)
        clear hx1 hx3 hx4 HUD HU
        have HI2 : Hid (RpI w wr l (k + 1) fr 2 d false a A m c out) := hid (by
          refine HI.out.skip HKL.out x HC.out ⟨x, 2, false, false, false⟩ 2 d false ?_ (by unfold cutB; simp [HX.out.1, HX.out.2.1, HX.out.2.2]) a (by unfold ang; simp [HX.out.1, HX.out.2.1, HX.out.2.2]) (fun _ => rfl) (by have := HI.out.dl; omega)
          unfold markS
          simp [HX.out.1, HX.out.2.1, HX.out.2.2])
        clear HI HC HKL
        go_wp2_with fail
        go_roundw
        case rel => exact ⟨k + 1, k + 1, fr, 2, d, false, a, A, m, c, out, by omega, .inl rfl, rfl, rfl, rfl, by first | rfl | go_num | simp, by first | rfl | go_num | simp, by first | rfl | go_num | simp, HI2⟩
        case measure => simp [intOf]; omega
    · have hkn : k = n := by omega
      subst hkn
      have d1 : decide ((j : Int) < (k : Int)) = false := by simp; omega
      have d1' : decide (j < k) = false := by simp; omega
      have hx : (str l).extract fr k = str cur := by rw [cur_extract, hcur]
      have HE : Hid (piecesL l = out ++ [cur]) := hid (by
        have e : (prs (marks st0 l)).drop k = [] := List.drop_of_length_le (by rw [prs_len, HN.out]; exact Nat.le_refl _)
        rw [HI.out.p.eq, e, hcur, pcs])
      have HI := hid HI.out.p
      clear hcur
      go_wp2_with (
        refine wpList_append_row _ rfl (.tmp 87) (.tmp 91) strS rfl w.heap.size (.slice A m c) m (out.map SV) rfl (own_alloc HI.out.own (.cells #[.string (str cur)] 9)) (some ⟨wr.heap.size, 0, none⟩) 1 1 [.string (str cur)] rfl rfl (Row.of_block (heap_alloc_new wr (Obj.cells #[.string (str cur)] 9))) (by simp [Value.oneCell']) (by simp only [maxLen]; have := HI.out.le; omega) (by have := HI.out.le; omega) (by simp; have := HI.out.bel.size; omega) ?_
        intro A2 c2 w2 ho2 hg2 hh2
        have HB2 := hid ((HI.out.bel.alloc HI.out.bel.size _).grown hg2 (by simp; have := HI.out.bel.size; omega) (fun k hk => own_base HI.out.own k hk))
        have HO2 := hid ho2
        clear ho2 hg2 hh2)
      go_ret
      refine ⟨A2, m + 1, c2, rfl, by rw [HE.out, List.length_append, HI.out.len]; rfl, ?_, HB2.out, by have := HI.out.le; omega⟩
      rw [HE.out, List.map_append]
      exact HO2.out
end Go.Proofs.YtdanhdiinkgjnaaDoor
