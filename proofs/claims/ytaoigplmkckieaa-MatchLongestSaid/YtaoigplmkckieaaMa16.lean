/-
  What tokens come to: the program's walk. A part of the proof: see the head of the text that ends in 'Law'.
-/
import Derived.Test.YtaoigplmkckieaaMa15
namespace Go.Proofs.Ytaoigplmkckieaa
open Go.RowKit
set_option linter.unusedVariables false

def ExpPost (w : World) (r : List UInt8 × Nat × Nat) (e : Ending) (w' : World) : Prop := ∃ A' c', e = .returned (.tuple #[.slice A' r.1.length c', .int .i64 (r.2.1 : Int), .int .i64 (r.2.2 : Int)]) ∧ Oct w' A' r.1.length r.1 ∧ Below w.heap.size w w'
theorem ExpPost.bad {w w' : World} {r : List UInt8 × Nat × Nat} {E i : Nat} (hr : r = ([], E, i)) (hb : Below w.heap.size w w') : ExpPost w r (.returned (.tuple #[.slice none 0 0, .int .i64 (E : Int), .int .i64 (i : Int)])) w' := by
  subst hr
  exact ⟨none, 0, rfl, Oct.nil _ _, hb⟩

set_option maxHeartbeats 4000000 in
theorem mExp_any (w : World) (A : Option Addr) (n c : Nat) (l : List Tok) (h : TRow w A n l) (hn : n ≤ 1000) (most : Int) (hm : -9223372036854775808 ≤ most ∧ most ≤ 9223372036854775807) :
    Calls Try.prog 14 #[.slice A n c, .int .i64 most] w (ExpPost w (expAll most l)) := by
  have hm1 := hm.1
  have hm2 := hm.2
  by_cases h0 : most < 0
  · have d0 : decide (most < 0) = true := by simpa using h0
    have hr : expAll most l = ([], 1, 0) := by unfold expAll; rw [if_pos h0]
    rw [hr]
    clear hr h hm
    go_enter Try.func14, Try.ntmps14
    go_wp2
    go_ret3
    exact ExpPost.bad rfl (Below.refl _ _)
  · have d0 : decide (most < 0) = false := by simpa using h0
    have hr : expAll most l = expF most l 0 [] := by unfold expAll; rw [if_neg h0]
    rw [hr]
    have HL := hid h.1
    have HT := hid h
    clear hr h hm
    go_enter Try.func14, Try.ntmps14
    go_wp2
    go_loopw [7, 14] (fun o i wr => ∃ (k : Nat) (out : List UInt8) (A' : Option Addr) (c' : Nat), k ≤ n ∧ i = .int .i64 (k : Int) ∧ o = .slice A' out.length c' ∧ out.length ≤ 258 * k ∧ Hid (expF most l 0 [] = expF most (l.drop k) k out) ∧ Hid (OcI w wr A' c' out)) (fun o i wr => n - (intOf i).toNat)
    case atStart => exact ⟨0, [], none, 0, by omega, rfl, rfl, by simp, hid rfl, hid ⟨World.ownsRow_nil _ _ _ _, Below.refl _ _⟩⟩
    case round =>
      obtain ⟨k, out, A', c', hk, rfl, rfl, hol, hE, hI⟩ := hrel
      by_cases hlt : k < n
      · have d1 : decide (k < n) = true := by simpa using hlt
        obtain ⟨b, off, rfl, hc⟩ := (HT.out.below hI.out.bel).at_ (by omega)
        have hkl : k < l.length := by rw [HL.out]; exact hlt
        obtain ⟨p0, p1, p2⟩ := hc k hkl
        obtain ⟨t, ht⟩ : ∃ t, l[k] = t := ⟨_, rfl⟩
        rw [ht] at p0 p1 p2
        have HTK := hid (show l[k]? = some t by rw [List.getElem?_eq_getElem hkl, ht])
        clear hc ht
        go_upto_region 7 with fail
        have BX := OwnC.new_ wr #[.int .u8 t.lit.toNat, .int .i64 t.len, .int .i64 t.dist] 50
        have hb1 : Below wr.heap.size wr (wr.alloc (Obj.cells #[.int .u8 t.lit.toNat, .int .i64 t.len, .int .i64 t.dist] 50)) := (Below.refl _ wr).alloc (Nat.le_refl _) _
        have hI1 := hI.out.far hb1
        have hI2 := hid hI1
        obtain ⟨W1, hW1⟩ : ∃ W1, wr.alloc (Obj.cells #[.int .u8 t.lit.toNat, .int .i64 t.len, .int .i64 t.dist] 50) = W1 := ⟨_, rfl⟩
        rw [hW1] at BX hI2 ⊢
        clear hb1 hI1 hW1 p0 p1 p2
        obtain ⟨g, hg⟩ : ∃ g, wr.heap.size = g := ⟨_, rfl⟩
        rw [hg] at BX ⊢
        clear hg
        have x0 := BX.cell (j := 0) rfl
        have x1 := BX.cell (j := 1) rfl
        have x2 := BX.cell (j := 2) rfl
        have HX := hid BX
        have hma : ∀ w, Calls Try.prog 19 #[.agg #[.int .u8 t.lit.toNat, .int .i64 t.len, .int .i64 t.dist]] w fun e w' => e = .returned (.bool (mayT t)) ∧ Below w.heap.size w w' := fun w => may_any t w
        clear BX
        by_cases hmy : mayT t = true
        · rw [hmy] at hma
          have HMA := hid hma
          have HMY := hid hmy
          have hml := mayT_len hmy
          have hal := addT_len hmy out
          clear hma hmy
          by_cases h2 : (out.length : Int) < t.dist
          · have d2 : decide ((out.length : Int) < t.dist) = true := by simpa using h2
            have HR := hid (hE.out.trans (expF_dist HTK.out HMY.out h2))
            clear h2 hml hal
            go_wp2_with fail
            go_at_call 19
            (with_reducible refine (HMA.out _).mono ?_)
            rintro e w3 ⟨rfl, hb3⟩
            have x0 := cells_keep hb3 x0
            have x1 := cells_keep hb3 x1
            have x2 := cells_keep hb3 x2
            go_wp2
            go_ret3
            exact ExpPost.bad HR.out (hI2.out.bel.trans (hb3.mono hI2.out.bel.size))
          · have d2 : decide ((out.length : Int) < t.dist) = false := by simpa using h2
            by_cases h4 : t.len = 0
            · have h5 : ¬ 1 < t.len := by omega
              have d5 : decide (1 < t.len) = false := by simpa using h5
              have e5 : max 1 t.len = 1 := by omega
              rw [e5] at hal
              have d4 : (t.len == 0) = true := by simpa using h4
              by_cases h3 : most < out.length + 1
              · have d3 : decide (most - (out.length : Int) < 1) = true := by simp; omega
                have HR := hid (hE.out.trans (expF_most HTK.out HMY.out h2 (by rw [e5]; exact h3)))
                clear h2 h3 h4 hml hal e5
                go_wp2_with fail
                go_at_call 19
                (with_reducible refine (HMA.out _).mono ?_)
                rintro e w3 ⟨rfl, hb3⟩
                have x0 := cells_keep hb3 x0
                have x1 := cells_keep hb3 x1
                have x2 := cells_keep hb3 x2
                go_wp2
                go_ret3
                exact ExpPost.bad HR.out (hI2.out.bel.trans (hb3.mono hI2.out.bel.size))
              · have d3 : decide (most - (out.length : Int) < 1) = false := by simp; omega
                have HR := hid (hE.out.trans (expF_on HTK.out HMY.out h2 (by rw [e5]; exact h3)))
                have HAD := hid (show addT out t = out ++ [t.lit] by unfold addT; rw [if_pos h4])
                have H4 := hid h4
                clear h2 h3 h4 hml hal e5
                go_wp2_with fail
                go_at_call 19
                (with_reducible refine (HMA.out _).mono ?_)
                rintro e w3 ⟨rfl, hb3⟩
                have x0 := cells_keep hb3 x0
                have x1 := cells_keep hb3 x1
                have x2 := cells_keep hb3 x2
                rw [H4.out] at x1
                have hI3 := hid (hI2.out.far hb3)
                have hs3 := hI3.out.bel.size
                go_wp2_with (at_builtin; refine wpList_append_row _ rfl (.tmp 45) (.tmp 48) slice8 rfl w.heap.size (.slice A' out.length c') out.length (out.map B8) rfl (own_below hI3.out.own ((Below.refl _ w3).alloc (Nat.le_refl _) _)) (some ⟨w3.heap.size, 0, none⟩) 1 1 [B8 t.lit] rfl rfl (Row.of_block (heap_alloc_new w3 (Obj.cells #[.int .u8 t.lit.toNat] 5))) (by simp [Value.oneCell', B8]) (by unfold maxLen; omega) (by omega) (by simp; omega) ?_; intro A4 c4 w4 hown4 hg4 hl4; have hC4 := (HX.out.below (hb3.trans (((Below.refl _ w3).alloc (Nat.le_refl _) _).mono hb3.size))).grown hg4 (own_ne hI3.out.own (HX.out.below hb3) (by decide)); have hI4 := hid (OcI.app (hI3.out.far ((Below.refl _ w3).alloc (Nat.le_refl _) _)) hown4 hg4); have x1 := hC4.cell (j := 1) rfl; rw [H4.out] at x1; clear hown4 hg4 hl4 hC4)
                go_loop [7, 52] (fun o j => o = .slice A4 (out.length + 1) c4 ∧ j = .int .i64 0) (fun _ _ => 0)
                case atStart => exact ⟨rfl, rfl⟩
                case round =>
                  obtain ⟨rfl, rfl⟩ := hrel
                  go_wp2
                  go_roundw
                  case rel => exact ⟨k + 1, out ++ [t.lit], A4, c4, by omega, by go_num, by simp, by simp; omega, hid (by rw [HR.out, HAD.out]), hI4⟩
                  case measure => simp [intOf]; omega
            · have h5 : 1 < t.len := by omega
              have d5 : decide (1 < t.len) = true := by simpa using h5
              have e5 : max 1 t.len = t.len := by omega
              rw [e5] at hal
              have d4 : (t.len == 0) = false := by simpa using h4
              by_cases h3 : most < out.length + t.len
              · have d3 : decide (most - (out.length : Int) < t.len) = true := by simp; omega
                have HR := hid (hE.out.trans (expF_most HTK.out HMY.out h2 (by rw [e5]; exact h3)))
                clear h2 h3 h4 hml hal e5
                go_wp2_with fail
                go_at_call 19
                (with_reducible refine (HMA.out _).mono ?_)
                rintro e w3 ⟨rfl, hb3⟩
                have x0 := cells_keep hb3 x0
                have x1 := cells_keep hb3 x1
                have x2 := cells_keep hb3 x2
                go_wp2
                go_ret3
                exact ExpPost.bad HR.out (hI2.out.bel.trans (hb3.mono hI2.out.bel.size))
              · have d3 : decide (most - (out.length : Int) < t.len) = false := by simp; omega
                have HR := hid (hE.out.trans (expF_on HTK.out HMY.out h2 (by rw [e5]; exact h3)))
                have HAD := hid (show addT out t = cp out t.dist.toNat t.len.toNat by unfold addT; rw [if_neg h4])
                obtain ⟨N, hN⟩ : ∃ N : Nat, t.len = N := ⟨t.len.toNat, by omega⟩
                obtain ⟨D, hD⟩ : ∃ D : Nat, t.dist = D := ⟨t.dist.toNat, by omega⟩
                have hNb : N ≤ 258 := by omega
                have hDb : 1 ≤ D := by omega
                have hDo : D ≤ out.length := by omega
                have HAD := hid (show addT out t = cp out D N by rw [HAD.out, hN, hD]; rfl)
                have HN := hid hN
                have HD := hid hD
                rw [hN] at d4 d5 d3 h5
                rw [hD] at d2
                have d2' : decide (out.length < D) = false := by simp; omega
                clear h2 h3 h4 hml hal e5 hN hD
                go_wp2_with fail
                go_at_call 19
                (with_reducible refine (HMA.out _).mono ?_)
                rintro e w3 ⟨rfl, hb3⟩
                have x0 := cells_keep hb3 x0
                have x1 := cells_keep hb3 x1
                have x2 := cells_keep hb3 x2
                rw [HN.out] at x1
                rw [HD.out] at x2
                have hI3 := hid (hI2.out.far hb3)
                have HX3 := hid (HX.out.below hb3)
                go_wp2
                go_loopw [7, 52] (fun o j wz => ∃ (m : Nat) (q : List UInt8) (A2 : Option Addr) (c2 : Nat), m ≤ N ∧ q.length ≤ 258 * k + m ∧ D ≤ q.length ∧ j = .int .i64 (m : Int) ∧ o = .slice A2 q.length c2 ∧ Hid (q = cp out D m) ∧ Hid (OcI w wz A2 c2 q) ∧ Hid (OwnC wz g 50 [.int .u8 t.lit.toNat, .int .i64 t.len, .int .i64 t.dist])) (fun o j wz => N - (intOf j).toNat)
                case atStart => exact ⟨0, out, A', c', by omega, by omega, hDo, rfl, rfl, hid rfl, hI3, HX3⟩
                case round =>
                  obtain ⟨m, q, A2, c2, hmN, hq3, hqD, rfl, rfl, hQ, hJ, hX⟩ := hrel
                  by_cases hmn : m < N
                  · have d6 : decide (m < N) = true := by simpa using hmn
                    have y2 := hX.out.cell (j := 2) rfl
                    rw [HD.out] at y2
                    obtain ⟨b2, off2, rfl, hc2⟩ := hJ.out.oct.at_ (by omega)
                    obtain ⟨x, hx⟩ : ∃ x, q[q.length - D]'(by omega) = x := ⟨_, rfl⟩
                    have p0 := hc2 (q.length - D) (by omega)
                    rw [hx] at p0
                    have f2 : IntKind.i64.wrap ((q.length : Int) - D) = ((q.length - D : Nat) : Int) := by rw [IntKind.wrap_i64]; omega
                    have f3 : q.length - D < q.length := by omega
                    have f0 : (0 : Int) ≤ (q.length : Int) - D := by omega
                    have f1 : (q.length : Int) - D < q.length := by omega
                    have f4 : ((q.length : Int) - D).toNat = q.length - D := by omega
                    have HQ2 := hid (show q ++ [x] = cp out D (m + 1) by
                      rw [cp, ← hQ.out, List.getD_eq_getElem?_getD, List.getElem?_eq_getElem (by omega), hx]
                      rfl)
                    have hsz := hJ.out.bel.size
                    clear hc2 hx
                    go_wp2_with (at_builtin; refine wpList_append_row _ rfl (.tmp 54) (.tmp 63) slice8 rfl w.heap.size (.slice (some ⟨b2, off2, none⟩) q.length c2) q.length (q.map B8) rfl (own_below hJ.out.own ((Below.refl _ wr).alloc (Nat.le_refl _) _)) (some ⟨wr.heap.size, 0, none⟩) 1 1 [B8 x] rfl rfl (Row.of_block (heap_alloc_new wr (Obj.cells #[.int .u8 x.toNat] 5))) (by simp [Value.oneCell', B8]) (by unfold maxLen; omega) (by omega) (by simp; omega) ?_; intro A4 c4 w4 hown4 hg4 hl4; have hC4 := hid ((hX.out.below ((Below.refl _ wr).alloc (Nat.le_refl _) _)).grown hg4 (own_ne hJ.out.own hX.out (by decide))); have hI4 := hid (OcI.app (hJ.out.far ((Below.refl _ wr).alloc (Nat.le_refl _) _)) hown4 hg4); clear hown4 hg4 hl4)
                    go_roundw
                    case rel => exact ⟨m + 1, q ++ [x], A4, c4, by omega, by simp; omega, by simp; omega, by go_num, by simp, HQ2, hI4, hC4⟩
                    case measure => simp [intOf]; omega
                  · have d6 : decide (m < N) = false := by simpa using hmn
                    obtain rfl : m = N := by omega
                    go_wp2
                    go_roundw
                    case rel => exact ⟨k + 1, q, A2, c2, by omega, by go_num, by simp, by rw [hQ.out, cp_len]; omega, hid (by rw [HR.out, HAD.out, ← hQ.out]), hJ⟩
                    case measure => simp [intOf]; omega
        · have hmf : mayT t = false := by simpa using hmy
          rw [hmf] at hma
          have HMA := hid hma
          have HR := hid (hE.out.trans (expF_may (most := most) (out := out) HTK.out hmf))
          clear hma hmy hmf
          go_wp2_with fail
          go_at_call 19
          (with_reducible refine (HMA.out _).mono ?_)
          rintro e w3 ⟨rfl, hb3⟩
          have x0 := cells_keep hb3 x0
          have x1 := cells_keep hb3 x1
          have x2 := cells_keep hb3 x2
          go_wp2
          go_ret3
          exact ExpPost.bad HR.out (hI2.out.bel.trans (hb3.mono hI2.out.bel.size))
      · have d1 : decide (k < n) = false := by simpa using hlt
        have hE2 := hE.out
        rw [expF_end (show l.length ≤ k by rw [HL.out]; omega)] at hE2
        have HE2 := hid hE2
        clear hE2
        go_wp2
        go_ret3
        rw [HE2.out]
        exact ⟨A', c', rfl, hI.out.oct, hI.out.bel⟩
end Go.Proofs.Ytaoigplmkckieaa
