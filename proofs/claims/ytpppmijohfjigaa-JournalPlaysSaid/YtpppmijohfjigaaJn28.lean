/-
  JournalAll: the walk. A part of the proof: see the head of the text that ends in 'Law'.
-/
import Derived.Test.YtpppmijohfjigaaJn27
namespace Go.Proofs.Ytpppmijohfjigaa
open Go.RowKit
set_option linter.unusedVariables false
set_option linter.unusedSimpArgs false
set_option maxRecDepth 100000
attribute [local go_sem] Oper.semAt_some

/-- What lies in memory throughout. -/
structure AllW (w W : World) (d hb : Nat) (A1 A2 : Option Addr) (m1 m2 : Nat) (u1 u2 : List PuV) (D : Dsk) : Prop where
  st : St w W d hb D
  p1 : PutsT W A1 m1 u1
  p2 : PutsT W A2 m2 u2
theorem AllW.below {w W w' : World} {d hb m1 m2 : Nat} {A1 A2 : Option Addr} {u1 u2 : List PuV} {D : Dsk} (h : AllW w W d hb A1 A2 m1 m2 u1 u2 D) (b : Below W.heap.size W w') : AllW w w' d hb A1 A2 m1 m2 u1 u2 D := ⟨h.st.below b, h.p1.below b, h.p2.below b⟩
theorem AllW.lets {w W w' : World} {d hb m1 m2 : Nat} {A1 A2 : Option Addr} {u1 u2 : List PuV} {D D' : Dsk} (h : AllW w W d hb A1 A2 m1 m2 u1 u2 D) (s : St w w' d hb D') (k : Lets d hb W w') : AllW w w' d hb A1 A2 m1 m2 u1 u2 D' := ⟨s, h.p1.lets h.st k, h.p2.lets h.st k⟩
set_option maxHeartbeats 16000000 in
theorem all_walk (A1 A2 A3 : Option Addr) (n1 n2 n3 c1 c2 c3 : Nat) (v1 v2 : List PuV) (fs : List FailV) (w : World) (h1 : PutsIn w A1 n1 v1) (k1 : n1 ≤ c1) (h2 : PutsIn w A2 n2 v2) (k2 : n2 ≤ c2) (h3 : FailsIn w A3 n3 fs) :
    Calls Try.prog 4 #[.slice A1 n1 c1, .slice A2 n2 c2, .slice A3 n3 c3] w fun e w' => e = .returned (.bool true) ∧ Below w.heap.size w w' := by
  have HF1 := hid (fun (X : World) (b : Below w.heap.size w X) => few_any A1 n1 c1 v1 X (h1.below b) k1)
  have HF2 := hid (fun (X : World) (b : Below w.heap.size w X) => few_any A2 n2 c2 v2 X (h2.below b) k2)
  have F := hid h3
  have HMD : Hid (Calls Try.prog 12 #[.int .i64 60] w fun e w' => ∃ d hb, e = .returned (.pointer (some ⟨d, 0, none⟩)) ∧ St w w' d hb (madeD 60)) := hid (made_any 60 (by omega) (by omega) w)
  clear h1 h2 h3 k1 k2
  go_enter Try.func4, Try.ntmps4
  go_upto_region 3 with first
    | (go_at_call 12; (with_reducible refine HMD.out.mono ?_); rintro e w1 ⟨d, hb, rfl, s1⟩; have S := hid s1; clear s1)
    | (go_at_call 7; (with_reducible refine (HF1.out _ S.out.bel).mono ?_); rintro e w2 ⟨b2, B1, m1, e1, u1, rfl, hm1, p1, l1, f1⟩; have P1 := hid p1; have L1 := hid l1; have S := hid (S.out.below b2); clear b2 p1 l1 HF1)
    | (go_at_call 7; (with_reducible refine (HF2.out _ S.out.bel).mono ?_); rintro e w3 ⟨b3, B2, m2, e2, u2, rfl, hm2, p2, l2, f2⟩; have T := hid (⟨S.out.below b3, P1.out.below b3, p2⟩ : AllW w w3 d hb B1 B2 m1 m2 u1 u2 (madeD 60)); have L2 := hid l2; clear b3 p2 l2 HF2 P1 S)
  clear HMD L1 L2
  obtain ⟨la, hla⟩ : ∃ l, u1.map PuV.p = l := ⟨_, rfl⟩
  obtain ⟨l, hl⟩ : ∃ l, u2.map PuV.p = l := ⟨_, rfl⟩
  have HLA := hid hla
  have HL := hid hl
  clear hla hl
  have HMY1 := hid (fun (X : World) (hp : PutsT X B1 m1 u1) => (by have := rmay_any B1 m1 e1 u1 60 X hp.puts (by omega); rw [HLA.out] at this; exact this : Calls Try.prog 9 #[.slice B1 m1 e1, .int .i64 60] X fun e w' => e = .returned (.bool (mayJ la 60)) ∧ Below X.heap.size X w'))
  have HMY2 := hid (fun (X : World) (hp : PutsT X B2 m2 u2) => (by have := rmay_any B2 m2 e2 u2 60 X hp.puts (by omega); rw [HL.out] at this; exact this : Calls Try.prog 9 #[.slice B2 m2 e2, .int .i64 60] X fun e w' => e = .returned (.bool (mayJ l 60)) ∧ Below X.heap.size X w'))
  go_upto_region 5 with fail
  go_cut [39] (fun t wx => t = .bool false ∧ ∃ D, Hid (AllW w wx d hb B1 B2 m1 m2 u1 u2 D ∧ Base D))
  case first =>
    cases hmy : mayJ la 60 with
    | false =>
      rw [hmy] at HMY1
      go_wp2_with (go_at_call 9; (with_reducible refine (HMY1.out _ T.out.p1).mono ?_); rintro e w4 ⟨rfl, b4⟩; have T := hid (T.out.below b4); clear b4)
      go_meet
      exact ⟨rfl, _, hid ⟨T.out, base_made⟩⟩
    | true =>
      rw [hmy] at HMY1
      have hbc := base_commit (l := la) hmy
      have HCM := hid (fun (X : World) (t : AllW w X d hb B1 B2 m1 m2 u1 u2 (madeD 60)) => commit_c (c := e1) t.st t.p1 (by omega) (by rw [base_made.w]; exact Nat.zero_le _) HLA.out rfl (m := 0) (by rw [hbc.1]; rfl))
      have HBC := hid hbc.2
      clear hbc
      go_wp2_with first
        | (go_at_call 9; (with_reducible refine (HMY1.out _ T.out.p1).mono ?_); rintro e w4 ⟨rfl, b4⟩; have T := hid (T.out.below b4); clear b4)
        | (go_at_call 13; (with_reducible refine (HCM.out _ T.out).mono ?_); rintro e w5 ⟨rfl, s5, k5⟩; have T2 := hid (T.out.lets s5 k5); clear s5 k5)
      go_meet
      exact ⟨rfl, _, hid ⟨T2.out, HBC.out⟩⟩
  case rest =>
  obtain ⟨rfl, D1, HT⟩ := hcut
  rename World => w5
  have T := hid HT.out.1
  have HB := hid HT.out.2
  clear HT HMY1 HLA
  cases hmy : mayJ l 60 with
  | false =>
    rw [hmy] at HMY2
    have HCM := hid (fun (X : World) (t : AllW w X d hb B1 B2 m1 m2 u1 u2 D1) => commit_c (c := e2) t.st t.p2 (by omega) (by rw [HB.out.w]; exact Nat.zero_le _) HL.out rfl (m := 1) (by unfold commitD; rw [HB.out.len, if_pos (.inr hmy)]; rfl))
    clear hmy
    go_wp2_with first
      | (go_at_call 9; (with_reducible refine (HMY2.out _ T.out.p2).mono ?_); rintro e w6 ⟨rfl, b6⟩; have T := hid (T.out.below b6); clear b6)
      | (go_at_call 13; (with_reducible refine (HCM.out _ T.out).mono ?_); rintro e w7 ⟨rfl, s7, k7⟩; have S7 := hid s7; clear s7 k7)
      | (go_at_call 10; (with_reducible refine (awake_any _).mono ?_); rintro e w8 ⟨rfl, b8⟩; have S8 := hid (S7.out.below b8); clear b8)
    go_ret
    exact ⟨rfl, S8.out.bel⟩
  | true =>
    rw [hmy] at HMY2
    have HM := hid hmy
    clear hmy
    go_upto_region 9 with (go_at_call 9; (with_reducible refine (HMY2.out _ T.out.p2).mono ?_); rintro e w6 ⟨rfl, b6⟩; have T := hid (T.out.below b6); clear b6)
    clear HMY2
    have R0 := hid (World.ownsRow_nil w6 w.heap.size 9 1)
    obtain ⟨h0, hh0⟩ : ∃ h0, D1.has = h0 := ⟨_, rfl⟩
    have HH := hid hh0
    have HLN : Hid (h0.length = 60) := hid (by rw [← hh0]; exact HB.out.len)
    clear hh0
    have T0 := T
    clear T
    go_wp2_with fail
    go_loopw [8, 9, 10, 11] (fun ws i b f wr => ∃ (j c9 : Nat) (A9 : Option Addr), j ≤ 60 ∧ i = .int .i64 (j : Int) ∧ ws = .slice A9 j c9 ∧ Hid (AllW w wr d hb B1 B2 m1 m2 u1 u2 D1 ∧ wr.ownsRow w.heap.size 9 1 (.slice A9 j c9) j ((h0.take j).map SV2))) (fun ws i b f wr => 60 - (intOf i).toNat)
    case atStart => exact ⟨0, 0, none, by omega, rfl, rfl, hid ⟨T0.out, R0.out⟩⟩
    case round =>
      clear T0 R0
      obtain ⟨j, c9, A9, hj, rfl, rfl, hI⟩ := hrel
      rename World => wr
      have T := hid hI.out.1
      have R := hid hI.out.2
      clear hI
      by_cases hlt : j < 60
      · have q1 : decide ((j : Int) < 60) = true := by simp; omega
        have q1' : decide (j < 60) = true := by simp; omega
        obtain ⟨v, hv⟩ : ∃ v, h0.getD j [] = v := ⟨_, rfl⟩
        have HRD := hid (fun (X : World) (t : AllW w X d hb B1 B2 m1 m2 u1 u2 D1) => (by have := read_st t.st j (by rw [HB.out.len]; exact hlt) HB.out.off (by rw [HB.out.w]; exact Nat.zero_le _); rw [read_q HB.out.w, HH.out, hv] at this; exact this : Calls Try.prog 14 #[.pointer (some ⟨d, 0, none⟩), .int .i64 (j : Int)] X fun e w' => ∃ g, e = .returned (.tuple #[.slice (some ⟨g, 0, none⟩) 128 128, .int .i64 0]) ∧ OwnE w' g 99 (v.map B8) ∧ g ≠ hb ∧ St w w' d hb D1 ∧ Below X.heap.size X w'))
        have HVL : Hid (v.length = 128) := hid (by have := readD_len T.out.st j (by rw [HB.out.len]; exact hlt); rw [read_q HB.out.w, HH.out, hv] at this; exact this)
        have HSV : Hid ((h0.take j).map SV2 ++ [SV2 v] = (h0.take (j + 1)).map SV2) := hid (by rw [← hv]; exact sv2_take h0 j (by rw [HLN.out]; exact hlt))
        clear hv
        go_wp2_with (first
          | (go_at_call 14; (with_reducible refine (HRD.out _ T.out).mono ?_); rintro e w6 ⟨g6, rfl, q6, -, -, b6⟩; have T := hid (T.out.below b6); have c6 := strS q6 HVL.out; have R := hid (own_below R.out b6); clear q6 b6)
          | (have hbA : Below w6.heap.size w6 (w6.alloc (.cells #[.string (str v)] 9)) := (Below.refl _ _).alloc (Nat.le_refl _) _
             have R := hid (own_below R.out hbA)
             have T := hid (T.out.below hbA)
             refine wpList_append_row _ rfl (.tmp 60) (.tmp 63) strT rfl w.heap.size (.slice A9 j c9) j ((h0.take j).map SV2) rfl R.out (some ⟨w6.heap.size, 0, none⟩) 1 1 [.string (str v)] rfl rfl (row_box _ _ rfl) (by simp [Value.oneCell']) (by simp only [maxLen]; omega) (by omega) T.out.st.bel.size ?_
             intro A8 c8 w8 ho8 hg8 hh8
             have T := hid (⟨T.out.st.append R.out hg8, T.out.p1.strs R.out hg8, T.out.p2.strs R.out hg8⟩ : AllW w w8 d hb B1 B2 m1 m2 u1 u2 D1)
             rw [show [Value.string (str v)] = [SV2 v] from rfl, HSV.out] at ho8
             have R := hid ho8
             clear ho8 hg8 hh8 hbA))
        go_roundw
        case rel => exact ⟨j + 1, c8, A8, by omega, by go_num, rfl, hid ⟨T.out, R.out⟩⟩
        case measure => simp [intOf]; omega
      · have q1 : decide ((j : Int) < 60) = false := by simp; omega
        have q1' : decide (j < 60) = false := by simp; omega
        obtain rfl : j = 60 := by omega
        have hr := R.out
        rw [List.take_of_length_le (by rw [HLN.out]; omega)] at hr
        have R := hid hr
        clear hr hlt hj
        have HA9 : Hid (∃ bs os, A9 = some ⟨bs, os, none⟩) := hid (by
          have := Row.of_own R.out
          obtain ⟨b, o, e, -⟩ := this (by intro e; have := congrArg List.length e; rw [List.length_map, HLN.out] at this; cases this)
          exact ⟨b, o, e⟩)
        go_upto_if 67 with fail
        go_cut [67] (fun t wx => ∃ b : Int, Hid (AllW w wx d hb B1 B2 m1 m2 u1 u2 { D1 with bud := b } ∧ wx.ownsRow w.heap.size 9 1 (.slice A9 60 c9) 60 (h0.map SV2)))
        case first =>
          by_cases hn : 0 < n3
          · have e1 : decide ((0 : Int) < (n3 : Int)) = true := by simp; omega
            have e1n : decide (0 < n3) = true := by simpa using hn
            obtain ⟨fb, fo, rfl, hfc⟩ := fail_at F.out.row (k := 0) (by rw [F.out.len]; exact hn)
            have hf0 := (hfc 0 (by rw [F.out.len]; exact hn)).1
            obtain ⟨f, hf⟩ : ∃ f, fs[0]'(by rw [F.out.len]; exact hn) = f := ⟨_, rfl⟩
            have hfN := F.out.u16 f (hf ▸ List.getElem_mem _)
            rw [hf] at hf0
            obtain ⟨N, fA, fn, fc, ks⟩ := f
            dsimp only at hf0 hfN
            have x0 := cells_keep T.out.st.bel hf0
            rw [Nat.zero_mul, Nat.add_zero] at x0
            obtain ⟨q, hq⟩ : ∃ q, N % 100 = q := ⟨_, rfl⟩
            have r3 : (N : Int) % 100 = (q : Int) := by omega
            have r2 : (N : Int).tmod 100 = (q : Int) := by rw [Int.tmod_eq_emod_of_nonneg (by omega)]; omega
            have r1 : IntKind.u16.wrap ((N : Int).tmod 100) = (q : Int) := by rw [r2, IntKind.wrap_u16]; omega
            have r4 : IntKind.u16.wrap (q : Int) = (q : Int) := by rw [IntKind.wrap_u16]; omega
            have r5 : IntKind.i64.wrap (q : Int) = (q : Int) := by rw [IntKind.wrap_i64]; omega
            have HBG := hid (fun (X : World) (t : AllW w X d hb B1 B2 m1 m2 u1 u2 D1) => budget_st t.st (q : Int) (by omega) (by omega))
            clear hf0 hf hfc hq
            go_wp2_with (go_at_call 15; (with_reducible refine (HBG.out _ T.out).mono ?_); rintro e w7 ⟨rfl, s7, k7⟩; have T2 := hid (T.out.lets s7 k7); have R2 := hid (own_lets T.out.st R.out k7); clear s7 k7)
            go_meet
            exact ⟨_, hid ⟨T2.out, R2.out⟩⟩
          · have e1 : decide ((0 : Int) < (n3 : Int)) = false := by simp; omega
            have e1n : decide (0 < n3) = false := by simpa using hn
            go_wp2_with fail
            go_meet
            exact ⟨D1.bud, hid ⟨T.out, R.out⟩⟩
        case rest =>
        obtain ⟨bd, HT⟩ := hcut
        clear T R
        rename World => w7
        have T := hid HT.out.1
        have R := hid HT.out.2
        clear HT
        obtain ⟨was, hwas⟩ : ∃ was : Nat → List UInt8, (fun i => h0.getD i []) = was := ⟨_, rfl⟩
        have HWS := hid (fun i => (congrFun hwas i : h0.getD i [] = was i))
        obtain ⟨ok, hok, hja⟩ := ja_commit bd HB.out (l := l) HM.out
        rw [show (fun i => D1.has.getD i []) = was by rw [HH.out]; exact hwas] at hja
        obtain ⟨ec, hec⟩ : ∃ ec : Int, ((commitD { D1 with bud := bd } l).2 : Int) = ec := ⟨_, rfl⟩
        have HEC : Hid (ok = false → ec = 10) := hid (fun h => by rw [← hec, hok, h]; rfl)
        obtain ⟨D3, hD3⟩ : ∃ D3, (commitD { D1 with bud := bd } l).1 = D3 := ⟨_, rfl⟩
        rw [hD3] at hja
        have HCM := hid (fun (X : World) (t : AllW w X d hb B1 B2 m1 m2 u1 u2 { D1 with bud := bd }) => commit_c (c := e2) t.st t.p2 (by omega) (by show D1.waits.length ≤ _; rw [HB.out.w]; exact Nat.zero_le _) HL.out hD3 hec)
        have J0 := hid hja
        clear hwas hok hja hec hD3
        go_upto_region 18 with (go_at_call 13; (with_reducible refine (HCM.out _ T.out).mono ?_); rintro e w8 ⟨rfl, s8, k8⟩; have T0 := hid (T.out.lets s8 k8); have R0 := hid (own_lets T.out.st R.out k8); clear s8 k8 T R)
        clear HCM
        go_wp2_with fail
        go_loopw [13] (fun i wr => ∃ (j : Nat) (D : Dsk), j ≤ 6 ∧ i = .int .i64 (j : Int) ∧ Hid (AllW w wr d hb B1 B2 m1 m2 u1 u2 D ∧ JA ok was l D ∧ wr.ownsRow w.heap.size 9 1 (.slice A9 60 c9) 60 (h0.map SV2))) (fun i wr => 6 - (intOf i).toNat)
        case atStart => exact ⟨0, D3, by omega, rfl, hid ⟨T0.out, J0.out, R0.out⟩⟩
        case round =>
          clear T0 J0 R0
          obtain ⟨j, D, hj, rfl, hI⟩ := hrel
          rename World => wr
          have T := hid hI.out.1
          have J := hid hI.out.2.1
          have R := hid hI.out.2.2
          clear hI
          by_cases hlt : j < n3 ∧ j < 6
          · have q1 : decide ((j : Int) < (n3 : Int)) = true := by simp; omega
            have q2 : decide ((j : Int) < 6) = true := by simp; omega
            have q1' : decide (j < n3) = true := by simp; omega
            have q2' : decide (j < 6) = true := by simp; omega
            have i0 : (0 : Int) ≤ (j : Int) := by omega
            have i1 : (j : Int) < (n3 : Int) := by omega
            have i2 : (j : Int).toNat = j := by omega
            have hjf : j < fs.length := by rw [F.out.len]; exact hlt.1
            obtain ⟨fb, fo, rfl, hfc⟩ := fail_at F.out.row hjf
            have hf1 := (hfc j hjf).2
            obtain ⟨f, hf⟩ : ∃ f, fs[j]'hjf = f := ⟨_, rfl⟩
            have hfm : f ∈ fs := hf ▸ List.getElem_mem _
            rw [hf] at hf1
            have hkl := F.out.kl f hfm
            have hkr := F.out.kr f hfm
            obtain ⟨N, fA, fn, fc, ks⟩ := f
            dsimp only at hf1 hkl hkr
            have x1 := cells_keep T.out.st.bel hf1
            have HFC := hid hfc
            have HCT := hid (fun (X : World) (t : AllW w X d hb B1 B2 m1 m2 u1 u2 D) => cut_arg t.st (by have := J.out.w; omega) fA fn fc ks hkl hkr)
            have HON := hid (fun (X : World) (t : AllW w X d hb B1 B2 m1 m2 u1 u2 (cutD D ks)) => on_st t.st)
            have JR5 := hid (J.out.cut ks).on.1
            obtain ⟨D5, hD5⟩ : ∃ D5, onD' (cutD D ks) = D5 := ⟨_, rfl⟩
            rw [hD5] at HON JR5
            clear hf1 hf hfm hkl hkr hfc hD5
            go_upto_region 23 with first
              | (go_at_call 16; (with_reducible refine (HCT.out _ T.out).mono ?_); rintro e w9 ⟨rfl, s9, k9⟩; have R9 := hid (own_lets T.out.st R.out k9); have T9 := hid (T.out.lets s9 k9); clear s9 k9 T R)
              | (go_at_call 17; (with_reducible refine (HON.out _ T9.out).mono ?_); rintro e w10 ⟨rfl, s10, k10⟩; have R := hid (own_lets T9.out.st R9.out k10); have T := hid (T9.out.lets s10 k10); clear s10 k10 T9 R9)
            clear HCT HON J
            obtain ⟨p, hp⟩ : ∃ p, j + 1 = p := ⟨_, rfl⟩
            have jw : IntKind.i64.wrap ((j : Int) + 1) = (p : Int) := by rw [IntKind.wrap_i64]; omega
            have HP := hid hp
            by_cases hb2 : p < n3 ∧ j < 5
            · have g1 := lt_t hb2.1
              have g1' := lt_nt hb2.1
              have g2 : decide ((j : Int) < 5) = true := by simp; omega
              have g2' : decide (j < 5) = true := by simp; omega
              have p0 : (0 : Int) ≤ (p : Int) := by omega
              have p1 : (p : Int) < (n3 : Int) := by omega
              have p2 : (p : Int).toNat = p := by omega
              have hpf : p < fs.length := by rw [F.out.len]; exact hb2.1
              have hf0 := (HFC.out p hpf).1
              obtain ⟨f, hf⟩ : ∃ f, fs[p]'hpf = f := ⟨_, rfl⟩
              have hfN := F.out.u16 f (hf ▸ List.getElem_mem _)
              rw [hf] at hf0
              obtain ⟨N, fA2, fn2, fc2, ks2⟩ := f
              dsimp only at hf0 hfN
              have x0 := cells_keep T.out.st.bel hf0
              obtain ⟨q, hq⟩ : ∃ q, N % 100 = q := ⟨_, rfl⟩
              have r3 : (N : Int) % 100 = (q : Int) := by omega
              have r2 : (N : Int).tmod 100 = (q : Int) := by rw [Int.tmod_eq_emod_of_nonneg (by omega)]; omega
              have r1 : IntKind.u16.wrap ((N : Int).tmod 100) = (q : Int) := by rw [r2, IntKind.wrap_u16]; omega
              have r4 : IntKind.u16.wrap (q : Int) = (q : Int) := by rw [IntKind.wrap_u16]; omega
              have r5 : IntKind.i64.wrap (q : Int) = (q : Int) := by rw [IntKind.wrap_i64]; omega
              have HBG := hid (fun (X : World) (t : AllW w X d hb B1 B2 m1 m2 u1 u2 D5) => budget_st t.st (q : Int) (by omega) (by omega))
              have JR6 := JR5.out.budget (q : Int)
              obtain ⟨D6, hD6⟩ : ∃ D6, ({ D5 with bud := (q : Int) } : Dsk) = D6 := ⟨_, rfl⟩
              rw [hD6] at HBG JR6
              have HRC := hid (fun (X : World) (t : AllW w X d hb B1 B2 m1 m2 u1 u2 D6) => recover_c t.st (by rw [JR6.w]; exact Nat.zero_le _) rfl rfl rfl)
              have J7 := hid (JR6.recov HM.out)
              clear hf0 hf hfN hq hp hD6 JR6 JR5 hpf
              go_wp2_with first
                | (go_at_call 15; (with_reducible refine (HBG.out _ T.out).mono ?_); rintro e w11 ⟨rfl, s11, k11⟩; have R11 := hid (own_lets T.out.st R.out k11); have T11 := hid (T.out.lets s11 k11); clear s11 k11 T R)
                | (go_at_call 18; (with_reducible refine (HRC.out _ T11.out).mono ?_); rintro e w12 ⟨rfl, s12, k12⟩; have R := hid (own_lets T11.out.st R11.out k12); have T := hid (T11.out.lets s12 k12); clear s12 k12 T11 R11)
              go_roundw
              case rel => exact ⟨j + 1, _, by omega, by rw [HP.out], hid ⟨T.out, J7.out, R.out⟩⟩
              case measure => have hpj := HP.out; show 6 - (p : Int).toNat < 6 - (j : Int).toNat; omega
            · have hdd : decide ((p : Int) < (n3 : Int)) = false ∨ (decide ((p : Int) < (n3 : Int)) = true ∧ decide ((j : Int) < 5) = false) := by
                by_cases h1 : p < n3
                · exact .inr ⟨by simp; omega, by simp; omega⟩
                · exact .inl (by simp; omega)
              have J7 := hid JR5.out.ja
              have hj6 := hlt.2
              clear hlt hb2 hp JR5 HFC x1 q2 q2'
              go_cut [98, 99, 100, 101, 102, 103, 104, 105, 106] from 98 to 106 (fun a b c0 e f g h k t wx => t = .bool false ∧ w10 = wx)
              case first =>
                rcases hdd with g1 | ⟨g1, g2⟩
                · have g1' : decide (p < n3) = false := by simpa using g1
                  go_wp2_with fail
                  go_meet
                  exact ⟨rfl, rfl⟩
                · have g1' : decide (p < n3) = true := by simpa using g1
                  go_wp2_with fail
                  go_meet
                  exact ⟨rfl, rfl⟩
              case rest =>
              obtain ⟨rfl, hw9⟩ := hcut
              subst hw9
              clear hdd
              go_wp2_with fail
              go_roundw
              case rel => exact ⟨j + 1, _, by omega, by rw [HP.out], hid ⟨T.out, J7.out, R.out⟩⟩
              case measure => have hpj := HP.out; show 6 - (p : Int).toNat < 6 - (j : Int).toNat; omega
          · have hdd : decide ((j : Int) < (n3 : Int)) = false ∨ (decide ((j : Int) < (n3 : Int)) = true ∧ decide ((j : Int) < 6) = false) := by
              by_cases h1 : j < n3
              · exact .inr ⟨by simp; omega, by simp; omega⟩
              · exact .inl (by simp; omega)
            clear hlt
            go_upto_region 19 with fail
            go_cut [79, 80, 81, 82, 83, 84, 85, 86] from 79 to 86 (fun a b c0 e f g h t wx => t = .bool false ∧ wr = wx)
            case first =>
              rcases hdd with q1 | ⟨q1, q2⟩
              · have q1' : decide (j < n3) = false := by simpa using q1
                go_wp2_with fail
                go_meet
                exact ⟨rfl, rfl⟩
              · have q1' : decide (j < n3) = true := by simpa using q1
                go_wp2_with fail
                go_meet
                exact ⟨rfl, rfl⟩
            case rest =>
            obtain ⟨rfl, hw9⟩ := hcut
            subst hw9
            clear hdd F
            have JR5 := hid J.out.on.1
            have HBD := hid J.out.on.2
            have HON := hid (fun (X : World) (t : AllW w X d hb B1 B2 m1 m2 u1 u2 D) => on_st t.st)
            obtain ⟨D5, hD5⟩ : ∃ D5, onD' D = D5 := ⟨_, rfl⟩
            rw [hD5] at HON JR5 HBD
            obtain ⟨he0, hje⟩ := JR5.out.end_ HM.out HBD.out
            obtain ⟨D6, hD6⟩ : ∃ D6, (recoverD D5).1 = D6 := ⟨_, rfl⟩
            rw [hD6] at hje
            obtain ⟨kx, hkx⟩ : ∃ kx : Int, ((recoverD D5).2.1 : Int) = kx := ⟨_, rfl⟩
            have HR1 := hid (fun (X : World) (t : AllW w X d hb B1 B2 m1 m2 u1 u2 D5) => recover_c t.st (by rw [JR5.out.w]; exact Nat.zero_le _) hD6 hkx (m := 0) (by rw [he0]; rfl))
            have HR2 := hid (fun (X : World) (t : AllW w X d hb B1 B2 m1 m2 u1 u2 D6) => recover_c t.st (by rw [hje.w]; exact Nat.zero_le _) (R := D6) (n := 0) (m := 0) (by rw [hje.again]) (by rw [hje.again]; rfl) (by rw [hje.again]; rfl))
            have JF := hid hje
            clear hD5 he0 hje hD6 hkx
            go_upto_region 31 with first
              | (go_at_call 17; (with_reducible refine (HON.out _ T.out).mono ?_); rintro e w10 ⟨rfl, s10, k10⟩; have R10 := hid (own_lets T.out.st R.out k10); have T10 := hid (T.out.lets s10 k10); clear s10 k10 T R)
              | (go_at_call 18; (with_reducible refine (HR1.out _ T10.out).mono ?_); rintro e w11 ⟨rfl, s11, k11⟩; have R11 := hid (own_lets T10.out.st R10.out k11); have T11 := hid (T10.out.lets s11 k11); clear s11 k11 T10 R10)
              | (go_at_call 18; (with_reducible refine (HR2.out _ T11.out).mono ?_); rintro e w12 ⟨rfl, s12, k12⟩; have R12 := hid (own_lets T11.out.st R11.out k12); have T12 := hid (T11.out.lets s12 k12); clear s12 k12 T11 R11)
            clear HON HR1 HR2 J JR5 HBD
            obtain ⟨h6, hh6⟩ : ∃ h6, D6.has = h6 := ⟨_, rfl⟩
            obtain ⟨isN, hisN⟩ : ∃ p : Prop, (∀ i, 41 ≤ i → i < 60 → h6.getD i [] = newO l was i) = p := ⟨_, rfl⟩
            obtain ⟨isO, hisO⟩ : ∃ p : Prop, (∀ i, 41 ≤ i → i < 60 → h6.getD i [] = was i) = p := ⟨_, rfl⟩
            have HIN : Hid (isN → ∀ i, 41 ≤ i → i < 60 → h6.getD i [] = newO l was i) := hid (fun h => by rw [hisN]; exact h)
            have HIO : Hid (isO → ∀ i, 41 ≤ i → i < 60 → h6.getD i [] = was i) := hid (fun h => by rw [hisO]; exact h)
            have HIS : Hid (isN ∨ (ok = false ∧ isO)) := hid (by rw [← hisN, ← hisO, ← hh6]; exact JF.out.is)
            have HH6 := hid hh6
            have HL6 : Hid (h6.length = 60) := hid (by rw [← hh6]; exact JF.out.len)
            clear hisN hisO hh6
            go_wp2_with fail
            go_loopw [18, 19, 20, 21, 22, 23, 24] (fun o nw i b h wn k wr => ∃ (j : Nat) (bo bn : Bool), 41 ≤ j ∧ j ≤ 60 ∧ i = .int .i64 (j : Int) ∧ o = .bool bo ∧ nw = .bool bn ∧ Hid ((isN → bn = true) ∧ (isO → bo = true) ∧ AllW w wr d hb B1 B2 m1 m2 u1 u2 D6 ∧ wr.ownsRow w.heap.size 9 1 (.slice A9 60 c9) 60 (h0.map SV2))) (fun o nw i b h wn k wr => 60 - (intOf i).toNat)
            case atStart => exact ⟨41, true, true, by omega, by omega, rfl, rfl, rfl, hid ⟨fun _ => rfl, fun _ => rfl, T12.out, R12.out⟩⟩
            case round =>
              clear T12 R12
              obtain ⟨j, bo, bn, hj1, hj2, rfl, rfl, rfl, hI⟩ := hrel
              rename World => wr
              have HBN := hid hI.out.1
              have HBO := hid hI.out.2.1
              have T := hid hI.out.2.2.1
              have R := hid hI.out.2.2.2
              clear hI
              by_cases hlt : j < 60
              · have q1 : decide ((j : Int) < 60) = true := by simp; omega
                have q1' : decide (j < 60) = true := by simp; omega
                have i0 : (0 : Int) ≤ (j : Int) := by omega
                have i1 : (j : Int) < 60 := by omega
                have i2 : (j : Int).toNat = j := by omega
                obtain ⟨bs, os, hA9⟩ := HA9.out
                have hwc : ∀ (X : World), X.ownsRow w.heap.size 9 1 (.slice A9 60 c9) 60 (h0.map SV2) → X.cell? ⟨bs, os + j, none⟩ = some (.string (str (h0.getD j []))) := fun X hX => by rw [hA9] at hX; exact was_cell hX (by rw [HLN.out]; exact hlt)
                obtain ⟨v, hv⟩ : ∃ v, h6.getD j [] = v := ⟨_, rfl⟩
                obtain ⟨u, hu⟩ : ∃ u, h0.getD j [] = u := ⟨_, rfl⟩
                have hNv := fun (h : isN) => hv.symm.trans (HIN.out h j hj1 hlt)
                have hOv : isO → v = u := fun (h : isO) => hv.symm.trans ((HIO.out h j hj1 hlt).trans ((HWS.out j).symm.trans hu))
                have hwu : was j = u := (HWS.out j).symm.trans hu
                rw [hu] at hwc
                have HWC := hid hwc
                have HNV := hid hNv
                have HOV := hid hOv
                have HWU := hid hwu
                have HRD := hid (fun (X : World) (t : AllW w X d hb B1 B2 m1 m2 u1 u2 D6) => (by have := read_st t.st j (by rw [JF.out.len]; exact hlt) JF.out.off (by rw [JF.out.w]; exact Nat.zero_le _); rw [read_q JF.out.w, HH6.out, hv] at this; exact this : Calls Try.prog 14 #[.pointer (some ⟨d, 0, none⟩), .int .i64 (j : Int)] X fun e w' => ∃ g, e = .returned (.tuple #[.slice (some ⟨g, 0, none⟩) 128 128, .int .i64 0]) ∧ OwnE w' g 99 (v.map B8) ∧ g ≠ hb ∧ St w w' d hb D6 ∧ Below X.heap.size X w'))
                have HVL : Hid (v.length = 128) := hid (by have := readD_len T.out.st j (by rw [JF.out.len]; exact hlt); rw [read_q JF.out.w, HH6.out, hv] at this; exact this)
                subst hA9
                clear hwc hNv hOv hwu hv hu
                go_upto_region 36 with (go_at_call 14; (with_reducible refine (HRD.out _ T.out).mono ?_); rintro e w13 ⟨g6, rfl, q6, -, -, b6⟩; have T13 := hid (T.out.below b6); have O13 := hid q6; have R13 := hid (own_below R.out b6); clear q6 b6 T R)
                clear HRD
                have x9 := HWC.out _ R13.out
                go_wp2_with fail
                clear x9
                go_loopw [23, 24] (fun wn k wr => ∃ k0 : Nat, k0 ≤ m2 ∧ k = .int .i64 (k0 : Int) ∧ wn = .string (str ((lastD (l.take k0) j).getD u)) ∧ w13 = wr) (fun wn k wr => m2 - (intOf k).toNat)
                case atStart => exact ⟨0, Nat.zero_le _, rfl, rfl, rfl⟩
                case round =>
                  obtain ⟨k0, hk0, rfl, rfl, rfl⟩ := hrel
                  by_cases hkl : k0 < m2
                  · have z1 := lt_t hkl
                    have z1' := lt_nt hkl
                    have p0 : (0 : Int) ≤ (k0 : Int) := by omega
                    have p1 : (k0 : Int) < (m2 : Int) := by omega
                    have p2 : (k0 : Int).toNat = k0 := by omega
                    have hP := T13.out.p2
                    have hku : k0 < u2.length := by rw [hP.len]; exact hkl
                    obtain ⟨pb, po, hB2, hpc⟩ := pu_at hP.puts.row hku
                    have y0 := (hpc k0 hku).1
                    have y1 := (hpc k0 hku).2
                    obtain ⟨pv, hpv⟩ : ∃ pv, u2[k0]'hku = pv := ⟨_, rfl⟩
                    have hoc := hP.puts.oct pv (hpv ▸ List.getElem_mem _)
                    rw [hpv] at y0 y1
                    have hll : k0 < l.length := by rw [← HL.out, List.length_map]; exact hku
                    have hlk : l[k0]'hll = pv.p := by
                      have e : l[k0]? = some pv.p := by rw [← HL.out, List.getElem?_map, List.getElem?_eq_getElem hku, hpv]; rfl
                      rw [List.getElem?_eq_getElem hll] at e
                      exact Option.some.inj e
                    obtain ⟨at_, pA, pn, pc, pl⟩ := pv
                    dsimp only [PuV.p] at hlk y0 y1 hoc
                    have cv := strP pc hoc
                    subst hB2
                    by_cases hat : at_ = (j : Int)
                    · have e2 : (at_ == (j : Int)) = true := by simpa using hat
                      have hst := lastD_eq l j k0 hll _ _ hlk hat
                      have HST := hid hst
                      clear hP hku hpc hpv hoc hll hlk hst hat
                      go_wp2_with fail
                      go_roundw
                      case rel => exact ⟨k0 + 1, by omega, by go_num, by rw [HST.out]; rfl, trivial⟩
                      case measure => simp [intOf]; omega
                    · have e2 : (at_ == (j : Int)) = false := by simpa using hat
                      have hst := lastD_ne l j k0 hll _ _ hlk hat
                      have HST := hid hst
                      clear hP hku hpc hpv hoc hll hlk hst hat
                      go_wp2_with fail
                      go_roundw
                      case rel => exact ⟨k0 + 1, by omega, by go_num, by rw [HST.out], trivial⟩
                      case measure => simp [intOf]; omega
                  · have z1 := lt_f hkl
                    have z1' := lt_nf hkl
                    obtain rfl : k0 = m2 := by omega
                    have hlm : l.length = k0 := by rw [← HL.out, List.length_map]; exact T13.out.p2.len
                    have hwant : (lastD (l.take k0) j).getD u = newO l was j := by rw [List.take_of_length_le (by omega)]; unfold newO; rw [HWU.out]
                    obtain ⟨wv, hwv⟩ : ∃ wv, newO l was j = wv := ⟨_, rfl⟩
                    rw [hwv] at hwant HNV
                    rw [hwant]
                    clear hlm hwant hwv hkl z1 z1' hk0 HWU
                    obtain ⟨eo, heo⟩ : ∃ eo, (str v == str u) = eo := ⟨_, rfl⟩
                    obtain ⟨en, hen⟩ : ∃ en, (str v == str wv) = en := ⟨_, rfl⟩
                    have heo2 : (v == u) = eo := beq_str heo
                    have hen2 : (v == wv) = en := beq_str hen
                    have HEO : Hid (isO → eo = true) := hid (fun h => by rw [← heo, HOV.out h, str_self])
                    have HEN : Hid (isN → en = true) := hid (fun h => by rw [← hen, HNV.out h, str_self])
                    clear HOV HNV
                    have z1 : decide ((k0 : Int) < (k0 : Int)) = false := by simp
                    have z1' : decide (k0 < k0) = false := by simp
                    go_upto_region 42 with fail
                    clear z1 z1'
                    go_cut [18] from 133 to 184 (fun t wx => ∃ b2 : Bool, t = .bool b2 ∧ Hid ((isO → b2 = true) ∧ AllW w wx d hb B1 B2 m1 k0 u1 u2 D6 ∧ OwnE wx g6 99 (v.map B8) ∧ wx.ownsRow w.heap.size 9 1 (.slice (some ⟨bs, os, none⟩) 60 c9) 60 (h0.map SV2)))
                    case first =>
                      have dR := own_below R13.out (drew_below w13)
                      have hS : (convert 24 9 (.slice (some ⟨g6, 0, none⟩) 128 128)).run Try.prog w13.drew = .ok (.string (str v)) w13.drew ∧ w13.drew.cell? ⟨bs, os + j, none⟩ = some (.string (str u)) := ⟨strS (O13.out.below (drew_below w13)) HVL.out, HWC.out _ dR⟩
                      have DR := hid dR
                      clear dR
                      cases bo with
                      | true =>
                        refine wp_region_noPanic ?_
                        refine wp_region_held_drew (S := (fun X => (convert 24 9 (.slice (some ⟨g6, 0, none⟩) 128 128)).run Try.prog X = .ok (.string (str v)) X ∧ X.cell? ⟨bs, os + j, none⟩ = some (.string (str u)))) (by kernel_rfl) (by first | assumption | trivial) (fun hHeld => ?_)
                        refine wpAnyH_take (i := 0) (v := ?_) rfl (by kernel_rfl) (by kernel_rfl) (by kernel_rfl) (fun _ _ _ h => h) (Or.inl ⟨by kernel_rfl, ?_⟩) (by first | assumption | trivial) ?_
                        rotate_left
                        · (intro wS hSw; (try dsimp only at hSw); go_simp; try with_reducible rfl)
                        (try simp only [List.append_eq, List.cons_append, List.nil_append, List.getElem_toArray, List.getElem_cons_succ, List.getElem_cons_zero, Act.put, List.setIfInBounds_toArray, List.set_cons_zero, List.set_cons_succ])
                        refine wpAnyH_take (i := 1) (v := ?_) rfl (by kernel_rfl) (by kernel_rfl) (by kernel_rfl) (fun _ _ _ h => h) (Or.inl ⟨by kernel_rfl, ?_⟩) (by first | assumption | trivial) ?_
                        rotate_left
                        · (intro wS hSw; (try dsimp only at hSw); go_simp; try with_reducible rfl)
                        (try simp only [List.append_eq, List.cons_append, List.nil_append, List.getElem_toArray, List.getElem_cons_succ, List.getElem_cons_zero, Act.put, List.setIfInBounds_toArray, List.set_cons_zero, List.set_cons_succ])
                        refine wpAnyH_take (i := 2) (v := ?_) rfl (by kernel_rfl) (by kernel_rfl) (by kernel_rfl) (fun _ _ _ h => h) (Or.inl ⟨by kernel_rfl, ?_⟩) (by first | assumption | trivial) ?_
                        rotate_left
                        · (intro wS hSw; (try dsimp only at hSw); go_simp; try with_reducible rfl)
                        (try simp only [List.append_eq, List.cons_append, List.nil_append, List.getElem_toArray, List.getElem_cons_succ, List.getElem_cons_zero, Act.put, List.setIfInBounds_toArray, List.set_cons_zero, List.set_cons_succ])
                        refine wpAnyH_take (i := 3) (v := ?_) rfl (by kernel_rfl) (by kernel_rfl) (by kernel_rfl) (fun _ _ _ h => h) (Or.inl ⟨by kernel_rfl, ?_⟩) (by first | assumption | trivial) ?_
                        rotate_left
                        · (intro wS hSw; (try dsimp only at hSw); go_simp; try with_reducible rfl)
                        (try simp only [List.append_eq, List.cons_append, List.nil_append, List.getElem_toArray, List.getElem_cons_succ, List.getElem_cons_zero, Act.put, List.setIfInBounds_toArray, List.set_cons_zero, List.set_cons_succ])
                        refine wpAnyH_take (i := 4) (v := ?_) rfl (by kernel_rfl) (by kernel_rfl) (by kernel_rfl) (fun _ _ _ h => h) (Or.inl ⟨by kernel_rfl, ?_⟩) (by first | assumption | trivial) ?_
                        rotate_left
                        · (intro wS hSw; (try dsimp only at hSw); go_simp; try with_reducible rfl)
                        (try simp only [List.append_eq, List.cons_append, List.nil_append, List.getElem_toArray, List.getElem_cons_succ, List.getElem_cons_zero, Act.put, List.setIfInBounds_toArray, List.set_cons_zero, List.set_cons_succ])
                        refine wpAnyH_take (i := 5) (v := ?_) rfl (by kernel_rfl) (by kernel_rfl) (by kernel_rfl) (fun _ _ _ h => h) (Or.inl ⟨by kernel_rfl, ?_⟩) (by first | assumption | trivial) ?_
                        rotate_left
                        · (intro wS hSw; (try dsimp only at hSw); go_simp; try with_reducible rfl)
                        (try simp only [List.append_eq, List.cons_append, List.nil_append, List.getElem_toArray, List.getElem_cons_succ, List.getElem_cons_zero, Act.put, List.setIfInBounds_toArray, List.set_cons_zero, List.set_cons_succ])
                        refine wpAnyH_take (i := 6) (v := ?_) rfl (by kernel_rfl) (by kernel_rfl) (by kernel_rfl) (fun _ _ _ h => h) (Or.inl ⟨by kernel_rfl, ?_⟩) (by first | assumption | trivial) ?_
                        rotate_left
                        · (intro wS hSw; (try dsimp only at hSw); go_simp; try with_reducible rfl)
                        (try simp only [List.append_eq, List.cons_append, List.nil_append, List.getElem_toArray, List.getElem_cons_succ, List.getElem_cons_zero, Act.put, List.setIfInBounds_toArray, List.set_cons_zero, List.set_cons_succ])
                        refine wpAnyH_take (i := 7) (v := ?_) rfl (by kernel_rfl) (by kernel_rfl) (by kernel_rfl) (fun _ _ _ h => h) (Or.inl ⟨by kernel_rfl, ?_⟩) (by first | assumption | trivial) ?_
                        rotate_left
                        · (intro wS hSw; (try dsimp only at hSw); go_simp; try with_reducible rfl)
                        (try simp only [List.append_eq, List.cons_append, List.nil_append, List.getElem_toArray, List.getElem_cons_succ, List.getElem_cons_zero, Act.put, List.setIfInBounds_toArray, List.set_cons_zero, List.set_cons_succ])
                        refine wpAnyH_take (i := 8) (v := ?_) rfl (by kernel_rfl) (by kernel_rfl) (by kernel_rfl) (fun _ _ _ h => h) (Or.inl ⟨by kernel_rfl, ?_⟩) (by first | assumption | trivial) ?_
                        rotate_left
                        · (intro wS hSw; (try dsimp only at hSw); go_simp; try with_reducible rfl)
                        (try simp only [List.append_eq, List.cons_append, List.nil_append, List.getElem_toArray, List.getElem_cons_succ, List.getElem_cons_zero, Act.put, List.setIfInBounds_toArray, List.set_cons_zero, List.set_cons_succ])
                        refine wpAnyH_take (i := 9) (v := ?_) rfl (by kernel_rfl) (by kernel_rfl) (by kernel_rfl) (fun _ _ _ h => h) (Or.inl ⟨by kernel_rfl, ?_⟩) (by first | assumption | trivial) ?_
                        rotate_left
                        · (intro wS hSw; (try dsimp only at hSw); go_simp; try with_reducible rfl)
                        (try simp only [List.append_eq, List.cons_append, List.nil_append, List.getElem_toArray, List.getElem_cons_succ, List.getElem_cons_zero, Act.put, List.setIfInBounds_toArray, List.set_cons_zero, List.set_cons_succ])
                        refine wpAnyH_take (i := 10) (v := ?_) rfl (by kernel_rfl) (by kernel_rfl) (by kernel_rfl) (fun _ _ _ h => h) (Or.inl ⟨by kernel_rfl, ?_⟩) (by first | assumption | trivial) ?_
                        rotate_left
                        · (intro wS hSw; (try dsimp only at hSw); go_simp; try with_reducible rfl)
                        (try simp only [List.append_eq, List.cons_append, List.nil_append, List.getElem_toArray, List.getElem_cons_succ, List.getElem_cons_zero, Act.put, List.setIfInBounds_toArray, List.set_cons_zero, List.set_cons_succ])
                        refine wpAnyH_done (by kernel_rfl) ?_ _
                        refine NoPanic.normal ?_
                        go_wp2_with fail
                        go_meet
                        exact ⟨eo, rfl, hid ⟨HEO.out, T13.out.below (drew_below w13), O13.out.below (drew_below w13), DR.out⟩⟩
                      | false =>
                        refine wp_region_noPanic ?_
                        refine wp_region_held_drew (S := (fun X => (convert 24 9 (.slice (some ⟨g6, 0, none⟩) 128 128)).run Try.prog X = .ok (.string (str v)) X ∧ X.cell? ⟨bs, os + j, none⟩ = some (.string (str u)))) (by kernel_rfl) (by first | assumption | trivial) (fun hHeld => ?_)
                        refine wpAnyH_take (i := 0) (v := ?_) rfl (by kernel_rfl) (by kernel_rfl) (by kernel_rfl) (fun _ _ _ h => h) (Or.inl ⟨by kernel_rfl, ?_⟩) (by first | assumption | trivial) ?_
                        rotate_left
                        · (intro wS hSw; (try dsimp only at hSw); go_simp; try with_reducible rfl)
                        (try simp only [List.append_eq, List.cons_append, List.nil_append, List.getElem_toArray, List.getElem_cons_succ, List.getElem_cons_zero, Act.put, List.setIfInBounds_toArray, List.set_cons_zero, List.set_cons_succ])
                        refine wpAnyH_take (i := 1) (v := ?_) rfl (by kernel_rfl) (by kernel_rfl) (by kernel_rfl) (fun _ _ _ h => h) (Or.inl ⟨by kernel_rfl, ?_⟩) (by first | assumption | trivial) ?_
                        rotate_left
                        · (intro wS hSw; (try dsimp only at hSw); go_simp; try with_reducible rfl)
                        (try simp only [List.append_eq, List.cons_append, List.nil_append, List.getElem_toArray, List.getElem_cons_succ, List.getElem_cons_zero, Act.put, List.setIfInBounds_toArray, List.set_cons_zero, List.set_cons_succ])
                        refine wpAnyH_take (i := 2) (v := undef) rfl (by kernel_rfl) (by kernel_rfl) (by kernel_rfl) (fun _ _ _ h => h) (Or.inr ⟨by kernel_rfl, rfl⟩) (by first | assumption | trivial) ?_
                        (try simp only [List.append_eq, List.cons_append, List.nil_append, List.getElem_toArray, List.getElem_cons_succ, List.getElem_cons_zero, Act.put, List.setIfInBounds_toArray, List.set_cons_zero, List.set_cons_succ])
                        refine wpAnyH_take (i := 3) (v := undef) rfl (by kernel_rfl) (by kernel_rfl) (by kernel_rfl) (fun _ _ _ h => h) (Or.inr ⟨by kernel_rfl, rfl⟩) (by first | assumption | trivial) ?_
                        (try simp only [List.append_eq, List.cons_append, List.nil_append, List.getElem_toArray, List.getElem_cons_succ, List.getElem_cons_zero, Act.put, List.setIfInBounds_toArray, List.set_cons_zero, List.set_cons_succ])
                        refine wpAnyH_take (i := 4) (v := undef) rfl (by kernel_rfl) (by kernel_rfl) (by kernel_rfl) (fun _ _ _ h => h) (Or.inr ⟨by kernel_rfl, rfl⟩) (by first | assumption | trivial) ?_
                        (try simp only [List.append_eq, List.cons_append, List.nil_append, List.getElem_toArray, List.getElem_cons_succ, List.getElem_cons_zero, Act.put, List.setIfInBounds_toArray, List.set_cons_zero, List.set_cons_succ])
                        refine wpAnyH_take (i := 5) (v := undef) rfl (by kernel_rfl) (by kernel_rfl) (by kernel_rfl) (fun _ _ _ h => h) (Or.inr ⟨by kernel_rfl, rfl⟩) (by first | assumption | trivial) ?_
                        (try simp only [List.append_eq, List.cons_append, List.nil_append, List.getElem_toArray, List.getElem_cons_succ, List.getElem_cons_zero, Act.put, List.setIfInBounds_toArray, List.set_cons_zero, List.set_cons_succ])
                        refine wpAnyH_take (i := 6) (v := undef) rfl (by kernel_rfl) (by kernel_rfl) (by kernel_rfl) (fun _ _ _ h => h) (Or.inr ⟨by kernel_rfl, rfl⟩) (by first | assumption | trivial) ?_
                        (try simp only [List.append_eq, List.cons_append, List.nil_append, List.getElem_toArray, List.getElem_cons_succ, List.getElem_cons_zero, Act.put, List.setIfInBounds_toArray, List.set_cons_zero, List.set_cons_succ])
                        refine wpAnyH_take (i := 7) (v := undef) rfl (by kernel_rfl) (by kernel_rfl) (by kernel_rfl) (fun _ _ _ h => h) (Or.inr ⟨by kernel_rfl, rfl⟩) (by first | assumption | trivial) ?_
                        (try simp only [List.append_eq, List.cons_append, List.nil_append, List.getElem_toArray, List.getElem_cons_succ, List.getElem_cons_zero, Act.put, List.setIfInBounds_toArray, List.set_cons_zero, List.set_cons_succ])
                        refine wpAnyH_take (i := 8) (v := undef) rfl (by kernel_rfl) (by kernel_rfl) (by kernel_rfl) (fun _ _ _ h => h) (Or.inr ⟨by kernel_rfl, rfl⟩) (by first | assumption | trivial) ?_
                        (try simp only [List.append_eq, List.cons_append, List.nil_append, List.getElem_toArray, List.getElem_cons_succ, List.getElem_cons_zero, Act.put, List.setIfInBounds_toArray, List.set_cons_zero, List.set_cons_succ])
                        refine wpAnyH_take (i := 9) (v := ?_) rfl (by kernel_rfl) (by kernel_rfl) (by kernel_rfl) (fun _ _ _ h => h) (Or.inl ⟨by kernel_rfl, ?_⟩) (by first | assumption | trivial) ?_
                        rotate_left
                        · (intro wS hSw; (try dsimp only at hSw); go_simp; try with_reducible rfl)
                        (try simp only [List.append_eq, List.cons_append, List.nil_append, List.getElem_toArray, List.getElem_cons_succ, List.getElem_cons_zero, Act.put, List.setIfInBounds_toArray, List.set_cons_zero, List.set_cons_succ])
                        refine wpAnyH_take (i := 10) (v := ?_) rfl (by kernel_rfl) (by kernel_rfl) (by kernel_rfl) (fun _ _ _ h => h) (Or.inl ⟨by kernel_rfl, ?_⟩) (by first | assumption | trivial) ?_
                        rotate_left
                        · (intro wS hSw; (try dsimp only at hSw); go_simp; try with_reducible rfl)
                        (try simp only [List.append_eq, List.cons_append, List.nil_append, List.getElem_toArray, List.getElem_cons_succ, List.getElem_cons_zero, Act.put, List.setIfInBounds_toArray, List.set_cons_zero, List.set_cons_succ])
                        refine wpAnyH_done (by kernel_rfl) ?_ _
                        refine NoPanic.normal ?_
                        go_wp2_with fail
                        go_meet
                        exact ⟨false, rfl, hid ⟨HBO.out, T13.out.below (drew_below w13), O13.out.below (drew_below w13), DR.out⟩⟩
                    case rest =>
                    obtain ⟨b2, rfl, hT⟩ := hcut
                    rename World => w14
                    have HBO2 := hid hT.out.1
                    have T := hid hT.out.2.1
                    have c6 := strS hT.out.2.2.1 HVL.out
                    have R := hid hT.out.2.2.2
                    clear hT heo heo2 HEO HBO T13 R13 O13
                    go_upto_region 43 with fail
                    go_cut [19] from 133 to 184 (fun t wx => ∃ b3 : Bool, t = .bool b3 ∧ Hid (isN → b3 = true) ∧ w14 = wx)
                    case first =>
                      cases bn with
                      | true =>
                        go_wp2_with fail
                        go_meet
                        exact ⟨en, rfl, HEN, rfl⟩
                      | false =>
                        go_wp2_with fail
                        go_meet
                        exact ⟨false, rfl, HBN, rfl⟩
                    case rest =>
                    obtain ⟨b3, rfl, HBN2, hw14⟩ := hcut
                    subst hw14
                    clear c6 hen hen2 HEN HBN
                    go_wp2_with fail
                    go_roundw
                    case rel => exact ⟨j + 1, b2, b3, by omega, by omega, by go_num, rfl, rfl, hid ⟨HBN2.out, HBO2.out, T.out, R.out⟩⟩
                    case measure => simp [intOf]; omega
              · have q1 : decide ((j : Int) < 60) = false := by simp; omega
                have q1' : decide (j < 60) = false := by simp; omega
                rcases HIS.out with hn | ⟨hok, ho⟩
                · obtain rfl := HBN.out hn
                  go_wp2_with (go_at_call 10; (with_reducible refine (awake_any _).mono ?_); rintro e w20 ⟨rfl, b20⟩; have T := hid (T.out.below b20); clear b20)
                  go_ret
                  exact ⟨rfl, T.out.st.bel⟩
                · obtain rfl := HBO.out ho
                  have hec := HEC.out hok
                  subst hec
                  cases bn with
                  | true =>
                    go_wp2_with (go_at_call 10; (with_reducible refine (awake_any _).mono ?_); rintro e w20 ⟨rfl, b20⟩; have T := hid (T.out.below b20); clear b20)
                    go_ret
                    exact ⟨rfl, T.out.st.bel⟩
                  | false =>
                    go_wp2_with (go_at_call 10; (with_reducible refine (awake_any _).mono ?_); rintro e w20 ⟨rfl, b20⟩; have T := hid (T.out.below b20); clear b20)
                    go_ret
                    exact ⟨rfl, T.out.st.bel⟩
end Go.Proofs.Ytpppmijohfjigaa
