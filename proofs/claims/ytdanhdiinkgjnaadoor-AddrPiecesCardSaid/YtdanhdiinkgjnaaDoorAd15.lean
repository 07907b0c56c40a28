/-
  A text's addresses: the document's walk. A part of the proof: see the head of the text that ends in 'Law'.
-/
import Derived.Test.YtdanhdiinkgjnaaDoorAd14
namespace Go.Proofs.YtdanhdiinkgjnaaDoor
open Go.RowKit
set_option linter.unusedVariables false
attribute [local go_sem] Oper.semAt_some

theorem cutR_len : ∀ (xs : List Sg) (a : Bool) (cur : List Sg), ∀ p ∈ cutR a cur xs, p.length ≤ cur.length + xs.length
  | [], a, cur, p, hp => by
    rw [cutR, List.mem_singleton] at hp
    subst hp
    simp
  | x :: xs, a, cur, p, hp => by
    rw [cutR] at hp
    split at hp
    · rcases List.mem_cons.1 hp with rfl | hp
      · simp
      · have := cutR_len xs a [] p hp
        simp only [List.length_nil, List.length_cons] at this ⊢
        omega
    · have := cutR_len xs _ _ p hp
      simp only [List.length_append, List.length_cons, List.length_nil] at this ⊢
      omega
theorem prS_get (xs : List Sg) (k : Nat) (hk : k < xs.length) (hp : k < (prS xs).length) : (prS xs)[k]'hp = ((xs[k]'hk).c, if (!(xs[k]'hk).q && !(xs[k]'hk).r) = true then 0 else 1) := by
  exact List.getElem_map ..
theorem sg_drop {w : World} {b off : Nat} {xs : List Sg} (h : Row w (some ⟨b, off, none⟩) (xs.flatMap sgC)) (k : Nat) (hk : k ≤ xs.length) : Row w (some ⟨b, off + k * 5, none⟩) ((xs.drop k).flatMap sgC) := by
  have e : (xs.drop k).flatMap sgC = (xs.flatMap sgC).drop (k * 5) := by
    conv => rhs; rw [← List.take_append_drop k xs, List.flatMap_append]
    have hl : ((xs.take k).flatMap sgC).length = k * 5 := by
      have : ∀ ys : List Sg, (ys.flatMap sgC).length = ys.length * 5 := fun ys => by
        induction ys with
        | nil => rfl
        | cons a l ih => rw [List.flatMap_cons, List.length_append, ih, sgC_len, List.length_cons]; omega
      rw [this, List.length_take, Nat.min_eq_left hk]
    rw [← hl, List.drop_left]
  rw [e]
  exact row_drop h (k * 5)
theorem sg_take {w : World} {A : Option Addr} {xs : List Sg} (h : Row w A (xs.flatMap sgC)) (k : Nat) : Row w A ((xs.take k).flatMap sgC) := by
  have e : ∃ j, (xs.take k).flatMap sgC = (xs.flatMap sgC).take j := by
    have e2 : xs.flatMap sgC = (xs.take k).flatMap sgC ++ (xs.drop k).flatMap sgC := by rw [← List.flatMap_append, List.take_append_drop]
    exact ⟨((xs.take k).flatMap sgC).length, by rw [e2, List.take_left]⟩
  obtain ⟨j, e⟩ := e
  rw [e]
  exact row_take h j
set_option maxRecDepth 100000 in
set_option maxHeartbeats 8000000 in
theorem rlist_any (l : List UInt8) (n : Nat) (hn : l.length = n) (w : World) (hl : n ≤ 99999) :
    Calls Tryd.prog 10 #[.string (str l)] w fun e w' => ∃ A m c, e = .returned (.slice A m c) ∧ (listR (cutR false [] (signsL l))).length = m ∧ w'.ownsRow w.heap.size 35 3 (.slice A m c) m ((listR (cutR false [] (signsL l))).flatMap adC) ∧ Below w.heap.size w w' ∧ m ≤ 100000 := by
  have HN := hid hn
  clear hn
  go_enter Tryd.func10, Tryd.ntmps10
  have HSG := hid (signs_any l n HN.out w (by omega))
  obtain ⟨sg, hsg⟩ : ∃ sg, signsL l = sg := ⟨_, rfl⟩
  rw [hsg] at HSG
  have HCT := hid (fun (A : Option Addr) (ns cp : Nat) (X : World) (h1 : sg.length = ns) (h2 : Row X A (sg.flatMap sgC)) (h3 : ns ≤ n) => cut_any sg A ns cp h1 X h2 (by omega))
  obtain ⟨ps, hps⟩ : ∃ ps, cutR false [] sg = ps := ⟨_, rfl⟩
  rw [hps] at HCT
  have HPS : Hid (cutR false [] (signsL l) = ps) := hid (by rw [hsg, hps])
  have HPL0 : Hid (sg.length ≤ n → ∀ p ∈ ps, p.length ≤ n) := hid (fun h p hp => by
    rw [← hps] at hp
    have := cutR_len sg false [] p hp
    simp at this
    omega)
  clear hsg hps
  go_upto_region 3 with (first
    | (go_at_call 16; refine HSG.out.mono ?_; rintro e w1 ⟨AS, ns, cs, rfl, hls, ho, hb, hle⟩; have HLS := hid hls; have HRS := hid (Row.of_own ho); have B := hid hb; have HNS := hid hle; clear hls ho hb hle)
    | (go_at_call 18; refine (HCT.out AS ns cs _ HLS.out HRS.out HNS.out).mono ?_; rintro e w2 ⟨AC, np, cc, vs, rfl, hlp, hlv, hrv, hrs, hb, hle⟩; have HLP := hid hlp; have HLV := hid hlv; have HRV := hid hrv; have HRR := hid hrs; have B := hid (next B.out hb); have HNP : Hid (np ≤ 100000) := hid (by have := HNS.out; omega); have HPL1 : Hid (∀ p ∈ ps, p.length ≤ n) := hid (HPL0.out (by rw [HLS.out]; exact HNS.out)); clear hlp hlv hrv hrs hb hle))
  clear HSG HCT HPL0 HRS HLS
  have hnp : np ≤ 100000 := HNP.out
  have I0 := hid (LrI.start w2 ps)
  go_wp2_with fail
  go_loopw [3, 5] (fun v3 v5 wr => ∃ (k : Nat) (A : Option Addr) (m c : Nat) (out : List Ad), k ≤ np ∧ v3 = .slice A m c ∧ v5 = .int .i64 (k : Int) ∧ Hid (LrI w2 wr ps k A m c out)) (fun v3 v5 wr => np - (intOf v5).toNat)
  case atStart => exact ⟨0, none, 0, 0, [], Nat.zero_le _, rfl, rfl, I0⟩
  case round =>
    clear I0
    obtain ⟨k, A, m, c, out, hk2, rfl, rfl, HI⟩ := hrel
    rename World => wo
    by_cases hlt : k < np
    · have d1 : decide ((k : Int) < (np : Int)) = true := by simp; omega
      have d1' : decide (k < np) = true := by simp; omega
      have hkl : k < ps.length := by rw [HLP.out]; exact hlt
      have hkv : k < vs.length := by rw [HLV.out]; exact hlt
      have e0 : (0 : Int) ≤ (k : Int) := by omega
      have e2 : (k : Int) < (np : Int) := by omega
      have e3 : (k : Int).toNat = k := by omega
      have HRK := hid (HRV.out.below HI.out.bel)
      have hrow : Row wo AC (vs.map id) := by rw [List.map_id]; exact HRK.out
      obtain ⟨b, off, rfl, hcell⟩ := row_at hrow hkv
      have x0 := hcell k hkv
      obtain ⟨p, hp⟩ : ∃ p, ps[k]'hkl = p := ⟨_, rfl⟩
      have hsr := HRR.out k hkv hkl
      rw [hp] at hsr
      obtain ⟨AP, cp, hv, hvo⟩ := hsr
      rw [id, hv] at x0
      have hcap := own_cap (hv ▸ hvo)
      have HRP := hid ((Row.of_own (hv ▸ hvo)).below HI.out.bel)
      have HKL := hid hkl
      have HP : Hid (ps[k]'HKL.out = p) := hid hp
      have hpn : p.length ≤ n := by rw [← hp]; exact HPL1.out _ (List.getElem_mem hkl)
      obtain ⟨np2, hnp2⟩ : ∃ x, p.length = x := ⟨_, rfl⟩
      rw [hnp2] at x0 hcap hpn
      have HNP2 := hid hnp2
      clear hcell hkl hkv hp hrow HRK hv hvo hnp2
      go_upto_block 2 with fail
      go_cut [7, 8, 9] from 28 to 75 (fun s7 s8 s9 wx => ∃ (fo : Option Nat) (tv : Nat), s7 = .int .i64 (fdI fo) ∧ s8 = .int .i64 (tv : Int) ∧ Hid (fdL 60 0 (prS p) = fo ∧ ∀ f, fo = some f → f < np2 ∧ tv = toL (prS p) f) ∧ Hid (Below wo.heap.size wo wx))
      case first =>
        have HB0 := hid (Below.refl wo.heap.size wo)
        have HF0 : Hid (FtI (prS p) 0 none np2) := hid ⟨rfl, by rw [prS_len]; exact HNP2.out.symm⟩
        clear HI HRV HRR x0
        go_wp2_with fail
        go_loopw [7, 8, 9] (fun v7 v8 v9 wq => ∃ (k2 : Nat) (fo : Option Nat) (tv : Nat), k2 ≤ np2 ∧ v7 = .int .i64 (fdI fo) ∧ v8 = .int .i64 (tv : Int) ∧ v9 = .int .i64 (k2 : Int) ∧ Hid (FtI (prS p) k2 fo tv) ∧ Hid (Below wo.heap.size wo wq)) (fun v7 v8 v9 wq => np2 - (intOf v9).toNat)
        case atStart => exact ⟨0, none, np2, Nat.zero_le _, rfl, rfl, rfl, HF0, HB0⟩
        case round =>
          clear HF0 HB0
          obtain ⟨k2, fo, tv, hk3, rfl, rfl, rfl, HFT, H⟩ := hrel
          by_cases hlt2 : k2 < np2
          · have g1 : decide ((k2 : Int) < (np2 : Int)) = true := by simp; omega
            have g1' : decide (k2 < np2) = true := by simp; omega
            have hkp2 : k2 < p.length := by rw [HNP2.out]; exact hlt2
            have g0 : (0 : Int) ≤ (k2 : Int) := by omega
            have g2 : (k2 : Int) < (np2 : Int) := by omega
            have g3 : (k2 : Int).toNat = k2 := by omega
            obtain ⟨b2, off2, rfl, hcell2⟩ := sg_at HRP.out hkp2
            obtain ⟨y, hy⟩ : ∃ y, p[k2]'hkp2 = y := ⟨_, rfl⟩
            have hz := hcell2 k2 hkp2
            rw [hy] at hz
            unfold B8 at hz
            have HC : Hid (∀ wx, Below wo.heap.size wo wx → wx.cell? ⟨b2, off2 + k2 * 5, none⟩ = some (.int .u8 (y.c.toNat : Int)) ∧ wx.cell? ⟨b2, off2 + k2 * 5 + 1, none⟩ = some (.bool y.q) ∧ wx.cell? ⟨b2, off2 + k2 * 5 + 2, none⟩ = some (.bool y.r) ∧ wx.cell? ⟨b2, off2 + k2 * 5 + 3, none⟩ = some (.bool y.o) ∧ wx.cell? ⟨b2, off2 + k2 * 5 + 4, none⟩ = some (.bool y.s)) :=
              hid (fun wx h => ⟨cells_keep h hz.1, cells_keep h hz.2.1, cells_keep h hz.2.2.1, cells_keep h hz.2.2.2.1, cells_keep h hz.2.2.2.2⟩)
            have z0 := (HC.out _ H.out).1
            have z1 := (HC.out _ H.out).2.1
            have z2 := (HC.out _ H.out).2.2.1
            have z3 := (HC.out _ H.out).2.2.2.1
            have z4 := (HC.out _ H.out).2.2.2.2
            have hkS : k2 < (prS p).length := by rw [prS_len]; exact hkp2
            have HGT : Hid (∃ hh : k2 < (prS p).length, (prS p)[k2]'hh = (y.c, if (!y.q && !y.r) = true then 0 else 1)) := hid ⟨hkS, by rw [prS_get p k2 hkp2 hkS, hy]⟩
            have HPL := hid (fun X => plain_any y X)
            have HSL : Hid ((prS p).length = np2) := hid (by rw [prS_len]; exact HNP2.out)
            obtain ⟨pl, hpl⟩ : ∃ pl, (!y.q && !y.r) = pl := ⟨_, rfl⟩
            rw [hpl] at HPL HGT
            clear hcell2 hkp2 hy hz hkS hpl
            cases pl with
            | false =>
              have HI2 : Hid (FtI (prS p) (k2 + 1) fo tv) := hid (by
                obtain ⟨hh, hg⟩ := HGT.out
                exact HFT.out.other hh (fun _ h => by rw [hg] at h; simp at h) (fun _ _ h => by rw [hg] at h; simp at h))
              clear HFT HGT
              go_wp2_with (go_at_call 19; refine (HPL.out _).mono ?_; rintro e w5 ⟨rfl, b5⟩; have H := hid (next H.out b5); have z0 := (HC.out _ H.out).1; have z1 := (HC.out _ H.out).2.1; have z2 := (HC.out _ H.out).2.2.1; have z3 := (HC.out _ H.out).2.2.2.1; have z4 := (HC.out _ H.out).2.2.2.2; clear b5)
              go_roundw
              case rel => exact ⟨k2 + 1, fo, tv, by omega, rfl, rfl, by go_num, HI2, H⟩
              case measure => simp [intOf]; omega
            | true =>
              by_cases h60 : y.c.toNat = 60
              · have q1 : ((y.c.toNat : Int) == 60) = true := by rw [h60]; rfl
                have q2 : ((y.c.toNat : Int) == 62) = false := by rw [h60]; rfl
                cases fo with
                | none =>
                  have hI : fdI none = -1 := rfl
                  have HI2 : Hid (FtI (prS p) (k2 + 1) (some k2) tv) := hid (by
                    obtain ⟨hh, hg⟩ := HGT.out
                    exact HFT.out.from_ hh (by rw [hg]; exact ⟨rfl, h60⟩))
                  clear HFT HGT h60
                  go_wp2_with (go_at_call 19; refine (HPL.out _).mono ?_; rintro e w5 ⟨rfl, b5⟩; have H := hid (next H.out b5); have z0 := (HC.out _ H.out).1; have z1 := (HC.out _ H.out).2.1; have z2 := (HC.out _ H.out).2.2.1; have z3 := (HC.out _ H.out).2.2.2.1; have z4 := (HC.out _ H.out).2.2.2.2; clear b5)
                  go_roundw
                  case rel => exact ⟨k2 + 1, (some k2), tv, by omega, rfl, rfl, by go_num, HI2, H⟩
                  case measure => simp [intOf]; omega
                | some f =>
                  have hI : fdI (some f) = (f : Int) := rfl
                  have q3 : decide ((f : Int) < 0) = false := by simp
                  have HI2 : Hid (FtI (prS p) (k2 + 1) (some f) tv) := hid (by
                    obtain ⟨hh, hg⟩ := HGT.out
                    exact HFT.out.other hh (fun h => by cases h) (fun _ _ h => by rw [hg] at h; dsimp only at h; omega))
                  clear HFT HGT h60
                  go_wp2_with (go_at_call 19; refine (HPL.out _).mono ?_; rintro e w5 ⟨rfl, b5⟩; have H := hid (next H.out b5); have z0 := (HC.out _ H.out).1; have z1 := (HC.out _ H.out).2.1; have z2 := (HC.out _ H.out).2.2.1; have z3 := (HC.out _ H.out).2.2.2.1; have z4 := (HC.out _ H.out).2.2.2.2; clear b5)
                  go_roundw
                  case rel => exact ⟨k2 + 1, (some f), tv, by omega, rfl, rfl, by go_num, HI2, H⟩
                  case measure => simp [intOf]; omega
              have q1 : ((y.c.toNat : Int) == 60) = false := ne_f h60
              by_cases h62 : y.c.toNat = 62
              · have q2 : ((y.c.toNat : Int) == 62) = true := by rw [h62]; rfl
                cases fo with
                | none =>
                  have hI : fdI none = -1 := rfl
                  have HI2 : Hid (FtI (prS p) (k2 + 1) none tv) := hid (by
                    obtain ⟨hh, hg⟩ := HGT.out
                    exact HFT.out.other hh (fun _ h => by rw [hg] at h; exact h60 h.2) (fun h => absurd rfl h))
                  clear HFT HGT h60 h62
                  go_wp2_with (go_at_call 19; refine (HPL.out _).mono ?_; rintro e w5 ⟨rfl, b5⟩; have H := hid (next H.out b5); have z0 := (HC.out _ H.out).1; have z1 := (HC.out _ H.out).2.1; have z2 := (HC.out _ H.out).2.2.1; have z3 := (HC.out _ H.out).2.2.2.1; have z4 := (HC.out _ H.out).2.2.2.2; clear b5)
                  go_roundw
                  case rel => exact ⟨k2 + 1, none, tv, by omega, rfl, rfl, by go_num, HI2, H⟩
                  case measure => simp [intOf]; omega
                | some f =>
                  have hI : fdI (some f) = (f : Int) := rfl
                  have q3 : decide ((0 : Int) ≤ (f : Int)) = true := by simp
                  by_cases htv : tv = np2
                  · have q4 : ((tv : Int) == (np2 : Int)) = true := by simp; omega
                    have HI2 : Hid (FtI (prS p) (k2 + 1) (some f) k2) := hid (by
                      obtain ⟨hh, hg⟩ := HGT.out
                      have h9 := HFT.out
                      rw [htv, ← HSL.out] at h9
                      exact h9.to_ hh (by rw [hg]; exact ⟨rfl, h62⟩))
                    clear HFT HGT h60 h62 htv
                    go_wp2_with (go_at_call 19; refine (HPL.out _).mono ?_; rintro e w5 ⟨rfl, b5⟩; have H := hid (next H.out b5); have z0 := (HC.out _ H.out).1; have z1 := (HC.out _ H.out).2.1; have z2 := (HC.out _ H.out).2.2.1; have z3 := (HC.out _ H.out).2.2.2.1; have z4 := (HC.out _ H.out).2.2.2.2; clear b5)
                    go_roundw
                    case rel => exact ⟨k2 + 1, (some f), k2, by omega, rfl, rfl, by go_num, HI2, H⟩
                    case measure => simp [intOf]; omega
                  · have q4 : ((tv : Int) == (np2 : Int)) = false := by rw [beq_eq_false_iff_ne]; omega
                    have HI2 : Hid (FtI (prS p) (k2 + 1) (some f) tv) := hid (by
                      obtain ⟨hh, hg⟩ := HGT.out
                      exact HFT.out.other hh (fun h => by cases h) (fun _ h => absurd (h.trans HSL.out) htv))
                    clear HFT HGT h60 h62 htv
                    go_wp2_with (go_at_call 19; refine (HPL.out _).mono ?_; rintro e w5 ⟨rfl, b5⟩; have H := hid (next H.out b5); have z0 := (HC.out _ H.out).1; have z1 := (HC.out _ H.out).2.1; have z2 := (HC.out _ H.out).2.2.1; have z3 := (HC.out _ H.out).2.2.2.1; have z4 := (HC.out _ H.out).2.2.2.2; clear b5)
                    go_roundw
                    case rel => exact ⟨k2 + 1, (some f), tv, by omega, rfl, rfl, by go_num, HI2, H⟩
                    case measure => simp [intOf]; omega
              have q2 : ((y.c.toNat : Int) == 62) = false := ne_f h62
              have HI2 : Hid (FtI (prS p) (k2 + 1) fo tv) := hid (by
                obtain ⟨hh, hg⟩ := HGT.out
                exact HFT.out.other hh (fun _ h => by rw [hg] at h; exact h60 h.2) (fun _ _ h => by rw [hg] at h; exact h62 h.2))
              clear HFT HGT h60 h62
              go_wp2_with (go_at_call 19; refine (HPL.out _).mono ?_; rintro e w5 ⟨rfl, b5⟩; have H := hid (next H.out b5); have z0 := (HC.out _ H.out).1; have z1 := (HC.out _ H.out).2.1; have z2 := (HC.out _ H.out).2.2.1; have z3 := (HC.out _ H.out).2.2.2.1; have z4 := (HC.out _ H.out).2.2.2.2; clear b5)
              go_roundw
              case rel => exact ⟨k2 + 1, fo, tv, by omega, rfl, rfl, by go_num, HI2, H⟩
              case measure => simp [intOf]; omega
          · have hkn : k2 = np2 := by omega
            subst hkn
            have g1 : decide ((k2 : Int) < (k2 : Int)) = false := by simp
            have g1' : decide (k2 < k2) = false := by simp
            have HE := hid (HFT.out.end_ (by rw [prS_len]; exact HNP2.out))
            clear HFT
            go_wp2_with fail
            go_meet
            exact ⟨fo, tv, rfl, rfl, HE, H⟩
      case rest =>
      obtain ⟨fo, tv, rfl, rfl, HFO, HBX⟩ := hcut
      rename World => w3
      have HRM := hid (fun X (h : Row X AP (p.flatMap sgC)) => remark_any p AP np2 cp HNP2.out X h (by omega))
      have HSY := hid (fun X (h : Row X AP (p.flatMap sgC)) => say_any p AP np2 cp HNP2.out X h (by omega))
      obtain ⟨nm0, hnm0⟩ : ∃ x, trimB (remR false [] p) = x := ⟨_, rfl⟩
      obtain ⟨al0, hal0⟩ : ∃ x, sayR false [] p = x := ⟨_, rfl⟩
      rw [hnm0] at HRM
      rw [hal0] at HSY
      have HL0 : Hid (al0.length ≤ 200000) := hid (by
        rw [← hal0]
        have := sayR_len p false []
        rw [HNP2.out] at this
        simp at this
        omega)
      have HNM := hid hnm0
      have HAL := hid hal0
      clear hnm0 hal0
      go_upto_region 16 with (go_at_call 20; refine (HRM.out _ (HRP.out.below HBX.out)).mono ?_; rintro e w4 ⟨rfl, b4⟩; have HBX := hid (next HBX.out b4); clear b4)
      have S := hid (show LaS wo (w4.alloc (.cells #[.string (str nm0), .string ⟨#[]⟩, .string ⟨#[]⟩] 35)) w4.heap.size nm0 [] [] from ⟨OwnE.new_ w4 _ _, HBX.out.alloc HBX.out.size _, HBX.out.size⟩)
      clear HBX HRM
      generalize w4.heap.size = g at *
      generalize w4.alloc (.cells #[.string (str nm0), .string ⟨#[]⟩, .string ⟨#[]⟩] 35) = W at *
      go_upto_if 82 with (go_at_call 15; refine (HSY.out _ (HRP.out.below S.out.bel)).mono ?_; rintro e w5 ⟨rfl, b5⟩; have S := hid (S.out.below b5); clear b5)
      clear HSY
      go_cut [11] (fun s11 wx => ∃ (nm al : List UInt8), s11 = .string (str al) ∧ Hid (oneR p = adOf nm al) ∧ Hid (al.length ≤ 200000) ∧ Hid (LaS wo wx g nm [] []))
      case first =>
        cases fo with
        | none =>
          have hI : fdI none = -1 := rfl
          have HO : Hid (oneR p = adOf nm0 al0) := hid (by unfold oneR; rw [HFO.out.1, HNM.out, HAL.out])
          clear HFO HI HRP x0
          go_wp2_with fail
          go_meet
          exact ⟨nm0, al0, rfl, HO, HL0, S⟩
        | some f =>
          have hI : fdI (some f) = (f : Int) := rfl
          have hfo := HFO.out.2 f rfl
          have hb := toL_bounds (prS p) f HFO.out.1
          rw [prS_len, HNP2.out, ← hfo.2] at hb
          have HT : Hid (toL (prS p) f = tv) := hid hfo.2.symm
          have hfn := hfo.1
          have hft := hb.1
          have htn := hb.2
          have q0 : decide ((0 : Int) ≤ (f : Int)) = true := by simp
          obtain ⟨b2, off2, rfl, -⟩ := sg_at HRP.out (k := f) (by rw [HNP2.out]; exact hfn)
          have hcp1 : np2 ≤ cp := hcap.1
          have i0 : (0 : Int) ≤ (f : Int) := by omega
          have i1 : (f : Int) ≤ (cp : Int) := by omega
          have i2 : (0 : Int) ≤ (f : Int) + 1 := by omega
          have i3 : (f : Int) + 1 ≤ (tv : Int) := by omega
          have i4 : (tv : Int) ≤ (cp : Int) := by omega
          have i5 : (f : Int).toNat = f := by omega
          have i6 : ((f : Int) + 1).toNat = f + 1 := by omega
          have i7 : (tv : Int).toNat = tv := by omega
          have iw : IntKind.i64.wrap ((f : Int) + 1) = (f : Int) + 1 := by rw [IntKind.wrap_i64]; omega
          have H1 := hid (fun (X : World) (h : Row X (some ⟨b2, off2, none⟩) (p.flatMap sgC)) => say_any (p.take f) (some ⟨b2, off2, none⟩) f cp (by rw [List.length_take, HNP2.out]; omega) X (sg_take h f) (by omega))
          have H2 := hid (fun (X : World) (h : Row X (some ⟨b2, off2, none⟩) (p.flatMap sgC)) => say_any ((p.drop (f + 1)).take (tv - (f + 1))) (if cp = f + 1 then some ⟨b2, off2, none⟩ else some ⟨b2, off2 + (f + 1) * 5, none⟩) (tv - (f + 1)) (cp - (f + 1)) (by rw [List.length_take, List.length_drop, HNP2.out]; omega) X (by
            refine sg_take ?_ _
            split
            · rw [List.drop_of_length_le (by rw [HNP2.out]; omega)]; exact Row.nil _ _
            · exact sg_drop h (f + 1) (by rw [HNP2.out]; omega)) (by omega))
          obtain ⟨A3, hA3⟩ : ∃ A3 : Option Addr, (if cp = f + 1 then some ⟨b2, off2, none⟩ else some ⟨b2, off2 + (f + 1) * 5, none⟩) = A3 := ⟨_, rfl⟩
          rw [hA3] at H2
          obtain ⟨nm3, hnm3⟩ : ∃ x, sayR false [] (p.take f) = x := ⟨_, rfl⟩
          obtain ⟨al3, hal3⟩ : ∃ x, sayR false [] ((p.drop (f + 1)).take (tv - (f + 1))) = x := ⟨_, rfl⟩
          rw [hnm3] at H1
          rw [hal3] at H2
          have HL3 : Hid (al3.length ≤ 200000) := hid (by
            rw [← hal3]
            have := sayR_len ((p.drop (f + 1)).take (tv - (f + 1))) false []
            rw [List.length_take, List.length_drop, HNP2.out] at this
            simp at this
            omega)
          have HO3 : Hid (oneR p = adOf nm3 al3) := hid (by unfold oneR; rw [HFO.out.1]; dsimp only; rw [HT.out, hnm3, hal3])
          clear hnm3 hal3 HFO HI x0 hfo hb HNM HAL HL0
          go_upto_region 19 with (go_at_call 15; refine (H1.out _ (HRP.out.below S.out.bel)).mono ?_; rintro e w6 ⟨rfl, b6⟩; have S := hid (S.out.below b6); have y0 := S.out.own.cell (j := 0) rfl; have yf := S.out.own.frozen 0; have S2 := hid (S.out.set0 nm3); clear b6)
          clear S
          go_wp2_with (go_at_call 15; refine (H2.out _ (HRP.out.below S2.out.bel)).mono ?_; rintro e w7 ⟨rfl, b7⟩; have S3 := hid (S2.out.below b7); clear b7)
          go_meet
          exact ⟨nm3, al3, rfl, HO3, HL3, S3⟩
      case rest =>
      obtain ⟨nm, al, rfl, HO, HL, S⟩ := hcut
      rename World => w6
      clear HFO HNM HAL HL0
      have y1 := S.out.own.cell (j := 1) rfl
      have yf := S.out.own.frozen 1
      have S2 := hid (S.out.set1 al)
      obtain ⟨nal, hnal⟩ : ∃ x, al.length = x := ⟨_, rfl⟩
      have hsz : (str al).size = nal := hnal
      have hnl : nal ≤ 200000 := by rw [← hnal]; exact HL.out
      have HNA := hid hnal
      clear hnal S
      go_upto_block 4 with fail
      generalize w6.setCell ⟨g, 1, none⟩ (.string (str al)) = w7 at *
      go_cut [12] from 99 to 115 (fun s12 wx => ∃ (bx hs : List UInt8), Hid (oneR p = ⟨nm, bx, hs⟩) ∧ Hid (LaS wo wx g nm bx hs))
      case first =>
        clear HI HRP x0 y1 yf
        go_wp2_with fail
        go_loopw [12] (fun v12 wq => ∃ (j : Nat) (z : Int), j ≤ nal ∧ v12 = .int .i64 z ∧ z = (j : Int) - 1 ∧ Hid (lastN al nal = lastN al j) ∧ w7 = wq) (fun v12 wq => ((intOf v12) + 1).toNat)
        case atStart => exact ⟨nal, _, Nat.le_refl _, rfl, by omega, hid rfl, rfl⟩
        case round =>
          obtain ⟨j, z, hj, rfl, hz, HLA, rfl⟩ := hrel
          cases j with
          | zero =>
            obtain rfl : z = -1 := by omega
            clear hz
            have HO2 : Hid (oneR p = ⟨nm, al, []⟩) := hid (by rw [HO.out]; unfold adOf; rw [HNA.out, HLA.out]; rfl)
            go_wp2_with fail
            go_meet
            exact ⟨al, [], HO2, S2⟩
          | succ j =>
            obtain rfl : z = (j : Int) := by omega
            clear hz
            have q0 : decide ((0 : Int) ≤ (j : Int)) = true := by simp
            have h0 : j < (str al).size := by rw [hsz]; omega
            have hjl : j < al.length := by rw [HNA.out]; omega
            obtain ⟨ch, hch0⟩ : ∃ ch, al[j]'hjl = ch := ⟨_, rfl⟩
            have hch : (str al)[j]'h0 = ch := hch0
            have e0 : (0 : Int) ≤ (j : Int) := by omega
            have e1 : (j : Int) < ((str al).size : Int) := by rw [hsz]; omega
            have e3 : (j : Int).toNat = j := by omega
            have hgd : al.getD j 0 = ch := by rw [List.getD_eq_getElem?_getD, List.getElem?_eq_getElem hjl, hch0]; rfl
            by_cases h64 : ch.toNat = 64
            · have q1 : ((ch.toNat : Int) == 64) = true := by rw [h64]; rfl
              have hx1 : (str al).extract 0 j = str (al.take j) := by rw [str_extract, List.drop_zero, Nat.sub_zero]
              have hx2 : (str al).extract (j + 1) nal = str (al.drop (j + 1)) := by rw [str_extract, List.take_of_length_le (by rw [List.length_drop, HNA.out]; exact Nat.le_refl _)]
              have i1 : (j : Int) ≤ (nal : Int) := by omega
              have i2 : (0 : Int) ≤ (j : Int) + 1 := by omega
              have i3 : (j : Int) + 1 ≤ (nal : Int) := by omega
              have i6 : ((j : Int) + 1).toNat = j + 1 := by omega
              have HO2 : Hid (oneR p = ⟨nm, al.take j, al.drop (j + 1)⟩) := hid (by rw [HO.out]; unfold adOf; rw [HNA.out, HLA.out, lastN, hgd, if_pos h64])
              have y1 := S2.out.own.cell (j := 1) rfl
              have f1 := S2.out.own.frozen 1
              have S3 := hid (S2.out.set1 (al.take j))
              have y2 := S3.out.own.cell (j := 2) rfl
              have f2 := S3.out.own.frozen 2
              have S4 := hid (S3.out.set2 (al.drop (j + 1)))
              clear hch0 hgd h64 hjl HLA S2 S3
              go_wp2_with fail
              go_meet
              exact ⟨_, _, HO2, S4⟩
            · have q1 : ((ch.toNat : Int) == 64) = false := ne_f h64
              have HLA2 : Hid (lastN al nal = lastN al j) := hid (by rw [HLA.out, lastN, hgd, if_neg h64])
              clear hch0 hgd h64 hjl HLA
              go_wp2_with fail
              go_roundw
              case rel => exact ⟨j, _, by omega, rfl, rfl, HLA2, trivial⟩
              case measure => simp [intOf]
      case rest =>
      obtain ⟨bx, hs, HO2, S⟩ := hcut
      rename World => w8
      clear HO HL HNA S2
      have c0 := S.out.own.cell (j := 0) rfl
      have c1 := S.out.own.cell (j := 1) rfl
      have c2 := S.out.own.cell (j := 2) rfl
      go_upto_region 27 with fail
      go_cut [128] from 116 to 127 (fun t wx => (∃ bb : Bool, t = .bool bb ∧ Hid (bb = decide ((⟨nm, bx, hs⟩ : Ad) ≠ nilA))) ∧ w8 = wx)
      case first =>
        clear HI HRP x0
        by_cases h1 : nm = []
        · subst h1
          by_cases h2 : bx = []
          · subst h2
            by_cases h3 : hs = []
            · subst h3
              go_wp2_with fail
              go_meet
              exact ⟨⟨false, rfl, hid rfl⟩, rfl⟩
            · have hd : decide ((⟨[], [], hs⟩ : Ad) ≠ nilA) = true := by simp [nilA, h3]
              have hne : hs.isEmpty = false := by cases hs with | nil => exact absurd rfl h3 | cons a l => rfl
              have HD := hid hd
              clear h3 hd
              go_wp2_with fail
              go_meet
              exact ⟨⟨true, rfl, hid HD.out.symm⟩, rfl⟩
          · have hd : decide ((⟨[], bx, hs⟩ : Ad) ≠ nilA) = true := by simp [nilA, h2]
            have hne : bx.isEmpty = false := by cases bx with | nil => exact absurd rfl h2 | cons a l => rfl
            have HD := hid hd
            clear h2 hd
            go_wp2_with fail
            go_meet
            exact ⟨⟨true, rfl, hid HD.out.symm⟩, rfl⟩
        · have hd : decide ((⟨nm, bx, hs⟩ : Ad) ≠ nilA) = true := by simp [nilA, h1]
          have hne : nm.isEmpty = false := by cases nm with | nil => exact absurd rfl h1 | cons a l => rfl
          have HD := hid hd
          clear h1 hd
          go_wp2_with fail
          go_meet
          exact ⟨⟨true, rfl, hid HD.out.symm⟩, rfl⟩
      case rest =>
      obtain ⟨⟨bb, rfl, HBB⟩, rfl⟩ := hcut
      by_cases h0 : (⟨nm, bx, hs⟩ : Ad) = nilA
      · obtain rfl : bb = false := by rw [HBB.out]; simp [h0]
        have HI2 := hid (HI.out.skip HKL.out p HP.out (HO2.out.trans h0) S.out.bel)
        clear h0 HI
        go_wp2_with fail
        go_roundw
        case rel => exact ⟨k + 1, A, m, c, out, by omega, rfl, by go_num, HI2⟩
        case measure => simp [intOf]; omega
      · obtain rfl : bb = true := by rw [HBB.out]; simp [h0]
        have HB3 := hid (HI.out.bel.trans (S.out.bel.mono HI.out.bel.size))
        have HO3 := hid (own_below HI.out.own S.out.bel)
        have hle := HI.out.le
        have HPT : Hid (∀ (w' : World) (A' : Option Addr) (c' : Nat), w'.ownsRow w2.heap.size 35 3 (.slice A' (m + 1) c') (m + 1) (out.flatMap adC ++ adC ⟨nm, bx, hs⟩) → Below w2.heap.size w2 w' → LrI w2 w' ps (k + 1) A' (m + 1) c' (out ++ [⟨nm, bx, hs⟩])) := hid (fun w' A' c' h1 h2 => HI.out.put HKL.out p HP.out _ HO2.out h0 h1 h2)
        clear h0 HI x0
        go_wp2_with (
          refine wpList_append_row _ rfl (.tmp 129) (.tmp 131) adS rfl w2.heap.size (.slice A m c) m (out.flatMap adC) rfl (own_below HO3.out ((Below.refl w8.heap.size w8).alloc (Nat.le_refl _) (.cells #[.string (str nm), .string (str bx), .string (str hs)] 35))) (some ⟨w8.heap.size, 0, none⟩) 1 1 (adC ⟨nm, bx, hs⟩) rfl rfl (Row.of_block (heap_alloc_new w8 (Obj.cells #[.string (str nm), .string (str bx), .string (str hs)] 35))) (by simp [adC, SV, Value.oneCell']) (by simp only [maxLen]; omega) (by omega) (by simp; have := HB3.out.size; omega) ?_
          intro A4 c4 w9 ho4 hg4 hh4
          have HI2 := hid (HPT.out w9 A4 c4 ho4 ((HB3.out.alloc HB3.out.size _).grown hg4 (by simp; have := HB3.out.size; omega) (fun k hk => own_base HO3.out k hk)))
          clear ho4 hg4 hh4)
        go_roundw
        case rel => exact ⟨k + 1, _, _, _, _, by omega, rfl, by go_num, HI2⟩
        case measure => simp [intOf]; omega
    · have hkn : k = np := by omega
      subst hkn
      have d1 : decide ((k : Int) < (k : Int)) = false := by simp
      have d1' : decide (k < k) = false := by simp
      have HE : Hid (listR (cutR false [] (signsL l)) = out) := hid (by
        have e : ps.drop k = [] := List.drop_of_length_le (by rw [HLP.out]; exact Nat.le_refl _)
        rw [HPS.out, HI.out.eq, e]
        exact List.append_nil _)
      have HNS2 := HNP
      go_wp2_with fail
      go_ret
      refine ⟨A, m, c, rfl, by rw [HE.out]; exact HI.out.len, ?_, next B.out HI.out.bel, ?_⟩
      · rw [HE.out]
        exact own_low HI.out.own B.out.size
      · have h1 := HI.out.le
        omega
end Go.Proofs.YtdanhdiinkgjnaaDoor
