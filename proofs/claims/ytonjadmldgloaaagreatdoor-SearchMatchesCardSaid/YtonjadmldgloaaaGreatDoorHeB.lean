/-
  With which a line begins: the walk; With which a line begins, and a text without blanks at its ends: the document's walks; Lines: more of them, in plain Lean. A part of the proof: see the head of the text that ends in 'Law'.
-/
import Derived.Test.YtonjadmldgloaaaGreatDoorHeA
namespace Go.Proofs.YtonjadmldgloaaaGreatDoor.D17
section
open Go.RowKit Go.Shelf
set_option linter.unusedVariables false
attribute [local go_sem] Oper.semAt_some
theorem ne_f {a b : Nat} (h : ¬ a = b) : ((a : Int) == (b : Int)) = false := by
  rw [beq_eq_false_iff_ne]
  intro e
  exact h (by omega)
theorem ne_t {a b : Nat} (h : ¬ a = b) : ((a : Int) != (b : Int)) = true := by rw [bne, ne_f h]; rfl
theorem ne_n {a b : Nat} (h : ¬ a = b) : (a == b) = false := by simpa using h
theorem ne_nt {a b : Nat} (h : ¬ a = b) : (a != b) = true := by simpa using h
theorem lt_t {a b : Nat} (h : a < b) : decide ((a : Int) < (b : Int)) = true := by simp; omega
theorem lt_f {a b : Nat} (h : ¬ a < b) : decide ((a : Int) < (b : Int)) = false := by simp; omega
theorem lt_nt {a b : Nat} (h : a < b) : decide (a < b) = true := by simpa using h
theorem lt_nf {a b : Nat} (h : ¬ a < b) : decide (a < b) = false := by simpa using h
def nmV : Option (List UInt8 × Nat) → Value
  | none => .tuple #[.string ⟨#[]⟩, .int .i64 0, .bool false]
  | some (m, k) => .tuple #[.string (str m), .int .i64 (k : Int), .bool true]
set_option maxRecDepth 100000 in
set_option maxHeartbeats 4000000 in
theorem begin_any (A : Option Addr) (n c : Nat) (l : List UInt8) (w : World) (ho : Oct w A n l) (hnc : n ≤ c) (hl : n ≤ 100000) :
    Calls Tryz.prog 98 #[.slice A n c] w fun e w' => e = .returned (nmV (nameL l)) ∧ w = w' := by
  have HO := hid ho
  have HN : Hid (l.length = n) := hid ho.1
  obtain ⟨m, hm⟩ : ∃ m, nmN l = m := ⟨_, rfl⟩
  obtain ⟨kk, hkk⟩ : ∃ kk, nmK l = kk := ⟨_, rfl⟩
  have I0 : Hid (0 + sp nmc (l.drop 0) = m) := hid (by rw [← hm, Nat.zero_add]; rfl)
  have HK : Hid (m + sp bl (l.drop m) = kk) := hid (by rw [← hkk, ← hm]; rfl)
  have hmn : m ≤ n := by rw [← hm, ← HN.out]; exact sp_le nmc l
  have HNM : Hid (nameL l = if m = 0 then none else if l[kk]?.map (·.toNat) = some 58 then some (l.take m, kk + 1) else none) := hid (by rw [nameL, hm, hkk])
  clear ho hm hkk
  go_enter Tryz.func98, Tryz.ntmps98
  go_upto_block 0 with fail
  go_cut [5] from 7 to 33 (fun s5 wx => s5 = .int .i64 (m : Int) ∧ w = wx)
  case first =>
    go_wp2_with fail
    go_loopw [5] (fun v5 wr => ∃ k : Nat, k ≤ n ∧ v5 = .int .i64 (k : Int) ∧ Hid (k + sp nmc (l.drop k) = m) ∧ w = wr) (fun v5 wr => n - (intOf v5).toNat)
    case atStart => exact ⟨0, Nat.zero_le _, rfl, I0, rfl⟩
    case round =>
      clear I0 HK
      obtain ⟨k, hk2, rfl, HI, rfl⟩ := hrel
      by_cases hlt : k < n
      · have d1 := lt_t hlt
        have d1' := lt_nt hlt
        have e0 : (0 : Int) ≤ (k : Int) := by omega
        have e1 : (k : Int) < (n : Int) := by omega
        have e3 : (k : Int).toNat = k := by omega
        have hkl : k < l.length := by rw [HN.out]; exact hlt
        have HL := hid hkl
        obtain ⟨b, off, rfl, hcell⟩ := HO.out.at_ (by omega)
        have h1 := hcell k hkl
        obtain ⟨z, hzz⟩ : ∃ z, l[k]'hkl = z := ⟨_, rfl⟩
        have HZ : Hid (l[k]'HL.out = z) := hid hzz
        rw [hzz] at h1
        obtain ⟨q, hz⟩ : ∃ q, z.toNat = q := ⟨_, rfl⟩
        rw [hz] at h1
        clear hcell hkl hzz
        by_cases a1 : 32 < q
        · have f1 : decide ((32 : Int) < (q : Int)) = true := lt_t a1
          have f1' := lt_nt a1
          by_cases a2 : q < 127
          · have f2 : decide ((q : Int) < 127) = true := lt_t a2
            have f2' := lt_nt a2
            by_cases a3 : q = 58
            · subst a3
              have HF : Hid (k = m) := hid (by rw [← HI.out, sp_no nmc l k HL.out z HZ.out (by unfold nmc; rw [hz]; simp <;> omega)]; rfl)
              clear HI HZ hz
              go_wp2_with fail
              go_meet
              exact ⟨by rw [HF.out], rfl⟩
            · have f3 : ((q : Int) != 58) = true := ne_t a3
              have f3' := ne_nt a3
              have HF : Hid ((k + 1) + sp nmc (l.drop (k + 1)) = m) := hid (by rw [← HI.out, sp_yes nmc l k HL.out z HZ.out (by unfold nmc; rw [hz]; simp <;> omega)]; omega)
              clear HI HZ hz
              go_wp2_with fail
              go_roundw
              case rel => exact ⟨k + 1, by omega, by go_num, HF, trivial⟩
              case measure => simp [intOf]; omega
          · have f2 : decide ((q : Int) < 127) = false := lt_f a2
            have f2' := lt_nf a2
            have HF : Hid (k = m) := hid (by rw [← HI.out, sp_no nmc l k HL.out z HZ.out (by unfold nmc; rw [hz]; simp <;> omega)]; rfl)
            clear HI HZ hz
            go_wp2_with fail
            go_meet
            exact ⟨by rw [HF.out], rfl⟩
        · have f1 : decide ((32 : Int) < (q : Int)) = false := lt_f a1
          have f1' := lt_nf a1
          have HF : Hid (k = m) := hid (by rw [← HI.out, sp_no nmc l k HL.out z HZ.out (by unfold nmc; rw [hz]; simp <;> omega)]; rfl)
          clear HI HZ hz
          go_wp2_with fail
          go_meet
          exact ⟨by rw [HF.out], rfl⟩
      · have d1 := lt_f hlt
        have d1' := lt_nf hlt
        have HF : Hid (k = m) := hid (by rw [← HI.out, sp_end nmc l k (by rw [HN.out]; omega)]; rfl)
        clear HI
        go_wp2_with fail
        go_meet
        exact ⟨by rw [HF.out], rfl⟩
  case rest =>
  obtain ⟨rfl, rfl⟩ := hcut
  clear I0
  go_upto_block 2 with fail
  go_cut [6] from 35 to 47 (fun s6 wx => s6 = .int .i64 (kk : Int) ∧ w = wx ∧ kk ≤ n)
  case first =>
    go_wp2_with fail
    go_loopw [6] (fun v6 wr => ∃ k : Nat, k ≤ n ∧ v6 = .int .i64 (k : Int) ∧ Hid (k + sp bl (l.drop k) = kk) ∧ w = wr) (fun v6 wr => n - (intOf v6).toNat)
    case atStart => exact ⟨m, hmn, rfl, HK, rfl⟩
    case round =>
      clear HK
      obtain ⟨k, hk2, rfl, HI, rfl⟩ := hrel
      by_cases hlt : k < n
      · have d1 := lt_t hlt
        have d1' := lt_nt hlt
        have e0 : (0 : Int) ≤ (k : Int) := by omega
        have e1 : (k : Int) < (n : Int) := by omega
        have e3 : (k : Int).toNat = k := by omega
        have hkl : k < l.length := by rw [HN.out]; exact hlt
        have HL := hid hkl
        obtain ⟨b, off, rfl, hcell⟩ := HO.out.at_ (by omega)
        have h1 := hcell k hkl
        obtain ⟨z, hzz⟩ : ∃ z, l[k]'hkl = z := ⟨_, rfl⟩
        have HZ : Hid (l[k]'HL.out = z) := hid hzz
        rw [hzz] at h1
        have HB := hid (fun X => blank17_any z X)
        obtain ⟨t, ht⟩ : ∃ t, bl z = t := ⟨_, rfl⟩
        rw [ht] at HB
        unfold B8 at HB
        clear hcell hkl hzz
        cases t with
        | true =>
          have HF : Hid ((k + 1) + sp bl (l.drop (k + 1)) = kk) := hid (by rw [← HI.out, sp_yes bl l k HL.out z HZ.out ht]; omega)
          clear HI HZ ht
          go_wp2_with (go_at_call 97; refine (HB.out _).mono ?_; rintro e w3 ⟨rfl, rfl⟩)
          go_roundw
          case rel => exact ⟨k + 1, by omega, by go_num, HF, trivial⟩
          case measure => simp [intOf]; omega
        | false =>
          have HF : Hid (k = kk) := hid (by rw [← HI.out, sp_no bl l k HL.out z HZ.out ht]; rfl)
          clear HI HZ ht
          go_wp2_with (go_at_call 97; refine (HB.out _).mono ?_; rintro e w3 ⟨rfl, rfl⟩)
          go_meet
          exact ⟨by rw [HF.out], rfl, by rw [← HF.out]; exact hk2⟩
      · have d1 := lt_f hlt
        have d1' := lt_nf hlt
        have HF : Hid (k = kk) := hid (by rw [← HI.out, sp_end bl l k (by rw [HN.out]; omega)]; rfl)
        clear HI
        go_wp2_with fail
        go_meet
        exact ⟨by rw [HF.out], rfl, by rw [← HF.out]; exact hk2⟩
  case rest =>
  obtain ⟨rfl, rfl, hkn⟩ := hcut
  clear HK
  by_cases hm0 : m = 0
  · subst hm0
    have HE : Hid (nameL l = none) := hid (by rw [HNM.out, if_pos rfl])
    clear HNM
    go_wp2_with fail
    go_ret3
    exact ⟨by rw [HE.out]; rfl, rfl⟩
  have g1 : ((m : Int) == 0) = false := ne_f hm0
  have g1' := ne_n hm0
  by_cases hkk : kk = n
  · subst hkk
    have g2 : ((kk : Int) == (kk : Int)) = true := by simp
    have g2' : (kk == kk) = true := by simp
    have HE : Hid (nameL l = none) := hid (by
      rw [HNM.out, if_neg hm0, List.getElem?_eq_none (by rw [HN.out]; exact Nat.le_refl _), if_neg (fun h => by cases h)])
    clear HNM
    go_wp2_with fail
    go_ret3
    exact ⟨by rw [HE.out]; rfl, rfl⟩
  have g2 := ne_f hkk
  have g2' := ne_n hkk
  have hkl : kk < l.length := by rw [HN.out]; omega
  have e0 : (0 : Int) ≤ (kk : Int) := by omega
  have e1 : (kk : Int) < (n : Int) := by omega
  have e3 : (kk : Int).toNat = kk := by omega
  obtain ⟨b, off, rfl, hcell⟩ := HO.out.at_ (by omega)
  have h1 := hcell kk hkl
  obtain ⟨z, hzz⟩ : ∃ z, l[kk]'hkl = z := ⟨_, rfl⟩
  rw [hzz] at h1
  have hnm := HNM.out
  rw [if_neg hm0, List.getElem?_eq_getElem hkl, hzz, Option.map_some] at hnm
  obtain ⟨q, hz⟩ : ∃ q, z.toNat = q := ⟨_, rfl⟩
  rw [hz] at h1 hnm
  clear hcell hzz hz HNM hkl
  by_cases h58 : q = 58
  · subst h58
    have HE : Hid (nameL l = some (l.take m, kk + 1)) := hid (by rw [hnm, if_pos rfl])
    have j0 : (0 : Int) ≤ (m : Int) := by omega
    have j1 : (m : Int) ≤ (n : Int) := by omega
    have j2 : (m : Int).toNat = m := by omega
    have kc : (convert 28 9 (.slice (some ⟨b, off, none⟩) m c)).run Tryz.prog w = .ok (.string (str (l.take m))) w := run_string_oct c (HO.out.take m (by omega)) Tryz.underlying28 Tryz.underlying5 Tryz.underlying9
    clear hnm
    go_wp2_with fail
    go_ret3
    exact ⟨by rw [HE.out]; unfold nmV; simp, rfl⟩
  · have HE : Hid (nameL l = none) := hid (by rw [hnm, if_neg (fun h => h58 (by injection h))])
    have g3 : ((q : Int) != 58) = true := ne_t h58
    have g3' := ne_nt h58
    clear hnm
    go_wp2_with fail
    go_ret3
    exact ⟨by rw [HE.out]; rfl, rfl⟩
end
section
open Go.RowKit Go.Shelf
set_option linter.unusedVariables false
attribute [local go_sem] Oper.semAt_some
def rnmV : Option (List UInt8 × Nat) → Value
  | none => .tuple #[.string ⟨#[]⟩, .int .i64 0]
  | some (m, k) => .tuple #[.string (str m), .int .i64 (k : Int)]
theorem ge_t {a b : Nat} (h : a ≤ b) : decide ((a : Int) ≤ (b : Int)) = true := by simp; omega
theorem ge_f {a b : Nat} (h : ¬ a ≤ b) : decide ((a : Int) ≤ (b : Int)) = false := by simp; omega
theorem ge_nt {a b : Nat} (h : a ≤ b) : decide (a ≤ b) = true := by simpa using h
theorem ge_nf {a b : Nat} (h : ¬ a ≤ b) : decide (a ≤ b) = false := by simpa using h
set_option maxRecDepth 100000 in
set_option maxHeartbeats 4000000 in
theorem rname_any (l : List UInt8) (w : World) (hl : l.length ≤ 100000) :
    Calls Tryz.prog 58 #[.string (str l)] w fun e w' => e = .returned (rnmV (nameL l)) ∧ w = w' := by
  obtain ⟨n, hn⟩ : ∃ n, l.length = n := ⟨_, rfl⟩
  rw [hn] at hl
  have HN := hid hn
  have hsz : (str l).size = n := hn
  obtain ⟨m, hm⟩ : ∃ m, nmN l = m := ⟨_, rfl⟩
  obtain ⟨kk, hkk⟩ : ∃ kk, nmK l = kk := ⟨_, rfl⟩
  have I0 : Hid (0 + sp nmc (l.drop 0) = m) := hid (by rw [← hm, Nat.zero_add]; rfl)
  have HK : Hid (m + sp bl (l.drop m) = kk) := hid (by rw [← hkk, ← hm]; rfl)
  have hmn : m ≤ n := by rw [← hm, ← HN.out]; exact sp_le nmc l
  have HNM : Hid (nameL l = if m = 0 then none else if l[kk]?.map (·.toNat) = some 58 then some (l.take m, kk + 1) else none) := hid (by rw [nameL, hm, hkk])
  clear hm hkk hn
  go_enter Tryz.func58, Tryz.ntmps58
  go_upto_block 0 with fail
  go_cut [4] from 6 to 29 (fun s5 wx => s5 = .int .i64 (m : Int) ∧ w = wx)
  case first =>
    go_wp2_with fail
    go_loopw [4] (fun v5 wr => ∃ k : Nat, k ≤ n ∧ v5 = .int .i64 (k : Int) ∧ Hid (k + sp nmc (l.drop k) = m) ∧ w = wr) (fun v5 wr => n - (intOf v5).toNat)
    case atStart => exact ⟨0, Nat.zero_le _, rfl, I0, rfl⟩
    case round =>
      clear I0 HK
      obtain ⟨k, hk2, rfl, HI, rfl⟩ := hrel
      by_cases hlt : k < n
      · have d1 := lt_t hlt
        have d1' := lt_nt hlt
        have e0 : (0 : Int) ≤ (k : Int) := by omega
        have e1 : (k : Int) < ((str l).size : Int) := by rw [hsz]; omega
        have e3 : (k : Int).toNat = k := by omega
        have hkl : k < l.length := by rw [HN.out]; exact hlt
        have hks : k < (str l).size := hkl
        have HL := hid hkl
        obtain ⟨z, hzz⟩ : ∃ z, l[k]'hkl = z := ⟨_, rfl⟩
        have HZ : Hid (l[k]'HL.out = z) := hid hzz
        have h1 : (str l)[k]'hks = z := (str_get l k hks).trans hzz
        obtain ⟨q, hz⟩ : ∃ q, z.toNat = q := ⟨_, rfl⟩
        clear hkl hzz
        by_cases a1 : 33 ≤ q
        · have f1 : decide ((33 : Int) ≤ (q : Int)) = true := ge_t a1
          have f1' := ge_nt a1
          by_cases a2 : q ≤ 126
          · have f2 : decide ((q : Int) ≤ 126) = true := ge_t a2
            have f2' := ge_nt a2
            by_cases a3 : q = 58
            · subst a3
              have HF : Hid (k = m) := hid (by rw [← HI.out, sp_no nmc l k HL.out z HZ.out (by unfold nmc; rw [hz]; simp <;> omega)]; rfl)
              clear HI HZ
              go_wp2_with fail
              go_meet
              exact ⟨by rw [HF.out], rfl⟩
            · have f3 : ((q : Int) != 58) = true := ne_t a3
              have f3' := ne_nt a3
              have HF : Hid ((k + 1) + sp nmc (l.drop (k + 1)) = m) := hid (by rw [← HI.out, sp_yes nmc l k HL.out z HZ.out (by unfold nmc; rw [hz]; simp <;> omega)]; omega)
              clear HI HZ
              go_wp2_with fail
              go_roundw
              case rel => exact ⟨k + 1, by omega, by go_num, HF, trivial⟩
              case measure => simp [intOf]; omega
          · have f2 : decide ((q : Int) ≤ 126) = false := ge_f a2
            have f2' := ge_nf a2
            have HF : Hid (k = m) := hid (by rw [← HI.out, sp_no nmc l k HL.out z HZ.out (by unfold nmc; rw [hz]; simp <;> omega)]; rfl)
            clear HI HZ
            go_wp2_with fail
            go_meet
            exact ⟨by rw [HF.out], rfl⟩
        · have f1 : decide ((33 : Int) ≤ (q : Int)) = false := ge_f a1
          have f1' := ge_nf a1
          have HF : Hid (k = m) := hid (by rw [← HI.out, sp_no nmc l k HL.out z HZ.out (by unfold nmc; rw [hz]; simp <;> omega)]; rfl)
          clear HI HZ
          go_wp2_with fail
          go_meet
          exact ⟨by rw [HF.out], rfl⟩
      · have d1 := lt_f hlt
        have d1' := lt_nf hlt
        have HF : Hid (k = m) := hid (by rw [← HI.out, sp_end nmc l k (by rw [HN.out]; omega)]; rfl)
        clear HI
        go_wp2_with fail
        go_meet
        exact ⟨by rw [HF.out], rfl⟩
  case rest =>
  obtain ⟨rfl, rfl⟩ := hcut
  clear I0
  by_cases hm0 : m = 0
  · subst hm0
    have HE : Hid (nameL l = none) := hid (by rw [HNM.out, if_pos rfl])
    clear HNM HK
    go_wp2_with fail
    go_loopw [5] (fun v6 wr => v6 = .int .i64 ((0 : Nat) : Int) ∧ w = wr) (fun v6 wr => 0)
    case atStart => exact ⟨rfl, rfl⟩
    case round =>
      obtain ⟨rfl, rfl⟩ := hrel
      go_wp2_with fail
      go_ret2
      exact ⟨by rw [HE.out]; rfl, rfl⟩
  have g1 : decide ((0 : Int) < (m : Int)) = true := lt_t (a := 0) (by omega)
  have g1' : decide (0 < m) = true := lt_nt (by omega)
  go_wp2_with fail
  go_loopw [5] (fun v6 wr => ∃ k : Nat, k ≤ n ∧ v6 = .int .i64 (k : Int) ∧ Hid (k + sp bl (l.drop k) = kk) ∧ w = wr) (fun v6 wr => n - (intOf v6).toNat)
  case atStart => exact ⟨m, hmn, rfl, HK, rfl⟩
  case round =>
    clear HK
    obtain ⟨k, hk2, rfl, HI, rfl⟩ := hrel
    by_cases hlt : k < n
    · have d1 := lt_t hlt
      have d1' := lt_nt hlt
      have e0 : (0 : Int) ≤ (k : Int) := by omega
      have e1 : (k : Int) < ((str l).size : Int) := by rw [hsz]; omega
      have e3 : (k : Int).toNat = k := by omega
      have j0 : (0 : Int) ≤ (m : Int) := by omega
      have j1 : (m : Int) ≤ ((str l).size : Int) := by rw [hsz]; omega
      have j2 : (m : Int).toNat = m := by omega
      have hx : (str l).extract 0 m = str (l.take m) := by rw [str_extract, List.drop_zero, Nat.sub_zero]
      have hkl : k < l.length := by rw [HN.out]; exact hlt
      have hks : k < (str l).size := hkl
      have HL := hid hkl
      obtain ⟨z, hzz⟩ : ∃ z, l[k]'hkl = z := ⟨_, rfl⟩
      have HZ : Hid (l[k]'HL.out = z) := hid hzz
      have h1 : (str l)[k]'hks = z := (str_get l k hks).trans hzz
      have HB := hid (fun X => rblank_any z X)
      obtain ⟨t, ht⟩ : ∃ t, bl z = t := ⟨_, rfl⟩
      rw [ht] at HB
      unfold B8 at HB
      have hnm : k = kk → nameL l = if z.toNat = 58 then some (l.take m, kk + 1) else none := fun e => by
        subst e
        rw [HNM.out, if_neg hm0, List.getElem?_eq_getElem HL.out, HZ.out, Option.map_some]
        by_cases h : z.toNat = 58
        · rw [if_pos h, h, if_pos rfl]
        · rw [if_neg h, if_neg (fun e => h (by injection e))]
      have HNE := hid hnm
      clear hkl hzz HNM hnm
      by_cases h58 : z.toNat = 58
      · have htf : bl z = false := by unfold bl; rw [h58]; rfl
        have HF : k = kk := by rw [← HI.out, sp_no bl l k HL.out z HZ.out htf]; rfl
        have HE : Hid (nameL l = some (l.take m, k + 1)) := hid (by rw [HNE.out HF, if_pos h58, HF])
        have q1 : ((z.toNat : Int) == 58) = true := by rw [h58]; rfl
        have q1' : (z.toNat == 58) = true := by rw [h58]; rfl
        clear HI HZ ht htf HF HNE h58
        go_wp2_with fail
        go_ret2
        exact ⟨by rw [HE.out]; unfold rnmV; simp, rfl⟩
      have q1 : ((z.toNat : Int) == 58) = false := ne_f h58
      have q1' := ne_n h58
      cases t with
      | true =>
        have HF : Hid ((k + 1) + sp bl (l.drop (k + 1)) = kk) := hid (by rw [← HI.out, sp_yes bl l k HL.out z HZ.out ht]; omega)
        clear HI HZ ht HNE
        go_wp2_with (go_at_call 57; refine (HB.out _).mono ?_; rintro e w3 ⟨rfl, rfl⟩)
        go_roundw
        case rel => exact ⟨k + 1, by omega, by go_num, HF, trivial⟩
        case measure => simp [intOf]; omega
      | false =>
        have HF : k = kk := by rw [← HI.out, sp_no bl l k HL.out z HZ.out ht]; rfl
        have HE : Hid (nameL l = none) := hid (by rw [HNE.out HF, if_neg h58])
        clear HI HZ ht HF HNE h58
        go_wp2_with (go_at_call 57; refine (HB.out _).mono ?_; rintro e w3 ⟨rfl, rfl⟩)
        go_ret2
        exact ⟨by rw [HE.out]; rfl, rfl⟩
    · have d1 := lt_f hlt
      have d1' := lt_nf hlt
      have HF : k = kk := by rw [← HI.out, sp_end bl l k (by rw [HN.out]; omega)]; rfl
      have HE : Hid (nameL l = none) := hid (by
        rw [HNM.out, if_neg hm0, List.getElem?_eq_none (by rw [HN.out]; omega), if_neg (fun h => by cases h)])
      clear HI HF HNM
      go_wp2_with fail
      go_ret2
      exact ⟨by rw [HE.out]; rfl, rfl⟩
def ltrim (l : List UInt8) : List UInt8 := l.dropWhile bl
def rtrim (l : List UInt8) : List UInt8 := (l.reverse.dropWhile bl).reverse
theorem bl_contains (c : UInt8) : ([32, 9] : List UInt8).contains c = bl c := by
  unfold bl
  have e : ∀ k : UInt8, (c == k) = (c.toNat == k.toNat) := fun k => by
    rw [Bool.eq_iff_iff, beq_iff_eq, beq_iff_eq]
    exact ⟨fun h => by rw [h], fun h => UInt8.toNat_inj.1 h⟩
  simp only [List.contains_cons, List.contains_nil, Bool.or_false, e]
  rfl
theorem trimB_eq (l : List UInt8) : trimB l = ltrim (rtrim l) := by
  unfold trimB Lib.trimS Lib.trimLeftS Lib.trimRightS ltrim rtrim
  have e : (fun x => ([32, 9] : List UInt8).contains x) = bl := funext bl_contains
  rw [e]
theorem rtrim_append (l : List UInt8) (c : UInt8) : rtrim (l ++ [c]) = if bl c = true then rtrim l else l ++ [c] := by
  unfold rtrim
  rw [List.reverse_append, List.reverse_singleton, List.singleton_append, List.dropWhile_cons]
  split
  · rfl
  · rw [List.reverse_cons, List.reverse_reverse]
theorem rtrim_nil : rtrim [] = [] := rfl
theorem ltrim_rtrim (l : List UInt8) : ltrim (rtrim l) = rtrim (ltrim l) := by
  induction l with
  | nil => rfl
  | cons c l ih =>
    by_cases hc : bl c = true
    · have e1 : ltrim (c :: l) = ltrim l := by unfold ltrim; rw [List.dropWhile_cons, if_pos hc]
      rw [e1, ← ih]
      -- c is blank
      by_cases hr : rtrim l = []
      · have : rtrim (c :: l) = [] := by
          unfold rtrim at hr ⊢
          rw [List.reverse_cons, List.dropWhile_append]
          have h2 : l.reverse.dropWhile bl = [] := by
            have := congrArg List.reverse hr
            rw [List.reverse_reverse] at this
            exact this
          rw [h2]
          simp [List.dropWhile_cons, hc]
        rw [this, hr]
      · have : rtrim (c :: l) = c :: rtrim l := by
          unfold rtrim at hr ⊢
          rw [List.reverse_cons, List.dropWhile_append]
          have h2 : (l.reverse.dropWhile bl).isEmpty = false := by
            cases h : l.reverse.dropWhile bl with
            | nil => rw [h] at hr; exact absurd rfl hr
            | cons a b => rfl
          rw [h2]
          simp
        rw [this]
        unfold ltrim
        rw [List.dropWhile_cons, if_pos hc]
    · have e1 : ltrim (c :: l) = c :: l := by unfold ltrim; rw [List.dropWhile_cons, if_neg hc]
      have e2 : ∃ r, rtrim (c :: l) = c :: r := by
        unfold rtrim
        rw [List.reverse_cons, List.dropWhile_append]
        split
        · exact ⟨[], by rw [List.dropWhile_cons, if_neg hc]; rfl⟩
        · exact ⟨_, by rw [List.reverse_append]; rfl⟩
      obtain ⟨r, hr⟩ := e2
      rw [e1, hr]
      unfold ltrim
      rw [List.dropWhile_cons, if_neg hc]
def szS : Value → Nat
  | .string b => b.size
  | _ => 0
theorem ltrim_cons (c : UInt8) (r : List UInt8) (h : bl c = true) : ltrim (c :: r) = ltrim r := by unfold ltrim; rw [List.dropWhile_cons, if_pos h]
theorem ltrim_stop (c : UInt8) (r : List UInt8) (h : bl c = false) : ltrim (c :: r) = c :: r := by unfold ltrim; rw [List.dropWhile_cons, if_neg (by rw [h]; decide)]
theorem snoc_of (l : List UInt8) (n : Nat) (h : l.length = n + 1) : ∃ (r : List UInt8) (c : UInt8), l = r ++ [c] ∧ r.length = n := by
  refine ⟨l.take n, l[n]'(by omega), ?_, by rw [List.length_take]; omega⟩
  rw [← List.take_succ_eq_append_getElem (by omega), List.take_of_length_le (by omega)]
set_option maxRecDepth 100000 in
set_option maxHeartbeats 4000000 in
theorem rtrim17_any (y : List UInt8) (w : World) (hl : y.length ≤ 100000) :
    Calls Tryz.prog 59 #[.string (str y)] w fun e w' => e = .returned (.string (str (trimB y))) ∧ w = w' := by
  obtain ⟨n, hn⟩ : ∃ n, y.length = n := ⟨_, rfl⟩
  rw [hn] at hl
  have HL := hid (Nat.le_of_eq hn)
  clear hn
  go_enter Tryz.func59, Tryz.ntmps59
  go_upto_block 0 with fail
  go_cut [0] from 3 to 12 (fun s3 wx => s3 = .string (str (ltrim y)) ∧ w = wx)
  case first =>
    go_wp2_with fail
    go_loopw [0] (fun v3 wr => ∃ z : List UInt8, v3 = .string (str z) ∧ Hid (ltrim z = ltrim y) ∧ z.length ≤ n ∧ w = wr) (fun v3 wr => szS v3)
    case atStart => exact ⟨y, rfl, hid rfl, HL.out, rfl⟩
    case round =>
      obtain ⟨z, rfl, HZ, hzn, rfl⟩ := hrel
      rcases (by cases z with | nil => exact .inl rfl | cons c r => exact .inr ⟨c, r, rfl⟩ : z = [] ∨ ∃ c r, z = c :: r) with hz | ⟨c, r, hz⟩
      · subst hz
        have hsz : (str []).size = 0 := rfl
        have HZ2 : Hid (ltrim y = []) := hid HZ.out.symm
        go_wp2_with fail
        go_meet
        exact ⟨by rw [HZ2.out], rfl⟩
      · obtain ⟨m, hm⟩ : ∃ m, r.length = m := ⟨_, rfl⟩
        have hsz : (str z).size = m + 1 := by rw [hz, str_size, List.length_cons, hm]
        have d1 : decide ((0 : Int) < (m : Int) + 1) = true := by rw [decide_eq_true_iff]; omega
        have d1' : decide (0 < m + 1) = true := by simp
        have h0 : 0 < (str z).size := by rw [hsz]; omega
        have hc : (str z)[0]'h0 = c := by subst hz; rfl
        have hx : (str z).extract 1 (m + 1) = str r := by rw [hz, str_extract, List.drop_succ_cons, List.drop_zero, List.take_of_length_le (by omega)]
        have e1 : (0 : Int) < ((str z).size : Int) := by rw [hsz]; omega
        have hrn : r.length ≤ n := by rw [hz] at hzn; simp at hzn; omega
        have hmn : m ≤ n := by omega
        have hzr : (str r).size = m := hm
        have HB := hid (fun X => rblank_any c X)
        obtain ⟨t, ht⟩ : ∃ t, bl c = t := ⟨_, rfl⟩
        rw [ht] at HB
        unfold B8 at HB
        cases t with
        | true =>
          have HZ2 : Hid (ltrim r = ltrim y) := hid ((ltrim_cons c r ht).symm.trans (hz ▸ HZ.out))
          clear HZ hz ht
          go_wp2_with (go_at_call 57; refine (HB.out _).mono ?_; rintro e w3 ⟨rfl, rfl⟩)
          go_roundw
          case rel => exact ⟨r, rfl, HZ2, hrn, trivial⟩
          case measure => (simp [szS, hsz, hzr])
        | false =>
          have HZ2 : Hid (ltrim y = z) := hid (by rw [← HZ.out, hz]; exact ltrim_stop c r ht)
          clear HZ hz ht
          go_wp2_with (go_at_call 57; refine (HB.out _).mono ?_; rintro e w3 ⟨rfl, rfl⟩)
          go_meet
          exact ⟨by rw [HZ2.out], rfl⟩
  case rest =>
  obtain ⟨rfl, rfl⟩ := hcut
  obtain ⟨y2, hy2⟩ : ∃ y2, ltrim y = y2 := ⟨_, rfl⟩
  have HF2 : Hid (trimB y = rtrim y2) := hid (by rw [trimB_eq, ltrim_rtrim, hy2])
  have hyl : y2.length ≤ n := by
    rw [← hy2]
    unfold ltrim
    exact Nat.le_trans (List.Sublist.length_le (List.dropWhile_sublist _)) HL.out
  rw [hy2]
  clear hy2 HL
  go_wp2_with fail
  go_loopw [0] (fun v3 wr => ∃ z : List UInt8, v3 = .string (str z) ∧ Hid (rtrim z = rtrim y2) ∧ z.length ≤ n ∧ w = wr) (fun v3 wr => szS v3)
  case atStart => exact ⟨y2, rfl, hid rfl, hyl, rfl⟩
  case round =>
    clear hyl
    obtain ⟨z, rfl, HZ, hzn, rfl⟩ := hrel
    rcases (by cases h : z.length with | zero => exact .inl (List.eq_nil_of_length_eq_zero h) | succ m => obtain ⟨r, c, h1, h2⟩ := snoc_of z m h; exact .inr ⟨r, c, h1⟩ : z = [] ∨ ∃ r c, z = r ++ [c]) with hz | ⟨r, c, hz⟩
    · subst hz
      have hsz : (str []).size = 0 := rfl
      have HZ2 : Hid (trimB y = []) := hid (HF2.out.trans HZ.out.symm)
      go_wp2_with fail
      go_ret
      exact ⟨by rw [HZ2.out]; rfl, rfl⟩
    · obtain ⟨m, hm⟩ : ∃ m, r.length = m := ⟨_, rfl⟩
      have hsz : (str z).size = m + 1 := by rw [hz, str_size, List.length_append, hm]; rfl
      have d1 : decide ((0 : Int) < (m : Int) + 1) = true := by rw [decide_eq_true_iff]; omega
      have d1' : decide (0 < m + 1) = true := by simp
      have h0 : m < (str z).size := by rw [hsz]; omega
      have hc : (str z)[m]'h0 = c := by
        subst hz
        rw [str_get, List.getElem_append_right (by omega)]
        simp [hm]
      have hx : (str z).extract 0 m = str r := by rw [hz, str_extract, List.drop_zero, Nat.sub_zero, List.take_append_of_le_length (by omega), List.take_of_length_le (by omega)]
      have e0 : (0 : Int) ≤ (m : Int) := by omega
      have e1 : (m : Int) < ((str z).size : Int) := by rw [hsz]; omega
      have e3 : (m : Int).toNat = m := by omega
      have hrn : r.length ≤ n := by rw [hz] at hzn; simp at hzn; omega
      have hmn : m ≤ n := by omega
      have hzr : (str r).size = m := hm
      have HB := hid (fun X => rblank_any c X)
      obtain ⟨t, ht⟩ : ∃ t, bl c = t := ⟨_, rfl⟩
      rw [ht] at HB
      unfold B8 at HB
      cases t with
      | true =>
        have HZ2 : Hid (rtrim r = rtrim y2) := hid (by rw [← HZ.out, hz, rtrim_append, if_pos ht])
        clear HZ hz ht
        go_wp2_with (go_at_call 57; refine (HB.out _).mono ?_; rintro e w3 ⟨rfl, rfl⟩)
        go_roundw
        case rel => exact ⟨r, rfl, HZ2, hrn, trivial⟩
        case measure => (simp [szS, hsz, hzr])
      | false =>
        have HZ2 : Hid (trimB y = z) := hid (by rw [HF2.out, ← HZ.out, hz, rtrim_append, if_neg (by rw [ht]; decide)])
        clear HZ hz ht
        go_wp2_with (go_at_call 57; refine (HB.out _).mono ?_; rintro e w3 ⟨rfl, rfl⟩)
        go_ret
        exact ⟨by rw [HZ2.out]; rfl, rfl⟩
end
section
open Go.RowKit
set_option linter.unusedVariables false
theorem cutL_flat (l : List UInt8) : (cutL l).flatten = l := by unfold cutL; rw [cutF_flat]; rfl
theorem cutF_ne : ∀ (l cur : List UInt8), ∀ x ∈ cutF cur l, x ≠ []
  | [], cur, x, hx => by
    unfold cutF at hx
    split at hx
    · cases hx
    · rename_i h
      rw [List.mem_singleton] at hx
      rw [hx]
      exact h
  | c :: l, cur, x, hx => by
    unfold cutF at hx
    split at hx
    · rcases List.mem_cons.1 hx with h | h
      · rw [h]; simp
      · exact cutF_ne l [] x h
    · exact cutF_ne l (cur ++ [c]) x hx
theorem cutL_ne (l : List UInt8) : ∀ x ∈ cutL l, x ≠ [] := cutF_ne l []
theorem flat_len : ∀ (ls : List (List UInt8)), (∀ x ∈ ls, x ≠ []) → ls.length ≤ ls.flatten.length
  | [], _ => Nat.le_refl _
  | x :: r, h => by
    have h1 := flat_len r (fun y hy => h y (List.mem_cons_of_mem _ hy))
    have h2 : 0 < x.length := List.length_pos_iff.2 (h x (List.mem_cons_self ..))
    simp only [List.length_cons, List.flatten_cons, List.length_append]
    omega
theorem cutL_len (l : List UInt8) : (cutL l).length ≤ l.length := by
  have := flat_len (cutL l) (cutL_ne l)
  rwa [cutL_flat] at this
theorem cutL_piece (l x : List UInt8) (h : x ∈ cutL l) : x.length ≤ l.length := by
  have h1 : x.length ≤ (cutL l).flatten.length := (List.sublist_flatten_of_mem h).length_le
  rwa [cutL_flat] at h1
/-- k octets are looked at, a line stands from fr on. -/
structure CutI (l : List UInt8) (k fr : Nat) (acc : List (List UInt8)) : Prop where
  le : fr ≤ k
  ml : acc.length ≤ fr
  eq : acc ++ cutF ((l.drop fr).take (k - fr)) (l.drop k) = cutL l
theorem CutI.start (l : List UInt8) : CutI l 0 0 [] := ⟨Nat.le_refl _, Nat.le_refl _, rfl⟩
theorem cur_snoc (l : List UInt8) (k fr : Nat) (h : fr ≤ k) (hk : k < l.length) (c : UInt8) (hc : l[k] = c) : (l.drop fr).take (k - fr) ++ [c] = (l.drop fr).take (k + 1 - fr) := by
  rw [show k + 1 - fr = (k - fr) + 1 by omega, List.take_succ_eq_append_getElem (by rw [List.length_drop]; omega)]
  congr 2
  rw [List.getElem_drop, ← hc]
  congr 1
  omega
theorem CutI.yes {l : List UInt8} {k fr : Nat} {acc : List (List UInt8)} (h : CutI l k fr acc) (hk : k < l.length) (c : UInt8) (hc : l[k] = c) (hz : c.toNat = 10) : CutI l (k + 1) (k + 1) (acc ++ [(l.drop fr).take (k + 1 - fr)]) := by
  refine ⟨Nat.le_refl _, by have := h.ml; have := h.le; simp; omega, ?_⟩
  rw [← h.eq, List.drop_eq_getElem_cons hk, hc, Nat.sub_self, List.take_zero, cutF, if_pos hz, cur_snoc l k fr h.le hk c hc]
  simp
theorem CutI.no {l : List UInt8} {k fr : Nat} {acc : List (List UInt8)} (h : CutI l k fr acc) (hk : k < l.length) (c : UInt8) (hc : l[k] = c) (hz : c.toNat ≠ 10) : CutI l (k + 1) fr acc := by
  refine ⟨by have := h.le; omega, h.ml, ?_⟩
  rw [← h.eq, List.drop_eq_getElem_cons hk, hc, cutF, if_neg hz, cur_snoc l k fr h.le hk c hc]
theorem CutI.fin {l : List UInt8} {fr : Nat} {acc : List (List UInt8)} (h : CutI l l.length fr acc) : (fr < l.length → acc ++ [l.drop fr] = cutL l) ∧ (¬ fr < l.length → acc = cutL l) := by
  have e := h.eq
  rw [List.drop_length, cutF, List.take_of_length_le (by rw [List.length_drop]; exact Nat.le_refl _)] at e
  constructor
  · intro hf
    rw [if_neg (by intro h2; have := congrArg List.length h2; simp at this; omega)] at e
    exact e
  · intro hf
    rw [if_pos (List.drop_of_length_le (by omega)), List.append_nil] at e
    exact e
/-- a octets lie ahead of the k-th line. -/
structure SpI (l : List UInt8) (k a : Nat) : Prop where
  sum : a + ((cutL l).drop k).flatten.length = l.length
theorem SpI.start (l : List UInt8) : SpI l 0 0 := ⟨by rw [List.drop_zero, cutL_flat, Nat.zero_add]⟩
theorem SpI.le {l : List UInt8} {k a : Nat} (h : SpI l k a) : a ≤ l.length := by have := h.sum; omega
theorem SpI.step {l : List UInt8} {k a : Nat} (h : SpI l k a) (hk : k < (cutL l).length) (x : List UInt8) (hx : (cutL l)[k] = x) : SpI l (k + 1) (a + x.length) := ⟨by
  have := h.sum
  rw [List.drop_eq_getElem_cons hk, hx, List.flatten_cons, List.length_append] at this
  omega⟩
end
end Go.Proofs.YtonjadmldgloaaaGreatDoor.D17
