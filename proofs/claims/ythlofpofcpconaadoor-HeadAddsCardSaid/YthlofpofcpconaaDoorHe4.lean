/-
  With which a line begins: the walk. A part of the proof: see the head of the text that ends in 'Law'.
-/
import Derived.Test.YthlofpofcpconaaDoorHePlain2
import Derived.Test.YthlofpofcpconaaDoorHe3
namespace Go.Proofs.YthlofpofcpconaaDoor
open Go.RowKit Go.Shelf
set_option linter.unusedVariables false
attribute [local go_sem] Oper.semAt_some

theorem ne_f {a b : Nat} (h : ¬ a = b) : ((a : Int) == (b : Int)) = false := by
  rw [beq_eq_false_iff_ne]
  intro e
  exact h (by omega)
theorem ne_t {a b : Nat} (h : ¬ a = b) : ((a : Int) != (b : Int)) = true := by rw [bne, ne_f h]; rfl
theorem ne_n {a b : Nat} (h : ¬ a = b) : (a == b) = false := by simpa using h
theorem ne_nt {a b : Nat} (h : ¬ a = b) : (a != b) = true := by simpa using h
theorem lt_t {a b : Nat} (h : a < b) : decide ((a : Int) < (b : Int)) = true := by simp; omega
theorem lt_f {a b : Nat} (h : ¬ a < b) : decide ((a : Int) < (b : Int)) = false := by simp; omega
theorem lt_nt {a b : Nat} (h : a < b) : decide (a < b) = true := by simpa using h
theorem lt_nf {a b : Nat} (h : ¬ a < b) : decide (a < b) = false := by simpa using h
def nmV : Option (List UInt8 × Nat) → Value
  | none => .tuple #[.string ⟨#[]⟩, .int .i64 0, .bool false]
  | some (m, k) => .tuple #[.string (str m), .int .i64 (k : Int), .bool true]
set_option maxRecDepth 100000 in
set_option maxHeartbeats 4000000 in
theorem begin_any (A : Option Addr) (n c : Nat) (l : List UInt8) (w : World) (ho : Oct w A n l) (hnc : n ≤ c) (hl : n ≤ 100000) :
    Calls Tryd.prog 36 #[.slice A n c] w fun e w' => e = .returned (nmV (nameL l)) ∧ w = w' := by
  have HO := hid ho
  have HN : Hid (l.length = n) := hid ho.1
  obtain ⟨m, hm⟩ : ∃ m, nmN l = m := ⟨_, rfl⟩
  obtain ⟨kk, hkk⟩ : ∃ kk, nmK l = kk := ⟨_, rfl⟩
  have I0 : Hid (0 + sp nmc (l.drop 0) = m) := hid (by rw [← hm, Nat.zero_add]; rfl)
  have HK : Hid (m + sp bl (l.drop m) = kk) := hid (by rw [← hkk, ← hm]; rfl)
  have hmn : m ≤ n := by rw [← hm, ← HN.out]; exact sp_le nmc l
  have HNM : Hid (nameL l = if m = 0 then none else if l[kk]?.map (·.toNat) = some 58 then some (l.take m, kk + 1) else none) := hid (by rw [nameL, hm, hkk])
  clear ho hm hkk
  go_enter Tryd.func36, Tryd.ntmps36
  go_upto_block 0 with fail
  go_cut [5] from 7 to 33 (fun s5 wx => s5 = .int .i64 (m : Int) ∧ w = wx)
  case first =>
    go_wp2_with fail
    go_loopw [5] (fun v5 wr => ∃ k : Nat, k ≤ n ∧ v5 = .int .i64 (k : Int) ∧ Hid (k + sp nmc (l.drop k) = m) ∧ w = wr) (fun v5 wr => n - (intOf v5).toNat)
    case atStart => exact ⟨0, Nat.zero_le _, rfl, I0, rfl⟩
    case round =>
      clear I0 HK
      obtain ⟨k, hk2, rfl, HI, rfl⟩ := hrel
      by_cases hlt : k < n
      · have d1 := lt_t hlt
        have d1' := lt_nt hlt
        have e0 : (0 : Int) ≤ (k : Int) := by omega
        have e1 : (k : Int) < (n : Int) := by omega
        have e3 : (k : Int).toNat = k := by omega
        have hkl : k < l.length := by rw [HN.out]; exact hlt
        have HL := hid hkl
        obtain ⟨b, off, rfl, hcell⟩ := HO.out.at_ (by omega)
        have h1 := hcell k hkl
        obtain ⟨z, hzz⟩ : ∃ z, l[k]'hkl = z := ⟨_, rfl⟩
        have HZ : Hid (l[k]'HL.out = z) := hid hzz
        rw [hzz] at h1
        obtain ⟨q, hz⟩ : ∃ q, z.toNat = q := ⟨_, rfl⟩
        rw [hz] at h1
        clear hcell hkl hzz
        by_cases a1 : 32 < q
        · have f1 : decide ((32 : Int) < (q : Int)) = true := lt_t a1
          have f1' := lt_nt a1
          by_cases a2 : q < 127
          · have f2 : decide ((q : Int) < 127) = true := lt_t a2
            have f2' := lt_nt a2
            by_cases a3 : q = 58
            · subst a3
              have HF : Hid (k = m) := hid (by rw [← HI.out, sp_no nmc l k HL.out z HZ.out (by unfold nmc; rw [hz]; simp <;> omega)]; rfl)
              clear HI HZ hz
              go_wp2_with fail
              go_meet
              exact ⟨by rw [HF.out], rfl⟩
            · have f3 : ((q : Int) != 58) = true := ne_t a3
              have f3' := ne_nt a3
              have HF : Hid ((k + 1) + sp nmc (l.drop (k + 1)) = m) := hid (by rw [← HI.out, sp_yes nmc l k HL.out z HZ.out (by unfold nmc; rw [hz]; simp <;> omega)]; omega)
              clear HI HZ hz
              go_wp2_with fail
              go_roundw
              case rel => exact ⟨k + 1, by omega, by go_num, HF, trivial⟩
              case measure => simp [intOf]; omega
          · have f2 : decide ((q : Int) < 127) = false := lt_f a2
            have f2' := lt_nf a2
            have HF : Hid (k = m) := hid (by rw [← HI.out, sp_no nmc l k HL.out z HZ.out (by unfold nmc; rw [hz]; simp <;> omega)]; rfl)
            clear HI HZ hz
            go_wp2_with fail
            go_meet
            exact ⟨by rw [HF.out], rfl⟩
        · have f1 : decide ((32 : Int) < (q : Int)) = false := lt_f a1
          have f1' := lt_nf a1
          have HF : Hid (k = m) := hid (by rw [← HI.out, sp_no nmc l k HL.out z HZ.out (by unfold nmc; rw [hz]; simp <;> omega)]; rfl)
          clear HI HZ hz
          go_wp2_with fail
          go_meet
          exact ⟨by rw [HF.out], rfl⟩
      · have d1 := lt_f hlt
        have d1' := lt_nf hlt
        have HF : Hid (k = m) := hid (by rw [← HI.out, sp_end nmc l k (by rw [HN.out]; omega)]; rfl)
        clear HI
        go_wp2_with fail
        go_meet
        exact ⟨by rw [HF.out], rfl⟩
  case rest =>
  obtain ⟨rfl, rfl⟩ := hcut
  clear I0
  go_upto_block 2 with fail
  go_cut [6] from 35 to 47 (fun s6 wx => s6 = .int .i64 (kk : Int) ∧ w = wx ∧ kk ≤ n)
  case first =>
    go_wp2_with fail
    go_loopw [6] (fun v6 wr => ∃ k : Nat, k ≤ n ∧ v6 = .int .i64 (k : Int) ∧ Hid (k + sp bl (l.drop k) = kk) ∧ w = wr) (fun v6 wr => n - (intOf v6).toNat)
    case atStart => exact ⟨m, hmn, rfl, HK, rfl⟩
    case round =>
      clear HK
      obtain ⟨k, hk2, rfl, HI, rfl⟩ := hrel
      by_cases hlt : k < n
      · have d1 := lt_t hlt
        have d1' := lt_nt hlt
        have e0 : (0 : Int) ≤ (k : Int) := by omega
        have e1 : (k : Int) < (n : Int) := by omega
        have e3 : (k : Int).toNat = k := by omega
        have hkl : k < l.length := by rw [HN.out]; exact hlt
        have HL := hid hkl
        obtain ⟨b, off, rfl, hcell⟩ := HO.out.at_ (by omega)
        have h1 := hcell k hkl
        obtain ⟨z, hzz⟩ : ∃ z, l[k]'hkl = z := ⟨_, rfl⟩
        have HZ : Hid (l[k]'HL.out = z) := hid hzz
        rw [hzz] at h1
        have HB := hid (fun X => blank17_any z X)
        obtain ⟨t, ht⟩ : ∃ t, bl z = t := ⟨_, rfl⟩
        rw [ht] at HB
        unfold B8 at HB
        clear hcell hkl hzz
        cases t with
        | true =>
          have HF : Hid ((k + 1) + sp bl (l.drop (k + 1)) = kk) := hid (by rw [← HI.out, sp_yes bl l k HL.out z HZ.out ht]; omega)
          clear HI HZ ht
          go_wp2_with (go_at_call 35; refine (HB.out _).mono ?_; rintro e w3 ⟨rfl, rfl⟩)
          go_roundw
          case rel => exact ⟨k + 1, by omega, by go_num, HF, trivial⟩
          case measure => simp [intOf]; omega
        | false =>
          have HF : Hid (k = kk) := hid (by rw [← HI.out, sp_no bl l k HL.out z HZ.out ht]; rfl)
          clear HI HZ ht
          go_wp2_with (go_at_call 35; refine (HB.out _).mono ?_; rintro e w3 ⟨rfl, rfl⟩)
          go_meet
          exact ⟨by rw [HF.out], rfl, by rw [← HF.out]; exact hk2⟩
      · have d1 := lt_f hlt
        have d1' := lt_nf hlt
        have HF : Hid (k = kk) := hid (by rw [← HI.out, sp_end bl l k (by rw [HN.out]; omega)]; rfl)
        clear HI
        go_wp2_with fail
        go_meet
        exact ⟨by rw [HF.out], rfl, by rw [← HF.out]; exact hk2⟩
  case rest =>
  obtain ⟨rfl, rfl, hkn⟩ := hcut
  clear HK
  by_cases hm0 : m = 0
  · subst hm0
    have HE : Hid (nameL l = none) := hid (by rw [HNM.out, if_pos rfl])
    clear HNM
    go_wp2_with fail
    go_ret3
    exact ⟨by rw [HE.out]; rfl, rfl⟩
  have g1 : ((m : Int) == 0) = false := ne_f hm0
  have g1' := ne_n hm0
  by_cases hkk : kk = n
  · subst hkk
    have g2 : ((kk : Int) == (kk : Int)) = true := by simp
    have g2' : (kk == kk) = true := by simp
    have HE : Hid (nameL l = none) := hid (by
      rw [HNM.out, if_neg hm0, List.getElem?_eq_none (by rw [HN.out]; exact Nat.le_refl _), if_neg (fun h => by cases h)])
    clear HNM
    go_wp2_with fail
    go_ret3
    exact ⟨by rw [HE.out]; rfl, rfl⟩
  have g2 := ne_f hkk
  have g2' := ne_n hkk
  have hkl : kk < l.length := by rw [HN.out]; omega
  have e0 : (0 : Int) ≤ (kk : Int) := by omega
  have e1 : (kk : Int) < (n : Int) := by omega
  have e3 : (kk : Int).toNat = kk := by omega
  obtain ⟨b, off, rfl, hcell⟩ := HO.out.at_ (by omega)
  have h1 := hcell kk hkl
  obtain ⟨z, hzz⟩ : ∃ z, l[kk]'hkl = z := ⟨_, rfl⟩
  rw [hzz] at h1
  have hnm := HNM.out
  rw [if_neg hm0, List.getElem?_eq_getElem hkl, hzz, Option.map_some] at hnm
  obtain ⟨q, hz⟩ : ∃ q, z.toNat = q := ⟨_, rfl⟩
  rw [hz] at h1 hnm
  clear hcell hzz hz HNM hkl
  by_cases h58 : q = 58
  · subst h58
    have HE : Hid (nameL l = some (l.take m, kk + 1)) := hid (by rw [hnm, if_pos rfl])
    have j0 : (0 : Int) ≤ (m : Int) := by omega
    have j1 : (m : Int) ≤ (n : Int) := by omega
    have j2 : (m : Int).toNat = m := by omega
    have kc : (convert 22 9 (.slice (some ⟨b, off, none⟩) m c)).run Tryd.prog w = .ok (.string (str (l.take m))) w := run_string_oct c (HO.out.take m (by omega)) Tryd.underlying22 Tryd.underlying5 Tryd.underlying9
    clear hnm
    go_wp2_with fail
    go_ret3
    exact ⟨by rw [HE.out]; unfold nmV; simp, rfl⟩
  · have HE : Hid (nameL l = none) := hid (by rw [hnm, if_neg (fun h => h58 (by injection h))])
    have g3 : ((q : Int) != 58) = true := ne_t h58
    have g3' := ne_nt h58
    clear hnm
    go_wp2_with fail
    go_ret3
    exact ⟨by rw [HE.out]; rfl, rfl⟩
end Go.Proofs.YthlofpofcpconaaDoor
