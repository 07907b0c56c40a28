/-
  blank and find. A part of the proof: see the head of the text that ends in 'Law'.
-/
import Derived.Test.YtdanhdiinkgjnaaDoorShelf
import Derived.Test.YtdanhdiinkgjnaaDoorAdPlain
import Derived.Test.YtdanhdiinkgjnaaDoorProg
import Derived.WalkMore
import Derived.BigRegion
namespace Go.Proofs.YtdanhdiinkgjnaaDoor
open Go.RowKit
set_option linter.unusedVariables false
attribute [local go_sem] Oper.semAt_some

def U (n : Nat) : Value := .int .i64 (n : Int)
theorem row_at {α : Type} {w : World} {A : Option Addr} {f : α → Value} {l : List α} (h : Row w A (l.map f)) {k : Nat} (hk : k < l.length) : ∃ b off, A = some ⟨b, off, none⟩ ∧ ∀ (j : Nat) (hj : j < l.length), w.cell? ⟨b, off + j, none⟩ = some (f (l[j]'hj)) := by
  obtain ⟨b, off, hA, hc⟩ := h (by intro e; have := congrArg List.length e; simp at this; subst this; simp at hk)
  exact ⟨b, off, hA, fun j hj => hc j _ (by rw [List.getElem?_map, List.getElem?_eq_getElem hj]; rfl)⟩
theorem blank_any (c : UInt8) (w : World) : Calls Tryd.prog 26 #[B8 c] w fun e w' => e = .returned (.bool (bl c)) ∧ w = w' := by
  unfold B8 bl
  obtain ⟨n, hn⟩ : ∃ n, c.toNat = n := ⟨_, rfl⟩
  rw [hn]
  clear hn
  by_cases h3 : n = 32
  · subst h3
    go_enter Tryd.func26, Tryd.ntmps26
    go_wp2
    go_ret
    exact ⟨rfl, rfl⟩
  · have d3 : ((n : Int) == 32) = false := by simpa using fun h : (n : Int) = 32 => h3 (by omega)
    have d3' : (n == 32) = false := by simpa using h3
    have d5 : ((n : Int) == 9) = (n == 9) := by rw [Bool.eq_iff_iff, beq_iff_eq, beq_iff_eq]; omega
    rw [d3']
    clear h3 d3'
    go_enter Tryd.func26, Tryd.ntmps26
    go_wp2
    go_ret
    exact ⟨rfl, rfl⟩
/-- The first plain sign of a kind. -/
def fdL (z : Nat) : Nat → List (UInt8 × Nat) → Option Nat
  | _, [] => none
  | i, (c, u) :: l => if u = 0 ∧ c.toNat = z then some i else fdL z (i + 1) l
def fdI : Option Nat → Int
  | none => -1
  | some k => (k : Int)
theorem str_map_get {P : List (UInt8 × Nat)} {s : List UInt8} (hs : P.map (·.1) = s) {k : Nat} (hk : k < (str s).size) (hp : k < P.length) : (str s)[k]'hk = (P[k]'hp).1 := by
  subst hs
  rw [str_get, List.getElem_map]
set_option maxRecDepth 100000 in
set_option maxHeartbeats 4000000 in
theorem find_any (P : List (UInt8 × Nat)) (s : List UInt8) (hs : P.map (·.1) = s) (A : Option Addr) (n cp : Nat) (hn : P.length = n) (z : Nat) (k0 : Nat) (w : World) (hr : Row w A (P.map fun x => U x.2)) (hk : k0 ≤ n) (hl : n ≤ 1000000) :
    Calls Tryd.prog 24 #[.string (str s), .slice A n cp, .int .u8 (z : Int), .int .i64 (k0 : Int)] w fun e w' => e = .returned (.int .i64 (fdI (fdL z k0 (P.drop k0)))) ∧ w = w' := by
  have hsz : (str s).size = n := by rw [← hs, str_size, List.length_map, hn]
  have HS := hid hs
  have HR := hid hr
  have HN := hid hn
  clear hs hr hn
  go_enter Tryd.func24, Tryd.ntmps24
  go_wp2_with fail
  go_loopw [9] (fun v wr => ∃ k : Nat, k0 ≤ k ∧ k ≤ n ∧ v = .int .i64 (k : Int) ∧ Hid (fdL z k0 (P.drop k0) = fdL z k (P.drop k)) ∧ w = wr) (fun v wr => n - (intOf v).toNat)
  case atStart => exact ⟨k0, Nat.le_refl _, hk, rfl, hid rfl, rfl⟩
  case round =>
    obtain ⟨k, hk1, hk2, rfl, HE, rfl⟩ := hrel
    by_cases hlt : k < n
    · have d1 : decide ((k : Int) < ((str s).size : Int)) = true := by rw [hsz]; simp; omega
      have d1' : decide (k < (str s).size) = true := by rw [hsz]; simp; omega
      have d2 : decide (k < n) = true := by simp; omega
      have hks : k < (str s).size := by rw [hsz]; omega
      have hkp : k < P.length := by rw [HN.out]; exact hlt
      have e0 : (0 : Int) ≤ (k : Int) := by omega
      have e1 : (k : Int) < ((str s).size : Int) := by rw [hsz]; omega
      have e2 : (k : Int) < (n : Int) := by omega
      have e3 : (k : Int).toNat = k := by omega
      obtain ⟨b, off, rfl, hcell⟩ := row_at HR.out hkp
      have x0 := hcell k hkp
      have hc := str_map_get HS.out hks hkp
      obtain ⟨⟨c, u⟩, hcu⟩ : ∃ x, P[k]'hkp = x := ⟨_, rfl⟩
      rw [hcu] at x0 hc
      have hd : P.drop k = (c, u) :: P.drop (k + 1) := by rw [List.drop_eq_getElem_cons hkp, hcu]
      simp only [U] at x0
      dsimp only at hc
      have HD := hid hd
      clear hcell hcu hd
      by_cases hu : u = 0
      · subst hu
        by_cases hz : c.toNat = z
        · have d4 : ((c.toNat : Int) == (z : Int)) = true := by simp; omega
          have HF : Hid (fdL z k0 (P.drop k0) = some k) := hid (by rw [HE.out, HD.out, fdL, if_pos ⟨rfl, hz⟩])
          clear HE HD hz HR HS HN
          go_wp2_with fail
          go_ret
          exact ⟨by rw [HF.out]; rfl, rfl⟩
        · have d4 : ((c.toNat : Int) == (z : Int)) = false := by simp; omega
          have HE2 : Hid (fdL z k0 (P.drop k0) = fdL z (k + 1) (P.drop (k + 1))) := hid (by rw [HE.out, HD.out, fdL, if_neg (fun x => hz x.2)])
          clear HE HD hz
          go_wp2_with fail
          go_roundw
          case rel => exact ⟨k + 1, by omega, by omega, by go_num, HE2, trivial⟩
          case measure => simp [intOf]; omega
      · have d4 : ((u : Int) == 0) = false := by simp; omega
        have HE2 : Hid (fdL z k0 (P.drop k0) = fdL z (k + 1) (P.drop (k + 1))) := hid (by rw [HE.out, HD.out, fdL, if_neg (fun x => hu x.1)])
        clear HE HD
        go_wp2_with fail
        go_roundw
        case rel => exact ⟨k + 1, by omega, by omega, by go_num, HE2, trivial⟩
        case measure => simp [intOf]; omega
    · have hkn : k = n := by omega
      subst hkn
      have d1 : decide ((k : Int) < ((str s).size : Int)) = false := by rw [hsz]; simp
      have d1' : decide (k < (str s).size) = false := by rw [hsz]; simp
      have HF : Hid (fdL z k0 (P.drop k0) = none) := hid (by rw [HE.out, List.drop_of_length_le (by rw [HN.out]; exact Nat.le_refl _), fdL])
      clear HE
      go_wp2_with fail
      go_ret
      exact ⟨by rw [HF.out]; rfl, rfl⟩
end Go.Proofs.YtdanhdiinkgjnaaDoor
