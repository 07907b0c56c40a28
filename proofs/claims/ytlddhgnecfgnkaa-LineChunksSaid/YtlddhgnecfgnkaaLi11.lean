/-
  Is any piece not empty? A part of the proof: see the head of the text that ends in 'Law'.
-/
import Derived.Test.YtlddhgnecfgnkaaLi10
namespace Go.Proofs.Ytlddhgnecfgnkaa
open Go.RowKit
set_option linter.unusedVariables false
attribute [local go_sem] Oper.semAt_some

def pcSome (p : Pc) : Bool := p.lit || !p.s.isEmpty
theorem pcSome_any (lit : Bool) (s : List UInt8) (w : World) : Calls Try.prog 30 #[.agg #[.bool lit, .string (str s)]] w fun e w' => e = .returned (.bool (pcSome ⟨lit, s⟩)) ∧ Below w.heap.size w w' := by
  have bx := OwnE.new_ w [.bool lit, .string (str s)] 40
  have c0 := bx.cell (j := 0) rfl
  have c1 := bx.cell (j := 1) rfl
  have hB := hid (show Below w.heap.size w (w.alloc (.cells #[.bool lit, .string (str s)] 40)) from (Below.refl _ _).alloc (Nat.le_refl _) _)
  clear bx
  cases lit with
  | true =>
    go_enter Try.func30, Try.ntmps30
    go_wp2
    go_ret
    exact ⟨rfl, hB.out⟩
  | false =>
    rw [show pcSome ⟨false, s⟩ = !s.isEmpty from rfl]
    go_enter Try.func30, Try.ntmps30
    go_wp2
    go_ret
    exact ⟨rfl, hB.out⟩
set_option maxRecDepth 100000 in
set_option maxHeartbeats 4000000 in
theorem indexF_any (A : Option Addr) (n c : Nat) (ps : List Pc) (w : World) (h : PcIn w A n ps) (hn : n ≤ 100000) :
    Calls Try.prog 37 #[.slice A n c, .func (.func 30) #[] #[]] w fun e w' => ∃ r : Int, decide (0 ≤ r) = ps.any pcSome ∧ e = .returned (.int .i64 r) ∧ Below w.heap.size w w' := by
  have HP := hid h
  have HL := hid h.1
  have HN := hid hn
  have B0 := hid (Below.refl w.heap.size w)
  clear h
  go_enter Try.func37, Try.ntmps37
  go_wp2_with fail
  go_loopw [4, 8] (fun r i wr => r = .int .i64 0 ∧ ∃ k : Nat, k ≤ n ∧ i = .int .i64 (k : Int) ∧ Hid ((ps.take k).any pcSome = false ∧ Below w.heap.size w wr)) (fun r i wr => n - (intOf i).toNat)
  case atStart => exact ⟨rfl, 0, by omega, rfl, hid ⟨by simp, B0.out⟩⟩
  case round =>
    clear B0
    obtain ⟨rfl, k, hk, rfl, hI⟩ := hrel
    have HA := hid hI.out.1
    have B := hid hI.out.2
    clear hI
    by_cases hlt : k < n
    · have d1 : decide ((k : Int) < (n : Int)) = true := by simp; omega
      have d1' : decide (k < n) = true := by simpa using hlt
      obtain ⟨pb, po, rfl, hcell⟩ := HP.out.cell (by omega)
      have hjl : k < ps.length := by rw [HL.out]; exact hlt
      have hc := hcell k hjl
      obtain ⟨p, hp⟩ : ∃ p, ps[k]'hjl = p := ⟨_, rfl⟩
      rw [hp] at hc
      have c0 := cells_keep B.out hc.1
      have c1 := cells_keep B.out hc.2
      have i0 : (0 : Int) ≤ (k : Int) := by omega
      have i1 : (k : Int) < (n : Int) := by omega
      have i2 : (k : Int).toNat = k := by omega
      have hts : (ps.take (k + 1)).any pcSome = ((ps.take k).any pcSome || pcSome p) := by rw [List.take_succ_eq_append_getElem hjl, hp, List.any_append]; simp
      have HTS := hid hts
      have HMEM := hid (show pcSome p = true → ps.any pcSome = true from fun h => List.any_eq_true.2 ⟨p, by rw [← hp]; exact List.getElem_mem hjl, h⟩)
      obtain ⟨lit, s⟩ := p
      dsimp only at c0 c1
      have HF := hid (fun W => pcSome_any lit s W)
      obtain ⟨b, hb⟩ : ∃ b, pcSome ⟨lit, s⟩ = b := ⟨_, rfl⟩
      rw [hb] at HF HTS HMEM
      clear hc hcell hp hts hjl hb
      cases b with
      | true =>
        have HM := hid (HMEM.out rfl)
        go_wp2_with (go_at_call 30
                     refine (HF.out _).mono ?_
                     rintro e w2 ⟨rfl, b2⟩
                     have B := hid (next B.out b2)
                     clear b2)
        go_ret
        exact ⟨(k : Int), by rw [HM.out]; simp, rfl, B.out⟩
      | false =>
        go_wp2_with (go_at_call 30
                     refine (HF.out _).mono ?_
                     rintro e w2 ⟨rfl, b2⟩
                     have B := hid (next B.out b2)
                     clear b2)
        go_roundw
        case rel => exact ⟨rfl, k + 1, by omega, by go_num, hid ⟨by rw [HTS.out, HA.out]; rfl, B.out⟩⟩
        case measure => simp [intOf]; omega
    · have d1 : decide ((k : Int) < (n : Int)) = false := by simp; omega
      have d1' : decide (k < n) = false := by simpa using hlt
      have HR : Hid (ps.any pcSome = false) := hid (by
        have := HA.out
        rwa [List.take_of_length_le (by have := HL.out; omega)] at this)
      go_wp2_with fail
      go_ret
      exact ⟨-1, by rw [HR.out]; rfl, rfl, B.out⟩
theorem containsF_any (A : Option Addr) (n c : Nat) (ps : List Pc) (w : World) (h : PcIn w A n ps) (hn : n ≤ 100000) :
    Calls Try.prog 29 #[.slice A n c, .func (.func 30) #[] #[]] w fun e w' => e = .returned (.bool (ps.any pcSome)) ∧ Below w.heap.size w w' := by
  have HI := hid (indexF_any A n c ps w h hn)
  clear h hn
  go_enter Try.func29, Try.ntmps29
  go_wp2_with (go_at_call 37
               refine HI.out.mono ?_
               rintro e w2 ⟨r, hr, rfl, b2⟩
               have B := hid b2
               clear b2)
  go_ret
  exact ⟨rfl, B.out⟩
end Go.Proofs.Ytlddhgnecfgnkaa
