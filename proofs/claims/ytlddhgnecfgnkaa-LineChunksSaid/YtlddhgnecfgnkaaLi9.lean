/-
  Tag. A part of the proof: see the head of the text that ends in 'Law'.
-/
import Derived.Test.YtlddhgnecfgnkaaLi8
namespace Go.Proofs.Ytlddhgnecfgnkaa
open Go.RowKit
set_option linter.unusedVariables false
attribute [local go_sem] Oper.semAt_some

/-- A package's variable of the library's, of whatever value. -/
def GM (w : World) : Prop := ∃ m : Int, w.cell? ⟨0, 0, none⟩ = some (.int .i64 m)
theorem GM.below {w w' : World} (h : GM w) (hb : Below w.heap.size w w') : GM w' := by
  obtain ⟨m, hm⟩ := h
  exact ⟨m, cells_keep hb hm⟩
theorem index_first (c : UInt8) : ∀ l : List UInt8, (Lib.indexByte l c = -1 ∧ l.takeWhile (· != c) = l) ∨ (∃ i : Nat, Lib.indexByte l c = i ∧ l.takeWhile (· != c) = l.take i)
  | [] => .inl ⟨rfl, rfl⟩
  | b :: l => by
    unfold Lib.indexByte
    by_cases hb : b = c
    · subst hb
      refine .inr ⟨0, by simp, by simp⟩
    · have hbb : (b == c) = false := by simpa using hb
      rw [hbb]
      have hf : (b :: l).takeWhile (· != c) = b :: l.takeWhile (· != c) := by rw [List.takeWhile_cons, if_pos (by simpa using hb)]
      rcases index_first c l with ⟨h1, h2⟩ | ⟨i, h1, h2⟩
      · rw [h1, hf, h2]
        exact .inl ⟨rfl, rfl⟩
      · rw [h1, hf, h2]
        refine .inr ⟨i + 1, ?_, by simp⟩
        rw [show ((i : Int) == -1) = false by rw [beq_eq_false_iff_ne]; omega]
        simp
theorem libcut_one (l : List UInt8) (c : UInt8) : (Lib.cut l [c]).1 = l.takeWhile (· != c) := by
  unfold Lib.cut
  rw [Lib.index_one]
  rcases index_first c l with ⟨h1, h2⟩ | ⟨i, h1, h2⟩
  · rw [h1, h2, if_neg (by omega)]
  · rw [h1, h2, if_pos (by omega)]
    simp
def tagOk (c : UInt8) : Bool := signB c && c.toNat != 91
/-- The atom with which pieces begin. -/
def tagL : List Pc → List UInt8
  | [] => []
  | p :: _ => if p.lit = true then [] else if (p.s.takeWhile (· != 32)).all tagOk = true then p.s.takeWhile (· != 32) else []
theorem cut_e (l : List UInt8) (w : World) (hl : l.length ≤ 100000) (hG : GM w) :
    Calls Try.prog 36 #[.string (str l), .string ⟨#[32]⟩] w fun e w' => ∃ b f, e = .returned (.tuple #[.string (str (l.takeWhile (· != 32))), .string b, .bool f]) ∧ Below w.heap.size w w' := by
  obtain ⟨m, hm⟩ := hG
  have h := Try.strings_Cut (str l) ⟨#[32]⟩ m w (by rw [str_size]; omega) hm
  refine h.mono fun e w' ⟨he, n, hw⟩ => ⟨⟨(Lib.cut l [32]).2.1.toArray⟩, (Lib.cut l [32]).2.2, ?_, ?_⟩
  · rw [he, str_toList, ← libcut_one l 32]
    rfl
  · subst hw
    exact bq (Below.refl _ _) n
theorem take_all (l : List UInt8) (k : Nat) (h : k < l.length) (hk : (l.take k).all tagOk = true) (hc : tagOk (l[k]'h) = true) : (l.take (k + 1)).all tagOk = true := by
  rw [List.take_succ_eq_append_getElem h, List.all_append, hk]
  simp [hc]
set_option maxRecDepth 100000 in
set_option maxHeartbeats 4000000 in
theorem tag_any (A : Option Addr) (n c : Nat) (ps : List Pc) (w : World) (h : PcIn w A n ps) (hsz : szP ps ≤ 50000) (hG : GM w) :
    Calls Try.prog 28 #[.slice A n c] w fun e w' => e = .returned (.string (str (tagL ps))) ∧ Below w.heap.size w w' := by
  cases ps with
  | nil =>
    obtain rfl : 0 = n := h.1
    clear h hsz hG
    go_enter Try.func28, Try.ntmps28
    go_wp2
    go_ret
    exact ⟨rfl, Below.refl _ _⟩
  | cons p ps =>
    obtain ⟨b, off, rfl, hc⟩ := h.cell (by have := h.1; simp at this; omega)
    have hc0 := hc 0 (by simp)
    have hn : 0 < n := by have := h.1; simp at this; omega
    have d0 : ((n : Int) == 0) = false := by simp; omega
    have d0' : (n == 0) = false := by simp; omega
    have i1 : (0 : Int) < (n : Int) := by omega
    obtain ⟨lit, s⟩ := p
    have c0 := hc0.1
    have c1 := hc0.2
    simp only [Nat.zero_mul, Nat.add_zero, List.getElem_cons_zero] at c0 c1
    have hsl : s.length ≤ 50000 := by unfold szP at hsz; simp at hsz; omega
    clear hc hc0 h hsz hn
    cases lit with
    | true =>
      clear hG hsl
      go_enter Try.func28, Try.ntmps28
      go_wp2
      go_ret
      exact ⟨rfl, Below.refl _ _⟩
    | false =>
      obtain ⟨q, hq⟩ : ∃ q, s.takeWhile (· != 32) = q := ⟨_, rfl⟩
      have HCUT := hid (cut_e s w (by omega) hG)
      rw [hq] at HCUT
      have hql : q.length ≤ 50000 := by rw [← hq]; have := (List.takeWhile_prefix (· != (32 : UInt8)) (l := s)).length_le; omega
      have HT : Hid (tagL (⟨false, s⟩ :: ps) = if q.all tagOk = true then q else []) := hid (by unfold tagL; simp [hq])
      have HQL := hid hql
      have hsz : (str q).size = q.length := rfl
      clear hG hq hql hsl
      go_enter Try.func28, Try.ntmps28
      go_wp2_with (go_at_call 36
                   refine HCUT.out.mono ?_
                   rintro e w2 ⟨b2, f2, rfl, k2⟩
                   have B := hid k2
                   clear k2)
      go_loopw [2, 27] (fun r i wr => r = .string ⟨#[]⟩ ∧ ∃ k : Nat, k ≤ q.length ∧ i = .int .i64 (k : Int) ∧ Hid ((q.take k).all tagOk = true ∧ Below w.heap.size w wr)) (fun r i wr => q.length - (intOf i).toNat)
      case atStart => exact ⟨rfl, 0, by omega, rfl, hid ⟨by simp, B.out⟩⟩
      case round =>
        clear B
        obtain ⟨rfl, k, hk, rfl, hI⟩ := hrel
        have HA := hid hI.out.1
        have B := hid hI.out.2
        clear hI
        by_cases hlt : k < q.length
        · have d1 : decide ((k : Int) < (q.length : Int)) = true := by simp; omega
          have d1' : decide (k < q.length) = true := by simpa using hlt
          have hks : k < (str q).size := by rw [hsz]; omega
          obtain ⟨x, hx⟩ : ∃ x, ((str q)[k]'hks) = x := ⟨_, rfl⟩
          have e0 : (0 : Int) ≤ (k : Int) := by omega
          have e1 : (k : Int) < ((str q).size : Int) := by rw [hsz]; omega
          have HX := hid (show q[k]'hlt = x from hx)
          have q0 : (k : Int) ≤ 100000 := by have := HQL.out; omega
          have HNO : Hid (tagOk x = false → tagL (⟨false, s⟩ :: ps) = []) := hid (fun h => by
            rw [HT.out, if_neg]
            rw [Bool.not_eq_true, List.all_eq_false]
            exact ⟨x, by rw [← HX.out]; exact List.getElem_mem hlt, by rw [h]; decide⟩)
          have HYES : Hid (tagOk x = true → (q.take (k + 1)).all tagOk = true) := hid (fun h => take_all q k hlt HA.out (by rw [HX.out]; exact h))
          cases hsg : signB x with
          | true =>
            have SG := hid (sign_any x)
            have HSG := hid hsg
            by_cases h91 : x.toNat = 91
            · have d2 : ((x.toNat : Int) == 91) = true := by rw [h91]; rfl
              have HR := hid (HNO.out (by unfold tagOk; rw [hsg, h91]; rfl))
              clear hsg h91
              go_wp2_with (go_at_call 31; refine (SG.out _).mono ?_; rw [HSG.out]; rintro e w3 ⟨rfl, rfl⟩)
              go_ret
              exact ⟨by rw [HR.out]; rfl, B.out⟩
            · have d2 : ((x.toNat : Int) == 91) = false := by simp; omega
              have HR := hid (HYES.out (by unfold tagOk; rw [hsg]; simpa using h91))
              clear hsg h91
              go_wp2_with (go_at_call 31; refine (SG.out _).mono ?_; rw [HSG.out]; rintro e w3 ⟨rfl, rfl⟩)
              go_roundw
              case rel => exact ⟨rfl, k + 1, by omega, by go_num, hid ⟨HR.out, B.out⟩⟩
              case measure => simp [intOf]; omega
          | false =>
            have SG := hid (sign_any x)
            have HSG := hid hsg
            have HR := hid (HNO.out (by unfold tagOk; rw [hsg]; rfl))
            clear hsg
            go_wp2_with (go_at_call 31; refine (SG.out _).mono ?_; rw [HSG.out]; rintro e w3 ⟨rfl, rfl⟩)
            go_ret
            exact ⟨by rw [HR.out]; rfl, B.out⟩
        · have d1 : decide ((k : Int) < (q.length : Int)) = false := by simp; omega
          have d1' : decide (k < q.length) = false := by simpa using hlt
          have HR : Hid (tagL (⟨false, s⟩ :: ps) = q) := hid (by
            have := HA.out
            rw [List.take_of_length_le (by omega)] at this
            rw [HT.out, if_pos this])
          go_wp2_with fail
          go_ret
          exact ⟨by rw [HR.out]; rfl, B.out⟩
end Go.Proofs.Ytlddhgnecfgnkaa
