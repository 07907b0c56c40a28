/-
  The reader's Text and Read, walked. A part of the proof: see the head of the text that ends in 'Law'.
-/
import Derived.Test.YtnloooakfhjggaaOctRaw2
namespace Go.Proofs.Ytnloooakfhjggaa
open Go.RowKit
set_option linter.unusedVariables false

theorem textS_stuck {l : List UInt8} {s : St} (h : (numS l s 2).2.e ≠ 0) : textS l s = ([], (numS l s 2).2) := by
  unfold textS
  simp only
  rw [if_neg h]
theorem textS_short {l : List UInt8} {s : St} (h : (numS l s 2).2.e = 0) (h2 : (l.length : Int) - (numS l s 2).2.at_ < (numS l s 2).1) : textS l s = ([], ⟨s.at_, 2, s.at_⟩) := by
  unfold textS
  simp only
  rw [if_pos h, if_pos h2]
theorem textS_good {l : List UInt8} {s : St} (h : (numS l s 2).2.e = 0) (h2 : ¬ (l.length : Int) - (numS l s 2).2.at_ < (numS l s 2).1) : textS l s = rawS l (numS l s 2).2 (numS l s 2).1 := by
  unfold textS
  simp only
  rw [if_pos h, if_neg h2]
theorem rawS_stuck {l : List UInt8} {s : St} (k : Int) (h : s.e ≠ 0) : rawS l s k = ([], s) := by
  unfold rawS
  rw [if_neg h]
theorem numS_two (l : List UInt8) (s : St) : (numS l s 2).1 < 65536 := by
  unfold numS
  split
  · split
    · exact (numC_lt l _ 2).2 rfl
    · simp
  · simp

set_option maxHeartbeats 1000000 in
theorem rtext_any (w : World) (g : Nat) (A : Option Addr) (n c : Nat) (l : List UInt8) (s : St) (hr : RdS w g A n c l s) (hn : n ≤ 2147483648) (hc : A = none → c ≤ 2147483648) (ha : s.at_ ≤ n) :
    Calls Try.prog 19 #[.pointer (some ⟨g, 0, none⟩)] w fun e w' => e = .returned (.string (str (textS l s).1)) ∧ RdS w' g A n c l (textS l s).2 ∧ w.grownBy w' (some g) := by
  have hl := hr.2.1.len
  have hat := numS_at (l := l) (s := s) 2 (by omega)
  have hv := numS_two l s
  obtain ⟨k0, k1, k2, k3, kf⟩ := hr.cells
  have HR := hid hr
  clear hr kf
  have hstuck := hid (textS_stuck (l := l) (s := s))
  have hshort := hid (textS_short (l := l) (s := s))
  have hgood := hid (textS_good (l := l) (s := s))
  generalize hT : textS l s = T at *
  have hcall := hid (fun W (h : RdS W g A n c l s) => rnum_any W g A n c l s 2 h (by omega))
  generalize hN : numS l s 2 = N at *
  clear hN hT
  obtain ⟨v, a1, e1, wh1⟩ := N
  simp only at *
  have hw : IntKind.i64.wrap (v : Int) = v := by rw [IntKind.wrap_i64]; omega
  by_cases h0 : e1 = 0
  · subst h0
    by_cases h1 : (l.length : Int) - a1 < v
    · have h2 := hshort.out rfl h1
      subst h2
      have hd : decide ((n : Int) - a1 < v) = true := by simp; omega
      clear hshort hgood hstuck
      go_enter Try.func19, Try.ntmps19
      go_upto_region 3 with (go_at_call 18; refine (hcall.out _ HR.out).mono ?_; rintro e w1 ⟨rfl, hr1, hg1⟩; obtain ⟨m0, m1, m2, m3, mf⟩ := hr1.cells; have HR1 := hid hr1; clear hr1 mf)
      go_quiet (fail)
      go_wp2_with (first
        | (go_at_call 28; refine (fail_any _ g A n c l a1 wh1 2 s.at_ (HR1.out.drewN _)).mono ?_; rintro e w2 ⟨rfl, hr2, hg2⟩)
        | (go_at_call 17; refine (raw_bad _ g A n c l s.at_ 2 s.at_ v hr2 (by simp) hn ha).mono ?_; rintro e w3 ⟨rfl, hr3, hg3⟩; have hst := strP (w := w3) 0 (Oct.nil w3 none)))
      go_ret
      rw [rawS_stuck _ (by simp)] at hr3
      exact ⟨rfl, hr3, grown_trans hg1 (grown_q (grown_trans hg2 hg3))⟩
    · have h2 := hgood.out rfl h1
      subst h2
      have hd : decide ((n : Int) - a1 < v) = false := by simp; omega
      clear hshort hgood hstuck
      go_enter Try.func19, Try.ntmps19
      go_upto_region 3 with (go_at_call 18; refine (hcall.out _ HR.out).mono ?_; rintro e w1 ⟨rfl, hr1, hg1⟩; obtain ⟨m0, m1, m2, m3, mf⟩ := hr1.cells; have HR1 := hid hr1; clear hr1 mf)
      go_quiet (fail)
      go_wp2_with (go_at_call 17; refine (rraw_any _ g A n c l ⟨a1, 0, wh1⟩ v (HR1.out.drewN _) hn hc (by simp only; omega)).mono ?_; rintro e w3 ⟨A3, c3, rfl, ho3, hr3, hg3⟩; have hst := strP c3 ho3)
      go_ret
      exact ⟨rfl, hr3, grown_trans hg1 (grown_q hg3)⟩
  · have h2 := hstuck.out h0
    subst h2
    have hx1 : (((e1 : Nat) : Int) == 0) = false := by simp; omega
    clear hshort hgood hstuck
    go_enter Try.func19, Try.ntmps19
    go_upto_region 3 with (go_at_call 18; refine (hcall.out _ HR.out).mono ?_; rintro e w1 ⟨rfl, hr1, hg1⟩; obtain ⟨m0, m1, m2, m3, mf⟩ := hr1.cells; have HR1 := hid hr1; clear hr1 mf)
    go_quiet (fail)
    go_wp2_with (go_at_call 17; refine (raw_bad _ g A n c l a1 e1 wh1 v (HR1.out.drewN _) (Or.inl h0) hn (by omega)).mono ?_; rintro e w3 ⟨rfl, hr3, hg3⟩; have hst := strP (w := w3) 0 (Oct.nil w3 none))
    go_ret
    rw [rawS_stuck _ h0] at hr3
    exact ⟨rfl, hr3, grown_trans hg1 (grown_q hg3)⟩

set_option maxHeartbeats 400000 in
theorem read_any (A : Option Addr) (n c : Nat) (l : List UInt8) (w : World) (ho : Oct w A n l) (hn : n ≤ 2147483648) :
    Calls Try.prog 16 #[.slice A n c] w fun e w' => ∃ g A' c', e = .returned (.pointer (some ⟨g, 0, none⟩)) ∧ w.heap.size ≤ g ∧ RdS w' g A' n c' l ⟨0, 0, 0⟩ ∧ (A' = none → c' ≤ 2147483648) ∧ (∀ b off, A' = some ⟨b, off, none⟩ → w.heap.size ≤ b) ∧ Below w.heap.size w w' := by
  go_enter Try.func16, Try.ntmps16
  go_wp2_with (
    (refine wpList_append_row _ rfl (.const (.slice none 0 0)) (.tmp 3) bytesT rfl w.heap.size (.slice none 0 0) 0 [] rfl (World.ownsRow_nil _ _ _ _) A n c (l.map B8) rfl ho.cells_len ho.2 (one_B8 _) (by simp only [maxLen]; omega) (by omega) (Nat.le_refl _) ?_
     intro A1 c1 w3 hown1 hgr1 hat1
     have hb3 : Below w.heap.size w w3 := (Below.refl w.heap.size w).grown hgr1 (Nat.le_refl _) (fun k hk => by simp [Value.ownBlock] at hk)
     simp only [Nat.zero_add, List.nil_append] at hown1 hat1
     clear hgr1))
  go_ret
  have hb4 := hb3.alloc hb3.size (Obj.cells #[Value.slice A1 n c1, Value.int IntKind.i64 0, Value.int IntKind.i64 0, Value.int IntKind.i64 0] 64)
  have ho3 : Oct w3 A1 n l := ⟨ho.len, Row.of_own hown1⟩
  refine ⟨w3.heap.size, A1, c1, rfl, hb3.size, ⟨Array.getElem?_push_size, ho3.alloc _, (own_cap hown1).1⟩, ?_, ?_, hb4⟩
  · rintro rfl
    rcases hown1.2 with ⟨hv, _⟩ | ⟨g, cap, cur, hv, _⟩
    · injection hv with _ _ hv
      omega
    · cases hv
  · rintro b off rfl
    exact (hown1.lt b rfl).1
end Go.Proofs.Ytnloooakfhjggaa
