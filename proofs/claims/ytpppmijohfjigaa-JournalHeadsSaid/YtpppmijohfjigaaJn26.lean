/-
  JournalHeads: the walk. A part of the proof: see the head of the text that ends in 'Law'.
-/
import Derived.Test.YtpppmijohfjigaaJnAw
import Derived.Test.YtpppmijohfjigaaJnArg
namespace Go.Proofs.Ytpppmijohfjigaa
open Go.RowKit
set_option linter.unusedVariables false
set_option linter.unusedSimpArgs false
set_option maxRecDepth 100000
attribute [local go_sem] Oper.semAt_some

theorem str_same (a : List UInt8) : (str a == str a) = true := str_self a
theorem hd_no {w : World} {l : List Iss} {e : Ending} {w' : World} (h : HdPost w l e w') (hm : mayJ l 2048 = false) : e = .returned (.tuple #[.slice none 0 0, .int .i64 1]) ∧ Below w.heap.size w w' := by
  obtain ⟨b, ⟨-, he⟩ | ⟨k, -⟩⟩ := h
  · exact ⟨he, b⟩
  · rw [hm] at k; cases k
theorem hd_yes {w : World} {l : List Iss} {e : Ending} {w' : World} (h : HdPost w l e w') (hm : mayJ l 2048 = true) : ∃ g, e = .returned (.tuple #[.slice (some ⟨g, 0, none⟩) 128 128, .int .i64 0]) ∧ OwnE w' g 5 ((headL l).map B8) ∧ w.heap.size ≤ g ∧ Below w.heap.size w w' := by
  obtain ⟨b, ⟨k, -⟩ | ⟨-, g, h1, h2, h3⟩⟩ := h
  · rw [hm] at k; cases k
  · exact ⟨g, h1, h2, h3, b⟩
set_option maxHeartbeats 4000000 in
theorem heads_any (A : Option Addr) (n c : Nat) (vs : List PuV) (w : World) (h : PutsIn w A n vs) (hnc : n ≤ c) :
    Calls Try.prog 3 #[.slice A n c] w fun e w' => e = .returned (.bool true) ∧ Below w.heap.size w w' := by
  have HF := hid (few_any A n c vs w h hnc)
  clear h hnc
  go_enter Try.func3, Try.ntmps3
  go_upto_region 2 with (go_at_call 7; (with_reducible refine HF.out.mono ?_); rintro e w1 ⟨b1, A1, m, c1, us, rfl, hm, hp, hl, hc⟩; have B := hid b1; have P := hid hp; have HL := hid hl; clear b1 hp hl)
  clear HF HL
  obtain ⟨l, hl⟩ : ∃ l, us.map PuV.p = l := ⟨_, rfl⟩
  have HD := hid (head_any A1 m c1 us w1 P.out.puts (by omega))
  have HMY := hid (fun (X : World) (hp : PutsT X A1 m us) => rmay_any A1 m c1 us 2048 X hp.puts (by omega))
  have HRH := hid (fun (X : World) (hp : PutsT X A1 m us) => rhead_any A1 m c1 us X hp.puts)
  rw [hl] at HD HMY HRH
  clear hl
  cases hmy : mayJ l 2048 with
  | false =>
    rw [hmy] at HMY
    have HMB := hid hmy
    go_upto_region 3 with (go_at_call 8; (with_reducible refine HD.out.mono ?_); intro e w2 hP; obtain ⟨rfl, b2⟩ := hd_no hP HMB.out; have B := hid (next B.out b2); have P := hid (P.out.below b2); clear b2 hP)
    clear HD hmy
    go_wp2_with first
      | (go_at_call 9; (with_reducible refine (HMY.out _ P.out).mono ?_); rintro e w3 ⟨rfl, b3⟩; have B := hid (next B.out b3); clear b3)
      | (go_at_call 10; (with_reducible refine (awake_any _).mono ?_); rintro e w4 ⟨rfl, b4⟩; have B := hid (next B.out b4); clear b4)
    go_ret
    exact ⟨rfl, B.out⟩
  | true =>
    rw [hmy] at HMY
    have HMB := hid hmy
    go_upto_region 3 with (go_at_call 8; (with_reducible refine HD.out.mono ?_); intro e w2 hP; obtain ⟨g, rfl, og, -, b2⟩ := hd_yes hP HMB.out; have B := hid (next B.out b2); have P := hid (P.out.below b2); have O := hid og; clear b2 og hP)
    clear HD hmy
    have hl40 : l.length ≤ 40 := (mayJ_true HMB.out).l40
    have HLN := hid (headL_len l hl40)
    have HRX := hid (fun (X : World) (hp : PutsT X A1 m us) => HRH.out X hp HMB.out)
    obtain ⟨hd, hhd⟩ : ∃ hd, headL l = hd := ⟨_, rfl⟩
    rw [hhd] at HRX HLN O
    clear hhd hl40 HRH HMB
    go_upto_region 5 with (go_at_call 9; (with_reducible refine (HMY.out _ P.out).mono ?_); rintro e w3 ⟨rfl, b3⟩; have B := hid (next B.out b3); have P := hid (P.out.below b3); have O := hid (O.out.below b3); clear b3)
    have h0 : (convert 24 9 (.slice (some ⟨g, 0, none⟩) 128 128)).run Try.prog w3.drew = .ok (.string (str hd)) w3.drew := strS (O.out.below (drew_below w3)) HLN.out
    have B := hid (next B.out (drew_below w3))
    have P := hid (P.out.below (drew_below w3))
    have hss := str_same hd
    refine wp_region_noPanic ?_
    refine wp_region_held_drew (S := (fun X => (convert 24 9 (.slice (some ⟨g, 0, none⟩) 128 128)).run Try.prog X = .ok (.string (str hd)) X)) (by kernel_rfl) (by first | assumption | trivial) (fun hHeld => ?_)
    refine wpAnyH_take (i := 0) (v := ?_) rfl (by kernel_rfl) (by kernel_rfl) (by kernel_rfl) (fun _ _ _ h => h) (Or.inl ⟨by kernel_rfl, ?_⟩) (by first | assumption | trivial) ?_
    rotate_left
    · (intro wS hSw; (try dsimp only at hSw); go_simp; try with_reducible rfl)
    (try simp only [List.append_eq, List.cons_append, List.nil_append, List.getElem_toArray, List.getElem_cons_succ, List.getElem_cons_zero, Act.put, List.setIfInBounds_toArray, List.set_cons_zero, List.set_cons_succ])
    refine wpAnyH_take (i := 1) (v := ?_) rfl (by kernel_rfl) (by kernel_rfl) (by kernel_rfl) (fun _ _ _ h => h) (Or.inl ⟨by kernel_rfl, ?_⟩) (by first | assumption | trivial) ?_
    rotate_left
    · (intro wS hSw; (try dsimp only at hSw); go_simp; try with_reducible rfl)
    (try simp only [List.append_eq, List.cons_append, List.nil_append, List.getElem_toArray, List.getElem_cons_succ, List.getElem_cons_zero, Act.put, List.setIfInBounds_toArray, List.set_cons_zero, List.set_cons_succ])
    refine wpAnyH_take (i := 2) (v := ?_) rfl (by kernel_rfl) (by kernel_rfl) (by kernel_rfl) (fun _ _ _ h => h) (Or.inl ⟨by kernel_rfl, ?_⟩) (by first | assumption | trivial) ?_
    rotate_left
    · (intro wS hSw; (try dsimp only at hSw); go_simp; try with_reducible rfl)
    (try simp only [List.append_eq, List.cons_append, List.nil_append, List.getElem_toArray, List.getElem_cons_succ, List.getElem_cons_zero, Act.put, List.setIfInBounds_toArray, List.set_cons_zero, List.set_cons_succ])
    refine wpAnyH_ready (rs := [3]) (by kernel_rfl) (by simp) ?_
    refine AllReadyH.cons rfl (fun K hK => ?_) AllReadyH.nil
    go_simp
    (go_at_call 11; (with_reducible refine (HRX.out _ P.out).mono ?_); rintro e w4 ⟨rfl, b4⟩; have hS : (convert 24 9 (.slice (some ⟨g, 0, none⟩) 128 128)).run Try.prog w4 = .ok (.string (str hd)) w4 := strS ((O.out.below (drew_below w3)).below b4) HLN.out; have O := hid ((O.out.below (drew_below w3)).below b4); have B := hid (next B.out b4); clear b4 hHeld h0)
    go_wp2_with fail
    refine hK.out _ _ (by first | assumption | trivial) (fun hHeld => ?_)
    clear hK K
    (try simp only [List.append_eq, List.cons_append, List.nil_append, List.getElem_toArray, List.getElem_cons_succ, List.getElem_cons_zero, Act.put, List.setIfInBounds_toArray, List.set_cons_zero, List.set_cons_succ])
    refine wpAnyH_take (i := 4) (v := ?_) rfl (by kernel_rfl) (by kernel_rfl) (by kernel_rfl) (fun _ _ _ h => h) (Or.inl ⟨by kernel_rfl, ?_⟩) (by first | assumption | trivial) ?_
    rotate_left
    · (intro wS hSw; (try dsimp only at hSw); go_simp; try with_reducible rfl)
    (try simp only [List.append_eq, List.cons_append, List.nil_append, List.getElem_toArray, List.getElem_cons_succ, List.getElem_cons_zero, Act.put, List.setIfInBounds_toArray, List.set_cons_zero, List.set_cons_succ])
    refine wpAnyH_take (i := 5) (v := ?_) rfl (by kernel_rfl) (by kernel_rfl) (by kernel_rfl) (fun _ _ _ h => h) (Or.inl ⟨by kernel_rfl, ?_⟩) (by first | assumption | trivial) ?_
    rotate_left
    · (intro wS hSw; (try dsimp only at hSw); go_simp; try with_reducible rfl)
    (try simp only [List.append_eq, List.cons_append, List.nil_append, List.getElem_toArray, List.getElem_cons_succ, List.getElem_cons_zero, Act.put, List.setIfInBounds_toArray, List.set_cons_zero, List.set_cons_succ])
    refine wpAnyH_take (i := 6) (v := ?_) rfl (by kernel_rfl) (by kernel_rfl) (by kernel_rfl) (fun _ _ _ h => h) (Or.inl ⟨by kernel_rfl, ?_⟩) (by first | assumption | trivial) ?_
    rotate_left
    · (intro wS hSw; (try dsimp only at hSw); go_simp; try with_reducible rfl)
    (try simp only [List.append_eq, List.cons_append, List.nil_append, List.getElem_toArray, List.getElem_cons_succ, List.getElem_cons_zero, Act.put, List.setIfInBounds_toArray, List.set_cons_zero, List.set_cons_succ])
    refine wpAnyH_take (i := 7) (v := ?_) rfl (by kernel_rfl) (by kernel_rfl) (by kernel_rfl) (fun _ _ _ h => h) (Or.inl ⟨by kernel_rfl, ?_⟩) (by first | assumption | trivial) ?_
    rotate_left
    · (intro wS hSw; (try dsimp only at hSw); go_simp; try with_reducible rfl)
    (try simp only [List.append_eq, List.cons_append, List.nil_append, List.getElem_toArray, List.getElem_cons_succ, List.getElem_cons_zero, Act.put, List.setIfInBounds_toArray, List.set_cons_zero, List.set_cons_succ])
    refine wpAnyH_take (i := 8) (v := ?_) rfl (by kernel_rfl) (by kernel_rfl) (by kernel_rfl) (fun _ _ _ h => h) (Or.inl ⟨by kernel_rfl, ?_⟩) (by first | assumption | trivial) ?_
    rotate_left
    · (intro wS hSw; (try dsimp only at hSw); go_simp; try with_reducible rfl)
    (try simp only [List.append_eq, List.cons_append, List.nil_append, List.getElem_toArray, List.getElem_cons_succ, List.getElem_cons_zero, Act.put, List.setIfInBounds_toArray, List.set_cons_zero, List.set_cons_succ])
    refine wpAnyH_take (i := 9) (v := ?_) rfl (by kernel_rfl) (by kernel_rfl) (by kernel_rfl) (fun _ _ _ h => h) (Or.inl ⟨by kernel_rfl, ?_⟩) (by first | assumption | trivial) ?_
    rotate_left
    · (intro wS hSw; (try dsimp only at hSw); go_simp; try with_reducible rfl)
    (try simp only [List.append_eq, List.cons_append, List.nil_append, List.getElem_toArray, List.getElem_cons_succ, List.getElem_cons_zero, Act.put, List.setIfInBounds_toArray, List.set_cons_zero, List.set_cons_succ])
    refine wpAnyH_ready (rs := [10]) (by kernel_rfl) (by simp) ?_
    refine AllReadyH.cons rfl (fun K hK => ?_) AllReadyH.nil
    go_simp
    (go_at_call 10; (with_reducible refine (awake_any _).mono ?_); rintro e w5 ⟨rfl, b5⟩; have hS5 : (convert 24 9 (.slice (some ⟨g, 0, none⟩) 128 128)).run Try.prog w5 = .ok (.string (str hd)) w5 := strS (O.out.below b5) HLN.out; have B := hid (next B.out b5); clear b5 hHeld hS)
    go_wp2_with fail
    refine hK.out _ _ (by first | assumption | trivial) (fun hHeld => ?_)
    clear hK K
    (try simp only [List.append_eq, List.cons_append, List.nil_append, List.getElem_toArray, List.getElem_cons_succ, List.getElem_cons_zero, Act.put, List.setIfInBounds_toArray, List.set_cons_zero, List.set_cons_succ])
    refine wpAnyH_take (i := 11) (v := ?_) rfl (by kernel_rfl) (by kernel_rfl) (by kernel_rfl) (fun _ _ _ h => h) (Or.inl ⟨by kernel_rfl, ?_⟩) (by first | assumption | trivial) ?_
    rotate_left
    · (intro wS hSw; (try dsimp only at hSw); go_simp; try with_reducible rfl)
    (try simp only [List.append_eq, List.cons_append, List.nil_append, List.getElem_toArray, List.getElem_cons_succ, List.getElem_cons_zero, Act.put, List.setIfInBounds_toArray, List.set_cons_zero, List.set_cons_succ])
    refine wpAnyH_take (i := 12) (v := ?_) rfl (by kernel_rfl) (by kernel_rfl) (by kernel_rfl) (fun _ _ _ h => h) (Or.inl ⟨by kernel_rfl, ?_⟩) (by first | assumption | trivial) ?_
    rotate_left
    · (intro wS hSw; (try dsimp only at hSw); go_simp; try with_reducible rfl)
    (try simp only [List.append_eq, List.cons_append, List.nil_append, List.getElem_toArray, List.getElem_cons_succ, List.getElem_cons_zero, Act.put, List.setIfInBounds_toArray, List.set_cons_zero, List.set_cons_succ])
    refine wpAnyH_done (by kernel_rfl) ?_ _
    refine NoPanic.normal ?_
    go_wp2_with fail
    go_ret
    exact ⟨rfl, B.out⟩
theorem walkJournalHeads (s : SlOf PutA) (w : World) (hs : s.Ok putA (okPut w) w) :
    Calls Try.prog 3 #[s.val] w fun e w' => e = .returned (.bool true) ∧ Below w.heap.size w w' := heads_any s.A s.n s.c _ w (puts_of hs) hs.nc
end Go.Proofs.Ytpppmijohfjigaa
