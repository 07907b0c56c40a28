/-
  What the laws look at: octets and names, no more than some. A part of the proof: see the head of the text that ends in 'Law'.
-/
import Derived.Test.YthlofpofcpconaaDoorHe23
namespace Go.Proofs.YthlofpofcpconaaDoor
open Go.RowKit Go.Shelf
set_option linter.unusedVariables false
attribute [local go_sem] Oper.semAt_some

theorem few17_any (A : Option Addr) (n c : Nat) (w : World) (hnc : n ≤ c) (hn : n ≤ maxLen) :
    Calls Tryd.prog 8 #[.slice A n c] w fun e w' => (∃ k, e = .returned (.slice A k c) ∧ k ≤ 900 ∧ k ≤ n) ∧ w = w' := by
  unfold maxLen at hn
  by_cases h : 900 < n
  · have d1 : decide ((900 : Int) < (n : Int)) = true := by simp; omega
    have d1' : decide (900 < n) = true := by simpa using h
    have e1 : (900 : Int) ≤ (c : Int) := by omega
    have e2 : 900 ≤ c := by omega
    have e3 : ¬ c = 0 := by omega
    go_enter Tryd.func8, Tryd.ntmps8
    go_wp2
    go_ret
    exact ⟨⟨900, rfl, Nat.le_refl _, by omega⟩, rfl⟩
  · have d1 : decide ((900 : Int) < (n : Int)) = false := by simp; omega
    have d1' : decide (900 < n) = false := by simpa using h
    go_enter Tryd.func8, Tryd.ntmps8
    go_wp2
    go_ret
    exact ⟨⟨n, rfl, by omega, Nat.le_refl _⟩, rfl⟩
def namesL (ns : List (List UInt8)) : List (List UInt8) := (ns.take 12).map (·.take 60)
set_option maxRecDepth 100000 in
set_option maxHeartbeats 4000000 in
theorem names_any (A : Option Addr) (n c : Nat) (ns : List (List UInt8)) (w : World) (hr : Row w A (ns.map SV)) (hn : ns.length = n) (hnc : n ≤ c) (hc : n ≤ maxLen) (hs : ∀ s ∈ ns, s.length ≤ maxLen) :
    Calls Tryd.prog 9 #[.slice A n c] w fun e w' => (∃ B k d, e = .returned (.slice B k d) ∧ w'.ownsRow w.heap.size 9 1 (.slice B k d) k ((namesL ns).map SV)) ∧ Below w.heap.size w w' := by
  have HR := hid hr
  have HN := hid hn
  have HM : Hid (∀ s ∈ ns, s.length ≤ 9223372036854775807) := hid (fun s h => Nat.le_trans (hs s h) (by decide))
  unfold maxLen at hc
  clear hr hs hn
  by_cases h : 12 < n
  · have d1 : decide ((12 : Int) < (n : Int)) = true := by simp; omega
    have d1' : decide (12 < n) = true := by simpa using h
    have e1 : (12 : Int) ≤ (c : Int) := by omega
    have e2 : 12 ≤ c := by omega
    have e3 : ¬ c = 0 := by omega
    have HQ : Hid ((ns.take 12).map (·.take 60) = namesL ns) := hid rfl
    go_enter Tryd.func9, Tryd.ntmps9
    go_wp2
    go_loopw [3, 4] (fun v3 v4 wr => ∃ (k m : Nat) (B : Option Addr) (d : Nat) (acc : List (List UInt8)), k ≤ 12 ∧ v3 = .slice B m d ∧ v4 = .int .i64 (k : Int) ∧ m = k ∧ Hid (acc = (ns.take k).map (·.take 60)) ∧ Hid (wr.ownsRow w.heap.size 9 1 (.slice B m d) m (acc.map SV)) ∧ Hid (Below w.heap.size w wr)) (fun v3 v4 wr => 12 - (intOf v4).toNat)
    case atStart => exact ⟨0, 0, none, 0, [], Nat.zero_le _, rfl, rfl, rfl, hid rfl, hid (World.ownsRow_nil _ _ _ _), hid (Below.refl _ _)⟩
    case round =>
      obtain ⟨k, m, B, d, acc, hk2, rfl, rfl, hmk, HAC, HO, HB⟩ := hrel
      by_cases hlt : k < 12
      · have d1 : decide ((k : Int) < ((12 : Nat) : Int)) = true := by simp; omega
        have d1' : decide (k < 12) = true := by simpa using hlt
        have d1'' : decide ((k : Int) < 12) = true := by simp; omega
        have e0 : (0 : Int) ≤ (k : Int) := by omega
        have e1 : (k : Int) < ((12 : Nat) : Int) := by omega
        have e3 : (k : Int).toNat = k := by omega
        have hkl : k < ns.length := by rw [HN.out]; omega
        obtain ⟨b, off, rfl, hc⟩ := sv_at HR.out hkl
        obtain ⟨x, hx⟩ : ∃ x, ns[k]'hkl = x := ⟨_, rfl⟩
        have p0 := cells_keep HB.out (hc k hkl)
        rw [hx] at p0
        have hac : (ns.take (k + 1)).map (·.take 60) = acc ++ [x.take 60] := by rw [List.take_succ_eq_append_getElem hkl, List.map_append, HAC.out, hx]; rfl
        obtain ⟨xn, hxn⟩ : ∃ xn, x.length = xn := ⟨_, rfl⟩
        have hsx : (str x).size = xn := hxn
        have hmx : xn ≤ 9223372036854775807 := by rw [← hxn, ← hx]; exact HM.out _ (List.getElem_mem hkl)
        have HACC := hid hac
        have HXN := hid hxn
        clear hc hx hkl hac hxn HAC
        subst hmk
        by_cases h6 : 60 < xn
        · have g1 : decide ((60 : Int) < (xn : Int)) = true := by simp; omega
          have g1' : decide (60 < xn) = true := by simpa using h6
          have g2 : (60 : Int) ≤ ((str x).size : Int) := by rw [hsx]; omega
          have hex : (str x).extract 0 60 = str (x.take 60) := by rw [str_extract]; rfl
          obtain ⟨p, hp⟩ : ∃ p, x.take 60 = p := ⟨_, rfl⟩
          rw [hp] at hex HACC
          clear hp
          go_wp2_with (
            refine wpList_append_row _ rfl (.tmp 26) (.tmp 28) strsT rfl w.heap.size (.slice B m d) m (acc.map SV) rfl (own_alloc HO.out (.cells #[.string (str p)] 9)) (some ⟨wr.heap.size, 0, none⟩) 1 1 [.string (str p)] rfl rfl (Row.of_block (heap_alloc_new wr (Obj.cells #[.string (str p)] 9))) (by simp [Value.oneCell']) (by simp only [maxLen]; omega) (by omega) (by have := HB.out.size; simp; omega) ?_
            intro A3 c3 w3 hown3 hgr3 hat3
            have B3 := hid ((HB.out.alloc HB.out.size (.cells #[.string (str p)] 9)).grown hgr3 (by have := HB.out.size; simp; omega) (own_base HO.out))
            have P3 := hid hown3
            clear hown3 hgr3 hat3
            skip)
          go_roundw
          case rel => exact ⟨m + 1, m + 1, A3, c3, acc ++ [p], by omega, rfl, by go_num, rfl, hid HACC.out.symm, hid (by rw [List.map_append]; exact P3.out), B3⟩
          case measure => simp [intOf]; omega
        · have g1 : decide ((60 : Int) < (xn : Int)) = false := by simp; omega
          have g1' : decide (60 < xn) = false := by simpa using h6
          have HACC := hid (HACC.out.trans (by rw [List.take_of_length_le (by rw [HXN.out]; omega)] : acc ++ [x.take 60] = acc ++ [x]))
          go_wp2_with (
            refine wpList_append_row _ rfl (.tmp 26) (.tmp 28) strsT rfl w.heap.size (.slice B m d) m (acc.map SV) rfl (own_alloc HO.out (.cells #[.string (str x)] 9)) (some ⟨wr.heap.size, 0, none⟩) 1 1 [.string (str x)] rfl rfl (Row.of_block (heap_alloc_new wr (Obj.cells #[.string (str x)] 9))) (by simp [Value.oneCell']) (by simp only [maxLen]; omega) (by omega) (by have := HB.out.size; simp; omega) ?_
            intro A3 c3 w3 hown3 hgr3 hat3
            have B3 := hid ((HB.out.alloc HB.out.size (.cells #[.string (str x)] 9)).grown hgr3 (by have := HB.out.size; simp; omega) (own_base HO.out))
            have P3 := hid hown3
            clear hown3 hgr3 hat3
            skip)
          go_roundw
          case rel => exact ⟨m + 1, m + 1, A3, c3, acc ++ [x], by omega, rfl, by go_num, rfl, hid HACC.out.symm, hid (by rw [List.map_append]; exact P3.out), B3⟩
          case measure => simp [intOf]; omega
      · have d1 : decide ((k : Int) < ((12 : Nat) : Int)) = false := by simp; omega
        have d1' : decide (k < 12) = false := by simpa using hlt
        have d1'' : decide ((k : Int) < 12) = false := by simp; omega
        have hkq : k = 12 := by omega
        have HF : Hid (acc = namesL ns) := hid (by rw [HAC.out, hkq]; exact HQ.out)
        clear HAC
        subst hmk
        subst hkq
        go_wp2_with fail
        go_ret
        exact ⟨⟨B, _, d, rfl, by rw [← HF.out]; exact HO.out⟩, HB.out⟩
  · have d1 : decide ((12 : Int) < (n : Int)) = false := by simp; omega
    have d1' : decide (12 < n) = false := by simpa using h
    have HQ : Hid ((ns.take n).map (·.take 60) = namesL ns) := hid (by unfold namesL; rw [List.take_of_length_le (by rw [HN.out]; exact Nat.le_refl _), List.take_of_length_le (by rw [HN.out]; omega)])
    go_enter Tryd.func9, Tryd.ntmps9
    go_wp2
    go_loopw [3, 4] (fun v3 v4 wr => ∃ (k m : Nat) (B : Option Addr) (d : Nat) (acc : List (List UInt8)), k ≤ n ∧ v3 = .slice B m d ∧ v4 = .int .i64 (k : Int) ∧ m = k ∧ Hid (acc = (ns.take k).map (·.take 60)) ∧ Hid (wr.ownsRow w.heap.size 9 1 (.slice B m d) m (acc.map SV)) ∧ Hid (Below w.heap.size w wr)) (fun v3 v4 wr => n - (intOf v4).toNat)
    case atStart => exact ⟨0, 0, none, 0, [], Nat.zero_le _, rfl, rfl, rfl, hid rfl, hid (World.ownsRow_nil _ _ _ _), hid (Below.refl _ _)⟩
    case round =>
      obtain ⟨k, m, B, d, acc, hk2, rfl, rfl, hmk, HAC, HO, HB⟩ := hrel
      by_cases hlt : k < n
      · have d1 : decide ((k : Int) < ((n : Nat) : Int)) = true := by simp; omega
        have d1' : decide (k < n) = true := by simpa using hlt
        have d1'' : decide ((k : Int) < n) = true := by simp; omega
        have e0 : (0 : Int) ≤ (k : Int) := by omega
        have e1 : (k : Int) < ((n : Nat) : Int) := by omega
        have e3 : (k : Int).toNat = k := by omega
        have hkl : k < ns.length := by rw [HN.out]; omega
        obtain ⟨b, off, rfl, hc⟩ := sv_at HR.out hkl
        obtain ⟨x, hx⟩ : ∃ x, ns[k]'hkl = x := ⟨_, rfl⟩
        have p0 := cells_keep HB.out (hc k hkl)
        rw [hx] at p0
        have hac : (ns.take (k + 1)).map (·.take 60) = acc ++ [x.take 60] := by rw [List.take_succ_eq_append_getElem hkl, List.map_append, HAC.out, hx]; rfl
        obtain ⟨xn, hxn⟩ : ∃ xn, x.length = xn := ⟨_, rfl⟩
        have hsx : (str x).size = xn := hxn
        have hmx : xn ≤ 9223372036854775807 := by rw [← hxn, ← hx]; exact HM.out _ (List.getElem_mem hkl)
        have HACC := hid hac
        have HXN := hid hxn
        clear hc hx hkl hac hxn HAC
        subst hmk
        by_cases h6 : 60 < xn
        · have g1 : decide ((60 : Int) < (xn : Int)) = true := by simp; omega
          have g1' : decide (60 < xn) = true := by simpa using h6
          have g2 : (60 : Int) ≤ ((str x).size : Int) := by rw [hsx]; omega
          have hex : (str x).extract 0 60 = str (x.take 60) := by rw [str_extract]; rfl
          obtain ⟨p, hp⟩ : ∃ p, x.take 60 = p := ⟨_, rfl⟩
          rw [hp] at hex HACC
          clear hp
          go_wp2_with (
            refine wpList_append_row _ rfl (.tmp 26) (.tmp 28) strsT rfl w.heap.size (.slice B m d) m (acc.map SV) rfl (own_alloc HO.out (.cells #[.string (str p)] 9)) (some ⟨wr.heap.size, 0, none⟩) 1 1 [.string (str p)] rfl rfl (Row.of_block (heap_alloc_new wr (Obj.cells #[.string (str p)] 9))) (by simp [Value.oneCell']) (by simp only [maxLen]; omega) (by omega) (by have := HB.out.size; simp; omega) ?_
            intro A3 c3 w3 hown3 hgr3 hat3
            have B3 := hid ((HB.out.alloc HB.out.size (.cells #[.string (str p)] 9)).grown hgr3 (by have := HB.out.size; simp; omega) (own_base HO.out))
            have P3 := hid hown3
            clear hown3 hgr3 hat3
            skip)
          go_roundw
          case rel => exact ⟨m + 1, m + 1, A3, c3, acc ++ [p], by omega, rfl, by go_num, rfl, hid HACC.out.symm, hid (by rw [List.map_append]; exact P3.out), B3⟩
          case measure => simp [intOf]; omega
        · have g1 : decide ((60 : Int) < (xn : Int)) = false := by simp; omega
          have g1' : decide (60 < xn) = false := by simpa using h6
          have HACC := hid (HACC.out.trans (by rw [List.take_of_length_le (by rw [HXN.out]; omega)] : acc ++ [x.take 60] = acc ++ [x]))
          go_wp2_with (
            refine wpList_append_row _ rfl (.tmp 26) (.tmp 28) strsT rfl w.heap.size (.slice B m d) m (acc.map SV) rfl (own_alloc HO.out (.cells #[.string (str x)] 9)) (some ⟨wr.heap.size, 0, none⟩) 1 1 [.string (str x)] rfl rfl (Row.of_block (heap_alloc_new wr (Obj.cells #[.string (str x)] 9))) (by simp [Value.oneCell']) (by simp only [maxLen]; omega) (by omega) (by have := HB.out.size; simp; omega) ?_
            intro A3 c3 w3 hown3 hgr3 hat3
            have B3 := hid ((HB.out.alloc HB.out.size (.cells #[.string (str x)] 9)).grown hgr3 (by have := HB.out.size; simp; omega) (own_base HO.out))
            have P3 := hid hown3
            clear hown3 hgr3 hat3
            skip)
          go_roundw
          case rel => exact ⟨m + 1, m + 1, A3, c3, acc ++ [x], by omega, rfl, by go_num, rfl, hid HACC.out.symm, hid (by rw [List.map_append]; exact P3.out), B3⟩
          case measure => simp [intOf]; omega
      · have d1 : decide ((k : Int) < ((n : Nat) : Int)) = false := by simp; omega
        have d1' : decide (k < n) = false := by simpa using hlt
        have d1'' : decide ((k : Int) < n) = false := by simp; omega
        have hkq : k = n := by omega
        have HF : Hid (acc = namesL ns) := hid (by rw [HAC.out, hkq]; exact HQ.out)
        clear HAC
        subst hmk
        subst hkq
        go_wp2_with fail
        go_ret
        exact ⟨⟨B, _, d, rfl, by rw [← HF.out]; exact HO.out⟩, HB.out⟩
theorem namesL_len (ns : List (List UInt8)) : (namesL ns).length ≤ 12 ∧ ∀ s ∈ namesL ns, s.length ≤ 60 := by
  unfold namesL
  refine ⟨by rw [List.length_map, List.length_take]; omega, fun s hs => ?_⟩
  obtain ⟨x, _, rfl⟩ := List.mem_map.1 hs
  rw [List.length_take]
  omega
end Go.Proofs.YthlofpofcpconaaDoor
