/-
  Lines and the header's length: the document's walks. A part of the proof: see the head of the text that ends in 'Law'.
-/
import Derived.Test.YthlofpofcpconaaDoorHePlain3
import Derived.Test.YthlofpofcpconaaDoorHe5
namespace Go.Proofs.YthlofpofcpconaaDoor
open Go.RowKit Go.Shelf
set_option linter.unusedVariables false
attribute [local go_sem] Oper.semAt_some

theorem strsT : SliceT Tryd.prog 24 9 (.string ⟨#[]⟩) 1 16 := ⟨Tryd.underlying24, by kernel_rfl, rfl, by omega⟩
theorem one_SV (q : List (List UInt8)) : ∀ u ∈ q.map SV, u.oneCell' = true := by
  intro u hu
  obtain ⟨x, _, rfl⟩ := List.mem_map.1 hu
  rfl
set_option maxRecDepth 100000 in
set_option maxHeartbeats 4000000 in
theorem rcut_any (l : List UInt8) (w : World) (hl : l.length ≤ 100000) :
    Calls Tryd.prog 32 #[.string (str l)] w fun e w' => ∃ A m d, e = .returned (.slice A m d) ∧ (cutL l).length = m ∧ m ≤ d ∧ w'.ownsRow w.heap.size 9 1 (.slice A m d) m ((cutL l).map SV) ∧ Below w.heap.size w w' := by
  obtain ⟨n, hn⟩ : ∃ n, l.length = n := ⟨_, rfl⟩
  rw [hn] at hl
  have HN := hid hn
  have hsz : (str l).size = n := hn
  clear hn
  go_enter Tryd.func32, Tryd.ntmps32
  go_wp2_with fail
  go_loopw [3, 4, 5] (fun v3 v4 v5 wr => ∃ (k fr m : Nat) (A : Option Addr) (d : Nat) (acc : List (List UInt8)), k ≤ n ∧ v3 = .slice A m d ∧ v4 = .int .i64 (fr : Int) ∧ v5 = .int .i64 (k : Int) ∧ acc.length = m ∧ m ≤ d ∧ Hid (CutI l k fr acc) ∧ Hid (wr.ownsRow w.heap.size 9 1 (.slice A m d) m (acc.map SV)) ∧ Hid (Below w.heap.size w wr)) (fun v3 v4 v5 wr => n - (intOf v5).toNat)
  case atStart => exact ⟨0, 0, 0, none, 0, [], Nat.zero_le _, rfl, rfl, rfl, rfl, Nat.le_refl _, hid (CutI.start l), hid (World.ownsRow_nil _ _ _ _), hid (Below.refl _ _)⟩
  case round =>
    obtain ⟨k, fr, m, A, d, acc, hk2, rfl, rfl, rfl, ham, hmd, HI, HO, HB⟩ := hrel
    have hml : m ≤ fr := by rw [← ham]; exact HI.out.ml
    have hfk : fr ≤ k := HI.out.le
    have HAM := hid ham
    clear ham
    by_cases hlt : k < n
    · have d1 := lt_t hlt
      have d1' := lt_nt hlt
      have e0 : (0 : Int) ≤ (k : Int) := by omega
      have e1 : (k : Int) < ((str l).size : Int) := by rw [hsz]; omega
      have e3 : (k : Int).toNat = k := by omega
      have hkl : k < l.length := by rw [HN.out]; exact hlt
      have hks : k < (str l).size := hkl
      obtain ⟨z, hzz⟩ : ∃ z, l[k]'hkl = z := ⟨_, rfl⟩
      have h1 : (str l)[k]'hks = z := (str_get l k hks).trans hzz
      have HY := hid (HI.out.yes hkl z hzz)
      have HNO := hid (HI.out.no hkl z hzz)
      clear hkl hzz HI
      by_cases hz : z.toNat = 10
      · have q1 : ((z.toNat : Int) == 10) = true := by rw [hz]; rfl
        have q1' : (z.toNat == 10) = true := by rw [hz]; rfl
        have HI2 := hid (HY.out hz)
        have f0 : (0 : Int) ≤ (fr : Int) := by omega
        have f1 : (fr : Int) ≤ (k : Int) + 1 := by omega
        have f2 : (fr : Int).toNat = fr := by omega
        have f3 : ((k : Int) + 1).toNat = k + 1 := by omega
        have f4 : (k : Int) + 1 ≤ ((str l).size : Int) := by rw [hsz]; omega
        have hx : (str l).extract fr (k + 1) = str ((l.drop fr).take (k + 1 - fr)) := by rw [str_extract]
        obtain ⟨pc, hpc⟩ : ∃ pc, (l.drop fr).take (k + 1 - fr) = pc := ⟨_, rfl⟩
        rw [hpc] at hx HI2
        clear HY HNO hz hpc
        go_wp2_with (
          refine wpList_append_row _ rfl (.tmp 16) (.tmp 22) strsT rfl w.heap.size (.slice A m d) m (acc.map SV) rfl (own_alloc HO.out (.cells #[.string (str pc)] 9)) (some ⟨wr.heap.size, 0, none⟩) 1 1 [.string (str pc)] rfl rfl (Row.of_block (heap_alloc_new wr (Obj.cells #[.string (str pc)] 9))) (by simp [Value.oneCell']) (by simp only [maxLen]; omega) (by omega) (by have := HB.out.size; simp; omega) ?_
          intro A3 c3 w3 hown3 hgr3 hat3
          have B3 := hid ((HB.out.alloc HB.out.size (.cells #[.string (str pc)] 9)).grown hgr3 (by have := HB.out.size; simp; omega) (own_base HO.out))
          have P3 := hid hown3
          clear hown3 hgr3 hat3
          skip)
        go_roundw
        case rel => exact ⟨k + 1, k + 1, m + 1, A3, c3, acc ++ [pc], by omega, rfl, by go_num, by go_num, by rw [List.length_append, HAM.out]; rfl, (own_cap P3.out).1, HI2, hid (by rw [List.map_append]; exact P3.out), B3⟩
        case measure => simp [intOf]; omega
      · have q1 : ((z.toNat : Int) == 10) = false := ne_f hz
        have q1' := ne_n hz
        have HI2 := hid (HNO.out hz)
        clear HY HNO hz
        go_wp2_with fail
        go_roundw
        case rel => exact ⟨k + 1, fr, m, A, d, acc, by omega, rfl, rfl, by go_num, HAM.out, hmd, HI2, HO, HB⟩
        case measure => simp [intOf]; omega
    · have hkn : k = n := by omega
      subst hkn
      have d1 := lt_f hlt
      have d1' := lt_nf hlt
      have HFI : Hid ((fr < l.length → acc ++ [l.drop fr] = cutL l) ∧ (¬ fr < l.length → acc = cutL l)) := hid (CutI.fin (by rw [HN.out]; exact HI.out))
      clear HI
      by_cases hf : fr < k
      · have d2 := lt_t hf
        have d2' := lt_nt hf
        have HE := hid (HFI.out.1 (by rw [HN.out]; exact hf))
        have f0 : (0 : Int) ≤ (fr : Int) := by omega
        have f1 : (fr : Int) ≤ ((str l).size : Int) := by rw [hsz]; omega
        have f2 : (fr : Int).toNat = fr := by omega
        have hx : (str l).extract fr k = str (l.drop fr) := by rw [str_extract, List.take_of_length_le (by rw [List.length_drop, HN.out]; exact Nat.le_refl _)]
        obtain ⟨pc, hpc⟩ : ∃ pc, l.drop fr = pc := ⟨_, rfl⟩
        rw [hpc] at hx HE
        clear HFI hpc
        go_wp2_with (
          refine wpList_append_row _ rfl (.tmp 30) (.tmp 34) strsT rfl w.heap.size (.slice A m d) m (acc.map SV) rfl (own_alloc HO.out (.cells #[.string (str pc)] 9)) (some ⟨wr.heap.size, 0, none⟩) 1 1 [.string (str pc)] rfl rfl (Row.of_block (heap_alloc_new wr (Obj.cells #[.string (str pc)] 9))) (by simp [Value.oneCell']) (by simp only [maxLen]; omega) (by omega) (by have := HB.out.size; simp; omega) ?_
          intro A3 c3 w3 hown3 hgr3 hat3
          have B3 := hid ((HB.out.alloc HB.out.size (.cells #[.string (str pc)] 9)).grown hgr3 (by have := HB.out.size; simp; omega) (own_base HO.out))
          have P3 := hid hown3
          clear hown3 hgr3 hat3
          skip)
        go_ret
        refine ⟨A3, m + 1, c3, rfl, by rw [← HE.out, List.length_append, HAM.out]; rfl, (own_cap P3.out).1, ?_, B3.out⟩
        rw [← HE.out, List.map_append]
        exact P3.out
      · have d2 := lt_f hf
        have d2' := lt_nf hf
        have HE := hid (HFI.out.2 (by rw [HN.out]; exact hf))
        clear HFI
        go_wp2_with fail
        go_ret
        refine ⟨A, m, d, rfl, by rw [← HE.out, HAM.out], hmd, ?_, HB.out⟩
        rw [← HE.out]
        exact HO.out
end Go.Proofs.YthlofpofcpconaaDoor
