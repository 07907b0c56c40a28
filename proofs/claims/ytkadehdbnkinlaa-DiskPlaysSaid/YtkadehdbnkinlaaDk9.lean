/-
  Which sectors wait. A part of the proof: see the head of the text that ends in 'Law'.
-/
import Derived.Test.YtkadehdbnkinlaaDk8
import Derived.Deep.WholeRow
namespace Go.Proofs.Ytkadehdbnkinlaa
open Go.RowKit
set_option linter.unusedVariables false
attribute [local go_sem] Oper.semAt_some

theorem waitC_get : ∀ (l : List (Int × List UInt8)), (∀ p ∈ l, p.2.length = 128) → ∀ (k : Nat) (hk : k < l.length) (j : Nat), j < 129 → (waitC l)[k * 129 + j]? = (isC (l[k]'hk))[j]?
  | [], _, k, hk, _, _ => by simp at hk
  | p :: l, h, 0, _, j, hj => by
    unfold waitC
    rw [List.flatMap_cons, Nat.zero_mul, Nat.zero_add, List.getElem?_append_left (by rw [isC_len p (h p List.mem_cons_self)]; exact hj)]
    rfl
  | p :: l, h, k + 1, hk, j, hj => by
    have ih := waitC_get l (fun x hx => h x (List.mem_cons_of_mem _ hx)) k (by simpa using hk) j hj
    unfold waitC at ih ⊢
    rw [List.flatMap_cons, List.getElem?_append_right (by rw [isC_len p (h p List.mem_cons_self)]; omega), isC_len p (h p List.mem_cons_self), show (k + 1) * 129 + j - 129 = k * 129 + j by omega, ih]
    rfl
/-- What waits is in a block, whole. -/
theorem wait_range {W : World} {b0 d hb : Nat} {V : Value} {D : Dsk} (h : DkAt W b0 d hb V D) (h0 : 0 < D.waits.length) : ∃ g c, V = .slice (some ⟨g, 0, none⟩) D.waits.length c ∧ ∀ (k : Nat) (hk : k < D.waits.length), W.rangeAt g (k * 129) (isC (D.waits[k]'hk)) := by
  rcases h.wait.2 with ⟨_, e⟩ | ⟨g, cap, cur, e, _, hg, _, _, hs, ht⟩
  · omega
  · refine ⟨g, cap, e, fun k hk j v hv => ?_⟩
    have hl := isC_len (D.waits[k]'hk) (h.wlen _ (List.getElem_mem hk)).1
    have hj : j < 129 := by
      rcases Nat.lt_or_ge j 129 with h1 | h1
      · exact h1
      · rw [List.getElem?_eq_none (by omega)] at hv; cases hv
    have h2 := waitC_get D.waits (fun p hp => (h.wlen p hp).1) k hk j hj
    rw [hv, ← ht] at h2
    rw [List.getElem?_take] at h2
    split at h2
    · simp only [World.cell?, hg]
      simpa using h2
    · cases h2
theorem iss_zero : (∀ w, (zeroValue 66).run Try.prog w = .ok (.agg zIss) w) ∧ (Try.prog.info? 66).map (·.size) = some 129 := zero_of_info (by kernel_rfl)
theorem intS : SliceT Try.prog 42 3 (.int .i64 0) 1 8 := ⟨Try.underlying42, by kernel_rfl, rfl, by decide⟩
def atV (p : Int × List UInt8) : Value := .int .i64 p.1
theorem isC_one (p : Int × List UInt8) : ∀ u ∈ isC p, u.oneCell' = true := fun u hu => by
  unfold isC at hu
  rcases List.mem_cons.1 hu with rfl | hu
  · rfl
  · exact one_B8 p.2 u hu
/-- The box of a round: a write that waits, put into a new variable. -/
theorem box_iss (w : World) (p : Int × List UInt8) : (w.alloc (.cells zIss 66)).setRow w.heap.size (isC p).toArray = w.alloc (.cells (isC p).toArray 66) := World.setRow_alloc_new w _ _ _
theorem row_new2 (wr : World) (o : Obj) (v : Value) (T : TypeId) : Row ((wr.alloc o).alloc (.cells #[v] T)) (some ⟨wr.heap.size + 1, 0, none⟩) [v] := by
  have h := Row.of_block (heap_alloc_new (wr.alloc o) (Obj.cells #[v] T))
  rw [World.size_alloc] at h
  exact h
set_option maxRecDepth 100000 in
set_option maxHeartbeats 4000000 in
theorem waits_any {W : World} {b0 d hb : Nat} {V : Value} {D : Dsk} (h : DkAt W b0 d hb V D) (hw : D.waits.length ≤ 100000) :
    Calls Try.prog 17 #[.pointer (some ⟨d, 0, none⟩)] W fun e w' => ∃ A c, e = .returned (.slice A D.waits.length c) ∧ w'.ownsRow W.heap.size 3 1 (.slice A D.waits.length c) D.waits.length (D.waits.map atV) ∧ Below W.heap.size W w' := by
  have x1 := h.cells.cell (j := 1) rfl
  have H := hid h
  obtain ⟨zer, zsz⟩ := iss_zero
  have HZS := hid zsz
  have hV : ∃ A c, V = .slice A D.waits.length c := by
    rcases h.wait.2 with ⟨e, e2⟩ | ⟨g, cap, cur, e, _⟩
    · rw [e2]; exact ⟨none, 0, e⟩
    · exact ⟨_, _, e⟩
  obtain ⟨A0, c0, rfl⟩ := hV
  obtain ⟨n, hn⟩ : ∃ n, D.waits.length = n := ⟨_, rfl⟩
  rw [hn] at x1 hw ⊢
  have HN := hid hn
  clear h zsz hn
  go_enter Try.func17, Try.ntmps17
  go_wp2_with fail
  go_loopw [3, 5, 11] (fun p bx i wr => ∃ (k m : Nat) (A : Option Addr) (c : Nat), k ≤ n ∧ i = .int .i64 (k : Int) ∧ m = k ∧ p = .slice A m c ∧ Hid (wr.ownsRow W.heap.size 3 1 (.slice A m c) m ((D.waits.take k).map atV) ∧ Below W.heap.size W wr)) (fun p bx i wr => n - (intOf i).toNat)
  case atStart => exact ⟨0, 0, none, 0, by omega, rfl, rfl, rfl, hid ⟨World.ownsRow_nil _ _ _ _, Below.refl _ _⟩⟩
  case round =>
    obtain ⟨k, m, A, c, hk, rfl, hmk, rfl, hI⟩ := hrel
    have HMK := hid hmk
    have hm : m ≤ 100000 := by omega
    clear hmk
    by_cases hlt : k < n
    · have hd : decide (k < n) = true := by simpa using hlt
      have hd' : decide ((k : Int) < (n : Int)) = true := by simp; omega
      have hkw : k < D.waits.length := by rw [HN.out]; exact hlt
      obtain ⟨g, c1, e1, hr⟩ := wait_range H.out (by omega)
      injection e1 with eA _ ec
      subst eA
      subst ec
      have HR := hid (fun (w1 : World) (hb : Below W.heap.size W w1) => show w1.rangeAt g (k * 129) (isC (D.waits[k]'hkw)) from range_only (T := fun _ => False) (hr k hkw) (Only.of_below hb) (fun h => h))
      have HL := hid ((H.out.wlen _ (List.getElem_mem hkw)).1)
      obtain ⟨q, hq⟩ : ∃ q, D.waits[k]'hkw = q := ⟨_, rfl⟩
      rw [hq] at HR HL
      have HSZ := hid (show (Try.prog.info? 66).map (·.size) = some (isC q).length by rw [HZS.out, isC_len q HL.out])
      have i0 : (0 : Int) ≤ (k : Int) := by omega
      have i1 : (k : Int) < (n : Int) := by omega
      have i2 : (k : Int).toNat = k := by omega
      have HQ := hid hq
      clear hr hq
      have y0 : (wr.alloc (.cells (isC q).toArray 66)).cell? ⟨wr.heap.size, 0, none⟩ = some (.int .i64 q.1) := (OwnC.new_ wr (isC q).toArray 66).cell (j := 0) (by unfold isC; rfl)
      have HTK := hid (show (D.waits.take (k + 1)).map atV = (D.waits.take k).map atV ++ [.int .i64 q.1] by
        rw [List.take_succ_eq_append_getElem hkw, HQ.out, List.map_append]
        rfl)
      go_wp2_with (first
        | (refine wpList_load_mid rfl 66 (.tmp 13) rfl g (k * 129) rfl (isC q) _ (HR.out _ hI.out.2) Try.underlying66 rfl HSZ.out ?_)
        | (refine wpList_store_row rfl 66 (.tmp 5) (.tmp 14) rfl wr.heap.size (isC q).toArray rfl rfl 66 zIss (heap_alloc_new wr _) (by rw [List.size_toArray]; exact HSZ.out) (by rw [zIss_size, List.size_toArray, isC_len q HL.out]) (all_oneCell_toArray (isC_one q)) ?_; rw [box_iss])
        | (at_builtin
           refine wpList_append_row _ rfl (.tmp 15) (.tmp 18) intS rfl W.heap.size (.slice A m c) m ((D.waits.take k).map atV) rfl (own_alloc (own_alloc hI.out.1 _) _) (some ⟨wr.heap.size + 1, 0, none⟩) 1 1 [.int .i64 q.1] rfl rfl (row_new2 _ _ _ _) (by simp [Value.oneCell']) (by simp only [maxLen]; omega) (by omega) (by have := hI.out.2.size; simp; omega) ?_
           intro A3 c3 w3 hown3 hgr3 hat3
           have B3 := hid (((hI.out.2.alloc hI.out.2.size (Obj.cells (isC q).toArray 66)).alloc (by have := hI.out.2.size; simp; omega) (Obj.cells #[.int .i64 q.1] 3)).grown hgr3 (by have := hI.out.2.size; simp; omega) (own_base hI.out.1))
           have P3 := hid hown3
           clear hown3 hgr3 hat3))
      go_roundw
      case rel =>
        refine ⟨k + 1, m + 1, A3, c3, by omega, by go_num, by rw [HMK.out], rfl, hid ⟨?_, B3.out⟩⟩
        rw [HTK.out]
        exact P3.out
      case measure => simp [intOf]; omega
    · have hd : decide (k < n) = false := by simpa using hlt
      have hd' : decide ((k : Int) < (n : Int)) = false := by simp; omega
      have hkn : k = n := by omega
      have hmn : m = n := by rw [HMK.out]; exact hkn
      have h1 := hI.out
      rw [hkn, ← HN.out, List.take_length] at h1
      subst hmn
      have H1 := hid h1
      clear h1 hkn
      go_wp2
      go_ret
      exact ⟨A, c, rfl, H1.out.1, H1.out.2⟩
end Go.Proofs.Ytkadehdbnkinlaa
