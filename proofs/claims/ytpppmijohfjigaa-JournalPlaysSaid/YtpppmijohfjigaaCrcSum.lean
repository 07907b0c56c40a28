/-
  A part of the proof: see the head of the text that ends in 'Law'.
-/
import Derived.Test.YtpppmijohfjigaaCrcMore
namespace Go.Proofs.Ytpppmijohfjigaa
open Go.RowKit
set_option linter.unusedVariables false

set_option maxHeartbeats 400000 in
theorem sum_any (A : Option Addr) (n c : Nat) (l : List UInt8) (w : World) (ho : Oct w A n l) (hc : n ≤ 2147483648) :
    Calls Try.prog 71 #[.slice A n c] w fun e w' => e = .returned (.int .u32 (sumL l : Nat)) ∧ Below w.heap.size w w' := by
  go_enter Try.func71, Try.ntmps71
  go_wp2_with (go_at_call 35; refine (more_any 0 A n c l _ (by omega) ho hc).mono ?_; rintro e w1 ⟨rfl, hb1⟩)
  go_ret
  exact ⟨rfl, hb1⟩

set_option maxHeartbeats 400000 in
theorem refSum_any (A : Option Addr) (n c : Nat) (l : List UInt8) (w : World) (ho : Oct w A n l) (hc : n ≤ 2147483648) :
    Calls Try.prog 44 #[.slice A n c] w fun e w' => e = .returned (.int .u32 (sumL l : Nat)) ∧ w = w' := by
  have hg := goL_lt l (show 4294967295 < 4294967296 by omega)
  go_enter Try.func44, Try.ntmps44
  go_wp2_with (go_at_call 73; refine (refGo_any 4294967295 A n c l _ (by omega) ho hc).mono ?_; rintro e w1 ⟨rfl, rfl⟩)
  go_ret
  exact ⟨ret_int (by unfold sumL; omega), rfl⟩


set_option maxHeartbeats 400000 in
theorem four_any (s : Nat) (w : World) (hs : s < 4294967296) :
    Calls Try.prog 70 #[.int .u32 s] w fun e w' => e = .returned (.agg (four s)) ∧ Below w.heap.size w w' := by
  go_enter Try.func70, Try.ntmps70
  go_wp2
  exact bodyPost_ret (v := .agg (four s)) (by rw [four_eq s hs]; simp [results, Try.results70, go_sem]; omega) rfl ⟨rfl, (Below.refl _ _).alloc (Nat.le_refl _) _⟩

theorem four_size (s : Nat) : (four s).size = 4 := rfl
theorem four_one (s : Nat) : (four s).all (·.oneCell') = true := all_oneCell_toArray (one_B8 _)
theorem info42 : (Try.prog.info? 122).map (·.size) = some 4 := by kernel_rfl
theorem bytesC : SliceT Try.prog 24 5 (.int .u8 0) 1 1 := ⟨Try.underlying24, by kernel_rfl, rfl, by omega⟩
set_option maxHeartbeats 400000 in
theorem seal_own (A : Option Addr) (n c : Nat) (l : List UInt8) (w : World) (ho : Oct w A n l) (hc : n ≤ 2147483648) :
    Calls Try.prog 39 #[.slice A n c] w fun e w' => ∃ A' c', e = .returned (.slice A' (n + 4) c') ∧ w'.ownsRow w.heap.size 5 1 (.slice A' (n + 4) c') (n + 4) ((l ++ le4 (sumL l)).map B8) ∧ Below w.heap.size w w' := by
  have hl := hid ho.len
  go_enter Try.func39, Try.ntmps39
  go_wp2_with (first
    | (go_at_call 71; refine (sum_any A n c l _ ho hc).mono ?_; rintro e w1 ⟨rfl, hb1⟩)
    | (go_at_call 70; refine (four_any _ _ (sumL_lt l)).mono ?_; rintro e w2 ⟨rfl, hb2⟩)
    | refine wpList_store_row rfl 122 (.tmp 3) (.tmp 6) rfl _ (four (sumL l)) rfl rfl 122 _ (heap_alloc_new _ _) info42 rfl (four_one _) ?_)
  have hbW : Below w.heap.size w ((w2.alloc (Obj.cells #[Value.int IntKind.u8 0, Value.int IntKind.u8 0, Value.int IntKind.u8 0, Value.int IntKind.u8 0] 122)).setRow w2.heap.size (four (sumL l))) :=
    below_setRow ((hb1.trans (hb2.mono hb1.size)).alloc (Nat.le_trans hb1.size hb2.size) _) (Nat.le_trans hb1.size hb2.size) _
  have hg : w.heap.size ≤ w2.heap.size := Nat.le_trans hb1.size hb2.size
  have hblk := setRow_heap (w2.alloc (Obj.cells #[Value.int IntKind.u8 0, Value.int IntKind.u8 0, Value.int IntKind.u8 0, Value.int IntKind.u8 0] 122)) w2.heap.size _ (four (sumL l)) _ (0, 0) (heap_alloc_new _ _)
  generalize (w2.alloc (Obj.cells #[Value.int IntKind.u8 0, Value.int IntKind.u8 0, Value.int IntKind.u8 0, Value.int IntKind.u8 0] 122)).setRow w2.heap.size (four (sumL l)) = W at *
  generalize w2.heap.size = g at *
  have Hblk := hid hblk
  have HO := ho.below hbW
  clear hblk hb1 hb2
  go_region_law (first
    | (refine step_append_row _ rfl (.const (.slice none 0 0)) (.tmp 7) bytesC rfl w.heap.size (.slice none 0 0) 0 [] rfl (World.ownsRow_nil _ _ _ _) A n c (l.map B8) rfl HO.cells_len HO.2 (one_B8 l) (by simp only [maxLen]; omega) (by omega) hbW.size ?_
       intro A1 c1 w3 hown1 hgr1 hat1
       have hb3 : Below w.heap.size w w3 := hbW.drew.grown hgr1 hbW.size (fun k hk => by simp [Value.ownBlock] at hk)
       have hb4 : Below W.heap.size W w3 := (Below.refl W.heap.size W).drew.grown hgr1 (Nat.le_refl _) (fun k hk => by simp [Value.ownBlock] at hk)
       simp only [Nat.zero_add, List.nil_append] at hown1 hat1
       clear hgr1)
    | (refine step_append_row _ rfl (.tmp 8) (.tmp 9) bytesC rfl w.heap.size _ n (l.map B8) rfl hown1 (some ⟨g, 0, none⟩) 4 4 ((le4 (sumL l)).map B8) rfl rfl ((Row.of_block Hblk.out).below hb4) (one_B8 _) (by simp only [maxLen]; omega) (by omega) hb3.size ?_
       intro A2 c2 w4 hown2 hgr2 hat2
       have hb5 : Below w.heap.size w w4 := hb3.grown hgr2 hb3.size (fun k hk => ((hown1.lt) k hk).1)
       clear hgr2))
  go_wp2
  go_ret
  rw [← List.map_append] at hown2
  exact ⟨A2, c2, rfl, hown2, hb5⟩

theorem seal_any (A : Option Addr) (n c : Nat) (l : List UInt8) (w : World) (ho : Oct w A n l) (hc : n ≤ 2147483648) :
    Calls Try.prog 39 #[.slice A n c] w fun e w' => ∃ A' c', e = .returned (.slice A' (n + 4) c') ∧ n + 4 ≤ c' ∧ Oct w' A' (n + 4) (l ++ le4 (sumL l)) ∧ Below w.heap.size w w' :=
  (seal_own A n c l w ho hc).mono fun e w' ⟨A', c', he, hown, hb⟩ => ⟨A', c', he, (own_cap hown).1, ⟨by simp [ho.len, le4], Row.of_own hown⟩, hb⟩
end Go.Proofs.Ytpppmijohfjigaa
