/-
  A part of the proof: see the head of the text that ends in 'Law'.
-/
import Derived.Test.YtccibhgdpfmjlaaCrcAwake
namespace Go.Proofs.Ytccibhgdpfmjlaa
open Go.RowKit
set_option linter.unusedVariables false

theorem more_sum (l m : List UInt8) : 4294967295 - goL (4294967295 - sumL l) m = sumL (l ++ m) := by
  have hg := goL_lt l (show 4294967295 < 4294967296 by omega)
  unfold sumL
  rw [goL_append, show 4294967295 - (4294967295 - goL 4294967295 l) = goL 4294967295 l by omega]
theorem go_one (k : Nat) (hk : k < 256) : goL 0 [UInt8.ofNat k] = stpN 8 k := by
  show stpN 8 (0 ^^^ (UInt8.ofNat k).toNat) = _
  rw [Nat.zero_xor, UInt8.toNat_ofNat', Nat.mod_eq_of_lt (by omega)]
theorem one_cell (k : Nat) (hk : k < 256) : #[Value.int .u8 (k : Int)] = ([UInt8.ofNat k].map B8).toArray := by
  simp [B8, UInt8.toNat_ofNat', Nat.mod_eq_of_lt hk]
theorem oct_one (w : World) (t : TypeId) (k : Nat) (hk : k < 256) : Oct (w.alloc (.cells #[Value.int .u8 (k : Int)] t)) (some ⟨w.heap.size, 0, none⟩) 1 [UInt8.ofNat k] :=
  Oct.of_block [UInt8.ofNat k] (heap_alloc_new _ _) (one_cell k hk)

set_option maxHeartbeats 1000000 in
theorem walkCrcSums (A0 : Option Addr) (n0 c0 : Nat) (l0 : List UInt8) (A1 : Option Addr) (n1 c1 : Nat) (l1 : List UInt8) (k : Nat) (w : World) (ho0 : Oct w A0 n0 l0) (hn0 : n0 ≤ c0) (_ : c0 ≤ maxLen) (ho1 : Oct w A1 n1 l1) (hn1 : n1 ≤ c1) (_ : c1 ≤ maxLen) (hk : (k : Int) ≤ 255) :
    Calls Try.prog 3 #[.slice A0 n0 c0, .slice A1 n1 c1, .int .u8 k] w fun e w' => e = .returned (.bool true) ∧ Below w.heap.size w w' := by
  have hz := (zero_of_info zero25).1
  have hi25 : (Try.prog.info? 25).map (·.size) = some TAB.size := by rw [TAB_size]; exact (zero_of_info zero25).2
  have Hi := hid hi25
  clear hi25
  have m0 := min_len ho0
  have m1 := min_len ho1
  have hs0 : min n0 500 ≤ 500 := Nat.min_le_right _ _
  have hs1 : min n1 500 ≤ 500 := Nat.min_le_right _ _
  go_enter Try.func3, Try.ntmps3
  go_wp2_with (first
    | (go_at_call 7; with_reducible refine (few_any A0 n0 c0 l0 _ ho0 hn0).mono ?_; rintro e w' ⟨rfl, rfl⟩)
    | (go_at_call 7; with_reducible refine (few_any A1 n1 c1 l1 _ ho1 hn1).mono ?_; rintro e w' ⟨rfl, rfl⟩)
    | (go_at_call 8; refine (table_any _).mono ?_; rintro e w1 ⟨rfl, hb1⟩)
    | (refine wpList_store_row rfl 25 (.tmp 7) (.tmp 13) rfl _ TAB rfl rfl 25 Z256 (heap_alloc_new _ _) Hi.out (Z256_size.trans TAB_size.symm) TAB_one ?_
       clear hz
       obtain ⟨W, hW, hbW, hsz, hrow⟩ := laid_table hb1
       rw [← hW]
       have r1 := hrow k (by omega)
       have hbA : Below w.heap.size w (W.alloc (.cells #[] 5)) := hbW.alloc hbW.size _
       have M0 := m0.below hbA
       have r2 := cells_keep ((Below.refl W.heap.size W).alloc (Nat.le_refl _) (.cells #[] 5)) r1
       clear hW hrow hsz)
    | (at_builtin; refine wpList_append_row _ rfl (.tmp 14) (.tmp 15) bytesT rfl w.heap.size (.slice (some ⟨W.heap.size, 0, none⟩) 0 0) 0 [] rfl (World.ownsRow_lit W #[] 0 hbW.size (Nat.zero_le _) rfl) A0 (min n0 500) c0 ((l0.take 500).map B8) rfl M0.cells_len M0.2 (one_B8 _) (by simp only [maxLen]; omega) (by omega) hbA.size ?_
       intro A2 c2 w3 hown1 hgr1 hat1
       have hb3 : Below w.heap.size w w3 := hbA.grown hgr1 hbA.size (fun k hk => by simp [Value.ownBlock] at hk; have := hbW.size; omega)
       have hb3' : Below W.heap.size (W.alloc (.cells #[] 5)) w3 := (Below.refl _ _).grown hgr1 (by simp) (fun k hk => by simp [Value.ownBlock] at hk; omega)
       have r3 := cells_keep (((Below.refl W.heap.size W).alloc (Nat.le_refl _) (.cells #[] 5)).trans hb3') r1
       have M1 := m1.below hb3
       simp only [Nat.zero_add, List.nil_append] at hown1 hat1
       clear hgr1)
    | (at_builtin; refine wpList_append_row _ rfl (.tmp 16) (.tmp 17) bytesT rfl w.heap.size (.slice A2 (min n0 500) c2) (min n0 500) ((l0.take 500).map B8) rfl hown1 A1 (min n1 500) c1 ((l1.take 500).map B8) rfl M1.cells_len M1.2 (one_B8 _) (by simp only [maxLen]; omega) (by omega) hb3.size ?_
       intro A3 c3 w4 hown2 hgr2 hat2
       have hb4 : Below w.heap.size w w4 := hb3.grown hgr2 hb3.size (fun k hk => (hown1.lt k hk).1)
       have hb4' : Below W.heap.size w3 w4 := (Below.refl _ _).grown hgr2 (Nat.le_trans (by simp) hb3'.size) (fun k hk => by
         rcases hat1 with e | e <;> rw [e] at hk <;> simp [Value.ownBlock] at hk <;> omega)
       have r4 := cells_keep ((((Below.refl W.heap.size W).alloc (Nat.le_refl _) (.cells #[] 5)).trans hb3').trans hb4') r1
       rw [← List.map_append] at hown2
       have M2 : Oct w4 A3 ((min n0 500) + (min n1 500)) (l0.take 500 ++ l1.take 500) := ⟨by rw [List.length_append, m0.len, m1.len], Row.of_own hown2⟩
       have N0 := m0.below hb4
       have N1 := m1.below hb4
       clear hgr2 hown1 hown2 hat1 hat2 hb3' hb4' M0 M1 r2 r3))
  have hbz : Below w4.heap.size w4 w4.drew := (Below.refl _ _).drew
  have hgo := go_one k (by omega)
  have hq : ¬ (256 : Int) ≤ k := by omega
  clear ho0 ho1 m0 m1 hb1 hbW hbA hb3 r1
  have HG := hid hgo
  clear hgo
  go_region_held3 (fun w' => Below w4.heap.size w4 w' ∧ w'.cell? ⟨w1.heap.size, k, none⟩ = some (.int .u32 (stpN 8 k : Nat)))
    (first
      | exact keepS r4 (by assumption)
      | exact keepS r4 (below_alloc (And.left (by assumption)) _))
    (first
      | (go_at_call 9; with_reducible refine (sum_any A0 (min n0 500) c0 (l0.take 500) _ (N0.below (And.left (by assumption))) (by omega)).mono ?_; rintro e w5 ⟨rfl, hx⟩; have hy := next (And.left (by assumption)) hx; clear hx)
      | (go_at_call 10; with_reducible refine (refSum_any A0 (min n0 500) c0 (l0.take 500) _ (N0.below (And.left (by assumption))) (by omega)).mono ?_; rintro e w5 ⟨rfl, rfl⟩; have hy := (And.left (by assumption)))
      | (go_at_call 11; with_reducible refine (more_any (sumL (l0.take 500)) A1 (min n1 500) c1 (l1.take 500) _ (sumL_lt _) (N1.below (And.left (by assumption))) (by omega)).mono ?_; rintro e w5 ⟨rfl, hx⟩; have hy := next (And.left (by assumption)) hx; clear hx; rw [more_sum])
      | (go_at_call 10; with_reducible refine (refSum_any A3 (min n0 500 + min n1 500) c3 (l0.take 500 ++ l1.take 500) _ (M2.below (And.left (by assumption))) (by omega)).mono ?_; rintro e w5 ⟨rfl, rfl⟩; have hy := (And.left (by assumption)))
      | (go_at_call 12; refine (refGo_any 0 _ 1 1 [UInt8.ofNat k] _ (by omega) (oct_one _ _ k (by omega)) (by omega)).mono ?_; rintro e w5 ⟨rfl, rfl⟩; rw [HG.out]; have hy := (And.left (by assumption)))
      | (go_at_call 13; refine (awake_any _).mono ?_; rintro e w5 ⟨rfl, hx⟩; have hy := next (And.left (by assumption)) hx; clear hx))
  go_wp2
  go_ret
  exact ⟨rfl, past hb4 (And.left (by assumption))⟩
end Go.Proofs.Ytccibhgdpfmjlaa
