/-
  The walks of Give, Mark, New, few, Same. A part of the proof: see the head of the text that ends in 'Law'.
-/
import Derived.Test.YtccdgfacdohknaaSp7
namespace Go.Proofs.Ytccdgfacdohknaa
open Go.RowKit
set_option linter.unusedVariables false

set_option maxHeartbeats 1000000 in
theorem give_of (N : Int) (A : Option Addr) (n c : Nat) (bits : List UInt8) (w : World) (B : Option Addr) (nb cb : Nat) (xs : List Value) (r : List Bool × Nat) (ho : Oct w A n bits) (hB : Row w B xs)
    (hT : ∀ W, Oct W A n bits → Row W B xs → Calls Try.prog 24 #[.agg #[.int .i64 N, .slice A n c], .slice B nb cb, .bool true, .int .i64 6] W (SpPost W r)) :
    Calls Try.prog 9 #[.agg #[.int .i64 N, .slice A n c], .slice B nb cb] w (SpPost w r) := by
  have hT1 := hid (hT _ ((ho.alloc (Obj.cells #[.int .i64 N, .slice A n c] 24)).alloc (Obj.cells #[.int .i64 0, .slice none 0 0] 24)) ((hB.alloc _).alloc _))
  have hb0 := hid (((Below.refl _ w).alloc (Nat.le_refl _) (Obj.cells #[.int .i64 N, .slice A n c] 24)).alloc (by simp) (Obj.cells #[.int .i64 0, .slice none 0 0] 24))
  have c1 := hid (OwnC.new_ (w.alloc (Obj.cells #[.int .i64 N, .slice A n c] 24)) #[.int .i64 0, .slice none 0 0] 24)
  clear ho hB hT
  go_enter Try.func9, Try.ntmps9
  go_wp2_with (go_at_call 24; refine hT1.out.mono ?_; rintro e' w3 ⟨A3, c3, rfl, o3, hb3⟩; have r3 := c1.out.below hb3; rw [World.size_alloc] at r3; have rc0 := r3.cell (j := 0) (u := .int .i64 0) rfl; have rc1 := r3.cell (j := 1) (u := .slice none 0 0) rfl; have rf0 := r3.frozen 0; have rf1 := r3.frozen 1; have R3 := hid r3; have B3 := hid (past hb0.out hb3); have HB3 := hid hb3; clear r3 hb3)
  have z1 := (R3.out.set 0 (.int .i64 r.1.length)).set 1 (.slice A3 ((r.1.length + 7) / 8 : Nat) c3)
  have z0 := z1.cell (j := 0) (u := .int .i64 r.1.length) rfl
  have z2 := z1.cell (j := 1) (u := .slice A3 ((r.1.length + 7) / 8 : Nat) c3) rfl
  have y1 := (R3.out.set 0 (.int .i64 r.1.length)).cell (j := 1) (u := .slice none 0 0) rfl
  refine bodyPost_ret (v := .tuple #[.agg #[.int .i64 r.1.length, .slice A3 ((r.1.length + 7) / 8 : Nat) c3], .int .i64 r.2]) (by simp [results, Try.results9, go_sem, z0, z2]) rfl ?_
  exact ⟨A3, c3, rfl, (o3.poke rc0 (by intro x; simp [B8]) _).poke y1 (by intro x; simp [B8]) _, (B3.out.setCell (by simp) _).setCell (by simp) _⟩

set_option maxHeartbeats 1000000 in
theorem mark_of (N : Int) (A : Option Addr) (n c : Nat) (bits : List UInt8) (w : World) (B : Option Addr) (nb cb : Nat) (xs : List Value) (r : List Bool × Nat) (ho : Oct w A n bits) (hB : Row w B xs)
    (hT : ∀ W, Oct W A n bits → Row W B xs → Calls Try.prog 24 #[.agg #[.int .i64 N, .slice A n c], .slice B nb cb, .bool false, .int .i64 15] W (SpPost W r)) :
    Calls Try.prog 10 #[.agg #[.int .i64 N, .slice A n c], .slice B nb cb] w (SpPost w r) := by
  have hT1 := hid (hT _ ((ho.alloc (Obj.cells #[.int .i64 N, .slice A n c] 24)).alloc (Obj.cells #[.int .i64 0, .slice none 0 0] 24)) ((hB.alloc _).alloc _))
  have hb0 := hid (((Below.refl _ w).alloc (Nat.le_refl _) (Obj.cells #[.int .i64 N, .slice A n c] 24)).alloc (by simp) (Obj.cells #[.int .i64 0, .slice none 0 0] 24))
  have c1 := hid (OwnC.new_ (w.alloc (Obj.cells #[.int .i64 N, .slice A n c] 24)) #[.int .i64 0, .slice none 0 0] 24)
  clear ho hB hT
  go_enter Try.func10, Try.ntmps10
  go_wp2_with (go_at_call 24; refine hT1.out.mono ?_; rintro e' w3 ⟨A3, c3, rfl, o3, hb3⟩; have r3 := c1.out.below hb3; rw [World.size_alloc] at r3; have rc0 := r3.cell (j := 0) (u := .int .i64 0) rfl; have rc1 := r3.cell (j := 1) (u := .slice none 0 0) rfl; have rf0 := r3.frozen 0; have rf1 := r3.frozen 1; have R3 := hid r3; have B3 := hid (past hb0.out hb3); have HB3 := hid hb3; clear r3 hb3)
  have z1 := (R3.out.set 0 (.int .i64 r.1.length)).set 1 (.slice A3 ((r.1.length + 7) / 8 : Nat) c3)
  have z0 := z1.cell (j := 0) (u := .int .i64 r.1.length) rfl
  have z2 := z1.cell (j := 1) (u := .slice A3 ((r.1.length + 7) / 8 : Nat) c3) rfl
  have y1 := (R3.out.set 0 (.int .i64 r.1.length)).cell (j := 1) (u := .slice none 0 0) rfl
  refine bodyPost_ret (v := .tuple #[.agg #[.int .i64 r.1.length, .slice A3 ((r.1.length + 7) / 8 : Nat) c3], .int .i64 r.2]) (by simp [results, Try.results10, go_sem, z0, z2]) rfl ?_
  exact ⟨A3, c3, rfl, (o3.poke rc0 (by intro x; simp [B8]) _).poke y1 (by intro x; simp [B8]) _, (B3.out.setCell (by simp) _).setCell (by simp) _⟩


theorem zero_space (w : World) (e : Nat) : SpPost w ([], e) (.returned (.tuple #[.agg #[.int .i64 0, .slice none 0 0], .int .i64 e])) w := SpPost.none_ e (Below.refl _ _)

/-- Octets as a string. -/
theorem strP {W : World} {A : Option Addr} {n : Nat} {l : List UInt8} (c : Nat) (h : Oct W A n l) : (convert 22 9 (.slice A n c)).run Try.prog W = .ok (.string (str l)) W := run_string_oct c h Try.underlying22 Try.underlying5 Try.underlying9
/-- How many octets so many pages have, told by a letter of its own. -/
theorem octets_k (m : Nat) (w : World) (hm : m ≤ 4000) :
    Calls Try.prog 28 #[.int .i64 m] w fun e w' => ∃ k : Nat, Hid (k = (m + 7) / 8) ∧ e = .returned (.int .i64 k) ∧ w = w' :=
  (octets_any m w hm).mono fun e w' ⟨he, hw⟩ => ⟨_, hid rfl, he, hw.symm⟩
theorem pack_none (n : Nat) : packL (List.replicate n false) = List.replicate ((n + 7) / 8) 0 := by
  apply bits_ext (by simp [packL_length])
  intro p hp
  rw [bitL_pack]
  simp only [packL_length, List.length_replicate] at hp
  unfold bitL
  rw [List.getD_eq_getElem?_getD, List.getD_eq_getElem?_getD, List.getElem?_replicate, List.getElem?_replicate]
  split <;> split <;> simp

set_option maxHeartbeats 1000000 in
theorem new_good (n : Nat) (w : World) (hn : n ≤ 2048) :
    Calls Try.prog 20 #[.int .i64 n] w (SpPost w (List.replicate n false, 0)) := by
  have hd0 : decide ((n : Int) < 0) = false := by simp
  have hd1 : decide ((2048 : Int) < n) = false := by simp; omega
  obtain ⟨i0, hi0, hz0, hz1, hz2⟩ := info_parts bytesT.info
  have Hz1 := hid hz1
  have Hz2 := hid hz2
  have Hi0 := hid hi0
  have Hz0 := hid hz0
  have c1 := hid (OwnC.new_ w #[.int .i64 0, .slice none 0 0] 24)
  have B0 := hid ((Below.refl _ w).alloc (Nat.le_refl _) (Obj.cells #[.int .i64 0, .slice none 0 0] 24))
  clear hz1 hz2 hi0 hz0
  go_enter Try.func20, Try.ntmps20
  go_wp2_with (first
    | (go_at_call 28; refine (octets_k n _ (by omega)).mono ?_; rintro e w1 ⟨k, hk, rfl, rfl⟩)
    | (refine wpList_make_full _ rfl (.tmp 13) (.tmp 13) 22 rfl w.heap.size 5 i0 (.int .u8 0) 1 Try.underlying22 Hi0.out Hz0.out Hz1.out .i64 .i64 k k k rfl rfl rfl rfl (by rw [Hz2.out]; have := hk.out; omega) (by unfold maxLen; have := hk.out; omega) B0.out.size ?_
       intro w1 ho1 hg1
       have hb1 := (Below.refl _ _).grown hg1 (Nat.le_refl _) (fun k hk => by cases hk)
       have r1 := c1.out.below hb1
       have O1 := hid ho1
       have B1 := hid (next B0.out hb1)
       have rc0 := r1.cell (j := 0) (u := .int .i64 0) rfl
       have rc1 := r1.cell (j := 1) (u := .slice none 0 0) rfl
       have rf0 := r1.frozen 0
       have rf1 := r1.frozen 1
       have R1 := hid r1
       clear hg1 ho1 hb1 r1))
  have hz : (w.alloc (Obj.cells #[.int .i64 0, .slice none 0 0] 24)).heap.size = w.heap.size + 1 := by simp
  have O1' := O1.out
  rw [hz, made_one _ rfl] at O1'
  have o1 : Oct w1 (some ⟨w.heap.size + 1, 0, none⟩) k (List.replicate k 0) := Oct.of_own (by rw [List.map_replicate]; exact O1')
  have z1 := (R1.out.set 0 (.int .i64 n)).set 1 (.slice (some ⟨w.heap.size + 1, 0, none⟩) k k)
  have z0 := z1.cell (j := 0) (u := .int .i64 n) rfl
  have z2 := z1.cell (j := 1) (u := .slice (some ⟨w.heap.size + 1, 0, none⟩) k k) rfl
  have y1 := (R1.out.set 0 (.int .i64 n)).cell (j := 1) (u := .slice none 0 0) rfl
  refine bodyPost_ret (v := .tuple #[.agg #[.int .i64 n, .slice (some ⟨w.heap.size + 1, 0, none⟩) k k], .int .i64 0]) (by simp [results, Try.results20, go_sem, z0, z2]) rfl ?_
  refine ⟨some ⟨w.heap.size + 1, 0, none⟩, k, ?_, ?_, (B1.out.setCell (Nat.le_refl _) _).setCell (Nat.le_refl _) _⟩
  · simp only [List.length_replicate, ← hk.out]
    rfl
  · simp only [pack_none, List.length_replicate, ← hk.out]
    exact (o1.poke rc0 (by intro x; simp [B8]) _).poke y1 (by intro x; simp [B8]) _

set_option maxHeartbeats 1000000 in
theorem new_bad (n : Int) (w : World) (hn : n < 0 ∨ 2048 < n) :
    Calls Try.prog 20 #[.int .i64 n] w (SpPost w ([], 1)) := by
  have c1 := hid (OwnC.new_ w #[.int .i64 0, .slice none 0 0] 24)
  have B0 := hid ((Below.refl _ w).alloc (Nat.le_refl _) (Obj.cells #[.int .i64 0, .slice none 0 0] 24))
  have z1 := (c1.out.set 0 (.int .i64 0)).set 1 (.slice none 0 0)
  have z0 := hid (z1.cell (j := 0) (u := .int .i64 0) rfl)
  have z2 := hid (z1.cell (j := 1) (u := .slice none 0 0) rfl)
  clear z1
  by_cases h0 : n < 0
  · go_enter Try.func20, Try.ntmps20
    go_wp2
    refine bodyPost_ret (v := .tuple #[.agg #[.int .i64 0, .slice none 0 0], .int .i64 1]) (by simp [results, Try.results20, go_sem]) rfl ?_
    refine SpPost.none_ 1 ?_
    first | exact B0.out | exact (B0.out.setCell (Nat.le_refl _) _).setCell (Nat.le_refl _) _
  · have h1 : 2048 < n := by omega
    go_enter Try.func20, Try.ntmps20
    go_wp2
    refine bodyPost_ret (v := .tuple #[.agg #[.int .i64 0, .slice none 0 0], .int .i64 1]) (by simp [results, Try.results20, go_sem]) rfl ?_
    refine SpPost.none_ 1 ?_
    first | exact B0.out | exact (B0.out.setCell (Nat.le_refl _) _).setCell (Nat.le_refl _) _

def FewPost (w : World) (N : Int) (A : Option Addr) (c : Nat) (e : Ending) (w' : World) : Prop := ∃ n' bits', e = .returned (.agg #[.int .i64 N, .slice A n' c]) ∧ Oct w A n' bits' ∧ n' ≤ 258 ∧ n' ≤ c ∧ Below w.heap.size w w'
set_option maxHeartbeats 1000000 in
theorem few_any (N : Int) (A : Option Addr) (n c : Nat) (bits : List UInt8) (w : World) (ho : Oct w A n bits) (hc : n ≤ c) (hcm : c ≤ maxLen) :
    Calls Try.prog 7 #[.agg #[.int .i64 N, .slice A n c]] w (FewPost w N A c) := by
  have HO := hid ho
  have c0 := hid (OwnC.new_ w #[.int .i64 N, .slice A n c] 24)
  have c1 := hid (OwnC.new_ (w.alloc (Obj.cells #[.int .i64 N, .slice A n c] 24)) #[.int .i64 0, .slice none 0 0] 24)
  have B0 := hid (((Below.refl _ w).alloc (Nat.le_refl _) (Obj.cells #[.int .i64 N, .slice A n c] 24)).alloc (by simp) (Obj.cells #[.int .i64 0, .slice none 0 0] 24))
  clear ho
  by_cases h : 258 < n
  · have hd : decide ((258 : Int) < n) = true := by simp; omega
    have hc1 : (258 : Int) ≤ c := by omega
    have hc0 : ¬ c = 0 := by omega
    have H := hid h
    clear h
    go_enter Try.func7, Try.ntmps7
    go_wp2
    refine bodyPost_ret (v := .agg #[.int .i64 N, .slice A 258 c]) (by simp [results, Try.results7, go_sem]) rfl ?_
    exact ⟨258, bits.take 258, rfl, HO.out.take 258 (by have := H.out; omega), by omega, by omega, ((Below.refl _ w).alloc (Nat.le_refl _) _).alloc (by simp) _⟩
  · have hd : decide ((258 : Int) < n) = false := by simp; omega
    go_enter Try.func7, Try.ntmps7
    go_wp2
    refine bodyPost_ret (v := .agg #[.int .i64 N, .slice A n c]) (by simp [results, Try.results7, go_sem]) rfl ?_
    exact ⟨n, bits, rfl, HO.out, by omega, hc, ((Below.refl _ w).alloc (Nat.le_refl _) _).alloc (by simp) _⟩

theorem str_beq (l m : List UInt8) : (str l == str m) = (l == m) := by
  show (l.toArray == m.toArray) = (l == m)
  rw [Bool.eq_iff_iff, beq_iff_eq, beq_iff_eq]
  simp

set_option maxHeartbeats 1000000 in
theorem same_any (N M : Int) (A B : Option Addr) (n c m d : Nat) (la lb : List UInt8) (w : World) (ha : Oct w A n la) (hb : Oct w B m lb) :
    Calls Try.prog 12 #[.agg #[.int .i64 N, .slice A n c], .agg #[.int .i64 M, .slice B m d]] w fun e w' => e = .returned (.bool ((N == M) && (la == lb))) ∧ Below w.heap.size w w' := by
  have s1 := strP c ((ha.alloc (Obj.cells #[.int .i64 N, .slice A n c] 24)).alloc (Obj.cells #[.int .i64 M, .slice B m d] 24))
  have s2 := strP d ((hb.alloc (Obj.cells #[.int .i64 N, .slice A n c] 24)).alloc (Obj.cells #[.int .i64 M, .slice B m d] 24))
  have B0 := hid (((Below.refl _ w).alloc (Nat.le_refl _) (Obj.cells #[.int .i64 N, .slice A n c] 24)).alloc (by simp) (Obj.cells #[.int .i64 M, .slice B m d] 24))
  clear ha hb
  by_cases h : N = M
  · have h1 : (N == M) = true := by simpa using h
    rw [h1]
    clear h
    go_enter Try.func12, Try.ntmps12
    go_wp2
    go_ret
    exact ⟨by simp, B0.out⟩
  · have h1 : (N == M) = false := by simpa using h
    rw [h1]
    clear h s1 s2
    go_enter Try.func12, Try.ntmps12
    go_wp2
    go_ret
    exact ⟨by simp, B0.out⟩
end Go.Proofs.Ytccdgfacdohknaa
