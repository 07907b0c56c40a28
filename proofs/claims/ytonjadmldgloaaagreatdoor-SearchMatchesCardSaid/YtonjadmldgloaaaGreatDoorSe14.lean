/-
  The chapter's examples; SearchNumbers: the walk. A part of the proof: see the head of the text that ends in 'Law'.
-/
import Derived.Test.YtonjadmldgloaaaGreatDoorSe13
namespace Go.Proofs.YtonjadmldgloaaaGreatDoor
section
open Go.RowKit Go.Shelf
set_option linter.unusedVariables false
set_option maxRecDepth 100000
attribute [local go_sem] Oper.semAt_some
theorem msg_built : Tryz.prog.built 27 [(1, .agg #[.int .i64 777605, .int .i64 0])] = some #[.int .i64 0, .int .i64 777605, .int .i64 0, .int .i64 0, .int .u64 0, .slice none 0 0] := by
  kernel_rfl
theorem hit_fill (ps : List (Nat × Value)) : Tryz.prog.built 30 ps = Instr.fill (fun i => (#[(0, 6), (6, 1), (7, 1), (8, 1), (9, 1)] : Array (Nat × Nat))[i]?) #[.int .i64 0, .int .i64 0, .int .i64 0, .int .i64 0, .int .u64 0, .slice none 0 0, .int .i64 0, .int .i64 0, .int .i64 0, .slice none 0 0] ps := by kernel_rfl
theorem hit_built (A : Option Addr) (n c : Nat) : Tryz.prog.built 30 [(0, .agg #[.int .i64 0, .int .i64 777605, .int .i64 0, .int .i64 0, .int .u64 0, .slice none 0 0]), (4, .slice A n c)] = some #[.int .i64 0, .int .i64 777605, .int .i64 0, .int .i64 0, .int .u64 0, .slice none 0 0, .int .i64 0, .int .i64 0, .int .i64 0, .slice A n c] := by
  rw [hit_fill]
  kernel_rfl
theorem in64_lit {a : Int} (h1 : -9223372036854775808 ≤ a) (h2 : a ≤ 9223372036854775807) : in64 a := ⟨h1, h2⟩
theorem z64 : in64 0 := in64_lit (by decide) (by decide)
/-- A key with nothing within it. -/
theorem key_plain {W : World} {m : Nat} {kind n : Int} {s t : List UInt8} (hk : in64 kind) (hn : in64 n) (hs : s.length ≤ m) (ht : t.length ≤ m) : KeyIn W m ⟨kind, s, t, n, none, 0, 0, [], none, 0, 0, []⟩ :=
  .mk _ ⟨hk, hn, hs, ht, rfl, Nat.zero_le _, Nat.le_refl _, fun h => absurd rfl h, fun p h => (by cases h), rfl, Nat.zero_le _, Nat.le_refl _, fun h => absurd rfl h⟩ (fun x h => (by cases h))
def k0 : KeyT := ⟨0, [], [], 0, none, 0, 0, [], none, 0, 0, []⟩
def nk (g : Nat) : KeyT := ⟨15, [], [], 0, none, 0, 0, [], some ⟨g + 1 + 1, 0, none⟩, 1, 1, [k0]⟩
def exB : List UInt8 := [83, 117, 98, 106, 101, 99, 116, 58, 32, 120]
def ex (g : Nat) : HitV := ⟨0, 777605, 0, 0, 0, none, 0, 0, [], 0, 0, 0, some ⟨g, 0, none⟩, 10, 10, exB⟩
def plk (k n : Int) (s : List UInt8) : KeyT := ⟨k, s, [], n, none, 0, 0, [], none, 0, 0, []⟩
structure Aw (w W : World) (g : Nat) : Prop where
  key : OwnE W (g + 1 + 1 + 1) 37 (keyC (nk g))
  hit : OwnE W (g + 1) 30 (hitC (ex g))
  ki : KeyIn W 100 (nk g)
  hi : HitIn W (ex g)
  t : Tabs W
  b : Below w.heap.size w W
theorem Aw.below {w W X : World} {g : Nat} (m : Aw w W g) (b : Below W.heap.size W X) : Aw w X g :=
  ⟨m.key.below b, m.hit.below b, m.ki.on b, m.hi.below b, m.t.below b, past m.b b⟩
theorem ev1 (g : Nat) : (mayB (nk g) && meansF 9 (ex g) (nk g)) = false := by kernel_rfl
theorem ev2 (g : Nat) : (mayB (plk 4 9 []) && meansF 9 (ex g) (plk 4 9 [])) = true := by kernel_rfl
theorem ev3 (g : Nat) : (mayB (plk 2 9 []) && meansF 9 (ex g) (plk 2 9 [])) = false := by kernel_rfl
theorem ev4 (g : Nat) : (mayB (plk 12 0 [83, 85, 66, 74]) && meansF 9 (ex g) (plk 12 0 [83, 85, 66, 74])) = true := by kernel_rfl
def aw1 (w : World) : World := w.alloc (.cells #[.int .u8 83, .int .u8 117, .int .u8 98, .int .u8 106, .int .u8 101, .int .u8 99, .int .u8 116, .int .u8 58, .int .u8 32, .int .u8 120] 5 (10, 11))
def aw2 (w : World) : World := (aw1 w).alloc (.cells #[.int .i64 0, .int .i64 777605, .int .i64 0, .int .i64 0, .int .u64 0, .slice none 0 0, .int .i64 0, .int .i64 0, .int .i64 0, .slice (some ⟨w.heap.size, 0, none⟩) 10 10] 30)
def aw3 (w : World) : World := (aw2 w).alloc (.cells #[.int .i64 0, .string ⟨#[]⟩, .string ⟨#[]⟩, .int .i64 0, .slice none 0 0, .slice none 0 0] 37)
def aw4 (w : World) : World := (aw3 w).alloc (.cells #[.int .i64 15, .string ⟨#[]⟩, .string ⟨#[]⟩, .int .i64 0, .slice none 0 0, .slice (some ⟨w.heap.size + 1 + 1, 0, none⟩) 1 1] 37)
theorem aw_start (w : World) (ht : Tabs w) : Aw w (aw4 w) w.heap.size := by
  have s1 : (aw1 w).heap.size = w.heap.size + 1 := World.size_alloc ..
  have s2 : (aw2 w).heap.size = w.heap.size + 1 + 1 := by rw [← s1]; exact World.size_alloc ..
  have s3 : (aw3 w).heap.size = w.heap.size + 1 + 1 + 1 := by rw [← s2]; exact World.size_alloc ..
  have c1 : Below w.heap.size w (aw1 w) := (Below.refl _ _).alloc (Nat.le_refl _) _
  have c2 : Below (aw1 w).heap.size (aw1 w) (aw2 w) := (Below.refl _ _).alloc (Nat.le_refl _) _
  have c3 : Below (aw2 w).heap.size (aw2 w) (aw3 w) := (Below.refl _ _).alloc (Nat.le_refl _) _
  have c4 : Below (aw3 w).heap.size (aw3 w) (aw4 w) := (Below.refl _ _).alloc (Nat.le_refl _) _
  have b4 : Below w.heap.size w (aw4 w) := past (past (past c1 c2) c3) c4
  have o2 : OwnE (aw2 w) (w.heap.size + 1) 30 (hitC (ex w.heap.size)) := by rw [← s1]; exact OwnE.new_ (aw1 w) (hitC (ex w.heap.size)) 30
  have o3 : OwnE (aw3 w) (w.heap.size + 1 + 1) 37 (keyC k0) := by rw [← s2]; exact OwnE.new_ (aw2 w) (keyC k0) 37
  have o4 : OwnE (aw4 w) (w.heap.size + 1 + 1 + 1) 37 (keyC (nk w.heap.size)) := by rw [← s3]; exact OwnE.new_ (aw3 w) (keyC (nk w.heap.size)) 37
  have hr : Oct (aw1 w) (some ⟨w.heap.size, 0, none⟩) 10 exB := Oct.of_block (l := exB) (fr := (10, 11)) (t := 5) (heap_alloc_new w _) rfl
  refine ⟨o4, (o2.below c3).below c4, ?_, ?_, ht.below b4, b4⟩
  · exact .mk _ ⟨show in64 15 from in64_lit (by decide) (by decide), z64, Nat.zero_le _, Nat.zero_le _, rfl, Nat.zero_le _, Nat.le_refl _, fun h => absurd rfl h, fun p h => (by cases h), rfl, (show (1 : Nat) ≤ 100 by decide), Nat.le_refl _, (o3.below c4).row⟩ (fun x h => by
      rw [List.mem_singleton.mp h]
      exact key_plain z64 z64 (Nat.zero_le _) (Nat.zero_le _))
  · exact ⟨⟨z64, show in64 777605 from in64_lit (by decide) (by decide), z64, z64, z64, z64, z64⟩, Nat.zero_le _, rfl, Nat.zero_le _, Nat.le_refl _, fun h => absurd rfl h, ((hr.below c2).below c3).below c4, (show (10 : Nat) ≤ 600 by decide), Nat.le_refl _⟩
set_option maxHeartbeats 8000000 in
theorem awake_any (w : World) (ht : Tabs w) : Calls Tryz.prog 8 #[] w fun e w' => e = .returned (.bool true) ∧ Below w.heap.size w w' := by
  have HS := hid (aw_start w ht)
  have kc := Lib.run_convert_bytes_const (P := Tryz.prog) w 28 5 #[.int .u8 83, .int .u8 117, .int .u8 98, .int .u8 106, .int .u8 101, .int .u8 99, .int .u8 116, .int .u8 58, .int .u8 32, .int .u8 120] 10 10 Tryz.underlying28 Tryz.underlying5
  clear ht
  go_enter Tryz.func8, Tryz.ntmps8
  go_upto_region 2 with first
    | (refine wpList_build_to rfl 27 _ rfl [(1, .agg #[.int .i64 777605, .int .i64 0])] rfl _ msg_built ?_)
    | (refine wpList_build_to rfl 30 _ rfl [(0, .agg #[.int .i64 0, .int .i64 777605, .int .i64 0, .int .i64 0, .int .u64 0, .slice none 0 0]), (4, .slice (some ⟨w.heap.size, 0, none⟩) 10 10)] rfl _ (hit_built ..) ?_)
  clear kc
  go_cut [2] (fun b wx => b = .pointer (some ⟨w.heap.size + 1 + 1 + 1, 0, none⟩) ∧ Hid (Aw w wx w.heap.size))
  case first =>
    go_wp2_with fail
    go_meet
    exact ⟨rfl, hid HS.out⟩
  case rest =>
  obtain ⟨rfl, M⟩ := hcut
  clear HS
  rename World => W
  obtain ⟨g, hg⟩ : ∃ g, w.heap.size = g := ⟨_, rfl⟩
  have HB := hid (fun (X : World) (m : Aw w X g) => m.b)
  rw [hg] at M
  simp only [hg]
  have HM1 := hid (fun (X : World) (m : Aw w X g) => (by have := match_any (nk g) (ex g) X m.ki m.hi m.t; rw [ev1] at this; exact this : Calls Tryz.prog 9 #[.agg #[.int .i64 15, .string ⟨#[]⟩, .string ⟨#[]⟩, .int .i64 0, .slice none 0 0, .slice (some ⟨g + 1 + 1, 0, none⟩) 1 1], .agg #[.int .i64 0, .int .i64 777605, .int .i64 0, .int .i64 0, .int .u64 0, .slice none 0 0, .int .i64 0, .int .i64 0, .int .i64 0, .slice (some ⟨g, 0, none⟩) 10 10]] X fun e w' => e = .returned (.bool false) ∧ Below X.heap.size X w'))
  have HM2 := hid (fun (X : World) (m : Aw w X g) => (by have := match_any (plk 4 9 []) (ex g) X (key_plain (in64_lit (by decide) (by decide)) (in64_lit (by decide) (by decide)) (by decide) (by decide)) m.hi m.t; rw [ev2] at this; exact this : Calls Tryz.prog 9 #[.agg #[.int .i64 4, .string ⟨#[]⟩, .string ⟨#[]⟩, .int .i64 9, .slice none 0 0, .slice none 0 0], .agg #[.int .i64 0, .int .i64 777605, .int .i64 0, .int .i64 0, .int .u64 0, .slice none 0 0, .int .i64 0, .int .i64 0, .int .i64 0, .slice (some ⟨g, 0, none⟩) 10 10]] X fun e w' => e = .returned (.bool true) ∧ Below X.heap.size X w'))
  have HM3 := hid (fun (X : World) (m : Aw w X g) => (by have := match_any (plk 2 9 []) (ex g) X (key_plain (in64_lit (by decide) (by decide)) (in64_lit (by decide) (by decide)) (by decide) (by decide)) m.hi m.t; rw [ev3] at this; exact this : Calls Tryz.prog 9 #[.agg #[.int .i64 2, .string ⟨#[]⟩, .string ⟨#[]⟩, .int .i64 9, .slice none 0 0, .slice none 0 0], .agg #[.int .i64 0, .int .i64 777605, .int .i64 0, .int .i64 0, .int .u64 0, .slice none 0 0, .int .i64 0, .int .i64 0, .int .i64 0, .slice (some ⟨g, 0, none⟩) 10 10]] X fun e w' => e = .returned (.bool false) ∧ Below X.heap.size X w'))
  have HM4 := hid (fun (X : World) (m : Aw w X g) => (by have := match_any (plk 12 0 [83, 85, 66, 74]) (ex g) X (key_plain (in64_lit (by decide) (by decide)) (in64_lit (by decide) (by decide)) (by decide) (by decide)) m.hi m.t; rw [ev4] at this; exact this : Calls Tryz.prog 9 #[.agg #[.int .i64 12, .string ⟨#[83, 85, 66, 74]⟩, .string ⟨#[]⟩, .int .i64 0, .slice none 0 0, .slice none 0 0], .agg #[.int .i64 0, .int .i64 777605, .int .i64 0, .int .i64 0, .int .u64 0, .slice none 0 0, .int .i64 0, .int .i64 0, .int .i64 0, .slice (some ⟨g, 0, none⟩) 10 10]] X fun e w' => e = .returned (.bool true) ∧ Below X.heap.size X w'))
  have y0 := M.out.key.cell (j := 0) (u := .int .i64 15) rfl
  have y1 := M.out.key.cell (j := 1) (u := .string ⟨#[]⟩) rfl
  have y2 := M.out.key.cell (j := 2) (u := .string ⟨#[]⟩) rfl
  have y3 := M.out.key.cell (j := 3) (u := .int .i64 0) rfl
  have y4 := M.out.key.cell (j := 4) (u := .slice none 0 0) rfl
  have y5 := M.out.key.cell (j := 5) (u := .slice (some ⟨g + 1 + 1, 0, none⟩) 1 1) rfl
  have z0 := M.out.hit.cell (j := 0) (u := .int .i64 0) rfl
  have z1 := M.out.hit.cell (j := 1) (u := .int .i64 777605) rfl
  have z2 := M.out.hit.cell (j := 2) (u := .int .i64 0) rfl
  have z3 := M.out.hit.cell (j := 3) (u := .int .i64 0) rfl
  have z4 := M.out.hit.cell (j := 4) (u := .int .u64 0) rfl
  have z5 := M.out.hit.cell (j := 5) (u := .slice none 0 0) rfl
  have z6 := M.out.hit.cell (j := 6) (u := .int .i64 0) rfl
  have z7 := M.out.hit.cell (j := 7) (u := .int .i64 0) rfl
  have z8 := M.out.hit.cell (j := 8) (u := .int .i64 0) rfl
  have z9 := M.out.hit.cell (j := 9) (u := .slice (some ⟨g, 0, none⟩) 10 10) rfl
  go_wp2_with first
    | (go_at_call 9; (with_reducible refine (HM1.out _ M.out).mono ?_); rintro e w4 ⟨rfl, b4⟩; have M := hid (M.out.below b4); clear b4 y0 y1 y2 y3 y4 y5 z0 z1 z2 z3 z4 z5 z6 z7 z8 z9 HM1
       have z0 := M.out.hit.cell (j := 0) (u := .int .i64 0) rfl
       have z1 := M.out.hit.cell (j := 1) (u := .int .i64 777605) rfl
       have z2 := M.out.hit.cell (j := 2) (u := .int .i64 0) rfl
       have z3 := M.out.hit.cell (j := 3) (u := .int .i64 0) rfl
       have z4 := M.out.hit.cell (j := 4) (u := .int .u64 0) rfl
       have z5 := M.out.hit.cell (j := 5) (u := .slice none 0 0) rfl
       have z6 := M.out.hit.cell (j := 6) (u := .int .i64 0) rfl
       have z7 := M.out.hit.cell (j := 7) (u := .int .i64 0) rfl
       have z8 := M.out.hit.cell (j := 8) (u := .int .i64 0) rfl
       have z9 := M.out.hit.cell (j := 9) (u := .slice (some ⟨g, 0, none⟩) 10 10) rfl
       skip)
    | (go_at_call 9; (with_reducible refine (HM2.out _ M.out).mono ?_); rintro e w5 ⟨rfl, b5⟩; have M := hid (M.out.below b5); clear b5 z0 z1 z2 z3 z4 z5 z6 z7 z8 z9 HM2
       have z0 := M.out.hit.cell (j := 0) (u := .int .i64 0) rfl
       have z1 := M.out.hit.cell (j := 1) (u := .int .i64 777605) rfl
       have z2 := M.out.hit.cell (j := 2) (u := .int .i64 0) rfl
       have z3 := M.out.hit.cell (j := 3) (u := .int .i64 0) rfl
       have z4 := M.out.hit.cell (j := 4) (u := .int .u64 0) rfl
       have z5 := M.out.hit.cell (j := 5) (u := .slice none 0 0) rfl
       have z6 := M.out.hit.cell (j := 6) (u := .int .i64 0) rfl
       have z7 := M.out.hit.cell (j := 7) (u := .int .i64 0) rfl
       have z8 := M.out.hit.cell (j := 8) (u := .int .i64 0) rfl
       have z9 := M.out.hit.cell (j := 9) (u := .slice (some ⟨g, 0, none⟩) 10 10) rfl
       skip)
    | (go_at_call 9; (with_reducible refine (HM3.out _ M.out).mono ?_); rintro e w6 ⟨rfl, b6⟩; have M := hid (M.out.below b6); clear b6 z0 z1 z2 z3 z4 z5 z6 z7 z8 z9 HM3
       have z0 := M.out.hit.cell (j := 0) (u := .int .i64 0) rfl
       have z1 := M.out.hit.cell (j := 1) (u := .int .i64 777605) rfl
       have z2 := M.out.hit.cell (j := 2) (u := .int .i64 0) rfl
       have z3 := M.out.hit.cell (j := 3) (u := .int .i64 0) rfl
       have z4 := M.out.hit.cell (j := 4) (u := .int .u64 0) rfl
       have z5 := M.out.hit.cell (j := 5) (u := .slice none 0 0) rfl
       have z6 := M.out.hit.cell (j := 6) (u := .int .i64 0) rfl
       have z7 := M.out.hit.cell (j := 7) (u := .int .i64 0) rfl
       have z8 := M.out.hit.cell (j := 8) (u := .int .i64 0) rfl
       have z9 := M.out.hit.cell (j := 9) (u := .slice (some ⟨g, 0, none⟩) 10 10) rfl
       skip)
    | (go_at_call 9; (with_reducible refine (HM4.out _ M.out).mono ?_); rintro e w7 ⟨rfl, b7⟩; have M := hid (M.out.below b7); clear b7 z0 z1 z2 z3 z4 z5 z6 z7 z8 z9 HM4)
  go_ret
  exact ⟨rfl, hg ▸ M.out.b⟩
end
section
open Go.RowKit Go.Shelf
set_option linter.unusedVariables false
attribute [local go_sem] Oper.semAt_some
theorem walkSearchNumbers (W : World) (ht : Tabs W) : Calls Tryz.prog 5 #[] W fun e w' => e = .returned (.bool true) ∧ Below W.heap.size W w' := by
  have HA := hid (awake_any W ht)
  clear ht
  go_enter Tryz.func5, Tryz.ntmps5
  go_wp2_with (go_at_call 8; (with_reducible refine HA.out.mono ?_); rintro e w1 ⟨rfl, b1⟩; have B1 := hid b1; clear b1)
  go_ret
  exact ⟨rfl, B1.out⟩
end
end Go.Proofs.YtonjadmldgloaaaGreatDoor
