/-
  The best match at a place, as the finder looks for it. A part of the proof: see the head of the text that ends in 'Law'.
-/
import Derived.RegionIn
import Derived.Test.YtaoigplmkckieaaMa8
namespace Go.Proofs.Ytaoigplmkckieaa
open Go.RowKit Go.Shelf
set_option linter.unusedVariables false
attribute [local go_sem] Oper.semAt_some

/-- The loop over the places, the nearest one ahead. -/
def bestGo (l : List UInt8) (p : Nat) : List Nat → Nat × Nat → Nat × Nat
  | [], s => s
  | f :: r, s => if 32768 < p - f ∨ s.1 = 258 then s else bestGo l p r (if s.1 < lenL l f p then (lenL l f p, p - f) else s)
/-- The best match: its length and its distance. -/
def bestF (l : List UInt8) (p : Nat) : Nat × Nat :=
  if h : p + 3 ≤ l.length then bestGo l p (placesL l p l[p] l[p + 1] l[p + 2]).reverse (0, 0) else (0, 0)

/-- The loop's state: what has been looked at, and the two boxes. -/
def BI (l : List UInt8) (p : Nat) (w2 : World) (g6 g7 Bf : Nat) (v : Value) (pre : List {x : Nat × Nat // x.2 ≤ p}) (W : World) : Prop := Below w2.heap.size w2 W ∧ ∃ s : Nat × Nat, (∀ rest, bestGo l p (pre.map (fun x => x.1.2) ++ rest) (0, 0) = bestGo l p rest s) ∧
  OwnC W g6 3 [.int .i64 (s.1 : Int)] ∧ OwnC W g7 3 [.int .i64 (s.2 : Int)] ∧ OwnC W Bf 56 [v]
def BX (l : List UInt8) (p : Nat) (w2 : World) (g6 g7 : Nat) (c : Code) (pre : List {x : Nat × Nat // x.2 ≤ p}) (W : World) : Prop := c = .exit 0 ∧ Below w2.heap.size w2 W ∧ ∃ s : Nat × Nat, (∀ rest, bestGo l p (pre.map (fun x => x.1.2) ++ rest) (0, 0) = s) ∧
  OwnC W g6 3 [.int .i64 (s.1 : Int)] ∧ OwnC W g7 3 [.int .i64 (s.2 : Int)]
theorem bi_from {l : List UInt8} {p : Nat} {w2 : World} {g6 g7 Bf B : Nat} {v : Value} (h6 : g6 < B) (h7 : g7 < B) (hf : Bf < B) (hw : w2.heap.size ≤ B) : OwnFrom B (BI l p w2 g6 g7 Bf v) := by
  rintro pre X Y row ⟨h1, s, h2, h3, h4, h5⟩ hg hr
  refine ⟨h1.grown hg h1.size (fun r e => by have := (hr r e).1; omega), s, h2, h3.grown hg (fun e => ?_), h4.grown hg (fun e => ?_), h5.grown hg (fun e => ?_)⟩
  · have := (hr _ e).1; omega
  · have := (hr _ e).1; omega
  · have := (hr _ e).1; omega
theorem bx_from {l : List UInt8} {p : Nat} {w2 : World} {g6 g7 B : Nat} (h6 : g6 < B) (h7 : g7 < B) (hw : w2.heap.size ≤ B) (c : Code) : OwnFrom B (BX l p w2 g6 g7 c) := by
  rintro pre X Y row ⟨h0, h1, s, h2, h3, h4⟩ hg hr
  refine ⟨h0, h1.grown hg h1.size (fun r e => by have := (hr r e).1; omega), s, h2, h3.grown hg (fun e => ?_), h4.grown hg (fun e => ?_)⟩
  · have := (hr _ e).1; omega
  · have := (hr _ e).1; omega
theorem lift_sub {α : Type} {P : α → Prop} : ∀ l : List α, (∀ x ∈ l, P x) → ∃ ys : List {x : α // P x}, ys.map Subtype.val = l
  | [], _ => ⟨[], rfl⟩
  | a :: l, h => by
    obtain ⟨ys, hy⟩ := lift_sub l (fun x hx => h x (List.mem_cons_of_mem _ hx))
    exact ⟨⟨a, h a List.mem_cons_self⟩ :: ys, by simp [hy]⟩
theorem keeps_set (B : Nat) (W : World) (a : Addr) (v : Value) (ha : a.block < B) : KeepsFrom B W (W.setCell a v) :=
  KeepsFrom.of_grownBy (row := some a.block) ⟨rfl, rfl, rfl, by simp, fun k hk hne => heap_setCell_other W a k v (fun e => hne (by rw [e]))⟩ (fun j e => by cases e; exact ha)
set_option maxRecDepth 100000 in
set_option maxHeartbeats 4000000 in
theorem best_short {w0 w : World} {fb mb n c u : Nat} {A : Option Addr} {R : Nat → Prop} {l : List UInt8} (F : Fnd w0 w fb mb A n c R u u l) (ho : Oct w0 A n l) (hnc : n ≤ c) (hc : c ≤ maxLen) (hn : n ≤ 65536) (p : Nat) (hp : p < n) (hu : u ≤ p) (h3 : n < p + 3) :
    Calls Try.prog 18 #[.pointer (some ⟨fb, 0, none⟩), .int .i64 (p : Int)] w fun e w' => e = .returned (.tuple #[.int .i64 ((bestF l p).1 : Int), .int .i64 ((bestF l p).2 : Int)]) ∧ KeepI w0 w w' fb mb A n c p p R l := by
  have hl := ho.1
  have HO := hid ho
  have hcm : c ≤ 9223372036854775807 := by unfold maxLen at hc; omega
  have C2 := OwnC.new_ w #[.pointer (some ⟨fb, 0, none⟩)] 44
  have C2 := C2.alloc (.cells #[.int .i64 (p : Int)] 3)
  have C3 := OwnC.new_ (w.alloc (.cells #[.pointer (some ⟨fb, 0, none⟩)] 44)) #[.int .i64 (p : Int)] 3
  have hsz : (w.alloc (.cells #[.pointer (some ⟨fb, 0, none⟩)] 44)).heap.size = w.heap.size + 1 := by simp
  rw [hsz] at C3
  have hbb : Below w.heap.size w ((w.alloc (.cells #[.pointer (some ⟨fb, 0, none⟩)] 44)).alloc (.cells #[.int .i64 (p : Int)] 3)) := ((Below.refl _ _).alloc (Nat.le_refl _) _).alloc (by simp) _
  have ho1 : Only (fun _ => False) w ((w.alloc (.cells #[.pointer (some ⟨fb, 0, none⟩)] 44)).alloc (.cells #[.int .i64 (p : Int)] 3)) := Only.of_below hbb
  have F1 := hid (F.only ho1 (fun g hg => hg.elim))
  have HF := hid F
  have c2 := C2.cell (j := 0) rfl
  have c3 := C3.cell (j := 0) rfl
  have HC2 := hid C2
  have HC3 := hid C3
  have HBB := hid hbb
  clear C2 C3 hsz hbb ho1 F ho
  go_enter Try.func18, Try.ntmps18
  go_upto_region 2 with (go_at_call 21; refine (keep_any F1.out HO.out hnc hc hn p (by omega) (by omega)).mono ?_; rintro e w2 ⟨rfl, k2⟩)
  have hne := HF.out.cells.lt
  have hme := HF.out.grp.lt
  have hA2 : ∃ R', Fnd w0 w2 fb mb A n c R' p p l ∧ (∀ g, R' g → R g ∨ w.heap.size ≤ g) ∧ Only (Mine fb mb R) w w2 ∧ OwnC w2 w.heap.size 44 [.pointer (some ⟨fb, 0, none⟩)] ∧ OwnC w2 (w.heap.size + 1) 3 [.int .i64 (p : Int)] ∧ w.heap.size + 2 ≤ w2.heap.size := by
    rw [show max u p = p by omega] at k2
    obtain ⟨R', h1, h2, h3⟩ := k2
    have hs := h3.size
    have h4 : ∀ g, w.heap.size ≤ g → ¬ Mine fb mb R g := by
      rintro g hg (rfl | rfl | h)
      · omega
      · omega
      · have := HF.out.hl g h; omega
    refine ⟨R', h1, fun g hg => (h2 g hg).imp id (fun h => by simp at h; omega), (Only.of_below HBB.out).trans h3 (fun g hg => Or.inl hg), HC2.out.only h3 (h4 _ (Nat.le_refl _)), HC3.out.only h3 (h4 _ (by omega)), by simpa using hs⟩
  obtain ⟨R', hF2, hR2, hO2, C2, C3, hs2⟩ := hA2
  have HF2 := hid hF2
  have HR2 := hid hR2
  have HO2 := hid hO2
  have f0 := hF2.cells.cell (j := 0) rfl
  have f1 := hF2.cells.cell (j := 1) rfl
  have s2 := C2.cell (j := 0) rfl
  have s3 := C3.cell (j := 0) rfl
  have K2 : Hid (KeepI w0 w w2 fb mb A n c p p R l) := hid ⟨R', hF2, hR2, hO2⟩
  clear k2 c2 c3 hF2 hR2 hO2 HC2 HC3 HBB F1
  have d2 : decide ((n : Int) < (p : Int) + 3) = true := by simp; omega
  go_quiet (fail)
  go_wp2
  go_ret2
  refine ⟨?_, K2.out.drewN _⟩
  have hBF : bestF l p = (0, 0) := by
    unfold bestF
    rw [dif_neg (by omega)]
  rw [hBF]
  rfl
set_option maxRecDepth 100000 in
set_option maxHeartbeats 4000000 in
theorem best_long {w0 w : World} {fb mb n c u : Nat} {A : Option Addr} {R : Nat → Prop} {l : List UInt8} (F : Fnd w0 w fb mb A n c R u u l) (ho : Oct w0 A n l) (hnc : n ≤ c) (hc : c ≤ maxLen) (hn : n ≤ 65536) (p : Nat) (hp : p < n) (hu : u ≤ p) (h3 : p + 3 ≤ n) :
    Calls Try.prog 18 #[.pointer (some ⟨fb, 0, none⟩), .int .i64 (p : Int)] w fun e w' => e = .returned (.tuple #[.int .i64 ((bestF l p).1 : Int), .int .i64 ((bestF l p).2 : Int)]) ∧ KeepI w0 w w' fb mb A n c p p R l := by
  have hl := ho.1
  have HO := hid ho
  have hcm : c ≤ 9223372036854775807 := by unfold maxLen at hc; omega
  have C2 := OwnC.new_ w #[.pointer (some ⟨fb, 0, none⟩)] 44
  have C2 := C2.alloc (.cells #[.int .i64 (p : Int)] 3)
  have C3 := OwnC.new_ (w.alloc (.cells #[.pointer (some ⟨fb, 0, none⟩)] 44)) #[.int .i64 (p : Int)] 3
  have hsz : (w.alloc (.cells #[.pointer (some ⟨fb, 0, none⟩)] 44)).heap.size = w.heap.size + 1 := by simp
  rw [hsz] at C3
  have hbb : Below w.heap.size w ((w.alloc (.cells #[.pointer (some ⟨fb, 0, none⟩)] 44)).alloc (.cells #[.int .i64 (p : Int)] 3)) := ((Below.refl _ _).alloc (Nat.le_refl _) _).alloc (by simp) _
  have ho1 : Only (fun _ => False) w ((w.alloc (.cells #[.pointer (some ⟨fb, 0, none⟩)] 44)).alloc (.cells #[.int .i64 (p : Int)] 3)) := Only.of_below hbb
  have F1 := hid (F.only ho1 (fun g hg => hg.elim))
  have HF := hid F
  have c2 := C2.cell (j := 0) rfl
  have c3 := C3.cell (j := 0) rfl
  have HC2 := hid C2
  have HC3 := hid C3
  have HBB := hid hbb
  clear C2 C3 hsz hbb ho1 F ho
  refine (callsIn_wide (n := 8)).1 (callsIn_of_wp_marks Try.func18 rfl trivial ?_ rfl)
  simp only [Try.ntmps18, List.size_toArray, List.length_cons, List.length_nil, Nat.reduceAdd, Nat.reduceSub, Array.replicate_succ, Array.replicate_zero, List.push_toArray, List.append_toArray, List.nil_append, List.cons_append]
  refine wpIn_wide.2 ?_
  go_upto_region 2 with (go_at_call 21; refine (keep_any F1.out HO.out hnc hc hn p (by omega) (by omega)).mono ?_; rintro e w2 ⟨rfl, k2⟩)
  have hne := HF.out.cells.lt
  have hme := HF.out.grp.lt
  have hA2 : ∃ R', Fnd w0 w2 fb mb A n c R' p p l ∧ (∀ g, R' g → R g ∨ w.heap.size ≤ g) ∧ Only (Mine fb mb R) w w2 ∧ OwnC w2 w.heap.size 44 [.pointer (some ⟨fb, 0, none⟩)] ∧ OwnC w2 (w.heap.size + 1) 3 [.int .i64 (p : Int)] ∧ w.heap.size + 2 ≤ w2.heap.size := by
    rw [show max u p = p by omega] at k2
    obtain ⟨R', h1, h2, h3⟩ := k2
    have hs := h3.size
    have h4 : ∀ g, w.heap.size ≤ g → ¬ Mine fb mb R g := by
      rintro g hg (rfl | rfl | h)
      · omega
      · omega
      · have := HF.out.hl g h; omega
    refine ⟨R', h1, fun g hg => (h2 g hg).imp id (fun h => by simp at h; omega), (Only.of_below HBB.out).trans h3 (fun g hg => Or.inl hg), HC2.out.only h3 (h4 _ (Nat.le_refl _)), HC3.out.only h3 (h4 _ (by omega)), by simpa using hs⟩
  obtain ⟨R', hF2, hR2, hO2, C2, C3, hs2⟩ := hA2
  have HF2 := hid hF2
  have HR2 := hid hR2
  have HO2 := hid hO2
  have f0 := hF2.cells.cell (j := 0) rfl
  have f1 := hF2.cells.cell (j := 1) rfl
  have s2 := C2.cell (j := 0) rfl
  have s3 := C3.cell (j := 0) rfl
  have K2 : Hid (KeepI w0 w w2 fb mb A n c p p R l) := hid ⟨R', hF2, hR2, hO2⟩
  clear k2 c2 c3 hF2 hR2 hO2 HC2 HC3 HBB F1
  have d2 : decide ((n : Int) < (p : Int) + 3) = false := by simp; omega
  have hO := HO.out.below HF2.out.bel
  obtain ⟨b, off, rfl, hcell⟩ := hO.at_ (by omega)
  have p0 := hcell p (by omega)
  have p1 := hcell (p + 1) (by omega)
  have p2 := hcell (p + 2) (by omega)
  obtain ⟨xa, hxa⟩ : ∃ x, l[p]'(by omega) = x := ⟨_, rfl⟩
  obtain ⟨xb, hxb⟩ : ∃ x, l[p + 1]'(by omega) = x := ⟨_, rfl⟩
  obtain ⟨xc, hxc⟩ : ∃ x, l[p + 2]'(by omega) = x := ⟨_, rfl⟩
  rw [hxa] at p0
  rw [hxb] at p1
  rw [hxc] at p2
  rw [← Nat.add_assoc] at p1 p2
  have hBF : bestF l p = bestGo l p (placesL l p xa xb xc).reverse (0, 0) := by
    unfold bestF
    rw [dif_pos (by omega), hxa, hxb, hxc]
  have HBF := hid hBF
  have HCell := hid hcell
  obtain ⟨q, hq⟩ : ∃ q, placesL l p xa xb xc = q := ⟨_, rfl⟩
  rw [hq] at hBF
  have HQ := hid hq
  clear hO hcell hxa hxb hxc hBF hq
  go_quiet (fail)
  go_upto_region 4 with fail
  go_cut [6, 7] from 6 to 7 (fun a b wx => a = .pointer (some ⟨w2.heap.size, 0, none⟩) ∧ b = .pointer (some ⟨w2.heap.size + 1, 0, none⟩) ∧ Hid (OwnC wx w2.heap.size 3 [.int .i64 0] ∧ OwnC wx (w2.heap.size + 1) 3 [.int .i64 0] ∧ Below w2.heap.size w2 wx))
  case first =>
    obtain ⟨X, hX⟩ : ∃ X, w2.drewN nq = X := ⟨_, rfl⟩
    have hXs : X.heap.size = w2.heap.size := by rw [← hX]; rfl
    have hXb : Below w2.heap.size w2 X := by rw [← hX]; exact bq (Below.refl _ _) nq
    rw [hX]
    have D6 : OwnC ((X.alloc (.cells #[.int .i64 0] 3)).alloc (.cells #[.int .i64 0] 3)) w2.heap.size 3 [.int .i64 0] := by rw [← hXs]; exact (OwnC.new_ X _ _).alloc _
    have z6 := D6.frozen 0
    have y6 := D6.cell (j := 0) rfl
    have D7 : OwnC ((X.alloc (.cells #[.int .i64 0] 3)).alloc (.cells #[.int .i64 0] 3)) (w2.heap.size + 1) 3 [.int .i64 0] := by
      have := OwnC.new_ (X.alloc (.cells #[.int .i64 0] 3)) #[.int .i64 0] 3
      rwa [World.size_alloc, hXs] at this
    have hbx : Below w2.heap.size w2 ((X.alloc (.cells #[.int .i64 0] 3)).alloc (.cells #[.int .i64 0] 3)) := (hXb.alloc (by omega) _).alloc (by simp; omega) _
    have E6 := hid D6
    have E7 := hid D7
    have z7 := D7.frozen 0
    have y7 := D7.cell (j := 0) rfl
    have HBX := hid hbx
    clear D6 D7 hbx hX hXb
    go_wp2_with fail
    go_meet
    exact ⟨rfl, rfl, hid ⟨E6.out, E7.out, HBX.out⟩⟩
  case rest =>
  obtain ⟨rfl, rfl, hcut⟩ := hcut
  have s2 := cells_keep hcut.out.2.2 s2
  have s3 := cells_keep hcut.out.2.2 s3
  have f0 := cells_keep hcut.out.2.2 f0
  have f1 := cells_keep hcut.out.2.2 f1
  have p0 := cells_keep hcut.out.2.2 p0
  have p1 := cells_keep hcut.out.2.2 p1
  have p2 := cells_keep hcut.out.2.2 p2
  have hdr : Below w2.heap.size w2 wc.drew := bq hcut.out.2.2 1
  have hFx := HF2.out.only (T := fun _ => False) (Only.of_below hdr) (fun g hg => hg.elim)
  obtain ⟨v3, hlook3, hrow3, hvR⟩ := hFx.grp.look (by unfold maxLen; omega) xa xb xc
  rw [HQ.out] at hrow3
  obtain ⟨A3, c3, rfl⟩ := slice_of_own hrow3
  have HFx := hid hFx
  have hrow2 := own_same (w' := w2) hrow3 (fun g hg => (hdr.block g (HF2.out.hl g (hvR g hg))).symm)
  have hIR : (nums q).map (Value.int .i64) = q.map I8 := by unfold nums; rw [List.map_map]; rfl
  rw [hIR] at hrow2
  have HR3 := hid (Row.of_own hrow2)
  clear hFx hdr hrow2 hrow3 hIR hvR
  have e1 : ¬ c = p := by omega
  have e2 : IntKind.i64.wrap ((p : Int) + 3) = (p : Int) + 3 := by rw [IntKind.wrap_i64]; omega
  have e3 : (0 : Int) ≤ (p : Int) + 3 := by omega
  have e4 : (p : Int) + 3 ≤ c := by omega
  have e5 : ((p : Int) + 3).toNat = p + 3 := by omega
  have e6 : p ≤ p + 3 := by omega
  have e7 : p + 3 - p = 3 := by omega
  have e8 := run_arrayAt3 (some ⟨b, off + p, none⟩) (c - p)
  go_upto_region 5 with fail
  refine wp_region_noPanic ?_
  refine wp_region_held_drew (S := (fun W => W.cell? ⟨w.heap.size, 0, none⟩ = some (.pointer (some ⟨fb, 0, none⟩)) ∧ W.cell? ⟨w.heap.size + 1, 0, none⟩ = some (.int .i64 (p : Int)) ∧ W.cell? ⟨fb, 0, none⟩ = some (.slice (some ⟨b, off, none⟩) n c) ∧ W.cell? ⟨fb, 1, none⟩ = some (.map (some mb)) ∧ W.cell? ⟨b, off + p, none⟩ = some (.int .u8 (xa.toNat : Int)) ∧ W.cell? ⟨b, off + p + 1, none⟩ = some (.int .u8 (xb.toNat : Int)) ∧ W.cell? ⟨b, off + p + 2, none⟩ = some (.int .u8 (xc.toNat : Int)))) (by kernel_rfl) (by first | assumption | trivial) (fun hHeld => ?_)
  refine wpAnyH_take (i := 0) (v := ?_) rfl (by kernel_rfl) (by kernel_rfl) (by kernel_rfl) (fun _ _ _ h => h) (Or.inl ⟨by kernel_rfl, ?_⟩) (by first | assumption | trivial) ?_
  rotate_left
  · (intro wS hSw; (try dsimp only at hSw); go_simp; try with_reducible rfl)
  (try simp only [List.getElem_toArray, List.getElem_cons_succ, List.getElem_cons_zero, Act.put, List.setIfInBounds_toArray, List.set_cons_zero, List.set_cons_succ])
  refine wpAnyH_take (i := 1) (v := ?_) rfl (by kernel_rfl) (by kernel_rfl) (by kernel_rfl) (fun _ _ _ h => h) (Or.inl ⟨by kernel_rfl, ?_⟩) (by first | assumption | trivial) ?_
  rotate_left
  · (intro wS hSw; (try dsimp only at hSw); go_simp; try with_reducible rfl)
  (try simp only [List.getElem_toArray, List.getElem_cons_succ, List.getElem_cons_zero, Act.put, List.setIfInBounds_toArray, List.set_cons_zero, List.set_cons_succ])
  refine wpAnyH_take (i := 2) (v := ?_) rfl (by kernel_rfl) (by kernel_rfl) (by kernel_rfl) (fun _ _ _ h => h) (Or.inl ⟨by kernel_rfl, ?_⟩) (by first | assumption | trivial) ?_
  rotate_left
  · (intro wS hSw; (try dsimp only at hSw); go_simp; try with_reducible rfl)
  (try simp only [List.getElem_toArray, List.getElem_cons_succ, List.getElem_cons_zero, Act.put, List.setIfInBounds_toArray, List.set_cons_zero, List.set_cons_succ])
  refine wpAnyH_take (i := 3) (v := ?_) rfl (by kernel_rfl) (by kernel_rfl) (by kernel_rfl) (fun _ _ _ h => h) (Or.inl ⟨by kernel_rfl, ?_⟩) (by first | assumption | trivial) ?_
  rotate_left
  · (intro wS hSw; (try dsimp only at hSw); go_simp; try with_reducible rfl)
  (try simp only [List.getElem_toArray, List.getElem_cons_succ, List.getElem_cons_zero, Act.put, List.setIfInBounds_toArray, List.set_cons_zero, List.set_cons_succ])
  refine wpAnyH_take (i := 4) (v := ?_) rfl (by kernel_rfl) (by kernel_rfl) (by kernel_rfl) (fun _ _ _ h => h) (Or.inl ⟨by kernel_rfl, ?_⟩) (by first | assumption | trivial) ?_
  rotate_left
  · (intro wS hSw; (try dsimp only at hSw); go_simp; try with_reducible rfl)
  (try simp only [List.getElem_toArray, List.getElem_cons_succ, List.getElem_cons_zero, Act.put, List.setIfInBounds_toArray, List.set_cons_zero, List.set_cons_succ])
  refine wpAnyH_take (i := 5) (v := ?_) rfl (by kernel_rfl) (by kernel_rfl) (by kernel_rfl) (fun _ _ _ h => h) (Or.inl ⟨by kernel_rfl, ?_⟩) (by first | assumption | trivial) ?_
  rotate_left
  · (intro wS hSw; (try dsimp only at hSw); go_simp; try with_reducible rfl)
  (try simp only [List.getElem_toArray, List.getElem_cons_succ, List.getElem_cons_zero, Act.put, List.setIfInBounds_toArray, List.set_cons_zero, List.set_cons_succ])
  refine wpAnyH_take (i := 6) (v := ?_) rfl (by kernel_rfl) (by kernel_rfl) (by kernel_rfl) (fun _ _ _ h => h) (Or.inl ⟨by kernel_rfl, ?_⟩) (by first | assumption | trivial) ?_
  rotate_left
  · (intro wS hSw; (try dsimp only at hSw); go_simp; try with_reducible rfl)
  (try simp only [List.getElem_toArray, List.getElem_cons_succ, List.getElem_cons_zero, Act.put, List.setIfInBounds_toArray, List.set_cons_zero, List.set_cons_succ])
  refine wpAnyH_take (i := 7) (v := ?_) rfl (by kernel_rfl) (by kernel_rfl) (by kernel_rfl) (fun _ _ _ h => h) (Or.inl ⟨by kernel_rfl, ?_⟩) (by first | assumption | trivial) ?_
  rotate_left
  · (intro wS hSw; (try dsimp only at hSw); go_simp; try with_reducible rfl)
  (try simp only [List.getElem_toArray, List.getElem_cons_succ, List.getElem_cons_zero, Act.put, List.setIfInBounds_toArray, List.set_cons_zero, List.set_cons_succ])
  refine wpAnyH_take (i := 8) (v := ?_) rfl (by kernel_rfl) (by kernel_rfl) (by kernel_rfl) (fun _ _ _ h => h) (Or.inl ⟨by kernel_rfl, ?_⟩) (by first | assumption | trivial) ?_
  rotate_left
  · (intro wS hSw; (try dsimp only at hSw); go_simp; try with_reducible rfl)
  (try simp only [List.getElem_toArray, List.getElem_cons_succ, List.getElem_cons_zero, Act.put, List.setIfInBounds_toArray, List.set_cons_zero, List.set_cons_succ])
  refine wpAnyH_take (i := 9) (v := ?_) rfl (by kernel_rfl) (by kernel_rfl) (by kernel_rfl) (fun _ _ _ h => h) (Or.inl ⟨by kernel_rfl, ?_⟩) (by first | assumption | trivial) ?_
  rotate_left
  · (intro wS hSw; (try dsimp only at hSw); go_simp; try with_reducible rfl)
  (try simp only [List.getElem_toArray, List.getElem_cons_succ, List.getElem_cons_zero, Act.put, List.setIfInBounds_toArray, List.set_cons_zero, List.set_cons_succ])
  refine wpAnyH_take (i := 10) (v := ?_) rfl (by kernel_rfl) (by kernel_rfl) (by kernel_rfl) (fun _ _ _ h => h) (Or.inl ⟨by kernel_rfl, ?_⟩) (by first | assumption | trivial) ?_
  rotate_left
  · (intro wS hSw; (try dsimp only at hSw); go_simp; try with_reducible rfl)
  (try simp only [List.getElem_toArray, List.getElem_cons_succ, List.getElem_cons_zero, Act.put, List.setIfInBounds_toArray, List.set_cons_zero, List.set_cons_succ])
  refine wpAnyH_take (i := 11) (v := ?_) rfl (by kernel_rfl) (by kernel_rfl) (by kernel_rfl) (fun _ _ _ h => h) (Or.inl ⟨by kernel_rfl, ?_⟩) (by first | assumption | trivial) ?_
  rotate_left
  · (intro wS hSw; (try dsimp only at hSw); go_simp; try with_reducible rfl)
  (try simp only [List.getElem_toArray, List.getElem_cons_succ, List.getElem_cons_zero, Act.put, List.setIfInBounds_toArray, List.set_cons_zero, List.set_cons_succ])
  refine wpAnyH_take (i := 12) (v := ?_) rfl (by kernel_rfl) (by kernel_rfl) (by kernel_rfl) (fun _ _ _ h => h) (Or.inl ⟨by kernel_rfl, ?_⟩) (by first | assumption | trivial) ?_
  rotate_left
  · (intro wS hSw; (try dsimp only at hSw); go_simp; try with_reducible rfl)
  (try simp only [List.getElem_toArray, List.getElem_cons_succ, List.getElem_cons_zero, Act.put, List.setIfInBounds_toArray, List.set_cons_zero, List.set_cons_succ])
  refine wpAnyH_take (i := 13) (v := ?_) rfl (by kernel_rfl) (by kernel_rfl) (by kernel_rfl) (fun _ _ _ h => h) (Or.inl ⟨by kernel_rfl, ?_⟩) (by first | assumption | trivial) ?_
  rotate_left
  · (intro wS hSw; (try dsimp only at hSw); go_simp; try with_reducible rfl)
  (try simp only [List.getElem_toArray, List.getElem_cons_succ, List.getElem_cons_zero, Act.put, List.setIfInBounds_toArray, List.set_cons_zero, List.set_cons_succ])
  refine wpAnyH_ready (rs := [14]) (by kernel_rfl) (by simp) ?_
  refine AllReadyH.cons rfl (fun K hK => ?_) AllReadyH.nil
  rw [if_pos (by kernel_rfl)]
  (refine wp_lookup TM (.tmp 25) (.tmp 35) false rfl hlook3 ?_)
  refine hK.out _ _ (by first | assumption | trivial) (fun hHeld => ?_)
  clear hK K
  (try simp only [List.getElem_toArray, List.getElem_cons_succ, List.getElem_cons_zero, Act.put, List.setIfInBounds_toArray, List.set_cons_zero, List.set_cons_succ])
  have hb5 : Below wc.heap.size wc (wc.drew.alloc (.cells #[.slice A3 q.length c3] 56)) := (bq (Below.refl _ wc) 1).alloc (Nat.le_refl _) _
  have hS5 : (wc.drew.alloc (.cells #[.slice A3 q.length c3] 56)).cell? ⟨w.heap.size, 0, none⟩ = some (.pointer (some ⟨fb, 0, none⟩)) ∧ (wc.drew.alloc (.cells #[.slice A3 q.length c3] 56)).cell? ⟨w.heap.size + 1, 0, none⟩ = some (.int .i64 (p : Int)) ∧ (wc.drew.alloc (.cells #[.slice A3 q.length c3] 56)).cell? ⟨fb, 0, none⟩ = some (.slice (some ⟨b, off, none⟩) n c) ∧ (wc.drew.alloc (.cells #[.slice A3 q.length c3] 56)).cell? ⟨fb, 1, none⟩ = some (.map (some mb)) ∧ (wc.drew.alloc (.cells #[.slice A3 q.length c3] 56)).cell? ⟨b, off + p, none⟩ = some (.int .u8 (xa.toNat : Int)) ∧ (wc.drew.alloc (.cells #[.slice A3 q.length c3] 56)).cell? ⟨b, off + p + 1, none⟩ = some (.int .u8 (xb.toNat : Int)) ∧ (wc.drew.alloc (.cells #[.slice A3 q.length c3] 56)).cell? ⟨b, off + p + 2, none⟩ = some (.int .u8 (xc.toNat : Int)) := ⟨cells_keep hb5 s2, cells_keep hb5 s3, cells_keep hb5 f0, cells_keep hb5 f1, cells_keep hb5 p0, cells_keep hb5 p1, cells_keep hb5 p2⟩
  refine wpAnyH_ready (rs := [15]) (by kernel_rfl) (by simp) ?_
  refine AllReadyH.cons rfl (fun K hK => ?_) AllReadyH.nil
  go_simp
  (go_at_call 22; refine (back_any A3 q.length c3 _).mono ?_; rintro e w5 ⟨rfl, rfl⟩)
  go_wp2_with fail
  refine hK.out _ _ (by first | assumption | trivial) (fun hHeld => ?_)
  clear hK K
  (try simp only [List.getElem_toArray, List.getElem_cons_succ, List.getElem_cons_zero, Act.put, List.setIfInBounds_toArray, List.set_cons_zero, List.set_cons_succ])
  refine wpAnyH_done (by kernel_rfl) ?_ _
  refine NoPanic.normal ?_
  clear hS5 hHeld
  go_wp2_with fail
  have hcs := hcut.out.2.2.size
  have hg6 := hcut.out.1.lt
  have hg7 := hcut.out.2.1.lt
  have hql : q.length ≤ 65536 := by
    rw [← HQ.out]
    have := List.length_filter_le (fun i => decide (l[i]? = some xa ∧ l[i + 1]? = some xb ∧ l[i + 2]? = some xc)) (List.range p)
    rw [List.length_range] at this
    unfold placesL
    omega
  have hqp : ∀ x ∈ backL q, x.2 ≤ p := by
    intro x hx
    unfold backL at hx
    obtain ⟨i, _, rfl⟩ := List.mem_map.1 hx
    rw [List.getD_eq_getElem?_getD]
    cases hi : q[i]? with
    | none => simp
    | some z =>
      have hz := List.mem_of_getElem? hi
      rw [← HQ.out] at hz
      unfold placesL at hz
      have := List.mem_range.1 (List.mem_filter.1 hz).1
      simp
      omega
  obtain ⟨ys, hys⟩ : ∃ ys : List {x : Nat × Nat // x.2 ≤ p}, ys.map Subtype.val = backL q := lift_sub _ hqp
  have HYS := hid hys
  have hb5' : Below w2.heap.size w2 (wc.drew.alloc (.cells #[.slice A3 q.length c3] 56)) := hcut.out.2.2.trans (hb5.mono hcs)
  have hBf : OwnC (wc.drew.alloc (.cells #[.slice A3 q.length c3] 56)) wc.heap.size 56 [.slice A3 q.length c3] := OwnC.new_ wc.drew _ _
  refine (wpIn_wide (n := 8)).1 ?_
  refine' wpIn_rangeFunc_ownG rfl (by omega) (gf := 24) (lb := #[.pointer (some ⟨wc.heap.size, 0, none⟩)]) rfl trivial (enters_of Try.func24 (by kernel_rfl) rfl)
    (back_stops Subtype.val ys (8 - 1) (by omega) wc.heap.size q A3 q.length c3 w2 HR3.out rfl hql hys _ hb5' (hBf.cell (j := 0) rfl) hBf.lt) kpf_t (kpf_b (by simp; omega) (by simp)) (Below.refl _ _) (fun _ => rfl)
    (BI l p w2 w2.heap.size (w2.heap.size + 1) wc.heap.size (.slice A3 q.length c3)) (BX l p w2 w2.heap.size (w2.heap.size + 1)) (bi_from (by simp; omega) (by simp; omega) (by simp) (by simp; omega)) (bx_from (by simp; omega) (by simp; omega) (by simp; omega))
    ⟨hb5', (0, 0), (fun rest => rfl), hcut.out.1.below hb5, hcut.out.2.1.below hb5, hBf⟩ _ ?assign ?body ?done ?stop
  case assign =>
    intro lq x W K hK
    (try dsimp only [I8])
    gi_wp2
    exact hK
  case body =>
    rintro lq pre x W ⟨hb, s, hs, h6, h7, hf⟩ hlt
    (try dsimp only [I8])
    obtain ⟨⟨xi, f⟩, hfp⟩ := x
    dsimp only at hfp ⊢
    have HS := hid hs
    have s2 := cells_keep hb (C2.cell (j := 0) rfl)
    have s3 := cells_keep hb (C3.cell (j := 0) rfl)
    have f0 := cells_keep hb (HF2.out.cells.cell (j := 0) rfl)
    have k6 := h6.cell (j := 0) rfl
    have k7 := h7.cell (j := 0) rfl
    have z6 := h6.frozen 0
    have z7 := h7.frozen 0
    have H6 := hid h6
    have H7 := hid h7
    have H5 := hid hf
    have HB := hid hb
    obtain ⟨s0, s1⟩ := s
    dsimp only at hs k6 k7
    have hpf : IntKind.i64.wrap ((p : Int) - (f : Int)) = ((p - f : Nat) : Int) := by rw [IntKind.wrap_i64]; omega
    clear hs h6 h7 hf hb
    by_cases h1 : 32768 < p - f
    · have d1 : decide ((32768 : Int) < ((p - f : Nat) : Int)) = true := by simp; omega
      gi_wp2
      exact ⟨KeepsFrom.refl _ _, rfl, HB.out, (s0, s1), fun rest => by
        rw [List.map_append, List.append_assoc, HS.out]
        show bestGo l p (f :: rest) (s0, s1) = (s0, s1)
        rw [bestGo, if_pos (Or.inl h1)], H6.out, H7.out⟩
    · have d1 : decide ((32768 : Int) < ((p - f : Nat) : Int)) = false := by simp; omega
      by_cases h2 : s0 = 258
      · have d2 : ((s0 : Int) == 258) = true := by simp; omega
        gi_wp2
        exact ⟨KeepsFrom.refl _ _, rfl, HB.out, (s0, s1), fun rest => by
          rw [List.map_append, List.append_assoc, HS.out]
          show bestGo l p (f :: rest) (s0, s1) = (s0, s1)
          rw [bestGo, if_pos (Or.inr h2)], H6.out, H7.out⟩
      · have d2 : ((s0 : Int) == 258) = false := by simp; omega
        have hlong := long_any W fb n c (some ⟨b, off, none⟩) l f0 (HO.out.below (HF2.out.bel.trans (HB.out.mono HF2.out.bel.size))) hn f p hfp hp
        obtain ⟨m, hm⟩ : ∃ m, lenL l f p = m := ⟨_, rfl⟩
        rw [hm] at hlong
        have HM := hid hm
        have hm258 : m ≤ 258 := by rw [← hm]; exact lenL_le _ _ _
        clear hm
        by_cases h4 : s0 < m
        · have d3 : decide ((s0 : Int) < (m : Int)) = true := by simp; omega
          have d3' : decide (s0 < m) = true := by simp; omega
          gi_wp2_with (refine ⟨trivial, ?_⟩; gi_at_call 23; refine (CallsIn.inRound lq (callsIn_wide.2 hlong)).mono ?_; rintro e w6 ⟨rfl, hb6⟩; have k6 := cells_keep hb6 k6; have k7 := cells_keep hb6 k7; have s3 := cells_keep hb6 s3; have s2 := cells_keep hb6 s2; have z6 := (H6.out.below hb6).frozen 0; have z7 := (H7.out.below hb6).frozen 0)
          have b7 : Below w2.heap.size w6 ((w6.setCell ⟨w2.heap.size, 0, none⟩ (.int .i64 (m : Int))).setCell ⟨w2.heap.size + 1, 0, none⟩ (.int .i64 ((p - f : Nat) : Int))) := ((Below.refl _ _).setCell (p := ⟨w2.heap.size, 0, none⟩) (Nat.le_refl _) _).setCell (p := ⟨w2.heap.size + 1, 0, none⟩) (by simp) _
          have hBfl := H5.out.lt
          have e7 : (((w6.setCell ⟨w2.heap.size, 0, none⟩ (.int .i64 (m : Int))).setCell ⟨w2.heap.size + 1, 0, none⟩ (.int .i64 ((p - f : Nat) : Int))).drew).heap[wc.heap.size]? = W.heap[wc.heap.size]? :=
            (heap_setCell_other _ ⟨w2.heap.size + 1, 0, none⟩ wc.heap.size _ (by simp; omega)).trans ((heap_setCell_other _ ⟨w2.heap.size, 0, none⟩ wc.heap.size _ (by simp; omega)).trans (hb6.block _ hBfl))
          have b8 := bq ((hb6.mono HB.out.size).trans b7) 1
          have q6 := ((H6.out.below hb6).set 0 (.int .i64 (m : Int))).far (b := w2.heap.size + 1) (i := 0) (by omega) (.int .i64 ((p - f : Nat) : Int))
          have q7 := ((H7.out.below hb6).far (b := w2.heap.size) (i := 0) (by omega) (.int .i64 (m : Int))).set 0 (.int .i64 ((p - f : Nat) : Int))
          have q5 : OwnC (((w6.setCell ⟨w2.heap.size, 0, none⟩ (.int .i64 (m : Int))).setCell ⟨w2.heap.size + 1, 0, none⟩ (.int .i64 ((p - f : Nat) : Int))).drew) wc.heap.size 56 [.slice A3 q.length c3] := (((H5.out.below hb6).far (b := w2.heap.size) (i := 0) (by omega) _).far (b := w2.heap.size + 1) (i := 0) (by omega) _).drew
          have kp := ((KeepsFrom.of_grownBy (B := wc.heap.size + 1) (grown_of_below hb6) (fun j e => by cases e)).trans (keeps_set _ w6 ⟨w2.heap.size, 0, none⟩ (.int .i64 (m : Int)) (by simp; omega))).trans (keeps_set _ _ ⟨w2.heap.size + 1, 0, none⟩ (.int .i64 ((p - f : Nat) : Int)) (by simp; omega))
          have hbg : ∀ rest, bestGo l p ((pre ++ [⟨(xi, f), hfp⟩] : List {x : Nat × Nat // x.2 ≤ p}).map (fun x => x.1.2) ++ rest) (0, 0) = bestGo l p rest (m, p - f) := fun rest => by
            rw [List.map_append, List.append_assoc, HS.out]
            show bestGo l p (f :: rest) (s0, s1) = _
            rw [bestGo, if_neg (by rintro (h | h); exact h1 h; exact h2 h), if_pos (by rw [HM.out]; exact h4), HM.out]
          have fin : Hid (∀ W7, W7 = (((w6.setCell ⟨w2.heap.size, 0, none⟩ (.int .i64 (m : Int))).setCell ⟨w2.heap.size + 1, 0, none⟩ (.int .i64 ((p - f : Nat) : Int))).drew) → KeepsFrom (wc.heap.size + 1) W W7 ∧ KpF w2.heap.size wc.heap.size W W7 ∧ BI l p w2 w2.heap.size (w2.heap.size + 1) wc.heap.size (.slice A3 q.length c3) (pre ++ [⟨(xi, f), hfp⟩]) W7) := by
            rintro W7 rfl
            exact ⟨⟨kp.size, kp.same⟩, kpf_of b8 e7, HB.out.trans b8, (m, p - f), hbg, q6.drew, q7.drew, q5⟩
          have hB9 : ((wc.alloc (.cells #[.slice A3 q.length c3] 56)).drew).heap.size = wc.heap.size + 1 := World.size_alloc _ _
          clear b7 hBfl e7 b8 q6 q7 q5 kp hbg
          gi_region
          all_goals gi_wp2
          all_goals (rw [hB9]; exact fin.out _ rfl)
        · have d3 : decide ((s0 : Int) < (m : Int)) = false := by simp; omega
          have d3' : decide (s0 < m) = false := by simp; omega
          gi_wp2_with (refine ⟨trivial, ?_⟩; gi_at_call 23; refine (CallsIn.inRound lq (callsIn_wide.2 hlong)).mono ?_; rintro e w6 ⟨rfl, hb6⟩; have k6 := cells_keep hb6 k6; have k7 := cells_keep hb6 k7; have s3 := cells_keep hb6 s3; have s2 := cells_keep hb6 s2)
          refine ⟨KeepsFrom.of_grownBy (grown_of_below hb6) (fun j e => by cases e), kpf_of (hb6.mono HB.out.size) (hb6.block _ H5.out.lt), HB.out.trans (hb6.mono HB.out.size), (s0, s1), fun rest => ?_, H6.out.below hb6, H7.out.below hb6, H5.out.below hb6⟩
          rw [List.map_append, List.append_assoc, HS.out]
          show bestGo l p (f :: rest) (s0, s1) = _
          rw [bestGo, if_neg (by rintro (h | h); exact h1 h; exact h2 h), if_neg (by rw [HM.out]; exact h4)]
  case done =>
    rintro D zs W hD rfl ⟨hb, s, hs, h6, h7, hf⟩ hK
    have hsB : bestF l p = s := by
      have := hs []
      rw [List.append_nil] at this
      rw [HBF.out, HQ.out, ← backL_snd, ← HYS.out, List.map_map]
      exact this
    simp only [Exit.inBlock, Exit.then]
    have HSB := hid hsB
    have k6 := h6.cell (j := 0) rfl
    have k7 := h7.cell (j := 0) rfl
    have HB := hid hb
    have HK := hid hK
    clear hs h6 h7 hb hK hsB
    go_upto_region 11 with fail
    go_quiet (fail)
    go_wp2
    have zK : (W.drewN nq).heap[D]? = some (.deferred (some [])) := HK.out
    refine ⟨by simp, .inl ⟨_, _, rfl, run_takeDeferred zK, ?_⟩⟩
    refine ⟨_, results_tmp2 rfl _ _ _, ?_⟩
    rw [HSB.out]
    exact ⟨rfl, K2.out.far ((bq HB.out _).trans (belowK_b (w := w2) (Nat.le_refl _) (W.drewN _) D _ _ (by simp at hD; omega) zK rfl rfl))⟩
  case stop =>
    rintro D c' pre W hD hSp ⟨rfl, hb, s, hs, h6, h7⟩ hK
    have hsB : bestF l p = s := by
      obtain ⟨r, hr⟩ := hSp
      have := hs (r.map (fun x => x.1.2))
      rw [← List.map_append, hr] at this
      rw [HBF.out, HQ.out, ← backL_snd, ← HYS.out, List.map_map]
      exact this
    refine wpIn_wide.2 (wp_exit ?_)
    simp only [Exit.inBlock, Exit.then, if_true]
    have HSB := hid hsB
    have k6 := h6.cell (j := 0) rfl
    have k7 := h7.cell (j := 0) rfl
    have HB := hid hb
    have HK := hid hK
    clear hs h6 h7 hb hK hsB
    go_upto_region 11 with fail
    go_quiet (fail)
    go_wp2
    have zK : (W.drewN nq).heap[D]? = some (.deferred (some [])) := HK.out
    refine ⟨by simp, .inl ⟨_, _, rfl, run_takeDeferred zK, ?_⟩⟩
    refine ⟨_, results_tmp2 rfl _ _ _, ?_⟩
    rw [HSB.out]
    exact ⟨rfl, K2.out.far ((bq HB.out _).trans (belowK_b (w := w2) (Nat.le_refl _) (W.drewN _) D _ _ (by simp at hD; omega) zK rfl rfl))⟩
end Go.Proofs.Ytaoigplmkckieaa
