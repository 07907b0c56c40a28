/-
  No more of a text, or of a message, than is looked at. A part of the proof: see the head of the text that ends in 'Law'.
-/
import Derived.Test.YtonjadmldgloaaaGreatDoorSe14
namespace Go.Proofs.YtonjadmldgloaaaGreatDoor
open Go.RowKit Go.Shelf
set_option linter.unusedVariables false
set_option maxRecDepth 100000
attribute [local go_sem] Oper.semAt_some

theorem few_any (l : List UInt8) (w : World) : Calls Tryz.prog 16 #[.string (str l)] w fun e w' => e = .returned (.string (str (l.take 60))) ∧ w = w' := by
  obtain ⟨n, hn⟩ : ∃ n, l.length = n := ⟨_, rfl⟩
  have hsz : (str l).size = n := hn
  have hx : (str l).extract 0 60 = str (l.take 60) := by rw [str_extract]; rfl
  by_cases h : 60 < n
  · have d1 : decide ((60 : Int) < (n : Int)) = true := by simp; omega
    have d1' : decide (60 < n) = true := by simpa using h
    have h2 : (60 : Int) ≤ (n : Int) := by omega
    have h3 : 60 ≤ n := by omega
    clear hn
    go_enter Tryz.func16, Tryz.ntmps16
    go_wp2
    go_ret
    exact ⟨rfl, rfl⟩
  · have d1 : decide ((60 : Int) < (n : Int)) = false := by simp; omega
    have d1' : decide (60 < n) = false := by simpa using h
    have HF : Hid (l.take 60 = l) := hid (List.take_of_length_le (by omega))
    clear hn hx
    go_enter Tryz.func16, Tryz.ntmps16
    go_wp2
    go_ret
    exact ⟨by rw [HF.out]; rfl, rfl⟩
/-- No more flags, and no more of each, than are looked at. -/
def fewFl (l : List (List UInt8)) : List (List UInt8) := (l.take 24).map (fun s => s.take 30)
theorem fewFl_len (l : List (List UInt8)) : (fewFl l).length = min 24 l.length := by unfold fewFl; rw [List.length_map, List.length_take]
theorem fewFl_succ (l : List (List UInt8)) (j : Nat) (h : j < l.length) (h2 : j < 24) : (fewFl l).take (j + 1) = (fewFl l).take j ++ [(l[j]).take 30] := by
  have hj : j < (fewFl l).length := by rw [fewFl_len]; omega
  rw [List.take_succ_eq_append_getElem hj]
  congr 1
  unfold fewFl
  simp
theorem strS : SliceT Tryz.prog 25 9 (.string ⟨#[]⟩) 1 16 := ⟨Tryz.underlying25, by kernel_rfl, rfl, by omega⟩
set_option maxHeartbeats 8000000 in
theorem lfew24_any (A : Option Addr) (n c : Nat) (l : List (List UInt8)) (w : World) (hl : l.length = n) (hnc : n ≤ c) (hr : Row w A (l.map strV)) :
    Calls Tryz.prog 18 #[.slice A n c] w fun e w' => ∃ A' m c', e = .returned (.slice A' m c') ∧ (fewFl l).length = m ∧ m ≤ c' ∧ w'.ownsRow w.heap.size 9 1 (.slice A' m c') m ((fewFl l).map strV) ∧ Below w.heap.size w w' := by
  have HL := hid hl
  have HR := hid hr
  obtain ⟨m, hm⟩ : ∃ m, min 24 n = m := ⟨_, rfl⟩
  have HFL : Hid ((fewFl l).length = m) := hid (by rw [fewFl_len, hl, hm])
  have hmn : m ≤ n := by omega
  have hm24 : m ≤ 24 := by omega
  have haddr : 0 < n → ∃ b off, A = some ⟨b, off, none⟩ := fun h0 => by
    obtain ⟨b, off, hA, -⟩ := str_at hr (k := 0) (by rw [hl]; exact h0)
    exact ⟨b, off, hA⟩
  have HAD := hid haddr
  have J0 : Hid (w.ownsRow w.heap.size 9 1 (.slice none 0 0) 0 (((fewFl l).take 0).map strV)) := hid (World.ownsRow_nil _ _ _ _)
  clear hl hr haddr
  go_enter Tryz.func18, Tryz.ntmps18
  go_upto_if 8 with fail
  go_cut [0] (fun s0 wx => ∃ c', s0 = .slice A m c' ∧ m ≤ c' ∧ w = wx)
  case first =>
    by_cases h42 : 24 < n
    · have g1 : decide ((24 : Int) < (n : Int)) = true := by rw [decide_eq_true_iff]; omega
      have g1n : decide (24 < n) = true := by simpa using h42
      have z1 : (24 : Int) ≤ (c : Int) := by omega
      have z2 : 24 ≤ c := by omega
      obtain ⟨b, off, rfl⟩ := HAD.out (by omega)
      obtain rfl : m = 24 := by omega
      clear hm
      go_wp2_with fail
      go_meet
      exact ⟨c, rfl, z2, rfl⟩
    · have g1 : decide ((24 : Int) < (n : Int)) = false := by rw [decide_eq_false_iff_not]; omega
      have g1n : decide (24 < n) = false := by rw [decide_eq_false_iff_not]; exact h42
      obtain rfl : m = n := by omega
      clear hm
      go_wp2_with fail
      go_meet
      exact ⟨c, rfl, hnc, rfl⟩
  case rest =>
  obtain ⟨c', rfl, hmc, rfl⟩ := hcut
  clear hm HAD
  go_wp2_with fail
  go_loopw [3, 4] (fun v3 v4 wr => ∃ (j : Nat) (A1 : Option Addr) (c1 : Nat), j ≤ m ∧ v3 = .slice A1 j c1 ∧ v4 = .int .i64 (j : Int) ∧ Hid (wr.ownsRow w.heap.size 9 1 (.slice A1 j c1) j (((fewFl l).take j).map strV)) ∧ Hid (Below w.heap.size w wr)) (fun v3 v4 wr => m - (intOf v4).toNat)
  case atStart => exact ⟨0, none, 0, Nat.zero_le _, rfl, rfl, J0, hid (Below.refl _ _)⟩
  case round =>
    clear J0
    obtain ⟨j, A1, c1, hj, rfl, rfl, HO, HB⟩ := hrel
    rename World => wr
    by_cases hlt : j < m
    · have e1 : decide ((j : Int) < (m : Int)) = true := by simp; omega
      have e1n : decide (j < m) = true := by simpa using hlt
      have j0 : (0 : Int) ≤ (j : Int) := by omega
      have j1 : (j : Int) < (m : Int) := by omega
      have j2 : (j : Int).toNat = j := by omega
      have hjl : j < l.length := by rw [HL.out]; omega
      obtain ⟨b, off, hLA, hc⟩ := str_at (HR.out.below HB.out) hjl
      have x0 := hc j hjl
      have hfs := fewFl_succ l j hjl (by omega)
      obtain ⟨s, hs⟩ : ∃ s, l[j]'hjl = s := ⟨_, rfl⟩
      rw [hs] at x0 hfs
      have HFS := hid hfs
      subst hLA
      clear hc hfs hs
      obtain ⟨q, hq⟩ : ∃ q, s.length = q := ⟨_, rfl⟩
      have hsz : (str s).size = q := hq
      have hx : (str s).extract 0 30 = str (s.take 30) := by rw [str_extract]; rfl
      obtain ⟨p, hp⟩ : ∃ p, s.take 30 = p := ⟨_, rfl⟩
      rw [hp] at hx HFS
      go_upto_if 23 with fail
      go_cut [5] (fun s5 wx => s5 = .string (str p) ∧ wr = wx)
      case first =>
        by_cases h30 : 30 < q
        · have d1 : decide ((30 : Int) < (q : Int)) = true := by simp; omega
          have d1' : decide (30 < q) = true := by simpa using h30
          have h2 : (30 : Int) ≤ (q : Int) := by omega
          have h3 : 30 ≤ q := by omega
          clear hq hp
          go_wp2_with fail
          go_meet
          exact ⟨rfl, rfl⟩
        · have d1 : decide ((30 : Int) < (q : Int)) = false := by simp; omega
          have d1' : decide (30 < q) = false := by simpa using h30
          have HF : Hid (s = p) := hid (by rw [← hp, List.take_of_length_le (by omega)])
          clear hq hp hx
          go_wp2_with fail
          go_meet
          exact ⟨by rw [HF.out], rfl⟩
      case rest =>
      obtain ⟨rfl, hw9⟩ := hcut
      subst hw9
      clear hx hsz hq hp x0
      have hsm : (((fewFl l).take j).map strV).length = j := by rw [List.length_map, List.length_take, HFL.out]; omega
      have HSM := hid hsm
      clear hsm
      go_wp2_with (refine wpList_append_row _ rfl (.tmp 26) (.tmp 28) strS rfl w.heap.size (.slice A1 j c1) j (((fewFl l).take j).map strV) rfl (own_alloc HO.out (.cells #[.string (str p)] 9)) (some ⟨wr.heap.size, 0, none⟩) 1 1 [.string (str p)] rfl rfl (Row.of_block (heap_alloc_new wr (Obj.cells #[.string (str p)] 9))) (by simp [Value.oneCell']) (by simp only [maxLen]; omega) (by omega) (by have := HB.out.size; simp; omega) ?_; intro A3 c3 w3 hown3 hgr3 hat3; have B3 := hid ((HB.out.alloc HB.out.size (.cells #[.string (str p)] 9)).grown hgr3 (by have := HB.out.size; simp; omega) (own_base HO.out)); have P3 := hid hown3; clear hown3 hgr3 hat3)
      go_roundw
      case rel => exact ⟨j + 1, A3, c3, by omega, by go_num, by go_num, hid (by rw [HFS.out, List.map_append]; exact P3.out), B3⟩
      case measure => simp [intOf]; omega
    · have e1 : decide ((j : Int) < (m : Int)) = false := by simp; omega
      have e1n : decide (j < m) = false := by simpa using hlt
      obtain rfl : j = m := by omega
      have HO2 := hid (show wr.ownsRow w.heap.size 9 1 (.slice A1 j c1) j ((fewFl l).map strV) by have := HO.out; rw [List.take_of_length_le (by rw [HFL.out]; exact Nat.le_refl _)] at this; exact this)
      clear HO
      go_wp2_with fail
      go_ret
      exact ⟨A1, j, c1, rfl, HFL.out, (own_cap HO2.out).1, HO2.out, HB.out⟩
/-- The message that is looked at. -/
structure HitO (w0 W : World) (h : HitV) (bn bc : Nat) (FA : Option Addr) (fn fc : Nat) : Prop where
  box : OwnE W w0.heap.size 30 [.int .i64 h.uid, .int .i64 h.sec, .int .i64 h.zone, .int .i64 h.size, .int .u64 (h.blob : Int), .slice FA fn fc, .int .i64 h.place, .int .i64 h.many, .int .i64 h.great, .slice h.BA bn bc]
  res : OwnE W (w0.heap.size + 1) 30 [.int .i64 0, .int .i64 0, .int .i64 0, .int .i64 0, .int .u64 0, .slice none 0 0, .int .i64 0, .int .i64 0, .int .i64 0, .slice none 0 0]
  b : Below w0.heap.size w0 W
theorem ho_start (w : World) (h : HitV) : HitO w ((w.alloc (.cells (hitC h).toArray 30)).alloc (.cells #[.int .i64 0, .int .i64 0, .int .i64 0, .int .i64 0, .int .u64 0, .slice none 0 0, .int .i64 0, .int .i64 0, .int .i64 0, .slice none 0 0] 30)) h h.bn h.bc h.FA h.fn h.fc := by
  have a1 : Below w.heap.size w (w.alloc (.cells (hitC h).toArray 30)) := (Below.refl _ _).alloc (Nat.le_refl _) _
  have a2 := a1.alloc a1.size (.cells #[.int .i64 0, .int .i64 0, .int .i64 0, .int .i64 0, .int .u64 0, .slice none 0 0, .int .i64 0, .int .i64 0, .int .i64 0, .slice none 0 0] 30)
  refine ⟨(OwnE.new_ w (hitC h) 30).below ((Below.refl _ _).alloc (Nat.le_refl _) _), ?_, a2⟩
  have := OwnE.new_ (w.alloc (.cells (hitC h).toArray 30)) [.int .i64 0, .int .i64 0, .int .i64 0, .int .i64 0, .int .u64 0, .slice none 0 0, .int .i64 0, .int .i64 0, .int .i64 0, .slice none 0 0] 30
  rw [World.size_alloc] at this
  exact this
theorem HitO.below {w0 W X : World} {h : HitV} {bn bc : Nat} {FA : Option Addr} {fn fc : Nat} (m : HitO w0 W h bn bc FA fn fc) (b : Below W.heap.size W X) : HitO w0 X h bn bc FA fn fc :=
  ⟨m.box.below b, m.res.below b, past m.b b⟩
theorem HitO.bset {w0 W : World} {h : HitV} {bn bc : Nat} {FA : Option Addr} {fn fc : Nat} (m : HitO w0 W h bn bc FA fn fc) (n c : Nat) : HitO w0 (W.setCell ⟨w0.heap.size, 9, none⟩ (.slice h.BA n c)) h n c FA fn fc :=
  ⟨m.box.set 9 _, m.res.far (by omega) _, m.b.setCell (Nat.le_refl _) _⟩
theorem HitO.fset {w0 W : World} {h : HitV} {bn bc : Nat} {FA : Option Addr} {fn fc : Nat} (m : HitO w0 W h bn bc FA fn fc) (A : Option Addr) (n c : Nat) : HitO w0 (W.setCell ⟨w0.heap.size, 5, none⟩ (.slice A n c)) h bn bc A n c :=
  ⟨m.box.set 5 _, m.res.far (by omega) _, m.b.setCell (Nat.le_refl _) _⟩
/-- A message as it came. -/
structure HitBig (w : World) (h : HitV) : Prop where
  i64 : in64 h.uid ∧ in64 h.sec ∧ in64 h.zone ∧ in64 h.size ∧ in64 h.place ∧ in64 h.many ∧ in64 h.great
  blob : h.blob ≤ 18446744073709551615
  fl : h.fl.length = h.fn
  fc : h.fn ≤ h.fc
  fr : Row w h.FA (h.fl.map strV)
  bl : Oct w h.BA h.bn h.b
  bc : h.bn ≤ h.bc
theorem HitBig.below {w w' : World} {h : HitV} (g : HitBig w h) (b : Below w.heap.size w w') : HitBig w' h :=
  ⟨g.i64, g.blob, g.fl, g.fc, g.fr.below b, g.bl.below b, g.bc⟩
set_option maxHeartbeats 8000000 in
theorem hit_where (h : HitV) (w : World) (hb : HitBig w h) :
    Calls Tryz.prog 7 #[.agg (hitC h).toArray] w fun e w' => ∃ h' : HitV, e = .returned (.agg (hitC h').toArray) ∧ HitIn w' h' ∧ Below w.heap.size w w' ∧ (∀ a, h'.FA = some a → w.heap.size ≤ a.block) ∧ h'.BA = h.BA ∧ (h'.b ≠ [] → h.b ≠ []) := by
  have HS := hid (ho_start w h)
  have HB := hid hb
  obtain ⟨uid, sec, zone, size, blob, FA, fn, fc, fl, place, many, great, BA, bn, bc, b⟩ := h
  have hbc : bn ≤ bc := hb.bc
  have haddr : 0 < bn → ∃ b off, BA = some ⟨b, off, none⟩ := fun h0 => by
    obtain ⟨b, off, hA, -⟩ := Oct.at_ hb.bl h0
    exact ⟨b, off, hA⟩
  have HAD := hid haddr
  obtain ⟨m, hm⟩ : ∃ m, min 600 bn = m := ⟨_, rfl⟩
  have hmn : m ≤ bn := by omega
  have hm6 : m ≤ 600 := by omega
  obtain ⟨W3, hW3⟩ : ∃ W3, ((w.alloc (.cells #[.int .i64 uid, .int .i64 sec, .int .i64 zone, .int .i64 size, .int .u64 (blob : Int), .slice FA fn fc, .int .i64 place, .int .i64 many, .int .i64 great, .slice BA bn bc] 30)).alloc (.cells #[.int .i64 0, .int .i64 0, .int .i64 0, .int .i64 0, .int .u64 0, .slice none 0 0, .int .i64 0, .int .i64 0, .int .i64 0, .slice none 0 0] 30)) = W3 := ⟨_, rfl⟩
  have M : Hid (HitO w W3 ⟨uid, sec, zone, size, blob, FA, fn, fc, fl, place, many, great, BA, bn, bc, b⟩ bn bc FA fn fc) := hid (by rw [← hW3]; exact HS.out)
  have y9 := M.out.box.cell (j := 9) rfl
  have n9 := M.out.box.frozen 9
  clear HS hb haddr
  show Calls Tryz.prog 7 #[.agg #[.int .i64 uid, .int .i64 sec, .int .i64 zone, .int .i64 size, .int .u64 (blob : Int), .slice FA fn fc, .int .i64 place, .int .i64 many, .int .i64 great, .slice BA bn bc]] w fun e w' => ∃ h' : HitV, e = .returned (.agg (hitC h').toArray) ∧ HitIn w' h' ∧ Below w.heap.size w w' ∧ (∀ a, h'.FA = some a → w.heap.size ≤ a.block) ∧ h'.BA = BA ∧ (h'.b ≠ [] → b ≠ [])
  go_enter Tryz.func7, Tryz.ntmps7
  go_upto_if 6 with fail
  go_cut [6] (fun t wx => ∃ bc', m ≤ bc' ∧ Hid (HitO w wx ⟨uid, sec, zone, size, blob, FA, fn, fc, fl, place, many, great, BA, bn, bc, b⟩ m bc' FA fn fc))
  case first =>
    by_cases h42 : 600 < bn
    · have g1 : decide ((600 : Int) < (bn : Int)) = true := by rw [decide_eq_true_iff]; omega
      have g1n : decide (600 < bn) = true := by simpa using h42
      have z1 : (600 : Int) ≤ (bc : Int) := by omega
      have z2 : 600 ≤ bc := by omega
      obtain ⟨b0, off, rfl⟩ := HAD.out (by omega)
      obtain rfl : m = 600 := by omega
      clear hm hW3
      go_wp2_with fail
      go_meet
      exact ⟨bc, z2, hid (M.out.bset 600 bc)⟩
    · have g1 : decide ((600 : Int) < (bn : Int)) = false := by rw [decide_eq_false_iff_not]; omega
      have g1n : decide (600 < bn) = false := by rw [decide_eq_false_iff_not]; exact h42
      obtain rfl : m = bn := by omega
      clear hm hW3
      go_wp2_with fail
      go_meet
      exact ⟨bc, hbc, M⟩
  case rest =>
  obtain ⟨bc', hmc, M2⟩ := hcut
  rename World => X
  clear y9 n9 hm HAD
  have M := M2
  clear M2
  have HFE := hid (lfew24_any FA fn fc fl X HB.out.fl HB.out.fc (HB.out.below M.out.b).fr)
  have y5 := M.out.box.cell (j := 5) rfl
  have n5 := M.out.box.frozen 5
  go_upto_region 4 with (go_at_call 18; (with_reducible refine HFE.out.mono ?_); rintro e w4 ⟨A4, m4, c4, rfl, l4, mc4, r4, b4⟩; have M4 := hid (M.out.below b4); have B4 := hid b4; have R4 := hid r4; have L4 := hid l4; clear b4 r4 l4 y5 n5 HFE; have y5 := M4.out.box.cell (j := 5) rfl; have n5 := M4.out.box.frozen 5)
  have M5 := hid (M4.out.fset A4 m4 c4)
  have F1 : Hid ((Value.slice A4 m4 c4).ownBlock ≠ some w.heap.size) := hid (fun e => by have h1 := own_base R4.out _ e; have h2 := M.out.res.lt; omega)
  have F2 : Hid ((Value.slice A4 m4 c4).ownBlock ≠ some (w.heap.size + 1)) := hid (fun e => by have h1 := own_base R4.out _ e; have h2 := M.out.res.lt; omega)
  have FB : Hid (∀ a, A4 = some a → w.heap.size ≤ a.block) := hid (fun a ha => Nat.le_trans M.out.b.size (own_base R4.out a.block (by rw [ha]; rfl)))
  have R5 := hid (row_far R4.out F1.out (.slice A4 m4 c4) (i := 5))
  obtain ⟨W5, hW5⟩ : ∃ W5, w4.setCell ⟨w.heap.size, 5, none⟩ (.slice A4 m4 c4) = W5 := ⟨_, rfl⟩
  rw [hW5] at M5 R5
  simp only [hW5]
  clear hW5 M4 B4 R4 M F1 y5 n5
  have M := M5
  clear M5
  have n0 := M.out.res.frozen 0
  have n1 := M.out.res.frozen 1
  have n2 := M.out.res.frozen 2
  have n3 := M.out.res.frozen 3
  have n4 := M.out.res.frozen 4
  have n5 := M.out.res.frozen 5
  have n6 := M.out.res.frozen 6
  have n7 := M.out.res.frozen 7
  have n8 := M.out.res.frozen 8
  have n9 := M.out.res.frozen 9
  have y0 := M.out.box.cell (j := 0) rfl
  have y1 := M.out.box.cell (j := 1) rfl
  have y2 := M.out.box.cell (j := 2) rfl
  have y3 := M.out.box.cell (j := 3) rfl
  have y4 := M.out.box.cell (j := 4) rfl
  have y5 := M.out.box.cell (j := 5) rfl
  have y6 := M.out.box.cell (j := 6) rfl
  have y7 := M.out.box.cell (j := 7) rfl
  have y8 := M.out.box.cell (j := 8) rfl
  have y9 := M.out.box.cell (j := 9) rfl
  have z0 := M.out.res.cell (j := 0) rfl
  have z1 := M.out.res.cell (j := 1) rfl
  have z2 := M.out.res.cell (j := 2) rfl
  have z3 := M.out.res.cell (j := 3) rfl
  have z4 := M.out.res.cell (j := 4) rfl
  have z5 := M.out.res.cell (j := 5) rfl
  have z6 := M.out.res.cell (j := 6) rfl
  have z7 := M.out.res.cell (j := 7) rfl
  have z8 := M.out.res.cell (j := 8) rfl
  have z9 := M.out.res.cell (j := 9) rfl
  go_wp2_with fail
  have HB2 := hid (HB.out)
  have hbel : Below w.heap.size w (((((((((((W5.setCell ⟨w.heap.size + 1, 0, none⟩ (.int .i64 uid)).setCell ⟨w.heap.size + 1, 1, none⟩ (.int .i64 sec)).setCell ⟨w.heap.size + 1, 2, none⟩ (.int .i64 zone)).setCell ⟨w.heap.size + 1, 3, none⟩ (.int .i64 size)).setCell ⟨w.heap.size + 1, 4, none⟩ (.int .u64 (blob : Int))).setCell ⟨w.heap.size + 1, 5, none⟩ (.slice A4 m4 c4)).setCell ⟨w.heap.size + 1, 6, none⟩ (.int .i64 place)).setCell ⟨w.heap.size + 1, 7, none⟩ (.int .i64 many)).setCell ⟨w.heap.size + 1, 8, none⟩ (.int .i64 great)).setCell ⟨w.heap.size + 1, 9, none⟩ (.slice BA m bc'))) := by
    repeat (with_reducible refine Below.setCell ?_ (Nat.le_succ _) _)
    with_reducible exact M.out.b
  have hrow : (((((((((((W5.setCell ⟨w.heap.size + 1, 0, none⟩ (.int .i64 uid)).setCell ⟨w.heap.size + 1, 1, none⟩ (.int .i64 sec)).setCell ⟨w.heap.size + 1, 2, none⟩ (.int .i64 zone)).setCell ⟨w.heap.size + 1, 3, none⟩ (.int .i64 size)).setCell ⟨w.heap.size + 1, 4, none⟩ (.int .u64 (blob : Int))).setCell ⟨w.heap.size + 1, 5, none⟩ (.slice A4 m4 c4)).setCell ⟨w.heap.size + 1, 6, none⟩ (.int .i64 place)).setCell ⟨w.heap.size + 1, 7, none⟩ (.int .i64 many)).setCell ⟨w.heap.size + 1, 8, none⟩ (.int .i64 great)).setCell ⟨w.heap.size + 1, 9, none⟩ (.slice BA m bc'))).ownsRow X.heap.size 9 1 (.slice A4 m4 c4) m4 ((fewFl fl).map strV) := by
    repeat (with_reducible refine row_far ?_ F2.out _)
    with_reducible exact R5.out
  have hm4 : m4 ≤ 24 := by rw [← L4.out, fewFl_len]; omega
  have HBE := HB2.out.below hbel
  refine bodyPost_ret (v := .agg #[.int .i64 uid, .int .i64 sec, .int .i64 zone, .int .i64 size, .int .u64 (blob : Int), .slice A4 m4 c4, .int .i64 place, .int .i64 many, .int .i64 great, .slice BA m bc']) (by simp [results, Tryz.results7, go_sem, z0, z1, z2, z3, z4, z5, z6, z7, z8, z9]) rfl ?_
  exact ⟨⟨uid, sec, zone, size, blob, A4, m4, c4, fewFl fl, place, many, great, BA, m, bc', b.take m⟩, rfl, ⟨HB2.out.i64, HB2.out.blob, L4.out, hm4, mc4, Row.of_own hrow, HBE.bl.take m hmn, hm6, hmc⟩, hbel, FB.out, rfl, fun e e2 => e (by show b.take m = []; rw [e2]; exact List.take_nil)⟩
theorem hit_any (h : HitV) (w : World) (hb : HitBig w h) :
    Calls Tryz.prog 7 #[.agg (hitC h).toArray] w fun e w' => ∃ h' : HitV, e = .returned (.agg (hitC h').toArray) ∧ HitIn w' h' ∧ Below w.heap.size w w' :=
  (hit_where h w hb).mono fun e w' ⟨h', h1, h2, h3, _⟩ => ⟨h', h1, h2, h3⟩
end Go.Proofs.YtonjadmldgloaaaGreatDoor
