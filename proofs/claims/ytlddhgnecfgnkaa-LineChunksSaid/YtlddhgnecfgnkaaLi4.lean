/-
  What is quoted. A part of the proof: see the head of the text that ends in 'Law'.
-/
import Derived.Test.YtlddhgnecfgnkaaLi3
namespace Go.Proofs.Ytlddhgnecfgnkaa
open Go.RowKit
set_option linter.unusedVariables false
attribute [local go_sem] Oper.semAt_some

theorem BldAt.low {B b : Nat} {l : List UInt8} {w : World} (h : BldAt B b l w) {g : Nat} (hg : g < B) (i : Nat) (v : Value) : BldAt B b l (w.setCell ⟨g, i, none⟩ v) := by
  have k : ∀ p, Lib.BuilderAt 69 5 B b p (l.map B8) w → Lib.BuilderAt 69 5 B b p (l.map B8) (w.setCell ⟨g, i, none⟩ v) := by
    rintro p ⟨hB, u, hb, hr, hne⟩
    exact ⟨hB, u, (heap_setCell_other w ⟨g, i, none⟩ b v (by show b ≠ g; omega)).trans hb, row_far hr (fun e => by have := own_base hr _ e; omega) v, hne⟩
  rcases h with h | h
  · exact .inl (k _ h)
  · exact .inr (k _ h)
/-- A cutter and a builder. -/
structure QuI (w wr : World) (g : Nat) (s : List UInt8) (k : Nat) (l : List UInt8) : Prop where
  i : CutI w wr g s k
  b : BldAt (w.heap.size + 1) (w.heap.size + 1) l wr
theorem QuI.drewN {w wr : World} {g : Nat} {s : List UInt8} {k : Nat} {l : List UInt8} (h : QuI w wr g s k l) (n : Nat) : QuI w (wr.drewN n) g s k l := ⟨h.i.drewN n, h.b⟩
theorem QuI.succ {w wr : World} {g : Nat} {s : List UInt8} {k : Nat} {l : List UInt8} (h : QuI w wr g s k l) (hg : g < w.heap.size) : QuI w (wr.setCell ⟨g, 1, none⟩ (.int .i64 ((k : Int) + 1))) g s (k + 1) l := ⟨h.i.succ hg, h.b.low (by omega) _ _⟩
theorem CutI.past {w wr w2 : World} {g : Nat} {s : List UInt8} {k : Nat} (h : CutI w wr g s k) (hg : g < w.heap.size) (hb : Below (w.heap.size + 1) wr w2) : CutI w w2 g s k :=
  ⟨h.c.upto hb (by omega), h.r.upto hb (by omega), ⟨hb.os.trans h.o.os, hb.tape.trans h.o.tape, hb.output.trans h.o.output, Nat.le_trans h.o.size hb.size, fun j hj hn => (hb.block j (by omega)).trans (h.o.block j hj hn)⟩⟩
theorem CutI.szB {w wr : World} {g : Nat} {s : List UInt8} {k : Nat} (h : CutI w wr g s k) : w.heap.size + 1 ≤ wr.heap.size := h.r.lt
theorem QuI.start {w wr : World} {g : Nat} {s : List UInt8} {k : Nat} (h : CutI w wr g s k) (hs : wr.heap.size = w.heap.size + 1) : QuI w (wr.alloc (.cells #[.pointer none, .slice none 0 0] 69)) g s k [] := by
  have hb : Below wr.heap.size wr (wr.alloc (.cells #[.pointer none, .slice none 0 0] 69)) := (Below.refl _ _).alloc (Nat.le_refl _) _
  refine ⟨⟨h.c.below hb, h.r.below hb, h.o.trans (Only.of_below (T := fun x => x = g) hb) (fun _ h => .inl h)⟩, ?_⟩
  rw [← hs]
  exact bld_new wr
/-- What is quoted at k. -/
def quoR (l : List UInt8) : Option (Tk × Nat) := (quoL l).map (fun p => (⟨1, p.1⟩, p.2 + 1))
set_option maxRecDepth 100000 in
set_option maxHeartbeats 8000000 in
theorem quoted_any (g : Nat) (s : List UInt8) (k0 : Nat) (w : World) (h : OwnE w g 54 [.string (str s), .int .i64 (k0 : Int)]) (hk0 : k0 < s.length) (hl : s.length ≤ 100000) :
    Calls Try.prog 23 #[.pointer (some ⟨g, 0, none⟩)] w (CutP w g s k0 (quoR (s.drop (k0 + 1)))) := by
  have hst := CutI.start h
  have hqs := QuI.start hst (by simp)
  have x1 := hqs.i.c.cell (j := 1) rfl
  have f1 := hqs.i.c.frozen 1
  have HG := hid h.lt
  have I0 := hid hqs
  have HL := hid hl
  have hsz : (str s).size = s.length := rfl
  clear h hst hqs
  go_enter Try.func23, Try.ntmps23
  go_wp2_with fail
  go_loopw [13] (fun v wr => ∃ k l, k0 + 1 ≤ k ∧ k ≤ s.length ∧ Hid (QuI w wr g s k l ∧ l.length ≤ k ∧ quoL (s.drop (k0 + 1)) = (quoL (s.drop k)).map (fun p => (l ++ p.1, p.2 + (k - (k0 + 1)))))) (fun v wr => s.length - atOf wr g)
  case atStart => exact ⟨k0 + 1, [], Nat.le_refl _, by omega, hid ⟨I0.out.succ HG.out, Nat.zero_le _, by simp⟩⟩
  case round =>
    obtain ⟨k, l, hk1, hk2, hI⟩ := hrel
    clear I0 x1 f1
    have I := hid hI.out.1
    have HA := hid hI.out.1.i.at_
    have HLL := hid hI.out.2.1
    have HE := hid hI.out.2.2
    clear hI
    have x0 := I.out.i.c.cell (j := 0) rfl
    have x1 := I.out.i.c.cell (j := 1) rfl
    have f1 := I.out.i.c.frozen 1
    by_cases hlt : k < s.length
    · have d1 : decide ((k : Int) < ((str s).size : Int)) = true := by rw [hsz]; simp; omega
      have d1' : decide (k < (str s).size) = true := by rw [hsz]; simp; omega
      have hks : k < (str s).size := by rw [hsz]; omega
      obtain ⟨c, hc⟩ : ∃ c, ((str s)[k]'hks) = c := ⟨_, rfl⟩
      have e0 : (0 : Int) ≤ (k : Int) := by omega
      have e1 : (k : Int) < ((str s).size : Int) := by rw [hsz]; omega
      have HD := hid (drop_get hks hc)
      go_upto_region 3 with fail
      go_quiet (fail)
      obtain ⟨wq, hwq, I2⟩ : ∃ X, X = wr.drewN nq ∧ Hid (QuI w X g s k l) := ⟨_, rfl, hid (I.out.drewN nq)⟩
      rw [← hwq]
      clear hwq x0 x1 f1 I nq
      rename World => wr
      have I := I2
      clear I2
      have x0 := I.out.i.c.cell (j := 0) rfl
      have x1 := I.out.i.c.cell (j := 1) rfl
      have f1 := I.out.i.c.frozen 1
      go_upto_region 5 with fail
      go_quiet (fail)
      obtain ⟨wq, hwq, I2⟩ : ∃ X, X = wr.drewN nq ∧ Hid (QuI w X g s k l) := ⟨_, rfl, hid (I.out.drewN nq)⟩
      rw [← hwq]
      clear hwq x0 x1 f1 I nq
      rename World => wr
      have I := I2
      clear I2
      have x0 := I.out.i.c.cell (j := 0) rfl
      have x1 := I.out.i.c.cell (j := 1) rfl
      have f1 := I.out.i.c.frozen 1
      by_cases h34 : c.toNat = 34
      · have d2 : ((c.toNat : Int) == 34) = true := by rw [h34]; rfl
        have HQ : Hid (quoR (s.drop (k0 + 1)) = some (⟨1, l⟩, 1 + (k - (k0 + 1)) + 1)) := hid (by
          unfold quoR
          rw [HE.out, HD.out, quoL.eq_def]
          simp [h34])
        clear HE h34
        go_upto_region 8 with fail
        obtain ⟨wq, hwq, I2⟩ : ∃ X, X = wr.setCell ⟨g, 1, none⟩ (.int .i64 ((k : Int) + 1)) ∧ Hid (QuI w X g s (k + 1) l) := ⟨_, rfl, hid (I.out.succ HG.out)⟩
        rw [← hwq]
        clear hwq x0 x1 f1 I
        rename World => wr
        have I := I2
        clear I2
        have HST := hid (string_any (w.heap.size + 1) (w.heap.size + 1) l wr I.out.b I.out.i.szB)
        go_wp2_with (go_at_call 32
                     refine HST.out.mono ?_
                     rintro e w2 ⟨rfl, b2⟩
                     have J := I.out.i.past HG.out b2
                     have hz := J.res HG.out (.int .i64 1) (.string (str l))
                     have HZ := hid hz
                     have z0 := hz.1
                     have z1 := hz.2.1
                     have rc0 := J.r.cell (j := 0) rfl
                     have rc1 := J.r.cell (j := 1) rfl
                     have rf0 := J.r.frozen 0
                     have rf1 := J.r.frozen 1
                     clear hz b2 J I)
        refine bodyPost_ret (v := .tuple #[.agg #[.int .i64 1, .string (str l)], .bool true]) (by simp [results, Try.results23, go_sem, z0, z1]) rfl ?_
        refine ⟨HZ.out.2.2.2, ?_⟩
        rw [HQ.out]
        refine ⟨rfl, ?_⟩
        rw [show k0 + (1 + (k - (k0 + 1)) + 1) = k + 1 by omega]
        exact HZ.out.2.2.1
      have d2 : ((c.toNat : Int) == 34) = false := by simp; omega
      by_cases h32 : c.toNat < 32
      · have d3 : decide ((c.toNat : Int) < 32) = true := by simp; omega
        have d3' : decide (c.toNat < 32) = true := by simpa using h32
        have HQ : Hid (quoR (s.drop (k0 + 1)) = none) := hid (by
          unfold quoR
          rw [HE.out, HD.out, quoL.eq_def]
          simp [h34, h32])
        clear HE h34 h32
        have hz := I.out.i.res HG.out (.int .i64 0) (.string ⟨#[]⟩)
        have HZ := hid hz
        have z0 := hz.1
        have z1 := hz.2.1
        have rc0 := I.out.i.r.cell (j := 0) rfl
        have rc1 := I.out.i.r.cell (j := 1) rfl
        have rf0 := I.out.i.r.frozen 0
        have rf1 := I.out.i.r.frozen 1
        clear hz
        go_wp2
        refine bodyPost_ret (v := .tuple #[.agg #[.int .i64 0, .string ⟨#[]⟩], .bool false]) (by simp [results, Try.results23, go_sem, z0, z1]) rfl ?_
        refine ⟨HZ.out.2.2.2, ?_⟩
        rw [HQ.out]
        exact ⟨0, _, _, rfl, HZ.out.2.2.1⟩
      have d3 : decide ((c.toNat : Int) < 32) = false := by simp; omega
      have d3' : decide (c.toNat < 32) = false := by simpa using h32
      by_cases h127 : c.toNat = 127
      · have d4 : ((c.toNat : Int) == 127) = true := by rw [h127]; rfl
        have HQ : Hid (quoR (s.drop (k0 + 1)) = none) := hid (by
          unfold quoR
          rw [HE.out, HD.out, quoL.eq_def]
          simp [h34, h127])
        clear HE h34 h32 h127
        have hz := I.out.i.res HG.out (.int .i64 0) (.string ⟨#[]⟩)
        have HZ := hid hz
        have z0 := hz.1
        have z1 := hz.2.1
        have rc0 := I.out.i.r.cell (j := 0) rfl
        have rc1 := I.out.i.r.cell (j := 1) rfl
        have rf0 := I.out.i.r.frozen 0
        have rf1 := I.out.i.r.frozen 1
        clear hz
        go_wp2
        refine bodyPost_ret (v := .tuple #[.agg #[.int .i64 0, .string ⟨#[]⟩], .bool false]) (by simp [results, Try.results23, go_sem, z0, z1]) rfl ?_
        refine ⟨HZ.out.2.2.2, ?_⟩
        rw [HQ.out]
        exact ⟨0, _, _, rfl, HZ.out.2.2.1⟩
      have d4 : ((c.toNat : Int) == 127) = false := by simp; omega
      by_cases h92 : c.toNat = 92
      · have d5 : ((c.toNat : Int) == 92) = true := by rw [h92]; rfl
        go_upto_region 13 with fail
        obtain ⟨wq, hwq, I2⟩ : ∃ X, X = wr.setCell ⟨g, 1, none⟩ (.int .i64 ((k : Int) + 1)) ∧ Hid (QuI w X g s (k + 1) l) := ⟨_, rfl, hid (I.out.succ HG.out)⟩
        rw [← hwq]
        clear hwq x0 x1 f1 I
        rename World => wr
        have I := I2
        clear I2
        obtain ⟨k1, hk⟩ : ∃ k1, k1 = k + 1 := ⟨_, rfl⟩
        rw [← hk] at I HD
        have x0 := I.out.i.c.cell (j := 0) rfl
        have x1 := I.out.i.c.cell (j := 1) rfl
        have f1 := I.out.i.c.frozen 1
        have hk3 : k1 ≤ s.length := by omega
        have hk4 : k0 + 1 ≤ k1 := by omega
        have hk5 : k < k1 := by omega
        have HK := hid hk
        clear hk
        have HEc : quoL (s.drop k) = (match s.drop k1 with | [] => none | d :: r' => if d.toNat = 34 ∨ d.toNat = 92 then (quoL r').map (fun p => (d :: p.1, p.2 + 2)) else none) := by
          rw [HD.out, quoL.eq_def]
          simp only [h92]
          rfl
        have HEC := hid HEc
        clear HEc hc d1 d1' hks e0 e1 d2 d3 d3' d4 d5 h34 h32 h127 h92
        by_cases hlt1 : k1 < s.length
        · have d1 : ((k1 : Int) == ((str s).size : Int)) = false := by rw [hsz]; simp; omega
          have d1' : (k1 == (str s).size) = false := by rw [hsz]; simp; omega
          have d1a : ((k1 : Int) == (s.length : Int)) = false := by simp; omega
          have d1b : (k1 == s.length) = false := by simp; omega
          have hks : k1 < (str s).size := by rw [hsz]; omega
          obtain ⟨d, hd⟩ : ∃ c, ((str s)[k1]'hks) = c := ⟨_, rfl⟩
          have e0 : (0 : Int) ≤ (k1 : Int) := by omega
          have e1 : (k1 : Int) < ((str s).size : Int) := by rw [hsz]; omega
          have HD2 := hid (drop_get hks hd)
          by_cases hd2 : d.toNat = 34 ∨ d.toNat = 92
          · have HE2 : Hid (quoL (s.drop (k0 + 1)) = (quoL (s.drop (k1 + 1))).map (fun p => ((l ++ [d]) ++ p.1, p.2 + (k1 + 1 - (k0 + 1))))) := hid (by
              rw [HE.out, HEC.out, HD2.out]
              dsimp only
              rw [if_pos hd2]
              have := HK.out
              cases quoL (s.drop (k1 + 1)) with
              | none => rfl
              | some p => simp; omega)
            have HLL1 : Hid (l.length ≤ k1) := hid (by have := HLL.out; have := HK.out; omega)
            clear HE HEC HD HD2 HLL
            have HLL := HLL1
            clear HLL1
            have hd3 : (((d.toNat : Int) != 34) = false) ∨ (((d.toNat : Int) != 34) = true ∧ ((d.toNat : Int) != 92) = false) := by
              rcases hd2 with h | h
              · exact .inl (by rw [h]; rfl)
              · exact .inr ⟨by rw [h]; rfl, by rw [h]; rfl⟩
            clear hd2
            rcases hd3 with d2 | ⟨d2, d3⟩
            · go_quiet (fail)
              obtain ⟨wq, hwq, I2⟩ : ∃ X, X = wr.drewN nq ∧ Hid (QuI w X g s k1 l) := ⟨_, rfl, hid (I.out.drewN nq)⟩
              rw [← hwq]
              clear hwq x0 x1 f1 I nq
              rename World => wr
              have I := I2
              clear I2
              have x0 := I.out.i.c.cell (j := 0) rfl
              have x1 := I.out.i.c.cell (j := 1) rfl
              have f1 := I.out.i.c.frozen 1
              go_upto_region 15 with fail
              go_quiet (fail)
              obtain ⟨wq, hwq, I2⟩ : ∃ X, X = wr.drewN nq ∧ Hid (QuI w X g s k1 l) := ⟨_, rfl, hid (I.out.drewN nq)⟩
              rw [← hwq]
              clear hwq x0 x1 f1 I nq
              rename World => wr
              have I := I2
              clear I2
              have x0 := I.out.i.c.cell (j := 0) rfl
              have x1 := I.out.i.c.cell (j := 1) rfl
              have f1 := I.out.i.c.frozen 1
              have HWR := hid (write_any (w.heap.size + 1) (w.heap.size + 1) l d wr I.out.b (by have := HLL.out; omega) I.out.i.szB)
              go_upto_region 4 with (go_at_call 33
                                     refine HWR.out.mono ?_
                                     rintro e w2 ⟨rfl, b2, l2⟩
                                     have J : Hid (QuI w w2 g s k1 (l ++ [d])) := hid ⟨I.out.i.past HG.out l2, b2⟩
                                     clear b2 l2 I x0 x1 f1
                                     have I := J
                                     clear J
                                     have x0 := I.out.i.c.cell (j := 0) rfl
                                     have x1 := I.out.i.c.cell (j := 1) rfl
                                     have f1 := I.out.i.c.frozen 1
                                     )
              go_wp2_with fail
              go_roundw
              case rel => exact ⟨k1 + 1, l ++ [d], by omega, by omega, hid ⟨I.out.succ HG.out, by have := HLL.out; simp; omega, HE2.out⟩⟩
              case measure => rw [(I.out.succ HG.out).i.at_, HA.out]; omega
            · go_quiet (fail)
              obtain ⟨wq, hwq, I2⟩ : ∃ X, X = wr.drewN nq ∧ Hid (QuI w X g s k1 l) := ⟨_, rfl, hid (I.out.drewN nq)⟩
              rw [← hwq]
              clear hwq x0 x1 f1 I nq
              rename World => wr
              have I := I2
              clear I2
              have x0 := I.out.i.c.cell (j := 0) rfl
              have x1 := I.out.i.c.cell (j := 1) rfl
              have f1 := I.out.i.c.frozen 1
              go_upto_region 15 with fail
              go_quiet (fail)
              obtain ⟨wq, hwq, I2⟩ : ∃ X, X = wr.drewN nq ∧ Hid (QuI w X g s k1 l) := ⟨_, rfl, hid (I.out.drewN nq)⟩
              rw [← hwq]
              clear hwq x0 x1 f1 I nq
              rename World => wr
              have I := I2
              clear I2
              have x0 := I.out.i.c.cell (j := 0) rfl
              have x1 := I.out.i.c.cell (j := 1) rfl
              have f1 := I.out.i.c.frozen 1
              have HWR := hid (write_any (w.heap.size + 1) (w.heap.size + 1) l d wr I.out.b (by have := HLL.out; omega) I.out.i.szB)
              go_upto_region 4 with (go_at_call 33
                                     refine HWR.out.mono ?_
                                     rintro e w2 ⟨rfl, b2, l2⟩
                                     have J : Hid (QuI w w2 g s k1 (l ++ [d])) := hid ⟨I.out.i.past HG.out l2, b2⟩
                                     clear b2 l2 I x0 x1 f1
                                     have I := J
                                     clear J
                                     have x0 := I.out.i.c.cell (j := 0) rfl
                                     have x1 := I.out.i.c.cell (j := 1) rfl
                                     have f1 := I.out.i.c.frozen 1
                                     )
              go_wp2_with fail
              go_roundw
              case rel => exact ⟨k1 + 1, l ++ [d], by omega, by omega, hid ⟨I.out.succ HG.out, by have := HLL.out; simp; omega, HE2.out⟩⟩
              case measure => rw [(I.out.succ HG.out).i.at_, HA.out]; omega
          · have HQ : Hid (quoR (s.drop (k0 + 1)) = none) := hid (by
              unfold quoR
              rw [HE.out, HEC.out, HD2.out]
              dsimp only
              rw [if_neg hd2]
              rfl)
            have d2 : ((d.toNat : Int) != 34) = true := by rw [bne_iff_ne]; omega
            have d3 : ((d.toNat : Int) != 92) = true := by rw [bne_iff_ne]; omega
            clear HE HEC HD HD2 hd2
            go_quiet (fail)
            obtain ⟨wq, hwq, I2⟩ : ∃ X, X = wr.drewN nq ∧ Hid (QuI w X g s k1 l) := ⟨_, rfl, hid (I.out.drewN nq)⟩
            rw [← hwq]
            clear hwq x0 x1 f1 I nq
            rename World => wr
            have I := I2
            clear I2
            have x0 := I.out.i.c.cell (j := 0) rfl
            have x1 := I.out.i.c.cell (j := 1) rfl
            have f1 := I.out.i.c.frozen 1
            have hz := I.out.i.res HG.out (.int .i64 0) (.string ⟨#[]⟩)
            have HZ := hid hz
            have z0 := hz.1
            have z1 := hz.2.1
            have rc0 := I.out.i.r.cell (j := 0) rfl
            have rc1 := I.out.i.r.cell (j := 1) rfl
            have rf0 := I.out.i.r.frozen 0
            have rf1 := I.out.i.r.frozen 1
            clear hz
            go_wp2
            refine bodyPost_ret (v := .tuple #[.agg #[.int .i64 0, .string ⟨#[]⟩], .bool false]) (by simp [results, Try.results23, go_sem, z0, z1]) rfl ?_
            refine ⟨HZ.out.2.2.2, ?_⟩
            rw [HQ.out]
            exact ⟨0, _, _, rfl, HZ.out.2.2.1⟩
        · have d1 : ((k1 : Int) == ((str s).size : Int)) = true := by rw [hsz]; simp; omega
          have d1' : (k1 == (str s).size) = true := by rw [hsz]; simp; omega
          have d1a : ((k1 : Int) == (s.length : Int)) = true := by simp; omega
          have d1b : (k1 == s.length) = true := by simp; omega
          have HQ : Hid (quoR (s.drop (k0 + 1)) = none) := hid (by
            unfold quoR
            rw [HE.out, HEC.out, List.drop_of_length_le (by omega)]
            rfl)
          clear HE HEC HD
          go_quiet (fail)
          obtain ⟨wq, hwq, I2⟩ : ∃ X, X = wr.drewN nq ∧ Hid (QuI w X g s k1 l) := ⟨_, rfl, hid (I.out.drewN nq)⟩
          rw [← hwq]
          clear hwq x0 x1 f1 I nq
          rename World => wr
          have I := I2
          clear I2
          have x0 := I.out.i.c.cell (j := 0) rfl
          have x1 := I.out.i.c.cell (j := 1) rfl
          have f1 := I.out.i.c.frozen 1
          have hz := I.out.i.res HG.out (.int .i64 0) (.string ⟨#[]⟩)
          have HZ := hid hz
          have z0 := hz.1
          have z1 := hz.2.1
          have rc0 := I.out.i.r.cell (j := 0) rfl
          have rc1 := I.out.i.r.cell (j := 1) rfl
          have rf0 := I.out.i.r.frozen 0
          have rf1 := I.out.i.r.frozen 1
          clear hz
          go_wp2
          refine bodyPost_ret (v := .tuple #[.agg #[.int .i64 0, .string ⟨#[]⟩], .bool false]) (by simp [results, Try.results23, go_sem, z0, z1]) rfl ?_
          refine ⟨HZ.out.2.2.2, ?_⟩
          rw [HQ.out]
          exact ⟨0, _, _, rfl, HZ.out.2.2.1⟩
      · have d5 : ((c.toNat : Int) == 92) = false := by simp; omega
        have HE2 : Hid (quoL (s.drop (k0 + 1)) = (quoL (s.drop (k + 1))).map (fun p => ((l ++ [c]) ++ p.1, p.2 + (k + 1 - (k0 + 1))))) := hid (by
          rw [HE.out, HD.out, quoL.eq_def]
          simp only [h34, h32, h127, h92, if_false, or_false, false_or]
          cases quoL (s.drop (k + 1)) with
          | none => rfl
          | some p => simp; omega)
        have HWR := hid (write_any (w.heap.size + 1) (w.heap.size + 1) l c wr I.out.b (by have := HLL.out; omega) I.out.i.szB)
        clear HE h34 h32 h127 h92
        go_upto_region 4 with (go_at_call 33
                               refine HWR.out.mono ?_
                               rintro e w2 ⟨rfl, b2, l2⟩
                               have J : Hid (QuI w w2 g s k (l ++ [c])) := hid ⟨I.out.i.past HG.out l2, b2⟩
                               clear b2 l2 I x0 x1 f1
                               have I := J
                               clear J
                               have x0 := I.out.i.c.cell (j := 0) rfl
                               have x1 := I.out.i.c.cell (j := 1) rfl
                               have f1 := I.out.i.c.frozen 1
                               )
        go_wp2_with fail
        go_roundw
        case rel => exact ⟨k + 1, l ++ [c], by omega, by omega, hid ⟨I.out.succ HG.out, by have := HLL.out; simp; omega, HE2.out⟩⟩
        case measure => rw [(I.out.succ HG.out).i.at_, HA.out]; omega
    · have d1 : decide ((k : Int) < ((str s).size : Int)) = false := by rw [hsz]; simp; omega
      have d1' : decide (k < (str s).size) = false := by rw [hsz]; simp; omega
      have HQ : Hid (quoR (s.drop (k0 + 1)) = none) := hid (by
        unfold quoR
        rw [HE.out, List.drop_of_length_le (by omega)]
        simp [quoL])
      clear HE
      go_upto_region 3 with fail
      go_quiet (fail)
      obtain ⟨wq, hwq, I2⟩ : ∃ X, X = wr.drewN nq ∧ Hid (QuI w X g s k l) := ⟨_, rfl, hid (I.out.drewN nq)⟩
      rw [← hwq]
      clear hwq x0 x1 f1 I nq
      rename World => wr
      have I := I2
      clear I2
      have x0 := I.out.i.c.cell (j := 0) rfl
      have x1 := I.out.i.c.cell (j := 1) rfl
      have f1 := I.out.i.c.frozen 1
      have hz := I.out.i.res HG.out (.int .i64 0) (.string ⟨#[]⟩)
      have HZ := hid hz
      have z0 := hz.1
      have z1 := hz.2.1
      have rc0 := I.out.i.r.cell (j := 0) rfl
      have rc1 := I.out.i.r.cell (j := 1) rfl
      have rf0 := I.out.i.r.frozen 0
      have rf1 := I.out.i.r.frozen 1
      clear hz
      go_wp2
      refine bodyPost_ret (v := .tuple #[.agg #[.int .i64 0, .string ⟨#[]⟩], .bool false]) (by simp [results, Try.results23, go_sem, z0, z1]) rfl ?_
      refine ⟨HZ.out.2.2.2, ?_⟩
      rw [HQ.out]
      exact ⟨0, _, _, rfl, HZ.out.2.2.1⟩
end Go.Proofs.Ytlddhgnecfgnkaa
