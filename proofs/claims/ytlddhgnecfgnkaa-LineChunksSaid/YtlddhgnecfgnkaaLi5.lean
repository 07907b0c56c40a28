/-
  The token that stands next. A part of the proof: see the head of the text that ends in 'Law'.
-/
import Derived.Test.YtlddhgnecfgnkaaLi4
namespace Go.Proofs.Ytlddhgnecfgnkaa
open Go.RowKit
set_option linter.unusedVariables false
attribute [local go_sem] Oper.semAt_some

/-- A cutter, and a box behind the answer's. -/
structure OnI (w wr : World) (g : Nat) (s : List UInt8) (k : Nat) (a b : Value) : Prop where
  i : CutI w wr g s k
  t : OwnE wr (w.heap.size + 1) 34 [a, b]
theorem OnI.drewN {w wr : World} {g : Nat} {s : List UInt8} {k : Nat} {a b : Value} (h : OnI w wr g s k a b) (n : Nat) : OnI w (wr.drewN n) g s k a b := ⟨h.i.drewN n, h.t⟩
theorem OnI.succ {w wr : World} {g : Nat} {s : List UInt8} {k : Nat} {a b : Value} (h : OnI w wr g s k a b) (hg : g < w.heap.size) : OnI w (wr.setCell ⟨g, 1, none⟩ (.int .i64 ((k : Int) + 1))) g s (k + 1) a b := ⟨h.i.succ hg, h.t.far (by omega) _⟩
theorem CutI.far {w wr : World} {g : Nat} {s : List UInt8} {k : Nat} (h : CutI w wr g s k) (hg : g < w.heap.size) {b : Nat} (hb : w.heap.size < b) (i : Nat) (v : Value) : CutI w (wr.setCell ⟨b, i, none⟩ v) g s k :=
  ⟨h.c.far (by omega) _, h.r.far (by omega) _, ⟨h.o.os, h.o.tape, h.o.output, by simpa using h.o.size, fun j hj hn => (heap_setCell_other wr ⟨b, i, none⟩ j v (by show j ≠ b; omega)).trans (h.o.block j hj hn)⟩⟩
theorem OnI.turn {w wr : World} {g : Nat} {s : List UInt8} {k : Nat} {a b : Value} (h : OnI w wr g s k a b) (hg : g < w.heap.size) (a' b' : Value) : OnI w ((wr.setCell ⟨w.heap.size + 1, 0, none⟩ a').setCell ⟨w.heap.size + 1, 1, none⟩ b') g s k a' b' :=
  ⟨(h.i.far hg (by omega) _ _).far hg (by omega) _ _, (h.t.set 0 a').set 1 b'⟩
theorem OnI.start {w : World} {g : Nat} {s : List UInt8} {k : Nat} (h : OwnE w g 54 [.string (str s), .int .i64 (k : Int)]) (a b : Value) : OnI w ((w.alloc (.cells #[.int .i64 0, .string ⟨#[]⟩] 34)).alloc (.cells #[a, b] 34)) g s k a b := by
  have hb : Below (w.alloc (.cells #[.int .i64 0, .string ⟨#[]⟩] 34)).heap.size (w.alloc (.cells #[.int .i64 0, .string ⟨#[]⟩] 34)) ((w.alloc (.cells #[.int .i64 0, .string ⟨#[]⟩] 34)).alloc (.cells #[a, b] 34)) := (Below.refl _ _).alloc (Nat.le_refl _) _
  have k0 := CutI.start h
  refine ⟨⟨k0.c.below hb, k0.r.below hb, k0.o.trans (Only.of_below (T := fun x => x = g) hb) (fun _ h => .inl h)⟩, ?_⟩
  have := OwnE.new_ (w.alloc (.cells #[.int .i64 0, .string ⟨#[]⟩] 34)) [a, b] 34
  rw [World.size_alloc] at this
  exact this
set_option maxRecDepth 100000 in
set_option maxHeartbeats 8000000 in
theorem one_any (g : Nat) (s : List UInt8) (k0 : Nat) (w : World) (h : OwnE w g 54 [.string (str s), .int .i64 (k0 : Int)]) (hk0 : k0 < s.length) (hl : s.length ≤ 100000) :
    Calls Try.prog 24 #[.pointer (some ⟨g, 0, none⟩)] w (CutP w g s k0 (some (if (s[k0]'hk0).toNat = 41 then ⟨3, [41]⟩ else ⟨2, [40]⟩, 1))) := by
  have HG := hid h.lt
  have I := hid (OnI.start h (.int .i64 2) (.string ⟨#[40]⟩))
  have x0 := I.out.i.c.cell (j := 0) rfl
  have x1 := I.out.i.c.cell (j := 1) rfl
  have f1 := I.out.i.c.frozen 1
  have t0 := I.out.t.cell (j := 0) rfl
  have t1 := I.out.t.cell (j := 1) rfl
  have tf0 := I.out.t.frozen 0
  have tf1 := I.out.t.frozen 1
  have rc0 := I.out.i.r.cell (j := 0) rfl
  have rc1 := I.out.i.r.cell (j := 1) rfl
  have rf0 := I.out.i.r.frozen 0
  have rf1 := I.out.i.r.frozen 1
  have hsz : (str s).size = s.length := rfl
  have hks : k0 < (str s).size := hk0
  obtain ⟨c, hc⟩ : ∃ c, ((str s)[k0]'hks) = c := ⟨_, rfl⟩
  have hc2 : s[k0]'hk0 = c := hc
  have e0 : (0 : Int) ≤ (k0 : Int) := by omega
  have e1 : (k0 : Int) < ((str s).size : Int) := by rw [hsz]; omega
  rw [hc2]
  clear h hc2
  by_cases h41 : c.toNat = 41
  · have d1 : ((c.toNat : Int) == 41) = true := by rw [h41]; rfl
    rw [if_pos h41]
    clear h41
    go_enter Try.func24, Try.ntmps24
    go_upto_region 2 with fail
    generalize (w.alloc (.cells #[.int .i64 0, .string ⟨#[]⟩] 34)).alloc (.cells #[.int .i64 2, .string ⟨#[40]⟩] 34) = wr at I x0 x1 f1 t0 t1 tf0 tf1 rc0 rc1 rf0 rf1 ⊢
    go_quiet (fail)
    obtain ⟨wq, hwq, I2⟩ : ∃ X, X = wr.drewN nq ∧ Hid (OnI w X g s k0 (.int .i64 2) (.string ⟨#[40]⟩)) := ⟨_, rfl, hid (I.out.drewN nq)⟩
    rw [← hwq]
    clear hwq
    clear x0 x1 f1 t0 t1 tf0 tf1 rc0 rc1 rf0 rf1 I
    rename World => wr
    have I := I2
    clear I2
    have x0 := I.out.i.c.cell (j := 0) rfl
    have x1 := I.out.i.c.cell (j := 1) rfl
    have f1 := I.out.i.c.frozen 1
    have t0 := I.out.t.cell (j := 0) rfl
    have t1 := I.out.t.cell (j := 1) rfl
    have tf0 := I.out.t.frozen 0
    have tf1 := I.out.t.frozen 1
    have rc0 := I.out.i.r.cell (j := 0) rfl
    have rc1 := I.out.i.r.cell (j := 1) rfl
    have rf0 := I.out.i.r.frozen 0
    have rf1 := I.out.i.r.frozen 1
    go_upto_region 4 with fail
    obtain ⟨wq, hwq, I2⟩ : ∃ X, X = (wr.setCell ⟨w.heap.size + 1, 0, none⟩ (.int .i64 3)).setCell ⟨w.heap.size + 1, 1, none⟩ (.string ⟨#[41]⟩) ∧ Hid (OnI w X g s k0 (.int .i64 3) (.string ⟨#[41]⟩)) := ⟨_, rfl, hid (I.out.turn HG.out _ _)⟩
    rw [← hwq]
    clear hwq
    clear x0 x1 f1 t0 t1 tf0 tf1 rc0 rc1 rf0 rf1 I
    rename World => wr
    have I := I2
    clear I2
    have x0 := I.out.i.c.cell (j := 0) rfl
    have x1 := I.out.i.c.cell (j := 1) rfl
    have f1 := I.out.i.c.frozen 1
    have t0 := I.out.t.cell (j := 0) rfl
    have t1 := I.out.t.cell (j := 1) rfl
    have tf0 := I.out.t.frozen 0
    have tf1 := I.out.t.frozen 1
    have rc0 := I.out.i.r.cell (j := 0) rfl
    have rc1 := I.out.i.r.cell (j := 1) rfl
    have rf0 := I.out.i.r.frozen 0
    have rf1 := I.out.i.r.frozen 1
    go_upto_region 5 with fail
    obtain ⟨wq, hwq, I2⟩ : ∃ X, X = wr.setCell ⟨g, 1, none⟩ (.int .i64 ((k0 : Int) + 1)) ∧ Hid (OnI w X g s (k0 + 1) (.int .i64 3) (.string ⟨#[41]⟩)) := ⟨_, rfl, hid (I.out.succ HG.out)⟩
    rw [← hwq]
    clear hwq
    clear x0 x1 f1 t0 t1 tf0 tf1 rc0 rc1 rf0 rf1 I
    rename World => wr
    have I := I2
    clear I2
    have x0 := I.out.i.c.cell (j := 0) rfl
    have x1 := I.out.i.c.cell (j := 1) rfl
    have f1 := I.out.i.c.frozen 1
    have t0 := I.out.t.cell (j := 0) rfl
    have t1 := I.out.t.cell (j := 1) rfl
    have tf0 := I.out.t.frozen 0
    have tf1 := I.out.t.frozen 1
    have rc0 := I.out.i.r.cell (j := 0) rfl
    have rc1 := I.out.i.r.cell (j := 1) rfl
    have rf0 := I.out.i.r.frozen 0
    have rf1 := I.out.i.r.frozen 1
    have hz := I.out.i.res HG.out (.int .i64 3) (.string ⟨#[41]⟩)
    have HZ := hid hz
    have z0 := hz.1
    have z1 := hz.2.1
    clear hz
    go_wp2
    refine bodyPost_ret (v := .tuple #[.agg #[.int .i64 3, .string ⟨#[41]⟩], .bool true]) (by simp [results, Try.results24, go_sem, z0, z1]) rfl ?_
    exact ⟨HZ.out.2.2.2, rfl, HZ.out.2.2.1⟩
  · have d1 : ((c.toNat : Int) == 41) = false := by simp; omega
    rw [if_neg h41]
    clear h41
    go_enter Try.func24, Try.ntmps24
    go_upto_region 2 with fail
    generalize (w.alloc (.cells #[.int .i64 0, .string ⟨#[]⟩] 34)).alloc (.cells #[.int .i64 2, .string ⟨#[40]⟩] 34) = wr at I x0 x1 f1 t0 t1 tf0 tf1 rc0 rc1 rf0 rf1 ⊢
    go_quiet (fail)
    obtain ⟨wq, hwq, I2⟩ : ∃ X, X = wr.drewN nq ∧ Hid (OnI w X g s k0 (.int .i64 2) (.string ⟨#[40]⟩)) := ⟨_, rfl, hid (I.out.drewN nq)⟩
    rw [← hwq]
    clear hwq
    clear x0 x1 f1 t0 t1 tf0 tf1 rc0 rc1 rf0 rf1 I
    rename World => wr
    have I := I2
    clear I2
    have x0 := I.out.i.c.cell (j := 0) rfl
    have x1 := I.out.i.c.cell (j := 1) rfl
    have f1 := I.out.i.c.frozen 1
    have t0 := I.out.t.cell (j := 0) rfl
    have t1 := I.out.t.cell (j := 1) rfl
    have tf0 := I.out.t.frozen 0
    have tf1 := I.out.t.frozen 1
    have rc0 := I.out.i.r.cell (j := 0) rfl
    have rc1 := I.out.i.r.cell (j := 1) rfl
    have rf0 := I.out.i.r.frozen 0
    have rf1 := I.out.i.r.frozen 1
    go_upto_region 5 with fail
    obtain ⟨wq, hwq, I2⟩ : ∃ X, X = wr.setCell ⟨g, 1, none⟩ (.int .i64 ((k0 : Int) + 1)) ∧ Hid (OnI w X g s (k0 + 1) (.int .i64 2) (.string ⟨#[40]⟩)) := ⟨_, rfl, hid (I.out.succ HG.out)⟩
    rw [← hwq]
    clear hwq
    clear x0 x1 f1 t0 t1 tf0 tf1 rc0 rc1 rf0 rf1 I
    rename World => wr
    have I := I2
    clear I2
    have x0 := I.out.i.c.cell (j := 0) rfl
    have x1 := I.out.i.c.cell (j := 1) rfl
    have f1 := I.out.i.c.frozen 1
    have t0 := I.out.t.cell (j := 0) rfl
    have t1 := I.out.t.cell (j := 1) rfl
    have tf0 := I.out.t.frozen 0
    have tf1 := I.out.t.frozen 1
    have rc0 := I.out.i.r.cell (j := 0) rfl
    have rc1 := I.out.i.r.cell (j := 1) rfl
    have rf0 := I.out.i.r.frozen 0
    have rf1 := I.out.i.r.frozen 1
    have hz := I.out.i.res HG.out (.int .i64 2) (.string ⟨#[40]⟩)
    have HZ := hid hz
    have z0 := hz.1
    have z1 := hz.2.1
    clear hz
    go_wp2
    refine bodyPost_ret (v := .tuple #[.agg #[.int .i64 2, .string ⟨#[40]⟩], .bool true]) (by simp [results, Try.results24, go_sem, z0, z1]) rfl ?_
    exact ⟨HZ.out.2.2.2, rfl, HZ.out.2.2.1⟩
end Go.Proofs.Ytlddhgnecfgnkaa
