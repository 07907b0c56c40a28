/-
  The token that stands next, whichever it is. A part of the proof: see the head of the text that ends in 'Law'.
-/
import Derived.Test.YtlddhgnecfgnkaaLi5
namespace Go.Proofs.Ytlddhgnecfgnkaa
open Go.RowKit
set_option linter.unusedVariables false
attribute [local go_sem] Oper.semAt_some

theorem CutI.call {w wr w2 : World} {g : Nat} {s : List UInt8} {k k' : Nat} (h : CutI w wr g s k) (hg : g < w.heap.size) (hO : Only (fun x => x = g) wr w2) (hc : OwnE w2 g 54 [.string (str s), .int .i64 (k' : Int)]) : CutI w w2 g s k' :=
  ⟨hc, h.r.only hO (by show ¬ w.heap.size = g; omega), h.o.trans hO (fun x h => .inl h)⟩
theorem nextL_eq (c : UInt8) (r : List UInt8) : nextL (c :: r) = if c.toNat = 34 then quoR r else if c.toNat = 40 then some (⟨2, [40]⟩, 1) else if c.toNat = 41 then some (⟨3, [41]⟩, 1) else atomR (c :: r) := by
  unfold nextL quoR atomR
  rfl
set_option maxRecDepth 100000 in
set_option maxHeartbeats 8000000 in
theorem next_any (g : Nat) (s : List UInt8) (k0 : Nat) (w : World) (h : OwnE w g 54 [.string (str s), .int .i64 (k0 : Int)]) (hk0 : k0 < s.length) (hl : s.length ≤ 100000) :
    Calls Try.prog 18 #[.pointer (some ⟨g, 0, none⟩)] w (CutP w g s k0 (nextL (s.drop k0))) := by
  have HG := hid h.lt
  have I := hid (CutI.start h)
  have x0 := I.out.c.cell (j := 0) rfl
  have x1 := I.out.c.cell (j := 1) rfl
  have hsz : (str s).size = s.length := rfl
  have hks : k0 < (str s).size := hk0
  obtain ⟨c, hc⟩ : ∃ c, ((str s)[k0]'hks) = c := ⟨_, rfl⟩
  have e0 : (0 : Int) ≤ (k0 : Int) := by omega
  have e1 : (k0 : Int) < ((str s).size : Int) := by rw [hsz]; omega
  have HD := drop_get hks hc
  have HS := hid (show (s[k0]'hk0) = c from hc)
  rw [HD, nextL_eq, ← HD]
  clear h HD
  by_cases h34 : c.toNat = 34
  · have d1 : ((c.toNat : Int) == 34) = true := by rw [h34]; rfl
    rw [if_pos h34]
    clear h34
    have HCC := hid (fun (X : World) (hX : OwnE X g 54 [.string (str s), .int .i64 (k0 : Int)]) => quoted_any g s k0 X hX hk0 hl)
    rcases hr : quoR (s.drop (k0 + 1)) with _ | ⟨t, n⟩
    · rw [hr] at HCC
      clear hr
      go_enter Try.func18, Try.ntmps18
      go_upto_region 2 with fail
      generalize w.alloc (.cells #[.int .i64 0, .string ⟨#[]⟩] 34) = wr at I x0 x1 ⊢
      go_quiet (fail)
      obtain ⟨wq, hwq, I2⟩ : ∃ X, X = wr.drewN nq ∧ Hid (CutI w X g s k0) := ⟨_, rfl, hid (I.out.drewN nq)⟩
      rw [← hwq]
      clear hwq x0 x1 I
      rename World => wr
      have I := I2
      clear I2
      have HC := hid (HCC.out wr I.out.c)
      go_wp2_with (go_at_call 23
                   refine HC.out.mono ?_
                   rintro e w2 ⟨hO, a, t, k', rfl, hc2⟩
                   have J := I.out.call HG.out hO hc2
                   clear hO hc2
                   have hz := J.res HG.out (.int .i64 a) (.string t)
                   have HZ := hid hz
                   have z0 := hz.1
                   have z1 := hz.2.1
                   have rc0 := J.r.cell (j := 0) rfl
                   have rc1 := J.r.cell (j := 1) rfl
                   have rf0 := J.r.frozen 0
                   have rf1 := J.r.frozen 1
                   clear hz J
                   )
      refine bodyPost_ret (v := .tuple #[.agg #[.int .i64 a, .string t], .bool false]) (by simp [results, Try.results18, go_sem, z0, z1]) rfl ?_
      exact ⟨HZ.out.2.2.2, a, t, k', rfl, HZ.out.2.2.1⟩
    · rw [hr] at HCC
      clear hr
      go_enter Try.func18, Try.ntmps18
      go_upto_region 2 with fail
      generalize w.alloc (.cells #[.int .i64 0, .string ⟨#[]⟩] 34) = wr at I x0 x1 ⊢
      go_quiet (fail)
      obtain ⟨wq, hwq, I2⟩ : ∃ X, X = wr.drewN nq ∧ Hid (CutI w X g s k0) := ⟨_, rfl, hid (I.out.drewN nq)⟩
      rw [← hwq]
      clear hwq x0 x1 I
      rename World => wr
      have I := I2
      clear I2
      have HC := hid (HCC.out wr I.out.c)
      obtain ⟨kd, hkd⟩ : ∃ i : Int, (t.kind : Int) = i := ⟨_, rfl⟩
      obtain ⟨tx, htx⟩ : ∃ x : ByteArray, str t.s = x := ⟨_, rfl⟩
      have HKD := hid hkd
      have HTX := hid htx
      clear hkd htx
      go_wp2_with (go_at_call 23
                   refine HC.out.mono ?_
                   rintro e w2 ⟨hO, he, hc2⟩
                   rw [HKD.out, HTX.out] at he
                   subst he
                   have J := I.out.call HG.out hO hc2
                   clear hO hc2
                   have hz := J.res HG.out (.int .i64 kd) (.string tx)
                   have HZ := hid hz
                   have z0 := hz.1
                   have z1 := hz.2.1
                   have rc0 := J.r.cell (j := 0) rfl
                   have rc1 := J.r.cell (j := 1) rfl
                   have rf0 := J.r.frozen 0
                   have rf1 := J.r.frozen 1
                   clear hz J
                   )
      refine bodyPost_ret (v := .tuple #[.agg #[.int .i64 kd, .string tx], .bool true]) (by simp [results, Try.results18, go_sem, z0, z1]) rfl ?_
      refine ⟨HZ.out.2.2.2, ?_, HZ.out.2.2.1⟩
      rw [HKD.out, HTX.out]
  have d1 : ((c.toNat : Int) == 34) = false := by simp; omega
  rw [if_neg h34]
  by_cases h40 : c.toNat = 40
  · have d2 : ((c.toNat : Int) == 40) = true := by rw [h40]; rfl
    rw [if_pos h40]
    have HCC := hid (fun (X : World) (hX : OwnE X g 54 [.string (str s), .int .i64 (k0 : Int)]) => one_any g s k0 X hX hk0 hl)
    rw [HS.out, if_neg (by omega)] at HCC
    clear h34 h40
    obtain ⟨t, ht⟩ : ∃ t : Tk, (⟨2, [40]⟩ : Tk) = t := ⟨_, rfl⟩
    obtain ⟨n, hn⟩ : ∃ n : Nat, 1 = n := ⟨_, rfl⟩
    rw [ht, hn] at HCC ⊢
    clear ht hn
    go_enter Try.func18, Try.ntmps18
    go_upto_region 2 with fail
    generalize w.alloc (.cells #[.int .i64 0, .string ⟨#[]⟩] 34) = wr at I x0 x1 ⊢
    go_quiet (fail)
    obtain ⟨wq, hwq, I2⟩ : ∃ X, X = wr.drewN nq ∧ Hid (CutI w X g s k0) := ⟨_, rfl, hid (I.out.drewN nq)⟩
    rw [← hwq]
    clear hwq x0 x1 I
    rename World => wr
    have I := I2
    clear I2
    have HC := hid (HCC.out wr I.out.c)
    clear HCC
    obtain ⟨kd, hkd⟩ : ∃ i : Int, (t.kind : Int) = i := ⟨_, rfl⟩
    obtain ⟨tx, htx⟩ : ∃ x : ByteArray, str t.s = x := ⟨_, rfl⟩
    have HKD := hid hkd
    have HTX := hid htx
    clear hkd htx
    go_wp2_with (go_at_call 24
                 refine HC.out.mono ?_
                 rintro e w2 ⟨hO, he, hc2⟩
                 rw [HKD.out, HTX.out] at he
                 subst he
                 have J := I.out.call HG.out hO hc2
                 clear hO hc2
                 have hz := J.res HG.out (.int .i64 kd) (.string tx)
                 have HZ := hid hz
                 have z0 := hz.1
                 have z1 := hz.2.1
                 have rc0 := J.r.cell (j := 0) rfl
                 have rc1 := J.r.cell (j := 1) rfl
                 have rf0 := J.r.frozen 0
                 have rf1 := J.r.frozen 1
                 clear hz J
                 )
    refine bodyPost_ret (v := .tuple #[.agg #[.int .i64 kd, .string tx], .bool true]) (by simp [results, Try.results18, go_sem, z0, z1]) rfl ?_
    refine ⟨HZ.out.2.2.2, ?_, HZ.out.2.2.1⟩
    rw [HKD.out, HTX.out]
  have d2 : ((c.toNat : Int) == 40) = false := by simp; omega
  rw [if_neg h40]
  by_cases h41 : c.toNat = 41
  · have d3 : ((c.toNat : Int) == 41) = true := by rw [h41]; rfl
    rw [if_pos h41]
    have HCC := hid (fun (X : World) (hX : OwnE X g 54 [.string (str s), .int .i64 (k0 : Int)]) => one_any g s k0 X hX hk0 hl)
    rw [HS.out, if_pos (by omega)] at HCC
    clear h34 h40 h41
    obtain ⟨t, ht⟩ : ∃ t : Tk, (⟨3, [41]⟩ : Tk) = t := ⟨_, rfl⟩
    obtain ⟨n, hn⟩ : ∃ n : Nat, 1 = n := ⟨_, rfl⟩
    rw [ht, hn] at HCC ⊢
    clear ht hn
    go_enter Try.func18, Try.ntmps18
    go_upto_region 2 with fail
    generalize w.alloc (.cells #[.int .i64 0, .string ⟨#[]⟩] 34) = wr at I x0 x1 ⊢
    go_quiet (fail)
    obtain ⟨wq, hwq, I2⟩ : ∃ X, X = wr.drewN nq ∧ Hid (CutI w X g s k0) := ⟨_, rfl, hid (I.out.drewN nq)⟩
    rw [← hwq]
    clear hwq x0 x1 I
    rename World => wr
    have I := I2
    clear I2
    have HC := hid (HCC.out wr I.out.c)
    clear HCC
    obtain ⟨kd, hkd⟩ : ∃ i : Int, (t.kind : Int) = i := ⟨_, rfl⟩
    obtain ⟨tx, htx⟩ : ∃ x : ByteArray, str t.s = x := ⟨_, rfl⟩
    have HKD := hid hkd
    have HTX := hid htx
    clear hkd htx
    go_wp2_with (go_at_call 24
                 refine HC.out.mono ?_
                 rintro e w2 ⟨hO, he, hc2⟩
                 rw [HKD.out, HTX.out] at he
                 subst he
                 have J := I.out.call HG.out hO hc2
                 clear hO hc2
                 have hz := J.res HG.out (.int .i64 kd) (.string tx)
                 have HZ := hid hz
                 have z0 := hz.1
                 have z1 := hz.2.1
                 have rc0 := J.r.cell (j := 0) rfl
                 have rc1 := J.r.cell (j := 1) rfl
                 have rf0 := J.r.frozen 0
                 have rf1 := J.r.frozen 1
                 clear hz J
                 )
    refine bodyPost_ret (v := .tuple #[.agg #[.int .i64 kd, .string tx], .bool true]) (by simp [results, Try.results18, go_sem, z0, z1]) rfl ?_
    refine ⟨HZ.out.2.2.2, ?_, HZ.out.2.2.1⟩
    rw [HKD.out, HTX.out]
  · have d3 : ((c.toNat : Int) == 41) = false := by simp; omega
    rw [if_neg h41]
    clear h34 h40 h41
    have HCC := hid (fun (X : World) (hX : OwnE X g 54 [.string (str s), .int .i64 (k0 : Int)]) => atom_any g s k0 X hX (by omega) hl)
    rcases hr : atomR (s.drop k0) with _ | ⟨t, n⟩
    · rw [hr] at HCC
      clear hr
      go_enter Try.func18, Try.ntmps18
      go_upto_region 2 with fail
      generalize w.alloc (.cells #[.int .i64 0, .string ⟨#[]⟩] 34) = wr at I x0 x1 ⊢
      go_quiet (fail)
      obtain ⟨wq, hwq, I2⟩ : ∃ X, X = wr.drewN nq ∧ Hid (CutI w X g s k0) := ⟨_, rfl, hid (I.out.drewN nq)⟩
      rw [← hwq]
      clear hwq x0 x1 I
      rename World => wr
      have I := I2
      clear I2
      have HC := hid (HCC.out wr I.out.c)
      go_wp2_with (go_at_call 22
                   refine HC.out.mono ?_
                   rintro e w2 ⟨hO, a, t, k', rfl, hc2⟩
                   have J := I.out.call HG.out hO hc2
                   clear hO hc2
                   have hz := J.res HG.out (.int .i64 a) (.string t)
                   have HZ := hid hz
                   have z0 := hz.1
                   have z1 := hz.2.1
                   have rc0 := J.r.cell (j := 0) rfl
                   have rc1 := J.r.cell (j := 1) rfl
                   have rf0 := J.r.frozen 0
                   have rf1 := J.r.frozen 1
                   clear hz J
                   )
      refine bodyPost_ret (v := .tuple #[.agg #[.int .i64 a, .string t], .bool false]) (by simp [results, Try.results18, go_sem, z0, z1]) rfl ?_
      exact ⟨HZ.out.2.2.2, a, t, k', rfl, HZ.out.2.2.1⟩
    · rw [hr] at HCC
      clear hr
      go_enter Try.func18, Try.ntmps18
      go_upto_region 2 with fail
      generalize w.alloc (.cells #[.int .i64 0, .string ⟨#[]⟩] 34) = wr at I x0 x1 ⊢
      go_quiet (fail)
      obtain ⟨wq, hwq, I2⟩ : ∃ X, X = wr.drewN nq ∧ Hid (CutI w X g s k0) := ⟨_, rfl, hid (I.out.drewN nq)⟩
      rw [← hwq]
      clear hwq x0 x1 I
      rename World => wr
      have I := I2
      clear I2
      have HC := hid (HCC.out wr I.out.c)
      obtain ⟨kd, hkd⟩ : ∃ i : Int, (t.kind : Int) = i := ⟨_, rfl⟩
      obtain ⟨tx, htx⟩ : ∃ x : ByteArray, str t.s = x := ⟨_, rfl⟩
      have HKD := hid hkd
      have HTX := hid htx
      clear hkd htx
      go_wp2_with (go_at_call 22
                   refine HC.out.mono ?_
                   rintro e w2 ⟨hO, he, hc2⟩
                   rw [HKD.out, HTX.out] at he
                   subst he
                   have J := I.out.call HG.out hO hc2
                   clear hO hc2
                   have hz := J.res HG.out (.int .i64 kd) (.string tx)
                   have HZ := hid hz
                   have z0 := hz.1
                   have z1 := hz.2.1
                   have rc0 := J.r.cell (j := 0) rfl
                   have rc1 := J.r.cell (j := 1) rfl
                   have rf0 := J.r.frozen 0
                   have rf1 := J.r.frozen 1
                   clear hz J
                   )
      refine bodyPost_ret (v := .tuple #[.agg #[.int .i64 kd, .string tx], .bool true]) (by simp [results, Try.results18, go_sem, z0, z1]) rfl ?_
      refine ⟨HZ.out.2.2.2, ?_, HZ.out.2.2.1⟩
      rw [HKD.out, HTX.out]
end Go.Proofs.Ytlddhgnecfgnkaa
