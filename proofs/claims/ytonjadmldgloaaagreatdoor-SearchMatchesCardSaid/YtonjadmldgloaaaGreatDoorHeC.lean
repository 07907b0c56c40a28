/-
  Lines and the header's length: the document's walks; Fields, one line at a time, in plain Lean; The header's length: the document's walk. A part of the proof: see the head of the text that ends in 'Law'.
-/
import Derived.Test.YtonjadmldgloaaaGreatDoorHeB
namespace Go.Proofs.YtonjadmldgloaaaGreatDoor.D17
section
open Go.RowKit Go.Shelf
set_option linter.unusedVariables false
attribute [local go_sem] Oper.semAt_some
theorem strsT : SliceT Tryz.prog 25 9 (.string ⟨#[]⟩) 1 16 := ⟨Tryz.underlying25, by kernel_rfl, rfl, by omega⟩
theorem one_SV (q : List (List UInt8)) : ∀ u ∈ q.map SV, u.oneCell' = true := by
  intro u hu
  obtain ⟨x, _, rfl⟩ := List.mem_map.1 hu
  rfl
set_option maxRecDepth 100000 in
set_option maxHeartbeats 4000000 in
theorem rcut_any (l : List UInt8) (w : World) (hl : l.length ≤ 100000) :
    Calls Tryz.prog 55 #[.string (str l)] w fun e w' => ∃ A m d, e = .returned (.slice A m d) ∧ (cutL l).length = m ∧ m ≤ d ∧ w'.ownsRow w.heap.size 9 1 (.slice A m d) m ((cutL l).map SV) ∧ Below w.heap.size w w' := by
  obtain ⟨n, hn⟩ : ∃ n, l.length = n := ⟨_, rfl⟩
  rw [hn] at hl
  have HN := hid hn
  have hsz : (str l).size = n := hn
  clear hn
  go_enter Tryz.func55, Tryz.ntmps55
  go_wp2_with fail
  go_loopw [3, 4, 5] (fun v3 v4 v5 wr => ∃ (k fr m : Nat) (A : Option Addr) (d : Nat) (acc : List (List UInt8)), k ≤ n ∧ v3 = .slice A m d ∧ v4 = .int .i64 (fr : Int) ∧ v5 = .int .i64 (k : Int) ∧ acc.length = m ∧ m ≤ d ∧ Hid (CutI l k fr acc) ∧ Hid (wr.ownsRow w.heap.size 9 1 (.slice A m d) m (acc.map SV)) ∧ Hid (Below w.heap.size w wr)) (fun v3 v4 v5 wr => n - (intOf v5).toNat)
  case atStart => exact ⟨0, 0, 0, none, 0, [], Nat.zero_le _, rfl, rfl, rfl, rfl, Nat.le_refl _, hid (CutI.start l), hid (World.ownsRow_nil _ _ _ _), hid (Below.refl _ _)⟩
  case round =>
    obtain ⟨k, fr, m, A, d, acc, hk2, rfl, rfl, rfl, ham, hmd, HI, HO, HB⟩ := hrel
    have hml : m ≤ fr := by rw [← ham]; exact HI.out.ml
    have hfk : fr ≤ k := HI.out.le
    have HAM := hid ham
    clear ham
    by_cases hlt : k < n
    · have d1 := lt_t hlt
      have d1' := lt_nt hlt
      have e0 : (0 : Int) ≤ (k : Int) := by omega
      have e1 : (k : Int) < ((str l).size : Int) := by rw [hsz]; omega
      have e3 : (k : Int).toNat = k := by omega
      have hkl : k < l.length := by rw [HN.out]; exact hlt
      have hks : k < (str l).size := hkl
      obtain ⟨z, hzz⟩ : ∃ z, l[k]'hkl = z := ⟨_, rfl⟩
      have h1 : (str l)[k]'hks = z := (str_get l k hks).trans hzz
      have HY := hid (HI.out.yes hkl z hzz)
      have HNO := hid (HI.out.no hkl z hzz)
      clear hkl hzz HI
      by_cases hz : z.toNat = 10
      · have q1 : ((z.toNat : Int) == 10) = true := by rw [hz]; rfl
        have q1' : (z.toNat == 10) = true := by rw [hz]; rfl
        have HI2 := hid (HY.out hz)
        have f0 : (0 : Int) ≤ (fr : Int) := by omega
        have f1 : (fr : Int) ≤ (k : Int) + 1 := by omega
        have f2 : (fr : Int).toNat = fr := by omega
        have f3 : ((k : Int) + 1).toNat = k + 1 := by omega
        have f4 : (k : Int) + 1 ≤ ((str l).size : Int) := by rw [hsz]; omega
        have hx : (str l).extract fr (k + 1) = str ((l.drop fr).take (k + 1 - fr)) := by rw [str_extract]
        obtain ⟨pc, hpc⟩ : ∃ pc, (l.drop fr).take (k + 1 - fr) = pc := ⟨_, rfl⟩
        rw [hpc] at hx HI2
        clear HY HNO hz hpc
        go_wp2_with (
          refine wpList_append_row _ rfl (.tmp 16) (.tmp 22) strsT rfl w.heap.size (.slice A m d) m (acc.map SV) rfl (own_alloc HO.out (.cells #[.string (str pc)] 9)) (some ⟨wr.heap.size, 0, none⟩) 1 1 [.string (str pc)] rfl rfl (Row.of_block (heap_alloc_new wr (Obj.cells #[.string (str pc)] 9))) (by simp [Value.oneCell']) (by simp only [maxLen]; omega) (by omega) (by have := HB.out.size; simp; omega) ?_
          intro A3 c3 w3 hown3 hgr3 hat3
          have B3 := hid ((HB.out.alloc HB.out.size (.cells #[.string (str pc)] 9)).grown hgr3 (by have := HB.out.size; simp; omega) (own_base HO.out))
          have P3 := hid hown3
          clear hown3 hgr3 hat3
          skip)
        go_roundw
        case rel => exact ⟨k + 1, k + 1, m + 1, A3, c3, acc ++ [pc], by omega, rfl, by go_num, by go_num, by rw [List.length_append, HAM.out]; rfl, (own_cap P3.out).1, HI2, hid (by rw [List.map_append]; exact P3.out), B3⟩
        case measure => simp [intOf]; omega
      · have q1 : ((z.toNat : Int) == 10) = false := ne_f hz
        have q1' := ne_n hz
        have HI2 := hid (HNO.out hz)
        clear HY HNO hz
        go_wp2_with fail
        go_roundw
        case rel => exact ⟨k + 1, fr, m, A, d, acc, by omega, rfl, rfl, by go_num, HAM.out, hmd, HI2, HO, HB⟩
        case measure => simp [intOf]; omega
    · have hkn : k = n := by omega
      subst hkn
      have d1 := lt_f hlt
      have d1' := lt_nf hlt
      have HFI : Hid ((fr < l.length → acc ++ [l.drop fr] = cutL l) ∧ (¬ fr < l.length → acc = cutL l)) := hid (CutI.fin (by rw [HN.out]; exact HI.out))
      clear HI
      by_cases hf : fr < k
      · have d2 := lt_t hf
        have d2' := lt_nt hf
        have HE := hid (HFI.out.1 (by rw [HN.out]; exact hf))
        have f0 : (0 : Int) ≤ (fr : Int) := by omega
        have f1 : (fr : Int) ≤ ((str l).size : Int) := by rw [hsz]; omega
        have f2 : (fr : Int).toNat = fr := by omega
        have hx : (str l).extract fr k = str (l.drop fr) := by rw [str_extract, List.take_of_length_le (by rw [List.length_drop, HN.out]; exact Nat.le_refl _)]
        obtain ⟨pc, hpc⟩ : ∃ pc, l.drop fr = pc := ⟨_, rfl⟩
        rw [hpc] at hx HE
        clear HFI hpc
        go_wp2_with (
          refine wpList_append_row _ rfl (.tmp 30) (.tmp 34) strsT rfl w.heap.size (.slice A m d) m (acc.map SV) rfl (own_alloc HO.out (.cells #[.string (str pc)] 9)) (some ⟨wr.heap.size, 0, none⟩) 1 1 [.string (str pc)] rfl rfl (Row.of_block (heap_alloc_new wr (Obj.cells #[.string (str pc)] 9))) (by simp [Value.oneCell']) (by simp only [maxLen]; omega) (by omega) (by have := HB.out.size; simp; omega) ?_
          intro A3 c3 w3 hown3 hgr3 hat3
          have B3 := hid ((HB.out.alloc HB.out.size (.cells #[.string (str pc)] 9)).grown hgr3 (by have := HB.out.size; simp; omega) (own_base HO.out))
          have P3 := hid hown3
          clear hown3 hgr3 hat3
          skip)
        go_ret
        refine ⟨A3, m + 1, c3, rfl, by rw [← HE.out, List.length_append, HAM.out]; rfl, (own_cap P3.out).1, ?_, B3.out⟩
        rw [← HE.out, List.map_append]
        exact P3.out
      · have d2 := lt_f hf
        have d2' := lt_nf hf
        have HE := hid (HFI.out.2 (by rw [HN.out]; exact hf))
        clear HFI
        go_wp2_with fail
        go_ret
        refine ⟨A, m, d, rfl, by rw [← HE.out, HAM.out], hmd, ?_, HB.out⟩
        rw [← HE.out]
        exact HO.out
end
section
open Go.RowKit
set_option linter.unusedVariables false
theorem setTo_snoc : ∀ (ini : List Fd) (f : Fd) (t : Nat), setTo (ini ++ [f]) t = ini ++ [{ f with te := t }]
  | [], f, t => rfl
  | [x], f, t => rfl
  | x :: y :: r, f, t => by
    have := setTo_snoc (y :: r) f t
    show x :: setTo ((y :: r) ++ [f]) t = _
    rw [this]
    rfl
/-- A field's cells. -/
def fdC (f : Fd) : List Value := [SV f.nm, .int .i64 (f.fr : Int), .int .i64 (f.te : Int), .int .i64 (f.at_ : Int)]
theorem fdC_len (l : List Fd) : (l.flatMap fdC).length = l.length * 4 := by
  induction l with
  | nil => rfl
  | cons x r ih => simp only [List.flatMap_cons, List.length_append, List.length_cons, ih, fdC, List.length_nil]; omega
theorem fdC_set (ini : List Fd) (f : Fd) (t : Nat) : ((ini ++ [f]).flatMap fdC).set (ini.length * 4 + 2) (.int .i64 (t : Int)) = (ini ++ [{ f with te := t }]).flatMap fdC := by
  rw [List.flatMap_append, List.flatMap_append, List.set_append_right _ _ (by rw [fdC_len]; omega), fdC_len, Nat.add_sub_cancel_left]
  rfl
theorem fdC_get (l : List Fd) (k : Nat) (h : k < l.length) (j : Nat) (hj : j < 4) : (l.flatMap fdC)[k * 4 + j]? = (fdC l[k])[j]? := by
  induction l generalizing k with
  | nil => cases h
  | cons x r ih =>
    rw [List.flatMap_cons]
    cases k with
    | zero =>
      rw [Nat.zero_mul, Nat.zero_add, List.getElem?_append_left (by show j < 4; exact hj)]
      rfl
    | succ k =>
      rw [List.getElem?_append_right (by show 4 ≤ _; omega)]
      have e : (k + 1) * 4 + j - (fdC x).length = k * 4 + j := by show (k + 1) * 4 + j - 4 = _; omega
      rw [e, ih k (by simpa using h)]
      rfl
/-- k lines are looked at, a octets lie ahead. -/
structure FlI (l : List UInt8) (k a : Nat) (out : List Fd) (o : Bool) : Prop where
  eq : fieldsL l = fdG a ((cutL l).drop k) out o
  sp : SpI l k a
  last : o = true → ∃ ini f, out = ini ++ [f] ∧ f.te = a
  ml : out.length ≤ k
theorem FlI.start (l : List UInt8) : FlI l 0 0 [] false := ⟨rfl, SpI.start l, fun h => by (cases h), Nat.le_refl _⟩
theorem FlI.fin {l : List UInt8} {k a : Nat} {out : List Fd} {o : Bool} (h : FlI l k a out o) (hk : (cutL l).length ≤ k) : fieldsL l = out := by
  rw [h.eq, List.drop_of_length_le hk, fdG]
theorem FlI.stop {l : List UInt8} {k a : Nat} {out : List Fd} {o : Bool} (h : FlI l k a out o) (hk : k < (cutL l).length) (x : List UInt8) (hx : (cutL l)[k] = x) (he : emptyB x = true) : fieldsL l = out := by
  rw [h.eq, List.drop_eq_getElem_cons hk, hx, fdG, if_pos he]
theorem FlI.more {l : List UInt8} {k a : Nat} {ini : List Fd} {f : Fd} (h : FlI l k a (ini ++ [f]) true) (hk : k < (cutL l).length) (x : List UInt8) (hx : (cutL l)[k] = x) (he : emptyB x = false) (hb : bl (x.headD 0) = true) :
    FlI l (k + 1) (a + x.length) (ini ++ [{ f with te := a + x.length }]) true := by
  refine ⟨?_, h.sp.step hk x hx, fun _ => ⟨_, _, rfl, rfl⟩, by have := h.ml; simp at this ⊢; omega⟩
  rw [h.eq, List.drop_eq_getElem_cons hk, hx, fdG, if_neg (by rw [he]; decide), if_pos hb, if_pos rfl, setTo_snoc]
theorem FlI.skip {l : List UInt8} {k a : Nat} {out : List Fd} (h : FlI l k a out false) (hk : k < (cutL l).length) (x : List UInt8) (hx : (cutL l)[k] = x) (he : emptyB x = false) (hb : bl (x.headD 0) = true) :
    FlI l (k + 1) (a + x.length) out false := by
  refine ⟨?_, h.sp.step hk x hx, fun h => by (cases h), by have := h.ml; omega⟩
  rw [h.eq, List.drop_eq_getElem_cons hk, hx, fdG, if_neg (by rw [he]; decide), if_pos hb, if_neg (by decide)]
theorem FlI.none {l : List UInt8} {k a : Nat} {out : List Fd} {o : Bool} (h : FlI l k a out o) (hk : k < (cutL l).length) (x : List UInt8) (hx : (cutL l)[k] = x) (he : emptyB x = false) (hb : bl (x.headD 0) = false) (hn : nameL x = none) :
    FlI l (k + 1) (a + x.length) out false := by
  refine ⟨?_, h.sp.step hk x hx, fun h => by (cases h), by have := h.ml; omega⟩
  rw [h.eq, List.drop_eq_getElem_cons hk, hx, fdG, if_neg (by rw [he]; decide), if_neg (by rw [hb]; decide), hn]
theorem FlI.some {l : List UInt8} {k a : Nat} {out : List Fd} {o : Bool} (h : FlI l k a out o) (hk : k < (cutL l).length) (x : List UInt8) (hx : (cutL l)[k] = x) (he : emptyB x = false) (hb : bl (x.headD 0) = false) (m : List UInt8) (j : Nat) (hn : nameL x = some (m, j)) :
    FlI l (k + 1) (a + x.length) (out ++ [⟨m, a, a + x.length, a + j⟩]) true := by
  refine ⟨?_, h.sp.step hk x hx, fun _ => ⟨_, _, rfl, rfl⟩, by have := h.ml; simp; omega⟩
  rw [h.eq, List.drop_eq_getElem_cons hk, hx, fdG, if_neg (by rw [he]; decide), if_neg (by rw [hb]; decide), hn]
theorem nameL_bounds {x m : List UInt8} {j : Nat} (h : nameL x = some (m, j)) : 0 < m.length ∧ m.length < j ∧ j ≤ x.length ∧ m = x.take m.length ∧ (x[j - 1]?.map (·.toNat)) = some 58 := by
  unfold nameL at h
  split at h
  · cases h
  · rename_i h0
    split at h
    · rename_i h1
      injection h with h
      injection h with h2 h3
      have hk : nmK x < x.length := by
        rcases Nat.lt_or_ge (nmK x) x.length with h | h
        · exact h
        · rw [List.getElem?_eq_none h] at h1
          cases h1
      have hnk : nmN x ≤ nmK x := by unfold nmK; omega
      have hml : m.length = nmN x := by rw [← h2, List.length_take]; omega
      refine ⟨by omega, by omega, by omega, ?_, by rw [← h3, Nat.add_sub_cancel]; exact h1⟩
      rw [hml, h2]
    · cases h
end
section
open Go.RowKit Go.Shelf
set_option linter.unusedVariables false
attribute [local go_sem] Oper.semAt_some
/-- The k-th text of a row that the call made. -/
theorem text_at {w w' : World} {A : Option Addr} {m d : Nat} {T : TypeId} {b : Nat} {ls : List (List UInt8)} (ho : w.ownsRow b T 1 (.slice A m d) m (ls.map SV)) (hb : Below w.heap.size w w') (k : Nat) (hk : k < ls.length) (hm : ls.length = m) :
    ∃ g, A = some ⟨g, 0, none⟩ ∧ w'.cell? ⟨g, k, none⟩ = some (.string (str ls[k])) := by
  obtain ⟨g, rfl, hg, og⟩ := own_row ho (by omega)
  refine ⟨g, rfl, ?_⟩
  have : w.cell? ⟨g, k, none⟩ = some (.string (str ls[k])) := og.cell (by rw [List.getElem?_map, List.getElem?_eq_getElem hk]; rfl)
  exact cells_keep hb this
set_option maxRecDepth 100000 in
set_option maxHeartbeats 4000000 in
theorem rsplit_any (l : List UInt8) (w : World) (hl : l.length ≤ 100000) :
    Calls Tryz.prog 33 #[.string (str l)] w fun e w' => e = .returned (.int .i64 (splitL l : Int)) ∧ Below w.heap.size w w' := by
  have HL := hid hl
  have hml := cutL_len l
  have I0 : Hid (SpI l 0 0 ∧ splitL l = spG 0 ((cutL l).drop 0)) := hid ⟨SpI.start l, rfl⟩
  go_enter Tryz.func33, Tryz.ntmps33
  go_wp2_with (go_at_call 55; refine (rcut_any l _ HL.out).mono ?_; rintro e w1 ⟨A, m, d, rfl, hm, hmd, ho, hb⟩; have HO := hid ho; have HB := hid hb; clear ho hb)
  rw [hm] at hml
  have HM := hid hm
  clear hm
  go_loopw [3, 5] (fun v3 v5 wr => ∃ k a : Nat, k ≤ m ∧ v3 = .int .i64 (a : Int) ∧ v5 = .int .i64 (k : Int) ∧ Hid (SpI l k a ∧ splitL l = spG a ((cutL l).drop k)) ∧ w1 = wr) (fun v3 v5 wr => m - (intOf v5).toNat)
  case atStart => exact ⟨0, 0, Nat.zero_le _, rfl, rfl, I0, rfl⟩
  case round =>
    clear I0
    obtain ⟨k, a, hk2, rfl, rfl, HI, rfl⟩ := hrel
    have hal : a ≤ l.length := HI.out.1.le
    by_cases hlt : k < m
    · have d1 := lt_t hlt
      have d1' := lt_nt hlt
      have e0 : (0 : Int) ≤ (k : Int) := by omega
      have e1 : (k : Int) < (m : Int) := by omega
      have e3 : (k : Int).toNat = k := by omega
      have hkl : k < (cutL l).length := by rw [HM.out]; exact hlt
      obtain ⟨g, rfl, hc⟩ := text_at HO.out (Below.refl _ _) k hkl HM.out
      obtain ⟨x, hx⟩ : ∃ x, (cutL l)[k]'hkl = x := ⟨_, rfl⟩
      rw [hx] at hc
      have hst := HI.out.1.step hkl x hx
      have hxl : a + x.length ≤ l.length := hst.le
      obtain ⟨t, ht⟩ : ∃ t, emptyB x = t := ⟨_, rfl⟩
      have HE := hid (fun X => rempty_any x X)
      rw [ht] at HE
      obtain ⟨xn, hxn⟩ : ∃ xn, x.length = xn := ⟨_, rfl⟩
      have hsx : (str x).size = xn := hxn
      have HST := hid hst
      rw [hxn] at hxl HST
      have heq : splitL l = if t = true then a + xn else spG (a + xn) ((cutL l).drop (k + 1)) := by
        rw [HI.out.2, List.drop_eq_getElem_cons hkl, hx, spG, ht, hxn]
      clear HI hx hkl hst hxn
      cases t with
      | true =>
        have HF : Hid (splitL l = a + xn) := hid heq
        clear heq ht
        go_wp2_with (go_at_call 56; refine (HE.out _).mono ?_; rintro e w3 ⟨rfl, rfl⟩)
        go_ret
        exact ⟨by rw [HF.out]; go_num, HB.out⟩
      | false =>
        have HF : Hid (SpI l (k + 1) (a + xn) ∧ splitL l = spG (a + xn) ((cutL l).drop (k + 1))) := hid ⟨HST.out, heq⟩
        clear heq ht
        go_wp2_with (go_at_call 56; refine (HE.out _).mono ?_; rintro e w3 ⟨rfl, rfl⟩)
        go_roundw
        case rel => exact ⟨k + 1, a + xn, by omega, by go_num, by go_num, HF, trivial⟩
        case measure => simp [intOf]; omega
    · have hkm : k = m := by omega
      subst hkm
      have d1 := lt_f hlt
      have d1' := lt_nf hlt
      have HF : Hid (splitL l = a) := hid (by rw [HI.out.2, List.drop_of_length_le (by rw [HM.out]; exact Nat.le_refl _), spG])
      clear HI
      go_wp2_with fail
      go_ret
      exact ⟨by rw [HF.out]; rfl, HB.out⟩
end
end Go.Proofs.YtonjadmldgloaaaGreatDoor.D17
