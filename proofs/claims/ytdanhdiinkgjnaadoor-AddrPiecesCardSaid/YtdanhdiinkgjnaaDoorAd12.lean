/-
  Signs are cut at commas: the document's walk. A part of the proof: see the head of the text that ends in 'Law'.
-/
import Derived.Test.YtdanhdiinkgjnaaDoorAd11
namespace Go.Proofs.YtdanhdiinkgjnaaDoor
open Go.RowKit
set_option linter.unusedVariables false
set_option linter.unusedSimpArgs false
attribute [local go_sem] Oper.semAt_some

theorem sgsS : SliceT Tryd.prog 39 31 (.slice none 0 0) 1 24 := ⟨Tryd.underlying39, by kernel_rfl, rfl, by decide⟩
/-- A slice of signs, in a row that was made behind b. -/
def SgRow (W : World) (b : Nat) (v : Value) (l : List Sg) : Prop := ∃ A c, v = .slice A l.length c ∧ W.ownsRow b 42 5 v l.length (l.flatMap sgC)
theorem SgRow.below {W W' : World} {b : Nat} {v : Value} {l : List Sg} (h : SgRow W b v l) (hb : Below W.heap.size W W') : SgRow W' b v l := by
  obtain ⟨A, c, h1, h2⟩ := h
  exact ⟨A, c, h1, own_below h2 hb⟩
theorem SgRow.only {W W' : World} {b : Nat} {v : Value} {l : List Sg} {T : Nat → Prop} (h : SgRow W b v l) (hO : Only T W W') (hT : ∀ g, v.ownBlock = some g → ¬ T g) : SgRow W' b v l := by
  obtain ⟨A, c, h1, h2⟩ := h
  exact ⟨A, c, h1, own_only h2 hO hT⟩
theorem SgRow.nil (W : World) (b : Nat) : SgRow W b (.slice none 0 0) [] := ⟨none, 0, rfl, World.ownsRow_nil _ _ _ _⟩
/-- k signs are looked at: fin the finished pieces, cur the last one. -/
structure CtI (w wr : World) (xs : List Sg) (k : Nat) (a : Bool) (A : Option Addr) (m c : Nat) (vs : List Value) (V : Value) (fin : List (List Sg)) (cur : List Sg) : Prop where
  own : wr.ownsRow w.heap.size 31 1 (.slice A (m + 1) c) (m + 1) (vs ++ [V])
  vl : vs.length = m
  fl : fin.length = m
  rows : ∀ (j : Nat) (h1 : j < vs.length) (h2 : j < fin.length), SgRow wr w.heap.size (vs[j]'h1) (fin[j]'h2)
  last : SgRow wr w.heap.size V cur
  dis : ∀ v ∈ vs, ∀ g, v.ownBlock = some g → V.ownBlock ≠ some g
  bel : Below w.heap.size w wr
  eq : cutR false [] xs = fin ++ cutR a cur (xs.drop k)
  ml : m ≤ k
  nl : cur.length ≤ k
theorem CtI.ne {w wr : World} {xs : List Sg} {k : Nat} {a : Bool} {A : Option Addr} {m c : Nat} {vs : List Value} {V : Value} {fin : List (List Sg)} {cur : List Sg} (h : CtI w wr xs k a A m c vs V fin cur) : ∃ g, A = some ⟨g, 0, none⟩ := by
  obtain ⟨A', c', h1, h2⟩ := own_slice h.own
  injection h1 with h1
  subst h1
  exact h2 (by omega)
/-- A comma: the piece is finished. -/
theorem CtI.cut {w wr w1 w' : World} {xs : List Sg} {k : Nat} {a : Bool} {A A' : Option Addr} {m c c' : Nat} {vs : List Value} {V : Value} {fin : List (List Sg)} {cur : List Sg} (h : CtI w wr xs k a A m c vs V fin cur) (hb : Below wr.heap.size wr w1) (hk : k < xs.length) (x : Sg) (hx : xs[k]'hk = x) (hc : (!x.q && !x.r && x.c.toNat == 44 && !a) = true)
    (ho : w'.ownsRow w.heap.size 31 1 (.slice A' (m + 1 + 1) c') (m + 1 + 1) (vs ++ [V] ++ [.slice none 0 0])) (hg : w1.grownBy w' (Value.ownBlock (.slice A (m + 1) c))) : CtI w w' xs (k + 1) a A' (m + 1) c' (vs ++ [V]) (.slice none 0 0) (fin ++ [cur]) [] := by
  have hbs := hb.size
  have hO : Only (fun g => Value.ownBlock (.slice A (m + 1) c) = some g) w1 w' := Only.of_grown hg (fun g e => e)
  have keep : ∀ (v : Value) (l : List Sg), SgRow wr w.heap.size v l → SgRow w' w.heap.size v l := fun v l hr => (hr.below hb).only hO (fun g hg2 hT => by
    obtain ⟨A2, c2, h1, h2⟩ := hr
    exact own_types h.own h2 (by decide) g hT hg2)
  refine ⟨ho, by rw [List.length_append, h.vl]; rfl, by rw [List.length_append, h.fl]; rfl, fun j h1 h2 => ?_, SgRow.nil _ _, fun v hv g hg2 e => (by simp [Value.ownBlock] at e), (h.bel.trans (hb.mono h.bel.size)).grown hg (Nat.le_trans h.bel.size hbs) (fun g hg2 => own_base h.own g hg2), ?_, by have := h.ml; omega, Nat.zero_le _⟩
  · rcases Nat.lt_or_ge j m with h3 | h3
    · have h4 : j < vs.length := by rw [h.vl]; exact h3
      have h5 : j < fin.length := by rw [h.fl]; exact h3
      rw [List.getElem_append_left h4, List.getElem_append_left h5]
      exact keep _ _ (h.rows j h4 h5)
    · have e1 : (vs ++ [V])[j]'h1 = V := by rw [List.getElem_append_right (by rw [h.vl]; exact h3)]; simp
      have e2 : (fin ++ [cur])[j]'h2 = cur := by rw [List.getElem_append_right (by rw [h.fl]; exact h3)]; simp
      rw [e1, e2]
      exact keep _ _ h.last
  · rw [h.eq, List.drop_eq_getElem_cons hk, hx, cutR, if_pos hc, List.append_assoc]
    rfl
/-- A sign more in the last piece. -/
theorem CtI.put {w wr w1 w2 : World} {xs : List Sg} {k : Nat} {a a' : Bool} {g m c n d d' : Nat} {B B' : Option Addr} {vs : List Value} {fin : List (List Sg)} {cur : List Sg} (h : CtI w wr xs k a (some ⟨g, 0, none⟩) m c vs (.slice B n d) fin cur) (hb : Below wr.heap.size wr w1) (hk : k < xs.length) (x : Sg) (hx : xs[k]'hk = x) (hc : ¬ (!x.q && !x.r && x.c.toNat == 44 && !a) = true) (ha : (if (!x.q && !x.r) = true then (if x.c.toNat = 60 then true else if x.c.toNat = 62 then false else a) else a) = a') (hn : n = cur.length)
    (ho : w2.ownsRow w.heap.size 42 5 (.slice B' (n + 1) d') (n + 1) (cur.flatMap sgC ++ sgC x)) (hg : w1.grownBy w2 (Value.ownBlock (.slice B n d))) (hh : Value.ownBlock (.slice B' (n + 1) d') = Value.ownBlock (.slice B n d) ∨ Value.ownBlock (.slice B' (n + 1) d') = some w1.heap.size) :
    w2.cell? ⟨g, m, none⟩ = some (.slice B n d) ∧ w2.frozen? ⟨g, m, none⟩ = false ∧ CtI w (w2.setCell ⟨g, m, none⟩ (.slice B' (n + 1) d')) xs (k + 1) a' (some ⟨g, 0, none⟩) m c vs (.slice B' (n + 1) d') fin (cur ++ [x]) := by
  have hbs := hb.size
  have hO : Only (fun g => Value.ownBlock (.slice B n d) = some g) w1 w2 := Only.of_grown hg (fun g e => e)
  have own1 := own_below h.own hb
  have own2 : w2.ownsRow w.heap.size 31 1 (.slice (some ⟨g, 0, none⟩) (m + 1) c) (m + 1) (vs ++ [.slice B n d]) := own_only own1 hO (fun g2 hg2 hT => by
    obtain ⟨A2, c2, h1, h2⟩ := h.last
    exact own_types h.own h2 (by decide) g2 hg2 hT)
  obtain ⟨g', hg', hgb, hgo⟩ := own_row own2 (by omega)
  injection hg' with hg'
  injection hg' with hg'
  subst hg'
  have hcell : w2.cell? ⟨g, m, none⟩ = some (.slice B n d) := hgo.cell (by rw [List.getElem?_append_right (by rw [h.vl]; exact Nat.le_refl _), h.vl, Nat.sub_self]; rfl)
  refine ⟨hcell, hgo.frozen m, ?_⟩
  have own3 : (w2.setCell ⟨g, m, none⟩ (.slice B' (n + 1) d')).ownsRow w.heap.size 31 1 (.slice (some ⟨g, 0, none⟩) (m + 1) c) (m + 1) (vs ++ [.slice B' (n + 1) d']) := by
    have := (own2.stored m (.slice B' (n + 1) d')).1
    rw [List.set_append_right _ _ (by rw [h.vl]; exact Nat.le_refl _), h.vl, Nat.sub_self, List.set_cons_zero] at this
    exact this
  have keep : ∀ (v : Value) (l : List Sg), v ∈ vs → SgRow wr w.heap.size v l → SgRow (w2.setCell ⟨g, m, none⟩ (.slice B' (n + 1) d')) w.heap.size v l := fun v l hv hr => by
    have h6 := (hr.below hb).only hO (fun g2 hg2 hT => h.dis v hv g2 hg2 hT)
    refine h6.only (Only.of_set (T := fun y => y = g) w2 ⟨g, m, none⟩ _ rfl) (fun g2 hg2 hT => ?_)
    subst hT
    obtain ⟨A2, c2, h1, h2⟩ := h6
    exact own_types own2 h2 (by decide) g2 rfl hg2
  have ho2 : (w2.setCell ⟨g, m, none⟩ (.slice B' (n + 1) d')).ownsRow w.heap.size 42 5 (.slice B' (n + 1) d') (n + 1) (cur.flatMap sgC ++ sgC x) :=
    own_only ho (Only.of_set (T := fun y => y = g) w2 ⟨g, m, none⟩ _ rfl) (fun g2 hg2 hT => by subst hT; exact own_types own2 ho (by decide) g2 rfl hg2)
  refine ⟨own3, h.vl, h.fl, fun j h1 h2 => keep _ _ (List.getElem_mem h1) (h.rows j h1 h2), ⟨B', d', by rw [List.length_append, ← hn]; rfl, ?_⟩, fun v hv g2 hg2 e => ?_, ?_, ?_, by have := h.ml; omega, by rw [List.length_append]; have := h.nl; simp; omega⟩
  · rw [List.length_append, ← hn, List.flatMap_append]
    simpa using ho2
  · rcases hh with hh | hh
    · exact h.dis v hv g2 hg2 (hh ▸ e)
    · rw [hh] at e
      injection e with e
      obtain ⟨j, hj, rfl⟩ := List.getElem_of_mem hv
      obtain ⟨A2, c2, h1, h2⟩ := h.rows j hj (by rw [h.fl, ← h.vl]; exact hj)
      have := (own_lt h2 g2 hg2).2
      omega
  · exact ((h.bel.trans (hb.mono h.bel.size)).grown hg (Nat.le_trans h.bel.size hbs) (fun g2 hg2 => by
      obtain ⟨A2, c2, h1, h2⟩ := h.last
      exact own_base h2 g2 hg2)).setCell (p := ⟨g, m, none⟩) hgb _
  · rw [h.eq, List.drop_eq_getElem_cons hk, hx, cutR, if_neg hc, ha]
theorem CtI.start (w w' : World) (xs : List Sg) (A : Option Addr) (c : Nat) (ho : w'.ownsRow w.heap.size 31 1 (.slice A 1 c) 1 [.slice none 0 0]) (hb : Below w.heap.size w w') : CtI w w' xs 0 false A 0 c [] (.slice none 0 0) [] [] :=
  ⟨ho, rfl, rfl, fun j h1 h2 => by simp at h1, SgRow.nil _ _, fun v hv => (by cases hv), hb, rfl, Nat.le_refl _, Nat.le_refl _⟩
theorem CtI.lastc {w wr W : World} {xs : List Sg} {k : Nat} {a : Bool} {g m c : Nat} {vs : List Value} {V : Value} {fin : List (List Sg)} {cur : List Sg} (h : CtI w wr xs k a (some ⟨g, 0, none⟩) m c vs V fin cur) (hb : Below wr.heap.size wr W) : W.cell? ⟨g, m, none⟩ = some V := by
  obtain ⟨g', hg', hgb, hgo⟩ := own_row (own_below h.own hb) (by omega)
  injection hg' with hg'
  injection hg' with hg'
  subst hg'
  exact hgo.cell (by rw [List.getElem?_append_right (by rw [h.vl]; exact Nat.le_refl _), h.vl, Nat.sub_self]; rfl)
set_option maxRecDepth 100000 in
set_option maxHeartbeats 8000000 in
theorem cut_any (xs : List Sg) (A0 : Option Addr) (n cp : Nat) (hn : xs.length = n) (w : World) (hr : Row w A0 (xs.flatMap sgC)) (hl : n ≤ 100000) :
    Calls Tryd.prog 18 #[.slice A0 n cp] w fun e w' => ∃ A m c vs, e = .returned (.slice A m c) ∧ (cutR false [] xs).length = m ∧ vs.length = m ∧ Row w' A vs ∧ (∀ (j : Nat) (h1 : j < vs.length) (h2 : j < (cutR false [] xs).length), SgRow w' w.heap.size (vs[j]'h1) ((cutR false [] xs)[j]'h2)) ∧ Below w.heap.size w w' ∧ m ≤ n + 1 := by
  have HR := hid hr
  have HN := hid hn
  have I0 := hid (CtI.start w (w.alloc (.cells #[.slice none 0 0] 31)) xs (some ⟨w.heap.size, 0, none⟩) 1 (World.ownsRow_lit (e := 31) (size := 1) (base := w.heap.size) w #[.slice none 0 0] 1 (Nat.le_refl _) (by simp only [maxLen]; omega) (by simp)) ((Below.refl _ _).alloc (Nat.le_refl _) _))
  clear hr hn
  go_enter Tryd.func18, Tryd.ntmps18
  go_wp2_with fail
  go_loopw [3, 4, 5] (fun v3 v4 v5 wr => ∃ (k : Nat) (a : Bool) (A : Option Addr) (m c : Nat) (vs : List Value) (V : Value) (fin : List (List Sg)) (cur : List Sg), k ≤ n ∧ v3 = .slice A (m + 1) c ∧ v4 = .bool a ∧ v5 = .int .i64 (k : Int) ∧ Hid (CtI w wr xs k a A m c vs V fin cur)) (fun v3 v4 v5 wr => n - (intOf v5).toNat)
  case atStart => exact ⟨0, false, some ⟨w.heap.size, 0, none⟩, 0, 1, [], .slice none 0 0, [], [], Nat.zero_le _, rfl, rfl, rfl, I0⟩
  case round =>
    clear I0
    obtain ⟨k, a, A, m, c, vs, V, fin, cur, hk2, rfl, rfl, rfl, HI⟩ := hrel
    by_cases hlt : k < n
    · have d1 : decide ((k : Int) < (n : Int)) = true := by simp; omega
      have d1' : decide (k < n) = true := by simp; omega
      have hkl : k < xs.length := by rw [HN.out]; exact hlt
      have e0 : (0 : Int) ≤ (k : Int) := by omega
      have e2 : (k : Int) < (n : Int) := by omega
      have e3 : (k : Int).toNat = k := by omega
      have HRK := hid (HR.out.below HI.out.bel)
      obtain ⟨b, off, rfl, hcell⟩ := sg_at HRK.out hkl
      have hz := hcell k hkl
      obtain ⟨x, hx⟩ : ∃ x, xs[k]'hkl = x := ⟨_, rfl⟩
      rw [hx] at hz
      unfold B8 at hz
      have HC : Hid (∀ wx, Below wr.heap.size wr wx → wx.cell? ⟨b, off + k * 5, none⟩ = some (.int .u8 (x.c.toNat : Int)) ∧ wx.cell? ⟨b, off + k * 5 + 1, none⟩ = some (.bool x.q) ∧ wx.cell? ⟨b, off + k * 5 + 2, none⟩ = some (.bool x.r) ∧ wx.cell? ⟨b, off + k * 5 + 3, none⟩ = some (.bool x.o) ∧ wx.cell? ⟨b, off + k * 5 + 4, none⟩ = some (.bool x.s)) :=
        hid (fun wx h => ⟨cells_keep h hz.1, cells_keep h hz.2.1, cells_keep h hz.2.2.1, cells_keep h hz.2.2.2.1, cells_keep h hz.2.2.2.2⟩)
      have x0 := hz.1
      have x1 := hz.2.1
      have x2 := hz.2.2.1
      have x3 := hz.2.2.2.1
      have x4 := hz.2.2.2.2
      have HCW : Hid (∀ W, Below w.heap.size w W → W.cell? ⟨b, off + k * 5, none⟩ = some (.int .u8 (x.c.toNat : Int)) ∧ W.cell? ⟨b, off + k * 5 + 1, none⟩ = some (.bool x.q) ∧ W.cell? ⟨b, off + k * 5 + 2, none⟩ = some (.bool x.r) ∧ W.cell? ⟨b, off + k * 5 + 3, none⟩ = some (.bool x.o) ∧ W.cell? ⟨b, off + k * 5 + 4, none⟩ = some (.bool x.s)) := hid (fun W h => by
        obtain ⟨b2, off2, hA2, hcell2⟩ := sg_at (HR.out.below h) hkl
        injection hA2 with hA2
        injection hA2 with h1 h2
        subst h1 h2
        have := hcell2 k hkl
        rw [hx] at this
        exact this)
      have HPL := hid (fun X => plain_any x X)
      have H := hid (Below.refl wr.heap.size wr)
      have HKL := hid hkl
      have HX : Hid (xs[k]'HKL.out = x) := hid hx
      have hml : m ≤ k := HI.out.ml
      have hnl : cur.length ≤ k := HI.out.nl
      clear hcell hkl hx hz HRK
      obtain ⟨p, hp⟩ : ∃ p, (!x.q && !x.r) = p := ⟨_, rfl⟩
      rw [hp] at HPL
      have HP := hid hp
      clear hp
      obtain ⟨a1, ha1⟩ : ∃ a1, (if (!x.q && !x.r) = true then (if x.c.toNat = 60 then true else if x.c.toNat = 62 then false else a) else a) = a1 := ⟨_, rfl⟩
      have HA1 := hid ha1
      clear ha1
      cases p with
      | false =>
        obtain rfl : a = a1 := by rw [← HA1.out, if_neg (by rw [HP.out]; decide)]
        have HCU : Hid (¬(!x.q && !x.r && x.c.toNat == 44 && !a) = true) := hid (by rw [HP.out]; simp)
        go_upto_region 12 with (go_at_call 19; refine (HPL.out _).mono ?_; rintro e w5 ⟨rfl, b5⟩; have H := hid (H.out.trans (b5.mono H.out.size)); have z0 := (HC.out _ H.out).1; have z1 := (HC.out _ H.out).2.1; have z2 := (HC.out _ H.out).2.2.1; have z3 := (HC.out _ H.out).2.2.2.1; have z4 := (HC.out _ H.out).2.2.2.2; clear b5)
        obtain ⟨g, rfl⟩ := HI.out.ne
        obtain ⟨B, d, hV, hVo⟩ := HI.out.last
        obtain ⟨nn, hnn⟩ : ∃ nn, cur.length = nn := ⟨_, rfl⟩
        rw [hnn] at hV hVo hnl
        subst hV
        have HNN := hid hnn
        have HVO := hid hVo
        clear hnn hVo
        obtain ⟨wx, hwx⟩ : ∃ wx, wx = w5 := ⟨_, rfl⟩
        rw [← hwx] at H ⊢
        have HSX : Hid (∀ W, Below wr.heap.size wr W → (W.cell? ⟨b, off + k * 5, none⟩ = some (.int .u8 (x.c.toNat : Int)) ∧ W.cell? ⟨b, off + k * 5 + 1, none⟩ = some (.bool x.q) ∧ W.cell? ⟨b, off + k * 5 + 2, none⟩ = some (.bool x.r) ∧ W.cell? ⟨b, off + k * 5 + 3, none⟩ = some (.bool x.o) ∧ W.cell? ⟨b, off + k * 5 + 4, none⟩ = some (.bool x.s))) := hid (fun W h => HC.out W h)
        have hS : wx.drew.cell? ⟨b, off + k * 5, none⟩ = some (.int .u8 (x.c.toNat : Int)) ∧ wx.drew.cell? ⟨b, off + k * 5 + 1, none⟩ = some (.bool x.q) ∧ wx.drew.cell? ⟨b, off + k * 5 + 2, none⟩ = some (.bool x.r) ∧ wx.drew.cell? ⟨b, off + k * 5 + 3, none⟩ = some (.bool x.o) ∧ wx.drew.cell? ⟨b, off + k * 5 + 4, none⟩ = some (.bool x.s) := HC.out _ (bq H.out 1)
        clear hwx HC x0 x1 x2 x3 x4
        have m0 : (0 : Int) ≤ (m : Int) := by omega
        have m1 : (m : Int) < (m : Int) + 1 := by omega
        have m2 : (m : Int).toNat = m := by omega
        have mw : IntKind.i64.wrap (m : Int) = (m : Int) := by rw [IntKind.wrap_i64]; omega
        have HY : Hid (∀ W, Below wr.heap.size wr W → W.cell? ⟨g, m, none⟩ = some (.slice B nn d)) := hid (fun W h => (HI.out.lastc h))
        go_upto_region 12 with fail
        refine wp_region_noPanic ?_
        refine wp_region_held_drew (S := (fun W => W.cell? ⟨b, off + k * 5, none⟩ = some (.int .u8 (x.c.toNat : Int)) ∧ W.cell? ⟨b, off + k * 5 + 1, none⟩ = some (.bool x.q) ∧ W.cell? ⟨b, off + k * 5 + 2, none⟩ = some (.bool x.r) ∧ W.cell? ⟨b, off + k * 5 + 3, none⟩ = some (.bool x.o) ∧ W.cell? ⟨b, off + k * 5 + 4, none⟩ = some (.bool x.s))) (by kernel_rfl) (by first | assumption | trivial) (fun hHeld => ?_)
        refine wpAnyH_take (i := 0) (v := ?_) rfl (by kernel_rfl) (by kernel_rfl) (by kernel_rfl) (fun _ _ _ h => h) (Or.inl ⟨by kernel_rfl, ?_⟩) (by first | assumption | trivial) ?_
        rotate_left
        · (intro wS hSw; (try dsimp only at hSw); go_simp; try with_reducible rfl)
        (try simp only [List.append_eq, List.cons_append, List.nil_append, List.getElem_toArray, List.getElem_cons_succ, List.getElem_cons_zero, Act.put, List.setIfInBounds_toArray, List.set_cons_zero, List.set_cons_succ])
        refine wpAnyH_take (i := 1) (v := ?_) rfl (by kernel_rfl) (by kernel_rfl) (by kernel_rfl) (fun _ _ _ h => h) (Or.inl ⟨by kernel_rfl, ?_⟩) (by first | assumption | trivial) ?_
        rotate_left
        · (intro wS hSw; (try dsimp only at hSw); go_simp; try with_reducible rfl)
        (try simp only [List.append_eq, List.cons_append, List.nil_append, List.getElem_toArray, List.getElem_cons_succ, List.getElem_cons_zero, Act.put, List.setIfInBounds_toArray, List.set_cons_zero, List.set_cons_succ])
        refine wpAnyH_take (i := 2) (v := ?_) rfl (by kernel_rfl) (by kernel_rfl) (by kernel_rfl) (fun _ _ _ h => h) (Or.inl ⟨by kernel_rfl, ?_⟩) (by first | assumption | trivial) ?_
        rotate_left
        · (intro wS hSw; (try dsimp only at hSw); go_simp; try with_reducible rfl)
        (try simp only [List.append_eq, List.cons_append, List.nil_append, List.getElem_toArray, List.getElem_cons_succ, List.getElem_cons_zero, Act.put, List.setIfInBounds_toArray, List.set_cons_zero, List.set_cons_succ])
        refine wpAnyH_take (i := 3) (v := ?_) rfl (by kernel_rfl) (by kernel_rfl) (by kernel_rfl) (fun _ _ _ h => h) (Or.inl ⟨by kernel_rfl, ?_⟩) (by first | assumption | trivial) ?_
        rotate_left
        · (intro wS hSw; (try dsimp only at hSw); go_simp; try with_reducible rfl)
        (try simp only [List.append_eq, List.cons_append, List.nil_append, List.getElem_toArray, List.getElem_cons_succ, List.getElem_cons_zero, Act.put, List.setIfInBounds_toArray, List.set_cons_zero, List.set_cons_succ])
        refine wpAnyH_take (i := 4) (v := ?_) rfl (by kernel_rfl) (by kernel_rfl) (by kernel_rfl) (fun _ _ _ h => h) (Or.inl ⟨by kernel_rfl, ?_⟩) (by first | assumption | trivial) ?_
        rotate_left
        · (intro wS hSw; (try dsimp only at hSw); go_simp; try with_reducible rfl)
        (try simp only [List.append_eq, List.cons_append, List.nil_append, List.getElem_toArray, List.getElem_cons_succ, List.getElem_cons_zero, Act.put, List.setIfInBounds_toArray, List.set_cons_zero, List.set_cons_succ])
        refine wpAnyH_take (i := 5) (v := ?_) rfl (by kernel_rfl) (by kernel_rfl) (by kernel_rfl) (fun _ _ _ h => h) (Or.inl ⟨by kernel_rfl, ?_⟩) (by first | assumption | trivial) ?_
        rotate_left
        · (intro wS hSw; (try dsimp only at hSw); go_simp; try with_reducible rfl)
        (try simp only [List.append_eq, List.cons_append, List.nil_append, List.getElem_toArray, List.getElem_cons_succ, List.getElem_cons_zero, Act.put, List.setIfInBounds_toArray, List.set_cons_zero, List.set_cons_succ])
        refine wpAnyH_take (i := 6) (v := ?_) rfl (by kernel_rfl) (by kernel_rfl) (by kernel_rfl) (fun _ _ _ h => h) (Or.inl ⟨by kernel_rfl, ?_⟩) (by first | assumption | trivial) ?_
        rotate_left
        · (intro wS hSw; (try dsimp only at hSw); go_simp; try with_reducible rfl)
        (try simp only [List.append_eq, List.cons_append, List.nil_append, List.getElem_toArray, List.getElem_cons_succ, List.getElem_cons_zero, Act.put, List.setIfInBounds_toArray, List.set_cons_zero, List.set_cons_succ])
        refine wpAnyH_take (i := 7) (v := ?_) rfl (by kernel_rfl) (by kernel_rfl) (by kernel_rfl) (fun _ _ _ h => h) (Or.inl ⟨by kernel_rfl, ?_⟩) (by first | assumption | trivial) ?_
        rotate_left
        · (intro wS hSw; (try dsimp only at hSw); go_simp; try with_reducible rfl)
        (try simp only [List.append_eq, List.cons_append, List.nil_append, List.getElem_toArray, List.getElem_cons_succ, List.getElem_cons_zero, Act.put, List.setIfInBounds_toArray, List.set_cons_zero, List.set_cons_succ])
        refine wpAnyH_take (i := 8) (v := ?_) rfl (by kernel_rfl) (by kernel_rfl) (by kernel_rfl) (fun _ _ _ h => h) (Or.inl ⟨by kernel_rfl, ?_⟩) (by first | assumption | trivial) ?_
        rotate_left
        · (intro wS hSw; (try dsimp only at hSw); go_simp; try with_reducible rfl)
        (try simp only [List.append_eq, List.cons_append, List.nil_append, List.getElem_toArray, List.getElem_cons_succ, List.getElem_cons_zero, Act.put, List.setIfInBounds_toArray, List.set_cons_zero, List.set_cons_succ])
        refine wpAnyH_take (i := 10) (v := ?_) rfl (by kernel_rfl) (by kernel_rfl) (by kernel_rfl) (fun _ _ _ h => h) (Or.inl ⟨by kernel_rfl, ?_⟩) (by first | assumption | trivial) ?_
        rotate_left
        · (intro wS hSw; (try dsimp only at hSw); go_simp; try with_reducible rfl)
        (try simp only [List.append_eq, List.cons_append, List.nil_append, List.getElem_toArray, List.getElem_cons_succ, List.getElem_cons_zero, Act.put, List.setIfInBounds_toArray, List.set_cons_zero, List.set_cons_succ])
        refine wpAnyH_take (i := 11) (v := ?_) rfl (by kernel_rfl) (by kernel_rfl) (by kernel_rfl) (fun _ _ _ h => h) (Or.inl ⟨by kernel_rfl, ?_⟩) (by first | assumption | trivial) ?_
        rotate_left
        · (intro wS hSw; (try dsimp only at hSw); go_simp; try with_reducible rfl)
        (try simp only [List.append_eq, List.cons_append, List.nil_append, List.getElem_toArray, List.getElem_cons_succ, List.getElem_cons_zero, Act.put, List.setIfInBounds_toArray, List.set_cons_zero, List.set_cons_succ])
        refine wpAnyH_take (i := 12) (v := ?_) rfl (by kernel_rfl) (by kernel_rfl) (by kernel_rfl) (fun _ _ _ h => h) (Or.inl ⟨by kernel_rfl, ?_⟩) (by first | assumption | trivial) ?_
        rotate_left
        · (intro wS hSw; (try dsimp only at hSw); go_simp; try with_reducible rfl)
        (try simp only [List.append_eq, List.cons_append, List.nil_append, List.getElem_toArray, List.getElem_cons_succ, List.getElem_cons_zero, Act.put, List.setIfInBounds_toArray, List.set_cons_zero, List.set_cons_succ])
        refine wpAnyH_take (i := 13) (v := ?_) rfl (by kernel_rfl) (by kernel_rfl) (by kernel_rfl) (fun _ _ _ h => h) (Or.inl ⟨by kernel_rfl, ?_⟩) (by first | assumption | trivial) ?_
        rotate_left
        · (intro wS hSw; (try dsimp only at hSw); go_simp; try with_reducible rfl)
        (try simp only [List.append_eq, List.cons_append, List.nil_append, List.getElem_toArray, List.getElem_cons_succ, List.getElem_cons_zero, Act.put, List.setIfInBounds_toArray, List.set_cons_zero, List.set_cons_succ])
        have y0 : wx.drew.cell? ⟨g, m, none⟩ = some (.slice B nn d) := HY.out _ (bq H.out 1)
        have hbz := bq (H.out.alloc H.out.size (.cells #[.int .u8 (x.c.toNat : Int), .bool x.q, .bool x.r, .bool x.o, .bool x.s] 42)) 1
        have y1 : (wx.alloc (.cells #[.int .u8 (x.c.toNat : Int), .bool x.q, .bool x.r, .bool x.o, .bool x.s] 42)).drew.cell? ⟨g, m, none⟩ = some (.slice B nn d) := HY.out _ hbz
        have hS2 := HSX.out _ hbz
        refine wpAnyH_ready (rs := [9, 14]) (by kernel_rfl) (by simp) ?_
        refine AllReadyH.cons rfl (fun K hK => ?_) (AllReadyH.cons rfl (fun K hK => ?_) AllReadyH.nil)
        · go_simp
          go_wp2_with fail
          refine hK.out _ _ hS (fun hHeld => ?_)
          clear hK K
          (try simp only [List.append_eq, List.cons_append, List.nil_append, List.getElem_toArray, List.getElem_cons_succ, List.getElem_cons_zero, Act.put, List.setIfInBounds_toArray, List.set_cons_zero, List.set_cons_succ])
          refine wpAnyH_ready (rs := [14]) (by kernel_rfl) (by simp) ?_
          refine AllReadyH.cons rfl (fun K hK => ?_) AllReadyH.nil
          go_simp
          skip
          go_wp2_with fail
          refine hK.out _ _ (by first | assumption | trivial) (fun hHeld => ?_)
          clear hK K
          (try simp only [List.append_eq, List.cons_append, List.nil_append, List.getElem_toArray, List.getElem_cons_succ, List.getElem_cons_zero, Act.put, List.setIfInBounds_toArray, List.set_cons_zero, List.set_cons_succ])
          refine wpAnyH_ready (rs := [15]) (by kernel_rfl) (by simp) ?_
          refine AllReadyH.cons rfl (fun K hK => ?_) AllReadyH.nil
          rw [if_pos (by kernel_rfl)]
          (refine wp_append_row _ (.tmp 68) (.tmp 73) sgS rfl w.heap.size (.slice B nn d) nn (cur.flatMap sgC) rfl (own_below HVO.out hbz) (some ⟨wx.heap.size, 0, none⟩) 1 1 (sgC x) rfl rfl (Row.of_block (w := (wx.alloc (.cells #[.int .u8 (x.c.toNat : Int), .bool x.q, .bool x.r, .bool x.o, .bool x.s] 42)).drew) (cs := #[.int .u8 (x.c.toNat : Int), .bool x.q, .bool x.r, .bool x.o, .bool x.s]) (heap_alloc_new wx _)) (by simp [sgC, B8, Value.oneCell']) (by simp only [maxLen]; omega) (by omega) (Nat.le_trans HI.out.bel.size hbz.size) ?_; intro A2 c2 w2 ho2 hg2 hh2; have HP2 := HI.out.put hbz HKL.out x HX.out HCU.out HA1.out HNN.out.symm ho2 hg2 hh2; have v0 := HP2.1; have v1 := HP2.2.1; have HI2 := hid HP2.2.2; have hS5 := HCW.out w2 ((HI.out.bel.trans (hbz.mono HI.out.bel.size)).grown hg2 (Nat.le_trans HI.out.bel.size hbz.size) (fun g2 hg2 => own_base HVO.out g2 hg2)); have hS6 := HCW.out _ HI2.out.bel; clear ho2 hg2 hh2 HP2)
          refine hK.out _ _ (by first | assumption | trivial) (fun hHeld => ?_)
          clear hK K
          (try simp only [List.append_eq, List.cons_append, List.nil_append, List.getElem_toArray, List.getElem_cons_succ, List.getElem_cons_zero, Act.put, List.setIfInBounds_toArray, List.set_cons_zero, List.set_cons_succ])
          refine wpAnyH_take (i := 16) (v := ?_) rfl (by kernel_rfl) (by kernel_rfl) (by kernel_rfl) (fun _ _ _ h => h) (Or.inl ⟨by kernel_rfl, ?_⟩) (by first | assumption | trivial) ?_
          rotate_left
          · (intro wS hSw; (try dsimp only at hSw); go_simp; try with_reducible rfl)
          (try simp only [List.append_eq, List.cons_append, List.nil_append, List.getElem_toArray, List.getElem_cons_succ, List.getElem_cons_zero, Act.put, List.setIfInBounds_toArray, List.set_cons_zero, List.set_cons_succ])
          refine wpAnyH_ready (rs := [17]) (by kernel_rfl) (by simp) ?_
          refine AllReadyH.cons rfl (fun K hK => ?_) AllReadyH.nil
          go_simp
          skip
          go_wp2_with fail
          refine hK.out _ _ (by first | assumption | trivial) (fun hHeld => ?_)
          clear hK K
          (try simp only [List.append_eq, List.cons_append, List.nil_append, List.getElem_toArray, List.getElem_cons_succ, List.getElem_cons_zero, Act.put, List.setIfInBounds_toArray, List.set_cons_zero, List.set_cons_succ])
          refine wpAnyH_done (by kernel_rfl) ?_ _
          refine NoPanic.normal ?_
          go_wp2_with fail
          go_roundw
          case rel => exact ⟨k + 1, _, _, _, _, _, _, _, _, by omega, rfl, rfl, by go_num, HI2⟩
          case measure => simp [intOf]; omega
        · go_simp
          go_wp2_with fail
          refine hK.out _ _ hS2 (fun hHeld => ?_)
          clear hK K
          (try simp only [List.append_eq, List.cons_append, List.nil_append, List.getElem_toArray, List.getElem_cons_succ, List.getElem_cons_zero, Act.put, List.setIfInBounds_toArray, List.set_cons_zero, List.set_cons_succ])
          refine wpAnyH_ready (rs := [9]) (by kernel_rfl) (by simp) ?_
          refine AllReadyH.cons rfl (fun K hK => ?_) AllReadyH.nil
          go_simp
          skip
          go_wp2_with fail
          refine hK.out _ _ (by first | assumption | trivial) (fun hHeld => ?_)
          clear hK K
          (try simp only [List.append_eq, List.cons_append, List.nil_append, List.getElem_toArray, List.getElem_cons_succ, List.getElem_cons_zero, Act.put, List.setIfInBounds_toArray, List.set_cons_zero, List.set_cons_succ])
          refine wpAnyH_ready (rs := [15]) (by kernel_rfl) (by simp) ?_
          refine AllReadyH.cons rfl (fun K hK => ?_) AllReadyH.nil
          rw [if_pos (by kernel_rfl)]
          (refine wp_append_row _ (.tmp 68) (.tmp 73) sgS rfl w.heap.size (.slice B nn d) nn (cur.flatMap sgC) rfl (own_below HVO.out hbz) (some ⟨wx.heap.size, 0, none⟩) 1 1 (sgC x) rfl rfl (Row.of_block (w := (wx.alloc (.cells #[.int .u8 (x.c.toNat : Int), .bool x.q, .bool x.r, .bool x.o, .bool x.s] 42)).drew) (cs := #[.int .u8 (x.c.toNat : Int), .bool x.q, .bool x.r, .bool x.o, .bool x.s]) (heap_alloc_new wx _)) (by simp [sgC, B8, Value.oneCell']) (by simp only [maxLen]; omega) (by omega) (Nat.le_trans HI.out.bel.size hbz.size) ?_; intro A2 c2 w2 ho2 hg2 hh2; have HP2 := HI.out.put hbz HKL.out x HX.out HCU.out HA1.out HNN.out.symm ho2 hg2 hh2; have v0 := HP2.1; have v1 := HP2.2.1; have HI2 := hid HP2.2.2; have hS5 := HCW.out w2 ((HI.out.bel.trans (hbz.mono HI.out.bel.size)).grown hg2 (Nat.le_trans HI.out.bel.size hbz.size) (fun g2 hg2 => own_base HVO.out g2 hg2)); have hS6 := HCW.out _ HI2.out.bel; clear ho2 hg2 hh2 HP2)
          refine hK.out _ _ (by first | assumption | trivial) (fun hHeld => ?_)
          clear hK K
          (try simp only [List.append_eq, List.cons_append, List.nil_append, List.getElem_toArray, List.getElem_cons_succ, List.getElem_cons_zero, Act.put, List.setIfInBounds_toArray, List.set_cons_zero, List.set_cons_succ])
          refine wpAnyH_take (i := 16) (v := ?_) rfl (by kernel_rfl) (by kernel_rfl) (by kernel_rfl) (fun _ _ _ h => h) (Or.inl ⟨by kernel_rfl, ?_⟩) (by first | assumption | trivial) ?_
          rotate_left
          · (intro wS hSw; (try dsimp only at hSw); go_simp; try with_reducible rfl)
          (try simp only [List.append_eq, List.cons_append, List.nil_append, List.getElem_toArray, List.getElem_cons_succ, List.getElem_cons_zero, Act.put, List.setIfInBounds_toArray, List.set_cons_zero, List.set_cons_succ])
          refine wpAnyH_ready (rs := [17]) (by kernel_rfl) (by simp) ?_
          refine AllReadyH.cons rfl (fun K hK => ?_) AllReadyH.nil
          go_simp
          skip
          go_wp2_with fail
          refine hK.out _ _ (by first | assumption | trivial) (fun hHeld => ?_)
          clear hK K
          (try simp only [List.append_eq, List.cons_append, List.nil_append, List.getElem_toArray, List.getElem_cons_succ, List.getElem_cons_zero, Act.put, List.setIfInBounds_toArray, List.set_cons_zero, List.set_cons_succ])
          refine wpAnyH_done (by kernel_rfl) ?_ _
          refine NoPanic.normal ?_
          go_wp2_with fail
          go_roundw
          case rel => exact ⟨k + 1, _, _, _, _, _, _, _, _, by omega, rfl, rfl, by go_num, HI2⟩
          case measure => simp [intOf]; omega
      | true =>
        by_cases h60 : x.c.toNat = 60
        · have q1 : ((x.c.toNat : Int) == 60) = true := by rw [h60]; rfl
          have q2 : ((x.c.toNat : Int) == 62) = false := by rw [h60]; rfl
          have q3 : ((x.c.toNat : Int) == 44) = false := by rw [h60]; rfl
          obtain rfl : true = a1 := by rw [← HA1.out, if_pos HP.out, if_pos h60]
          have HCU : Hid (¬(!x.q && !x.r && x.c.toNat == 44 && !a) = true) := hid (by simp [h60])
          clear h60
          go_upto_region 12 with (go_at_call 19; refine (HPL.out _).mono ?_; rintro e w5 ⟨rfl, b5⟩; have H := hid (H.out.trans (b5.mono H.out.size)); have z0 := (HC.out _ H.out).1; have z1 := (HC.out _ H.out).2.1; have z2 := (HC.out _ H.out).2.2.1; have z3 := (HC.out _ H.out).2.2.2.1; have z4 := (HC.out _ H.out).2.2.2.2; clear b5)
          obtain ⟨g, rfl⟩ := HI.out.ne
          obtain ⟨B, d, hV, hVo⟩ := HI.out.last
          obtain ⟨nn, hnn⟩ : ∃ nn, cur.length = nn := ⟨_, rfl⟩
          rw [hnn] at hV hVo hnl
          subst hV
          have HNN := hid hnn
          have HVO := hid hVo
          clear hnn hVo
          obtain ⟨wx, hwx⟩ : ∃ wx, wx = w5 := ⟨_, rfl⟩
          rw [← hwx] at H ⊢
          have HSX : Hid (∀ W, Below wr.heap.size wr W → (W.cell? ⟨b, off + k * 5, none⟩ = some (.int .u8 (x.c.toNat : Int)) ∧ W.cell? ⟨b, off + k * 5 + 1, none⟩ = some (.bool x.q) ∧ W.cell? ⟨b, off + k * 5 + 2, none⟩ = some (.bool x.r) ∧ W.cell? ⟨b, off + k * 5 + 3, none⟩ = some (.bool x.o) ∧ W.cell? ⟨b, off + k * 5 + 4, none⟩ = some (.bool x.s))) := hid (fun W h => HC.out W h)
          have hS : wx.drew.cell? ⟨b, off + k * 5, none⟩ = some (.int .u8 (x.c.toNat : Int)) ∧ wx.drew.cell? ⟨b, off + k * 5 + 1, none⟩ = some (.bool x.q) ∧ wx.drew.cell? ⟨b, off + k * 5 + 2, none⟩ = some (.bool x.r) ∧ wx.drew.cell? ⟨b, off + k * 5 + 3, none⟩ = some (.bool x.o) ∧ wx.drew.cell? ⟨b, off + k * 5 + 4, none⟩ = some (.bool x.s) := HC.out _ (bq H.out 1)
          clear hwx HC x0 x1 x2 x3 x4
          have m0 : (0 : Int) ≤ (m : Int) := by omega
          have m1 : (m : Int) < (m : Int) + 1 := by omega
          have m2 : (m : Int).toNat = m := by omega
          have mw : IntKind.i64.wrap (m : Int) = (m : Int) := by rw [IntKind.wrap_i64]; omega
          have HY : Hid (∀ W, Below wr.heap.size wr W → W.cell? ⟨g, m, none⟩ = some (.slice B nn d)) := hid (fun W h => (HI.out.lastc h))
          go_upto_region 12 with fail
          refine wp_region_noPanic ?_
          refine wp_region_held_drew (S := (fun W => W.cell? ⟨b, off + k * 5, none⟩ = some (.int .u8 (x.c.toNat : Int)) ∧ W.cell? ⟨b, off + k * 5 + 1, none⟩ = some (.bool x.q) ∧ W.cell? ⟨b, off + k * 5 + 2, none⟩ = some (.bool x.r) ∧ W.cell? ⟨b, off + k * 5 + 3, none⟩ = some (.bool x.o) ∧ W.cell? ⟨b, off + k * 5 + 4, none⟩ = some (.bool x.s))) (by kernel_rfl) (by first | assumption | trivial) (fun hHeld => ?_)
          refine wpAnyH_take (i := 0) (v := ?_) rfl (by kernel_rfl) (by kernel_rfl) (by kernel_rfl) (fun _ _ _ h => h) (Or.inl ⟨by kernel_rfl, ?_⟩) (by first | assumption | trivial) ?_
          rotate_left
          · (intro wS hSw; (try dsimp only at hSw); go_simp; try with_reducible rfl)
          (try simp only [List.append_eq, List.cons_append, List.nil_append, List.getElem_toArray, List.getElem_cons_succ, List.getElem_cons_zero, Act.put, List.setIfInBounds_toArray, List.set_cons_zero, List.set_cons_succ])
          refine wpAnyH_take (i := 1) (v := ?_) rfl (by kernel_rfl) (by kernel_rfl) (by kernel_rfl) (fun _ _ _ h => h) (Or.inl ⟨by kernel_rfl, ?_⟩) (by first | assumption | trivial) ?_
          rotate_left
          · (intro wS hSw; (try dsimp only at hSw); go_simp; try with_reducible rfl)
          (try simp only [List.append_eq, List.cons_append, List.nil_append, List.getElem_toArray, List.getElem_cons_succ, List.getElem_cons_zero, Act.put, List.setIfInBounds_toArray, List.set_cons_zero, List.set_cons_succ])
          refine wpAnyH_take (i := 2) (v := ?_) rfl (by kernel_rfl) (by kernel_rfl) (by kernel_rfl) (fun _ _ _ h => h) (Or.inl ⟨by kernel_rfl, ?_⟩) (by first | assumption | trivial) ?_
          rotate_left
          · (intro wS hSw; (try dsimp only at hSw); go_simp; try with_reducible rfl)
          (try simp only [List.append_eq, List.cons_append, List.nil_append, List.getElem_toArray, List.getElem_cons_succ, List.getElem_cons_zero, Act.put, List.setIfInBounds_toArray, List.set_cons_zero, List.set_cons_succ])
          refine wpAnyH_take (i := 3) (v := ?_) rfl (by kernel_rfl) (by kernel_rfl) (by kernel_rfl) (fun _ _ _ h => h) (Or.inl ⟨by kernel_rfl, ?_⟩) (by first | assumption | trivial) ?_
          rotate_left
          · (intro wS hSw; (try dsimp only at hSw); go_simp; try with_reducible rfl)
          (try simp only [List.append_eq, List.cons_append, List.nil_append, List.getElem_toArray, List.getElem_cons_succ, List.getElem_cons_zero, Act.put, List.setIfInBounds_toArray, List.set_cons_zero, List.set_cons_succ])
          refine wpAnyH_take (i := 4) (v := ?_) rfl (by kernel_rfl) (by kernel_rfl) (by kernel_rfl) (fun _ _ _ h => h) (Or.inl ⟨by kernel_rfl, ?_⟩) (by first | assumption | trivial) ?_
          rotate_left
          · (intro wS hSw; (try dsimp only at hSw); go_simp; try with_reducible rfl)
          (try simp only [List.append_eq, List.cons_append, List.nil_append, List.getElem_toArray, List.getElem_cons_succ, List.getElem_cons_zero, Act.put, List.setIfInBounds_toArray, List.set_cons_zero, List.set_cons_succ])
          refine wpAnyH_take (i := 5) (v := ?_) rfl (by kernel_rfl) (by kernel_rfl) (by kernel_rfl) (fun _ _ _ h => h) (Or.inl ⟨by kernel_rfl, ?_⟩) (by first | assumption | trivial) ?_
          rotate_left
          · (intro wS hSw; (try dsimp only at hSw); go_simp; try with_reducible rfl)
          (try simp only [List.append_eq, List.cons_append, List.nil_append, List.getElem_toArray, List.getElem_cons_succ, List.getElem_cons_zero, Act.put, List.setIfInBounds_toArray, List.set_cons_zero, List.set_cons_succ])
          refine wpAnyH_take (i := 6) (v := ?_) rfl (by kernel_rfl) (by kernel_rfl) (by kernel_rfl) (fun _ _ _ h => h) (Or.inl ⟨by kernel_rfl, ?_⟩) (by first | assumption | trivial) ?_
          rotate_left
          · (intro wS hSw; (try dsimp only at hSw); go_simp; try with_reducible rfl)
          (try simp only [List.append_eq, List.cons_append, List.nil_append, List.getElem_toArray, List.getElem_cons_succ, List.getElem_cons_zero, Act.put, List.setIfInBounds_toArray, List.set_cons_zero, List.set_cons_succ])
          refine wpAnyH_take (i := 7) (v := ?_) rfl (by kernel_rfl) (by kernel_rfl) (by kernel_rfl) (fun _ _ _ h => h) (Or.inl ⟨by kernel_rfl, ?_⟩) (by first | assumption | trivial) ?_
          rotate_left
          · (intro wS hSw; (try dsimp only at hSw); go_simp; try with_reducible rfl)
          (try simp only [List.append_eq, List.cons_append, List.nil_append, List.getElem_toArray, List.getElem_cons_succ, List.getElem_cons_zero, Act.put, List.setIfInBounds_toArray, List.set_cons_zero, List.set_cons_succ])
          refine wpAnyH_take (i := 8) (v := ?_) rfl (by kernel_rfl) (by kernel_rfl) (by kernel_rfl) (fun _ _ _ h => h) (Or.inl ⟨by kernel_rfl, ?_⟩) (by first | assumption | trivial) ?_
          rotate_left
          · (intro wS hSw; (try dsimp only at hSw); go_simp; try with_reducible rfl)
          (try simp only [List.append_eq, List.cons_append, List.nil_append, List.getElem_toArray, List.getElem_cons_succ, List.getElem_cons_zero, Act.put, List.setIfInBounds_toArray, List.set_cons_zero, List.set_cons_succ])
          refine wpAnyH_take (i := 10) (v := ?_) rfl (by kernel_rfl) (by kernel_rfl) (by kernel_rfl) (fun _ _ _ h => h) (Or.inl ⟨by kernel_rfl, ?_⟩) (by first | assumption | trivial) ?_
          rotate_left
          · (intro wS hSw; (try dsimp only at hSw); go_simp; try with_reducible rfl)
          (try simp only [List.append_eq, List.cons_append, List.nil_append, List.getElem_toArray, List.getElem_cons_succ, List.getElem_cons_zero, Act.put, List.setIfInBounds_toArray, List.set_cons_zero, List.set_cons_succ])
          refine wpAnyH_take (i := 11) (v := ?_) rfl (by kernel_rfl) (by kernel_rfl) (by kernel_rfl) (fun _ _ _ h => h) (Or.inl ⟨by kernel_rfl, ?_⟩) (by first | assumption | trivial) ?_
          rotate_left
          · (intro wS hSw; (try dsimp only at hSw); go_simp; try with_reducible rfl)
          (try simp only [List.append_eq, List.cons_append, List.nil_append, List.getElem_toArray, List.getElem_cons_succ, List.getElem_cons_zero, Act.put, List.setIfInBounds_toArray, List.set_cons_zero, List.set_cons_succ])
          refine wpAnyH_take (i := 12) (v := ?_) rfl (by kernel_rfl) (by kernel_rfl) (by kernel_rfl) (fun _ _ _ h => h) (Or.inl ⟨by kernel_rfl, ?_⟩) (by first | assumption | trivial) ?_
          rotate_left
          · (intro wS hSw; (try dsimp only at hSw); go_simp; try with_reducible rfl)
          (try simp only [List.append_eq, List.cons_append, List.nil_append, List.getElem_toArray, List.getElem_cons_succ, List.getElem_cons_zero, Act.put, List.setIfInBounds_toArray, List.set_cons_zero, List.set_cons_succ])
          refine wpAnyH_take (i := 13) (v := ?_) rfl (by kernel_rfl) (by kernel_rfl) (by kernel_rfl) (fun _ _ _ h => h) (Or.inl ⟨by kernel_rfl, ?_⟩) (by first | assumption | trivial) ?_
          rotate_left
          · (intro wS hSw; (try dsimp only at hSw); go_simp; try with_reducible rfl)
          (try simp only [List.append_eq, List.cons_append, List.nil_append, List.getElem_toArray, List.getElem_cons_succ, List.getElem_cons_zero, Act.put, List.setIfInBounds_toArray, List.set_cons_zero, List.set_cons_succ])
          have y0 : wx.drew.cell? ⟨g, m, none⟩ = some (.slice B nn d) := HY.out _ (bq H.out 1)
          have hbz := bq (H.out.alloc H.out.size (.cells #[.int .u8 (x.c.toNat : Int), .bool x.q, .bool x.r, .bool x.o, .bool x.s] 42)) 1
          have y1 : (wx.alloc (.cells #[.int .u8 (x.c.toNat : Int), .bool x.q, .bool x.r, .bool x.o, .bool x.s] 42)).drew.cell? ⟨g, m, none⟩ = some (.slice B nn d) := HY.out _ hbz
          have hS2 := HSX.out _ hbz
          refine wpAnyH_ready (rs := [9, 14]) (by kernel_rfl) (by simp) ?_
          refine AllReadyH.cons rfl (fun K hK => ?_) (AllReadyH.cons rfl (fun K hK => ?_) AllReadyH.nil)
          · go_simp
            go_wp2_with fail
            refine hK.out _ _ hS (fun hHeld => ?_)
            clear hK K
            (try simp only [List.append_eq, List.cons_append, List.nil_append, List.getElem_toArray, List.getElem_cons_succ, List.getElem_cons_zero, Act.put, List.setIfInBounds_toArray, List.set_cons_zero, List.set_cons_succ])
            refine wpAnyH_ready (rs := [14]) (by kernel_rfl) (by simp) ?_
            refine AllReadyH.cons rfl (fun K hK => ?_) AllReadyH.nil
            go_simp
            skip
            go_wp2_with fail
            refine hK.out _ _ (by first | assumption | trivial) (fun hHeld => ?_)
            clear hK K
            (try simp only [List.append_eq, List.cons_append, List.nil_append, List.getElem_toArray, List.getElem_cons_succ, List.getElem_cons_zero, Act.put, List.setIfInBounds_toArray, List.set_cons_zero, List.set_cons_succ])
            refine wpAnyH_ready (rs := [15]) (by kernel_rfl) (by simp) ?_
            refine AllReadyH.cons rfl (fun K hK => ?_) AllReadyH.nil
            rw [if_pos (by kernel_rfl)]
            (refine wp_append_row _ (.tmp 68) (.tmp 73) sgS rfl w.heap.size (.slice B nn d) nn (cur.flatMap sgC) rfl (own_below HVO.out hbz) (some ⟨wx.heap.size, 0, none⟩) 1 1 (sgC x) rfl rfl (Row.of_block (w := (wx.alloc (.cells #[.int .u8 (x.c.toNat : Int), .bool x.q, .bool x.r, .bool x.o, .bool x.s] 42)).drew) (cs := #[.int .u8 (x.c.toNat : Int), .bool x.q, .bool x.r, .bool x.o, .bool x.s]) (heap_alloc_new wx _)) (by simp [sgC, B8, Value.oneCell']) (by simp only [maxLen]; omega) (by omega) (Nat.le_trans HI.out.bel.size hbz.size) ?_; intro A2 c2 w2 ho2 hg2 hh2; have HP2 := HI.out.put hbz HKL.out x HX.out HCU.out HA1.out HNN.out.symm ho2 hg2 hh2; have v0 := HP2.1; have v1 := HP2.2.1; have HI2 := hid HP2.2.2; have hS5 := HCW.out w2 ((HI.out.bel.trans (hbz.mono HI.out.bel.size)).grown hg2 (Nat.le_trans HI.out.bel.size hbz.size) (fun g2 hg2 => own_base HVO.out g2 hg2)); have hS6 := HCW.out _ HI2.out.bel; clear ho2 hg2 hh2 HP2)
            refine hK.out _ _ (by first | assumption | trivial) (fun hHeld => ?_)
            clear hK K
            (try simp only [List.append_eq, List.cons_append, List.nil_append, List.getElem_toArray, List.getElem_cons_succ, List.getElem_cons_zero, Act.put, List.setIfInBounds_toArray, List.set_cons_zero, List.set_cons_succ])
            refine wpAnyH_take (i := 16) (v := ?_) rfl (by kernel_rfl) (by kernel_rfl) (by kernel_rfl) (fun _ _ _ h => h) (Or.inl ⟨by kernel_rfl, ?_⟩) (by first | assumption | trivial) ?_
            rotate_left
            · (intro wS hSw; (try dsimp only at hSw); go_simp; try with_reducible rfl)
            (try simp only [List.append_eq, List.cons_append, List.nil_append, List.getElem_toArray, List.getElem_cons_succ, List.getElem_cons_zero, Act.put, List.setIfInBounds_toArray, List.set_cons_zero, List.set_cons_succ])
            refine wpAnyH_ready (rs := [17]) (by kernel_rfl) (by simp) ?_
            refine AllReadyH.cons rfl (fun K hK => ?_) AllReadyH.nil
            go_simp
            skip
            go_wp2_with fail
            refine hK.out _ _ (by first | assumption | trivial) (fun hHeld => ?_)
            clear hK K
            (try simp only [List.append_eq, List.cons_append, List.nil_append, List.getElem_toArray, List.getElem_cons_succ, List.getElem_cons_zero, Act.put, List.setIfInBounds_toArray, List.set_cons_zero, List.set_cons_succ])
            refine wpAnyH_done (by kernel_rfl) ?_ _
            refine NoPanic.normal ?_
            go_wp2_with fail
            go_roundw
            case rel => exact ⟨k + 1, _, _, _, _, _, _, _, _, by omega, rfl, rfl, by go_num, HI2⟩
            case measure => simp [intOf]; omega
          · go_simp
            go_wp2_with fail
            refine hK.out _ _ hS2 (fun hHeld => ?_)
            clear hK K
            (try simp only [List.append_eq, List.cons_append, List.nil_append, List.getElem_toArray, List.getElem_cons_succ, List.getElem_cons_zero, Act.put, List.setIfInBounds_toArray, List.set_cons_zero, List.set_cons_succ])
            refine wpAnyH_ready (rs := [9]) (by kernel_rfl) (by simp) ?_
            refine AllReadyH.cons rfl (fun K hK => ?_) AllReadyH.nil
            go_simp
            skip
            go_wp2_with fail
            refine hK.out _ _ (by first | assumption | trivial) (fun hHeld => ?_)
            clear hK K
            (try simp only [List.append_eq, List.cons_append, List.nil_append, List.getElem_toArray, List.getElem_cons_succ, List.getElem_cons_zero, Act.put, List.setIfInBounds_toArray, List.set_cons_zero, List.set_cons_succ])
            refine wpAnyH_ready (rs := [15]) (by kernel_rfl) (by simp) ?_
            refine AllReadyH.cons rfl (fun K hK => ?_) AllReadyH.nil
            rw [if_pos (by kernel_rfl)]
            (refine wp_append_row _ (.tmp 68) (.tmp 73) sgS rfl w.heap.size (.slice B nn d) nn (cur.flatMap sgC) rfl (own_below HVO.out hbz) (some ⟨wx.heap.size, 0, none⟩) 1 1 (sgC x) rfl rfl (Row.of_block (w := (wx.alloc (.cells #[.int .u8 (x.c.toNat : Int), .bool x.q, .bool x.r, .bool x.o, .bool x.s] 42)).drew) (cs := #[.int .u8 (x.c.toNat : Int), .bool x.q, .bool x.r, .bool x.o, .bool x.s]) (heap_alloc_new wx _)) (by simp [sgC, B8, Value.oneCell']) (by simp only [maxLen]; omega) (by omega) (Nat.le_trans HI.out.bel.size hbz.size) ?_; intro A2 c2 w2 ho2 hg2 hh2; have HP2 := HI.out.put hbz HKL.out x HX.out HCU.out HA1.out HNN.out.symm ho2 hg2 hh2; have v0 := HP2.1; have v1 := HP2.2.1; have HI2 := hid HP2.2.2; have hS5 := HCW.out w2 ((HI.out.bel.trans (hbz.mono HI.out.bel.size)).grown hg2 (Nat.le_trans HI.out.bel.size hbz.size) (fun g2 hg2 => own_base HVO.out g2 hg2)); have hS6 := HCW.out _ HI2.out.bel; clear ho2 hg2 hh2 HP2)
            refine hK.out _ _ (by first | assumption | trivial) (fun hHeld => ?_)
            clear hK K
            (try simp only [List.append_eq, List.cons_append, List.nil_append, List.getElem_toArray, List.getElem_cons_succ, List.getElem_cons_zero, Act.put, List.setIfInBounds_toArray, List.set_cons_zero, List.set_cons_succ])
            refine wpAnyH_take (i := 16) (v := ?_) rfl (by kernel_rfl) (by kernel_rfl) (by kernel_rfl) (fun _ _ _ h => h) (Or.inl ⟨by kernel_rfl, ?_⟩) (by first | assumption | trivial) ?_
            rotate_left
            · (intro wS hSw; (try dsimp only at hSw); go_simp; try with_reducible rfl)
            (try simp only [List.append_eq, List.cons_append, List.nil_append, List.getElem_toArray, List.getElem_cons_succ, List.getElem_cons_zero, Act.put, List.setIfInBounds_toArray, List.set_cons_zero, List.set_cons_succ])
            refine wpAnyH_ready (rs := [17]) (by kernel_rfl) (by simp) ?_
            refine AllReadyH.cons rfl (fun K hK => ?_) AllReadyH.nil
            go_simp
            skip
            go_wp2_with fail
            refine hK.out _ _ (by first | assumption | trivial) (fun hHeld => ?_)
            clear hK K
            (try simp only [List.append_eq, List.cons_append, List.nil_append, List.getElem_toArray, List.getElem_cons_succ, List.getElem_cons_zero, Act.put, List.setIfInBounds_toArray, List.set_cons_zero, List.set_cons_succ])
            refine wpAnyH_done (by kernel_rfl) ?_ _
            refine NoPanic.normal ?_
            go_wp2_with fail
            go_roundw
            case rel => exact ⟨k + 1, _, _, _, _, _, _, _, _, by omega, rfl, rfl, by go_num, HI2⟩
            case measure => simp [intOf]; omega
        have q1 : ((x.c.toNat : Int) == 60) = false := ne_f h60
        by_cases h62 : x.c.toNat = 62
        · have q2 : ((x.c.toNat : Int) == 62) = true := by rw [h62]; rfl
          have q3 : ((x.c.toNat : Int) == 44) = false := by rw [h62]; rfl
          obtain rfl : false = a1 := by rw [← HA1.out, if_pos HP.out, if_neg h60, if_pos h62]
          have HCU : Hid (¬(!x.q && !x.r && x.c.toNat == 44 && !a) = true) := hid (by simp [h62])
          clear h60 h62
          go_upto_region 12 with (go_at_call 19; refine (HPL.out _).mono ?_; rintro e w5 ⟨rfl, b5⟩; have H := hid (H.out.trans (b5.mono H.out.size)); have z0 := (HC.out _ H.out).1; have z1 := (HC.out _ H.out).2.1; have z2 := (HC.out _ H.out).2.2.1; have z3 := (HC.out _ H.out).2.2.2.1; have z4 := (HC.out _ H.out).2.2.2.2; clear b5)
          obtain ⟨g, rfl⟩ := HI.out.ne
          obtain ⟨B, d, hV, hVo⟩ := HI.out.last
          obtain ⟨nn, hnn⟩ : ∃ nn, cur.length = nn := ⟨_, rfl⟩
          rw [hnn] at hV hVo hnl
          subst hV
          have HNN := hid hnn
          have HVO := hid hVo
          clear hnn hVo
          obtain ⟨wx, hwx⟩ : ∃ wx, wx = w5 := ⟨_, rfl⟩
          rw [← hwx] at H ⊢
          have HSX : Hid (∀ W, Below wr.heap.size wr W → (W.cell? ⟨b, off + k * 5, none⟩ = some (.int .u8 (x.c.toNat : Int)) ∧ W.cell? ⟨b, off + k * 5 + 1, none⟩ = some (.bool x.q) ∧ W.cell? ⟨b, off + k * 5 + 2, none⟩ = some (.bool x.r) ∧ W.cell? ⟨b, off + k * 5 + 3, none⟩ = some (.bool x.o) ∧ W.cell? ⟨b, off + k * 5 + 4, none⟩ = some (.bool x.s))) := hid (fun W h => HC.out W h)
          have hS : wx.drew.cell? ⟨b, off + k * 5, none⟩ = some (.int .u8 (x.c.toNat : Int)) ∧ wx.drew.cell? ⟨b, off + k * 5 + 1, none⟩ = some (.bool x.q) ∧ wx.drew.cell? ⟨b, off + k * 5 + 2, none⟩ = some (.bool x.r) ∧ wx.drew.cell? ⟨b, off + k * 5 + 3, none⟩ = some (.bool x.o) ∧ wx.drew.cell? ⟨b, off + k * 5 + 4, none⟩ = some (.bool x.s) := HC.out _ (bq H.out 1)
          clear hwx HC x0 x1 x2 x3 x4
          have m0 : (0 : Int) ≤ (m : Int) := by omega
          have m1 : (m : Int) < (m : Int) + 1 := by omega
          have m2 : (m : Int).toNat = m := by omega
          have mw : IntKind.i64.wrap (m : Int) = (m : Int) := by rw [IntKind.wrap_i64]; omega
          have HY : Hid (∀ W, Below wr.heap.size wr W → W.cell? ⟨g, m, none⟩ = some (.slice B nn d)) := hid (fun W h => (HI.out.lastc h))
          go_upto_region 12 with fail
          refine wp_region_noPanic ?_
          refine wp_region_held_drew (S := (fun W => W.cell? ⟨b, off + k * 5, none⟩ = some (.int .u8 (x.c.toNat : Int)) ∧ W.cell? ⟨b, off + k * 5 + 1, none⟩ = some (.bool x.q) ∧ W.cell? ⟨b, off + k * 5 + 2, none⟩ = some (.bool x.r) ∧ W.cell? ⟨b, off + k * 5 + 3, none⟩ = some (.bool x.o) ∧ W.cell? ⟨b, off + k * 5 + 4, none⟩ = some (.bool x.s))) (by kernel_rfl) (by first | assumption | trivial) (fun hHeld => ?_)
          refine wpAnyH_take (i := 0) (v := ?_) rfl (by kernel_rfl) (by kernel_rfl) (by kernel_rfl) (fun _ _ _ h => h) (Or.inl ⟨by kernel_rfl, ?_⟩) (by first | assumption | trivial) ?_
          rotate_left
          · (intro wS hSw; (try dsimp only at hSw); go_simp; try with_reducible rfl)
          (try simp only [List.append_eq, List.cons_append, List.nil_append, List.getElem_toArray, List.getElem_cons_succ, List.getElem_cons_zero, Act.put, List.setIfInBounds_toArray, List.set_cons_zero, List.set_cons_succ])
          refine wpAnyH_take (i := 1) (v := ?_) rfl (by kernel_rfl) (by kernel_rfl) (by kernel_rfl) (fun _ _ _ h => h) (Or.inl ⟨by kernel_rfl, ?_⟩) (by first | assumption | trivial) ?_
          rotate_left
          · (intro wS hSw; (try dsimp only at hSw); go_simp; try with_reducible rfl)
          (try simp only [List.append_eq, List.cons_append, List.nil_append, List.getElem_toArray, List.getElem_cons_succ, List.getElem_cons_zero, Act.put, List.setIfInBounds_toArray, List.set_cons_zero, List.set_cons_succ])
          refine wpAnyH_take (i := 2) (v := ?_) rfl (by kernel_rfl) (by kernel_rfl) (by kernel_rfl) (fun _ _ _ h => h) (Or.inl ⟨by kernel_rfl, ?_⟩) (by first | assumption | trivial) ?_
          rotate_left
          · (intro wS hSw; (try dsimp only at hSw); go_simp; try with_reducible rfl)
          (try simp only [List.append_eq, List.cons_append, List.nil_append, List.getElem_toArray, List.getElem_cons_succ, List.getElem_cons_zero, Act.put, List.setIfInBounds_toArray, List.set_cons_zero, List.set_cons_succ])
          refine wpAnyH_take (i := 3) (v := ?_) rfl (by kernel_rfl) (by kernel_rfl) (by kernel_rfl) (fun _ _ _ h => h) (Or.inl ⟨by kernel_rfl, ?_⟩) (by first | assumption | trivial) ?_
          rotate_left
          · (intro wS hSw; (try dsimp only at hSw); go_simp; try with_reducible rfl)
          (try simp only [List.append_eq, List.cons_append, List.nil_append, List.getElem_toArray, List.getElem_cons_succ, List.getElem_cons_zero, Act.put, List.setIfInBounds_toArray, List.set_cons_zero, List.set_cons_succ])
          refine wpAnyH_take (i := 4) (v := ?_) rfl (by kernel_rfl) (by kernel_rfl) (by kernel_rfl) (fun _ _ _ h => h) (Or.inl ⟨by kernel_rfl, ?_⟩) (by first | assumption | trivial) ?_
          rotate_left
          · (intro wS hSw; (try dsimp only at hSw); go_simp; try with_reducible rfl)
          (try simp only [List.append_eq, List.cons_append, List.nil_append, List.getElem_toArray, List.getElem_cons_succ, List.getElem_cons_zero, Act.put, List.setIfInBounds_toArray, List.set_cons_zero, List.set_cons_succ])
          refine wpAnyH_take (i := 5) (v := ?_) rfl (by kernel_rfl) (by kernel_rfl) (by kernel_rfl) (fun _ _ _ h => h) (Or.inl ⟨by kernel_rfl, ?_⟩) (by first | assumption | trivial) ?_
          rotate_left
          · (intro wS hSw; (try dsimp only at hSw); go_simp; try with_reducible rfl)
          (try simp only [List.append_eq, List.cons_append, List.nil_append, List.getElem_toArray, List.getElem_cons_succ, List.getElem_cons_zero, Act.put, List.setIfInBounds_toArray, List.set_cons_zero, List.set_cons_succ])
          refine wpAnyH_take (i := 6) (v := ?_) rfl (by kernel_rfl) (by kernel_rfl) (by kernel_rfl) (fun _ _ _ h => h) (Or.inl ⟨by kernel_rfl, ?_⟩) (by first | assumption | trivial) ?_
          rotate_left
          · (intro wS hSw; (try dsimp only at hSw); go_simp; try with_reducible rfl)
          (try simp only [List.append_eq, List.cons_append, List.nil_append, List.getElem_toArray, List.getElem_cons_succ, List.getElem_cons_zero, Act.put, List.setIfInBounds_toArray, List.set_cons_zero, List.set_cons_succ])
          refine wpAnyH_take (i := 7) (v := ?_) rfl (by kernel_rfl) (by kernel_rfl) (by kernel_rfl) (fun _ _ _ h => h) (Or.inl ⟨by kernel_rfl, ?_⟩) (by first | assumption | trivial) ?_
          rotate_left
          · (intro wS hSw; (try dsimp only at hSw); go_simp; try with_reducible rfl)
          (try simp only [List.append_eq, List.cons_append, List.nil_append, List.getElem_toArray, List.getElem_cons_succ, List.getElem_cons_zero, Act.put, List.setIfInBounds_toArray, List.set_cons_zero, List.set_cons_succ])
          refine wpAnyH_take (i := 8) (v := ?_) rfl (by kernel_rfl) (by kernel_rfl) (by kernel_rfl) (fun _ _ _ h => h) (Or.inl ⟨by kernel_rfl, ?_⟩) (by first | assumption | trivial) ?_
          rotate_left
          · (intro wS hSw; (try dsimp only at hSw); go_simp; try with_reducible rfl)
          (try simp only [List.append_eq, List.cons_append, List.nil_append, List.getElem_toArray, List.getElem_cons_succ, List.getElem_cons_zero, Act.put, List.setIfInBounds_toArray, List.set_cons_zero, List.set_cons_succ])
          refine wpAnyH_take (i := 10) (v := ?_) rfl (by kernel_rfl) (by kernel_rfl) (by kernel_rfl) (fun _ _ _ h => h) (Or.inl ⟨by kernel_rfl, ?_⟩) (by first | assumption | trivial) ?_
          rotate_left
          · (intro wS hSw; (try dsimp only at hSw); go_simp; try with_reducible rfl)
          (try simp only [List.append_eq, List.cons_append, List.nil_append, List.getElem_toArray, List.getElem_cons_succ, List.getElem_cons_zero, Act.put, List.setIfInBounds_toArray, List.set_cons_zero, List.set_cons_succ])
          refine wpAnyH_take (i := 11) (v := ?_) rfl (by kernel_rfl) (by kernel_rfl) (by kernel_rfl) (fun _ _ _ h => h) (Or.inl ⟨by kernel_rfl, ?_⟩) (by first | assumption | trivial) ?_
          rotate_left
          · (intro wS hSw; (try dsimp only at hSw); go_simp; try with_reducible rfl)
          (try simp only [List.append_eq, List.cons_append, List.nil_append, List.getElem_toArray, List.getElem_cons_succ, List.getElem_cons_zero, Act.put, List.setIfInBounds_toArray, List.set_cons_zero, List.set_cons_succ])
          refine wpAnyH_take (i := 12) (v := ?_) rfl (by kernel_rfl) (by kernel_rfl) (by kernel_rfl) (fun _ _ _ h => h) (Or.inl ⟨by kernel_rfl, ?_⟩) (by first | assumption | trivial) ?_
          rotate_left
          · (intro wS hSw; (try dsimp only at hSw); go_simp; try with_reducible rfl)
          (try simp only [List.append_eq, List.cons_append, List.nil_append, List.getElem_toArray, List.getElem_cons_succ, List.getElem_cons_zero, Act.put, List.setIfInBounds_toArray, List.set_cons_zero, List.set_cons_succ])
          refine wpAnyH_take (i := 13) (v := ?_) rfl (by kernel_rfl) (by kernel_rfl) (by kernel_rfl) (fun _ _ _ h => h) (Or.inl ⟨by kernel_rfl, ?_⟩) (by first | assumption | trivial) ?_
          rotate_left
          · (intro wS hSw; (try dsimp only at hSw); go_simp; try with_reducible rfl)
          (try simp only [List.append_eq, List.cons_append, List.nil_append, List.getElem_toArray, List.getElem_cons_succ, List.getElem_cons_zero, Act.put, List.setIfInBounds_toArray, List.set_cons_zero, List.set_cons_succ])
          have y0 : wx.drew.cell? ⟨g, m, none⟩ = some (.slice B nn d) := HY.out _ (bq H.out 1)
          have hbz := bq (H.out.alloc H.out.size (.cells #[.int .u8 (x.c.toNat : Int), .bool x.q, .bool x.r, .bool x.o, .bool x.s] 42)) 1
          have y1 : (wx.alloc (.cells #[.int .u8 (x.c.toNat : Int), .bool x.q, .bool x.r, .bool x.o, .bool x.s] 42)).drew.cell? ⟨g, m, none⟩ = some (.slice B nn d) := HY.out _ hbz
          have hS2 := HSX.out _ hbz
          refine wpAnyH_ready (rs := [9, 14]) (by kernel_rfl) (by simp) ?_
          refine AllReadyH.cons rfl (fun K hK => ?_) (AllReadyH.cons rfl (fun K hK => ?_) AllReadyH.nil)
          · go_simp
            go_wp2_with fail
            refine hK.out _ _ hS (fun hHeld => ?_)
            clear hK K
            (try simp only [List.append_eq, List.cons_append, List.nil_append, List.getElem_toArray, List.getElem_cons_succ, List.getElem_cons_zero, Act.put, List.setIfInBounds_toArray, List.set_cons_zero, List.set_cons_succ])
            refine wpAnyH_ready (rs := [14]) (by kernel_rfl) (by simp) ?_
            refine AllReadyH.cons rfl (fun K hK => ?_) AllReadyH.nil
            go_simp
            skip
            go_wp2_with fail
            refine hK.out _ _ (by first | assumption | trivial) (fun hHeld => ?_)
            clear hK K
            (try simp only [List.append_eq, List.cons_append, List.nil_append, List.getElem_toArray, List.getElem_cons_succ, List.getElem_cons_zero, Act.put, List.setIfInBounds_toArray, List.set_cons_zero, List.set_cons_succ])
            refine wpAnyH_ready (rs := [15]) (by kernel_rfl) (by simp) ?_
            refine AllReadyH.cons rfl (fun K hK => ?_) AllReadyH.nil
            rw [if_pos (by kernel_rfl)]
            (refine wp_append_row _ (.tmp 68) (.tmp 73) sgS rfl w.heap.size (.slice B nn d) nn (cur.flatMap sgC) rfl (own_below HVO.out hbz) (some ⟨wx.heap.size, 0, none⟩) 1 1 (sgC x) rfl rfl (Row.of_block (w := (wx.alloc (.cells #[.int .u8 (x.c.toNat : Int), .bool x.q, .bool x.r, .bool x.o, .bool x.s] 42)).drew) (cs := #[.int .u8 (x.c.toNat : Int), .bool x.q, .bool x.r, .bool x.o, .bool x.s]) (heap_alloc_new wx _)) (by simp [sgC, B8, Value.oneCell']) (by simp only [maxLen]; omega) (by omega) (Nat.le_trans HI.out.bel.size hbz.size) ?_; intro A2 c2 w2 ho2 hg2 hh2; have HP2 := HI.out.put hbz HKL.out x HX.out HCU.out HA1.out HNN.out.symm ho2 hg2 hh2; have v0 := HP2.1; have v1 := HP2.2.1; have HI2 := hid HP2.2.2; have hS5 := HCW.out w2 ((HI.out.bel.trans (hbz.mono HI.out.bel.size)).grown hg2 (Nat.le_trans HI.out.bel.size hbz.size) (fun g2 hg2 => own_base HVO.out g2 hg2)); have hS6 := HCW.out _ HI2.out.bel; clear ho2 hg2 hh2 HP2)
            refine hK.out _ _ (by first | assumption | trivial) (fun hHeld => ?_)
            clear hK K
            (try simp only [List.append_eq, List.cons_append, List.nil_append, List.getElem_toArray, List.getElem_cons_succ, List.getElem_cons_zero, Act.put, List.setIfInBounds_toArray, List.set_cons_zero, List.set_cons_succ])
            refine wpAnyH_take (i := 16) (v := ?_) rfl (by kernel_rfl) (by kernel_rfl) (by kernel_rfl) (fun _ _ _ h => h) (Or.inl ⟨by kernel_rfl, ?_⟩) (by first | assumption | trivial) ?_
            rotate_left
            · (intro wS hSw; (try dsimp only at hSw); go_simp; try with_reducible rfl)
            (try simp only [List.append_eq, List.cons_append, List.nil_append, List.getElem_toArray, List.getElem_cons_succ, List.getElem_cons_zero, Act.put, List.setIfInBounds_toArray, List.set_cons_zero, List.set_cons_succ])
            refine wpAnyH_ready (rs := [17]) (by kernel_rfl) (by simp) ?_
            refine AllReadyH.cons rfl (fun K hK => ?_) AllReadyH.nil
            go_simp
            skip
            go_wp2_with fail
            refine hK.out _ _ (by first | assumption | trivial) (fun hHeld => ?_)
            clear hK K
            (try simp only [List.append_eq, List.cons_append, List.nil_append, List.getElem_toArray, List.getElem_cons_succ, List.getElem_cons_zero, Act.put, List.setIfInBounds_toArray, List.set_cons_zero, List.set_cons_succ])
            refine wpAnyH_done (by kernel_rfl) ?_ _
            refine NoPanic.normal ?_
            go_wp2_with fail
            go_roundw
            case rel => exact ⟨k + 1, _, _, _, _, _, _, _, _, by omega, rfl, rfl, by go_num, HI2⟩
            case measure => simp [intOf]; omega
          · go_simp
            go_wp2_with fail
            refine hK.out _ _ hS2 (fun hHeld => ?_)
            clear hK K
            (try simp only [List.append_eq, List.cons_append, List.nil_append, List.getElem_toArray, List.getElem_cons_succ, List.getElem_cons_zero, Act.put, List.setIfInBounds_toArray, List.set_cons_zero, List.set_cons_succ])
            refine wpAnyH_ready (rs := [9]) (by kernel_rfl) (by simp) ?_
            refine AllReadyH.cons rfl (fun K hK => ?_) AllReadyH.nil
            go_simp
            skip
            go_wp2_with fail
            refine hK.out _ _ (by first | assumption | trivial) (fun hHeld => ?_)
            clear hK K
            (try simp only [List.append_eq, List.cons_append, List.nil_append, List.getElem_toArray, List.getElem_cons_succ, List.getElem_cons_zero, Act.put, List.setIfInBounds_toArray, List.set_cons_zero, List.set_cons_succ])
            refine wpAnyH_ready (rs := [15]) (by kernel_rfl) (by simp) ?_
            refine AllReadyH.cons rfl (fun K hK => ?_) AllReadyH.nil
            rw [if_pos (by kernel_rfl)]
            (refine wp_append_row _ (.tmp 68) (.tmp 73) sgS rfl w.heap.size (.slice B nn d) nn (cur.flatMap sgC) rfl (own_below HVO.out hbz) (some ⟨wx.heap.size, 0, none⟩) 1 1 (sgC x) rfl rfl (Row.of_block (w := (wx.alloc (.cells #[.int .u8 (x.c.toNat : Int), .bool x.q, .bool x.r, .bool x.o, .bool x.s] 42)).drew) (cs := #[.int .u8 (x.c.toNat : Int), .bool x.q, .bool x.r, .bool x.o, .bool x.s]) (heap_alloc_new wx _)) (by simp [sgC, B8, Value.oneCell']) (by simp only [maxLen]; omega) (by omega) (Nat.le_trans HI.out.bel.size hbz.size) ?_; intro A2 c2 w2 ho2 hg2 hh2; have HP2 := HI.out.put hbz HKL.out x HX.out HCU.out HA1.out HNN.out.symm ho2 hg2 hh2; have v0 := HP2.1; have v1 := HP2.2.1; have HI2 := hid HP2.2.2; have hS5 := HCW.out w2 ((HI.out.bel.trans (hbz.mono HI.out.bel.size)).grown hg2 (Nat.le_trans HI.out.bel.size hbz.size) (fun g2 hg2 => own_base HVO.out g2 hg2)); have hS6 := HCW.out _ HI2.out.bel; clear ho2 hg2 hh2 HP2)
            refine hK.out _ _ (by first | assumption | trivial) (fun hHeld => ?_)
            clear hK K
            (try simp only [List.append_eq, List.cons_append, List.nil_append, List.getElem_toArray, List.getElem_cons_succ, List.getElem_cons_zero, Act.put, List.setIfInBounds_toArray, List.set_cons_zero, List.set_cons_succ])
            refine wpAnyH_take (i := 16) (v := ?_) rfl (by kernel_rfl) (by kernel_rfl) (by kernel_rfl) (fun _ _ _ h => h) (Or.inl ⟨by kernel_rfl, ?_⟩) (by first | assumption | trivial) ?_
            rotate_left
            · (intro wS hSw; (try dsimp only at hSw); go_simp; try with_reducible rfl)
            (try simp only [List.append_eq, List.cons_append, List.nil_append, List.getElem_toArray, List.getElem_cons_succ, List.getElem_cons_zero, Act.put, List.setIfInBounds_toArray, List.set_cons_zero, List.set_cons_succ])
            refine wpAnyH_ready (rs := [17]) (by kernel_rfl) (by simp) ?_
            refine AllReadyH.cons rfl (fun K hK => ?_) AllReadyH.nil
            go_simp
            skip
            go_wp2_with fail
            refine hK.out _ _ (by first | assumption | trivial) (fun hHeld => ?_)
            clear hK K
            (try simp only [List.append_eq, List.cons_append, List.nil_append, List.getElem_toArray, List.getElem_cons_succ, List.getElem_cons_zero, Act.put, List.setIfInBounds_toArray, List.set_cons_zero, List.set_cons_succ])
            refine wpAnyH_done (by kernel_rfl) ?_ _
            refine NoPanic.normal ?_
            go_wp2_with fail
            go_roundw
            case rel => exact ⟨k + 1, _, _, _, _, _, _, _, _, by omega, rfl, rfl, by go_num, HI2⟩
            case measure => simp [intOf]; omega
        have q2 : ((x.c.toNat : Int) == 62) = false := ne_f h62
        obtain rfl : a = a1 := by rw [← HA1.out, if_pos HP.out, if_neg h60, if_neg h62]
        by_cases h44 : x.c.toNat = 44
        · have q3 : ((x.c.toNat : Int) == 44) = true := by rw [h44]; rfl
          cases a with
          | true =>
            have HCU : Hid (¬(!x.q && !x.r && x.c.toNat == 44 && !true) = true) := hid (by simp)
            clear h60 h62 h44
            go_upto_region 12 with (go_at_call 19; refine (HPL.out _).mono ?_; rintro e w5 ⟨rfl, b5⟩; have H := hid (H.out.trans (b5.mono H.out.size)); have z0 := (HC.out _ H.out).1; have z1 := (HC.out _ H.out).2.1; have z2 := (HC.out _ H.out).2.2.1; have z3 := (HC.out _ H.out).2.2.2.1; have z4 := (HC.out _ H.out).2.2.2.2; clear b5)
            obtain ⟨g, rfl⟩ := HI.out.ne
            obtain ⟨B, d, hV, hVo⟩ := HI.out.last
            obtain ⟨nn, hnn⟩ : ∃ nn, cur.length = nn := ⟨_, rfl⟩
            rw [hnn] at hV hVo hnl
            subst hV
            have HNN := hid hnn
            have HVO := hid hVo
            clear hnn hVo
            obtain ⟨wx, hwx⟩ : ∃ wx, wx = w5 := ⟨_, rfl⟩
            rw [← hwx] at H ⊢
            have HSX : Hid (∀ W, Below wr.heap.size wr W → (W.cell? ⟨b, off + k * 5, none⟩ = some (.int .u8 (x.c.toNat : Int)) ∧ W.cell? ⟨b, off + k * 5 + 1, none⟩ = some (.bool x.q) ∧ W.cell? ⟨b, off + k * 5 + 2, none⟩ = some (.bool x.r) ∧ W.cell? ⟨b, off + k * 5 + 3, none⟩ = some (.bool x.o) ∧ W.cell? ⟨b, off + k * 5 + 4, none⟩ = some (.bool x.s))) := hid (fun W h => HC.out W h)
            have hS : wx.drew.cell? ⟨b, off + k * 5, none⟩ = some (.int .u8 (x.c.toNat : Int)) ∧ wx.drew.cell? ⟨b, off + k * 5 + 1, none⟩ = some (.bool x.q) ∧ wx.drew.cell? ⟨b, off + k * 5 + 2, none⟩ = some (.bool x.r) ∧ wx.drew.cell? ⟨b, off + k * 5 + 3, none⟩ = some (.bool x.o) ∧ wx.drew.cell? ⟨b, off + k * 5 + 4, none⟩ = some (.bool x.s) := HC.out _ (bq H.out 1)
            clear hwx HC x0 x1 x2 x3 x4
            have m0 : (0 : Int) ≤ (m : Int) := by omega
            have m1 : (m : Int) < (m : Int) + 1 := by omega
            have m2 : (m : Int).toNat = m := by omega
            have mw : IntKind.i64.wrap (m : Int) = (m : Int) := by rw [IntKind.wrap_i64]; omega
            have HY : Hid (∀ W, Below wr.heap.size wr W → W.cell? ⟨g, m, none⟩ = some (.slice B nn d)) := hid (fun W h => (HI.out.lastc h))
            go_upto_region 12 with fail
            refine wp_region_noPanic ?_
            refine wp_region_held_drew (S := (fun W => W.cell? ⟨b, off + k * 5, none⟩ = some (.int .u8 (x.c.toNat : Int)) ∧ W.cell? ⟨b, off + k * 5 + 1, none⟩ = some (.bool x.q) ∧ W.cell? ⟨b, off + k * 5 + 2, none⟩ = some (.bool x.r) ∧ W.cell? ⟨b, off + k * 5 + 3, none⟩ = some (.bool x.o) ∧ W.cell? ⟨b, off + k * 5 + 4, none⟩ = some (.bool x.s))) (by kernel_rfl) (by first | assumption | trivial) (fun hHeld => ?_)
            refine wpAnyH_take (i := 0) (v := ?_) rfl (by kernel_rfl) (by kernel_rfl) (by kernel_rfl) (fun _ _ _ h => h) (Or.inl ⟨by kernel_rfl, ?_⟩) (by first | assumption | trivial) ?_
            rotate_left
            · (intro wS hSw; (try dsimp only at hSw); go_simp; try with_reducible rfl)
            (try simp only [List.append_eq, List.cons_append, List.nil_append, List.getElem_toArray, List.getElem_cons_succ, List.getElem_cons_zero, Act.put, List.setIfInBounds_toArray, List.set_cons_zero, List.set_cons_succ])
            refine wpAnyH_take (i := 1) (v := ?_) rfl (by kernel_rfl) (by kernel_rfl) (by kernel_rfl) (fun _ _ _ h => h) (Or.inl ⟨by kernel_rfl, ?_⟩) (by first | assumption | trivial) ?_
            rotate_left
            · (intro wS hSw; (try dsimp only at hSw); go_simp; try with_reducible rfl)
            (try simp only [List.append_eq, List.cons_append, List.nil_append, List.getElem_toArray, List.getElem_cons_succ, List.getElem_cons_zero, Act.put, List.setIfInBounds_toArray, List.set_cons_zero, List.set_cons_succ])
            refine wpAnyH_take (i := 2) (v := ?_) rfl (by kernel_rfl) (by kernel_rfl) (by kernel_rfl) (fun _ _ _ h => h) (Or.inl ⟨by kernel_rfl, ?_⟩) (by first | assumption | trivial) ?_
            rotate_left
            · (intro wS hSw; (try dsimp only at hSw); go_simp; try with_reducible rfl)
            (try simp only [List.append_eq, List.cons_append, List.nil_append, List.getElem_toArray, List.getElem_cons_succ, List.getElem_cons_zero, Act.put, List.setIfInBounds_toArray, List.set_cons_zero, List.set_cons_succ])
            refine wpAnyH_take (i := 3) (v := ?_) rfl (by kernel_rfl) (by kernel_rfl) (by kernel_rfl) (fun _ _ _ h => h) (Or.inl ⟨by kernel_rfl, ?_⟩) (by first | assumption | trivial) ?_
            rotate_left
            · (intro wS hSw; (try dsimp only at hSw); go_simp; try with_reducible rfl)
            (try simp only [List.append_eq, List.cons_append, List.nil_append, List.getElem_toArray, List.getElem_cons_succ, List.getElem_cons_zero, Act.put, List.setIfInBounds_toArray, List.set_cons_zero, List.set_cons_succ])
            refine wpAnyH_take (i := 4) (v := ?_) rfl (by kernel_rfl) (by kernel_rfl) (by kernel_rfl) (fun _ _ _ h => h) (Or.inl ⟨by kernel_rfl, ?_⟩) (by first | assumption | trivial) ?_
            rotate_left
            · (intro wS hSw; (try dsimp only at hSw); go_simp; try with_reducible rfl)
            (try simp only [List.append_eq, List.cons_append, List.nil_append, List.getElem_toArray, List.getElem_cons_succ, List.getElem_cons_zero, Act.put, List.setIfInBounds_toArray, List.set_cons_zero, List.set_cons_succ])
            refine wpAnyH_take (i := 5) (v := ?_) rfl (by kernel_rfl) (by kernel_rfl) (by kernel_rfl) (fun _ _ _ h => h) (Or.inl ⟨by kernel_rfl, ?_⟩) (by first | assumption | trivial) ?_
            rotate_left
            · (intro wS hSw; (try dsimp only at hSw); go_simp; try with_reducible rfl)
            (try simp only [List.append_eq, List.cons_append, List.nil_append, List.getElem_toArray, List.getElem_cons_succ, List.getElem_cons_zero, Act.put, List.setIfInBounds_toArray, List.set_cons_zero, List.set_cons_succ])
            refine wpAnyH_take (i := 6) (v := ?_) rfl (by kernel_rfl) (by kernel_rfl) (by kernel_rfl) (fun _ _ _ h => h) (Or.inl ⟨by kernel_rfl, ?_⟩) (by first | assumption | trivial) ?_
            rotate_left
            · (intro wS hSw; (try dsimp only at hSw); go_simp; try with_reducible rfl)
            (try simp only [List.append_eq, List.cons_append, List.nil_append, List.getElem_toArray, List.getElem_cons_succ, List.getElem_cons_zero, Act.put, List.setIfInBounds_toArray, List.set_cons_zero, List.set_cons_succ])
            refine wpAnyH_take (i := 7) (v := ?_) rfl (by kernel_rfl) (by kernel_rfl) (by kernel_rfl) (fun _ _ _ h => h) (Or.inl ⟨by kernel_rfl, ?_⟩) (by first | assumption | trivial) ?_
            rotate_left
            · (intro wS hSw; (try dsimp only at hSw); go_simp; try with_reducible rfl)
            (try simp only [List.append_eq, List.cons_append, List.nil_append, List.getElem_toArray, List.getElem_cons_succ, List.getElem_cons_zero, Act.put, List.setIfInBounds_toArray, List.set_cons_zero, List.set_cons_succ])
            refine wpAnyH_take (i := 8) (v := ?_) rfl (by kernel_rfl) (by kernel_rfl) (by kernel_rfl) (fun _ _ _ h => h) (Or.inl ⟨by kernel_rfl, ?_⟩) (by first | assumption | trivial) ?_
            rotate_left
            · (intro wS hSw; (try dsimp only at hSw); go_simp; try with_reducible rfl)
            (try simp only [List.append_eq, List.cons_append, List.nil_append, List.getElem_toArray, List.getElem_cons_succ, List.getElem_cons_zero, Act.put, List.setIfInBounds_toArray, List.set_cons_zero, List.set_cons_succ])
            refine wpAnyH_take (i := 10) (v := ?_) rfl (by kernel_rfl) (by kernel_rfl) (by kernel_rfl) (fun _ _ _ h => h) (Or.inl ⟨by kernel_rfl, ?_⟩) (by first | assumption | trivial) ?_
            rotate_left
            · (intro wS hSw; (try dsimp only at hSw); go_simp; try with_reducible rfl)
            (try simp only [List.append_eq, List.cons_append, List.nil_append, List.getElem_toArray, List.getElem_cons_succ, List.getElem_cons_zero, Act.put, List.setIfInBounds_toArray, List.set_cons_zero, List.set_cons_succ])
            refine wpAnyH_take (i := 11) (v := ?_) rfl (by kernel_rfl) (by kernel_rfl) (by kernel_rfl) (fun _ _ _ h => h) (Or.inl ⟨by kernel_rfl, ?_⟩) (by first | assumption | trivial) ?_
            rotate_left
            · (intro wS hSw; (try dsimp only at hSw); go_simp; try with_reducible rfl)
            (try simp only [List.append_eq, List.cons_append, List.nil_append, List.getElem_toArray, List.getElem_cons_succ, List.getElem_cons_zero, Act.put, List.setIfInBounds_toArray, List.set_cons_zero, List.set_cons_succ])
            refine wpAnyH_take (i := 12) (v := ?_) rfl (by kernel_rfl) (by kernel_rfl) (by kernel_rfl) (fun _ _ _ h => h) (Or.inl ⟨by kernel_rfl, ?_⟩) (by first | assumption | trivial) ?_
            rotate_left
            · (intro wS hSw; (try dsimp only at hSw); go_simp; try with_reducible rfl)
            (try simp only [List.append_eq, List.cons_append, List.nil_append, List.getElem_toArray, List.getElem_cons_succ, List.getElem_cons_zero, Act.put, List.setIfInBounds_toArray, List.set_cons_zero, List.set_cons_succ])
            refine wpAnyH_take (i := 13) (v := ?_) rfl (by kernel_rfl) (by kernel_rfl) (by kernel_rfl) (fun _ _ _ h => h) (Or.inl ⟨by kernel_rfl, ?_⟩) (by first | assumption | trivial) ?_
            rotate_left
            · (intro wS hSw; (try dsimp only at hSw); go_simp; try with_reducible rfl)
            (try simp only [List.append_eq, List.cons_append, List.nil_append, List.getElem_toArray, List.getElem_cons_succ, List.getElem_cons_zero, Act.put, List.setIfInBounds_toArray, List.set_cons_zero, List.set_cons_succ])
            have y0 : wx.drew.cell? ⟨g, m, none⟩ = some (.slice B nn d) := HY.out _ (bq H.out 1)
            have hbz := bq (H.out.alloc H.out.size (.cells #[.int .u8 (x.c.toNat : Int), .bool x.q, .bool x.r, .bool x.o, .bool x.s] 42)) 1
            have y1 : (wx.alloc (.cells #[.int .u8 (x.c.toNat : Int), .bool x.q, .bool x.r, .bool x.o, .bool x.s] 42)).drew.cell? ⟨g, m, none⟩ = some (.slice B nn d) := HY.out _ hbz
            have hS2 := HSX.out _ hbz
            refine wpAnyH_ready (rs := [9, 14]) (by kernel_rfl) (by simp) ?_
            refine AllReadyH.cons rfl (fun K hK => ?_) (AllReadyH.cons rfl (fun K hK => ?_) AllReadyH.nil)
            · go_simp
              go_wp2_with fail
              refine hK.out _ _ hS (fun hHeld => ?_)
              clear hK K
              (try simp only [List.append_eq, List.cons_append, List.nil_append, List.getElem_toArray, List.getElem_cons_succ, List.getElem_cons_zero, Act.put, List.setIfInBounds_toArray, List.set_cons_zero, List.set_cons_succ])
              refine wpAnyH_ready (rs := [14]) (by kernel_rfl) (by simp) ?_
              refine AllReadyH.cons rfl (fun K hK => ?_) AllReadyH.nil
              go_simp
              skip
              go_wp2_with fail
              refine hK.out _ _ (by first | assumption | trivial) (fun hHeld => ?_)
              clear hK K
              (try simp only [List.append_eq, List.cons_append, List.nil_append, List.getElem_toArray, List.getElem_cons_succ, List.getElem_cons_zero, Act.put, List.setIfInBounds_toArray, List.set_cons_zero, List.set_cons_succ])
              refine wpAnyH_ready (rs := [15]) (by kernel_rfl) (by simp) ?_
              refine AllReadyH.cons rfl (fun K hK => ?_) AllReadyH.nil
              rw [if_pos (by kernel_rfl)]
              (refine wp_append_row _ (.tmp 68) (.tmp 73) sgS rfl w.heap.size (.slice B nn d) nn (cur.flatMap sgC) rfl (own_below HVO.out hbz) (some ⟨wx.heap.size, 0, none⟩) 1 1 (sgC x) rfl rfl (Row.of_block (w := (wx.alloc (.cells #[.int .u8 (x.c.toNat : Int), .bool x.q, .bool x.r, .bool x.o, .bool x.s] 42)).drew) (cs := #[.int .u8 (x.c.toNat : Int), .bool x.q, .bool x.r, .bool x.o, .bool x.s]) (heap_alloc_new wx _)) (by simp [sgC, B8, Value.oneCell']) (by simp only [maxLen]; omega) (by omega) (Nat.le_trans HI.out.bel.size hbz.size) ?_; intro A2 c2 w2 ho2 hg2 hh2; have HP2 := HI.out.put hbz HKL.out x HX.out HCU.out HA1.out HNN.out.symm ho2 hg2 hh2; have v0 := HP2.1; have v1 := HP2.2.1; have HI2 := hid HP2.2.2; have hS5 := HCW.out w2 ((HI.out.bel.trans (hbz.mono HI.out.bel.size)).grown hg2 (Nat.le_trans HI.out.bel.size hbz.size) (fun g2 hg2 => own_base HVO.out g2 hg2)); have hS6 := HCW.out _ HI2.out.bel; clear ho2 hg2 hh2 HP2)
              refine hK.out _ _ (by first | assumption | trivial) (fun hHeld => ?_)
              clear hK K
              (try simp only [List.append_eq, List.cons_append, List.nil_append, List.getElem_toArray, List.getElem_cons_succ, List.getElem_cons_zero, Act.put, List.setIfInBounds_toArray, List.set_cons_zero, List.set_cons_succ])
              refine wpAnyH_take (i := 16) (v := ?_) rfl (by kernel_rfl) (by kernel_rfl) (by kernel_rfl) (fun _ _ _ h => h) (Or.inl ⟨by kernel_rfl, ?_⟩) (by first | assumption | trivial) ?_
              rotate_left
              · (intro wS hSw; (try dsimp only at hSw); go_simp; try with_reducible rfl)
              (try simp only [List.append_eq, List.cons_append, List.nil_append, List.getElem_toArray, List.getElem_cons_succ, List.getElem_cons_zero, Act.put, List.setIfInBounds_toArray, List.set_cons_zero, List.set_cons_succ])
              refine wpAnyH_ready (rs := [17]) (by kernel_rfl) (by simp) ?_
              refine AllReadyH.cons rfl (fun K hK => ?_) AllReadyH.nil
              go_simp
              skip
              go_wp2_with fail
              refine hK.out _ _ (by first | assumption | trivial) (fun hHeld => ?_)
              clear hK K
              (try simp only [List.append_eq, List.cons_append, List.nil_append, List.getElem_toArray, List.getElem_cons_succ, List.getElem_cons_zero, Act.put, List.setIfInBounds_toArray, List.set_cons_zero, List.set_cons_succ])
              refine wpAnyH_done (by kernel_rfl) ?_ _
              refine NoPanic.normal ?_
              go_wp2_with fail
              go_roundw
              case rel => exact ⟨k + 1, _, _, _, _, _, _, _, _, by omega, rfl, rfl, by go_num, HI2⟩
              case measure => simp [intOf]; omega
            · go_simp
              go_wp2_with fail
              refine hK.out _ _ hS2 (fun hHeld => ?_)
              clear hK K
              (try simp only [List.append_eq, List.cons_append, List.nil_append, List.getElem_toArray, List.getElem_cons_succ, List.getElem_cons_zero, Act.put, List.setIfInBounds_toArray, List.set_cons_zero, List.set_cons_succ])
              refine wpAnyH_ready (rs := [9]) (by kernel_rfl) (by simp) ?_
              refine AllReadyH.cons rfl (fun K hK => ?_) AllReadyH.nil
              go_simp
              skip
              go_wp2_with fail
              refine hK.out _ _ (by first | assumption | trivial) (fun hHeld => ?_)
              clear hK K
              (try simp only [List.append_eq, List.cons_append, List.nil_append, List.getElem_toArray, List.getElem_cons_succ, List.getElem_cons_zero, Act.put, List.setIfInBounds_toArray, List.set_cons_zero, List.set_cons_succ])
              refine wpAnyH_ready (rs := [15]) (by kernel_rfl) (by simp) ?_
              refine AllReadyH.cons rfl (fun K hK => ?_) AllReadyH.nil
              rw [if_pos (by kernel_rfl)]
              (refine wp_append_row _ (.tmp 68) (.tmp 73) sgS rfl w.heap.size (.slice B nn d) nn (cur.flatMap sgC) rfl (own_below HVO.out hbz) (some ⟨wx.heap.size, 0, none⟩) 1 1 (sgC x) rfl rfl (Row.of_block (w := (wx.alloc (.cells #[.int .u8 (x.c.toNat : Int), .bool x.q, .bool x.r, .bool x.o, .bool x.s] 42)).drew) (cs := #[.int .u8 (x.c.toNat : Int), .bool x.q, .bool x.r, .bool x.o, .bool x.s]) (heap_alloc_new wx _)) (by simp [sgC, B8, Value.oneCell']) (by simp only [maxLen]; omega) (by omega) (Nat.le_trans HI.out.bel.size hbz.size) ?_; intro A2 c2 w2 ho2 hg2 hh2; have HP2 := HI.out.put hbz HKL.out x HX.out HCU.out HA1.out HNN.out.symm ho2 hg2 hh2; have v0 := HP2.1; have v1 := HP2.2.1; have HI2 := hid HP2.2.2; have hS5 := HCW.out w2 ((HI.out.bel.trans (hbz.mono HI.out.bel.size)).grown hg2 (Nat.le_trans HI.out.bel.size hbz.size) (fun g2 hg2 => own_base HVO.out g2 hg2)); have hS6 := HCW.out _ HI2.out.bel; clear ho2 hg2 hh2 HP2)
              refine hK.out _ _ (by first | assumption | trivial) (fun hHeld => ?_)
              clear hK K
              (try simp only [List.append_eq, List.cons_append, List.nil_append, List.getElem_toArray, List.getElem_cons_succ, List.getElem_cons_zero, Act.put, List.setIfInBounds_toArray, List.set_cons_zero, List.set_cons_succ])
              refine wpAnyH_take (i := 16) (v := ?_) rfl (by kernel_rfl) (by kernel_rfl) (by kernel_rfl) (fun _ _ _ h => h) (Or.inl ⟨by kernel_rfl, ?_⟩) (by first | assumption | trivial) ?_
              rotate_left
              · (intro wS hSw; (try dsimp only at hSw); go_simp; try with_reducible rfl)
              (try simp only [List.append_eq, List.cons_append, List.nil_append, List.getElem_toArray, List.getElem_cons_succ, List.getElem_cons_zero, Act.put, List.setIfInBounds_toArray, List.set_cons_zero, List.set_cons_succ])
              refine wpAnyH_ready (rs := [17]) (by kernel_rfl) (by simp) ?_
              refine AllReadyH.cons rfl (fun K hK => ?_) AllReadyH.nil
              go_simp
              skip
              go_wp2_with fail
              refine hK.out _ _ (by first | assumption | trivial) (fun hHeld => ?_)
              clear hK K
              (try simp only [List.append_eq, List.cons_append, List.nil_append, List.getElem_toArray, List.getElem_cons_succ, List.getElem_cons_zero, Act.put, List.setIfInBounds_toArray, List.set_cons_zero, List.set_cons_succ])
              refine wpAnyH_done (by kernel_rfl) ?_ _
              refine NoPanic.normal ?_
              go_wp2_with fail
              go_roundw
              case rel => exact ⟨k + 1, _, _, _, _, _, _, _, _, by omega, rfl, rfl, by go_num, HI2⟩
              case measure => simp [intOf]; omega
          | false =>
            have HCU : Hid ((!x.q && !x.r && x.c.toNat == 44 && !false) = true) := hid (by rw [HP.out, h44]; rfl)
            clear h60 h62 h44
            go_wp2_with (first
              | (go_at_call 19; refine (HPL.out _).mono ?_; rintro e w5 ⟨rfl, b5⟩; have H := hid (H.out.trans (b5.mono H.out.size)); have z0 := (HC.out _ H.out).1; have z1 := (HC.out _ H.out).2.1; have z2 := (HC.out _ H.out).2.2.1; have z3 := (HC.out _ H.out).2.2.2.1; have z4 := (HC.out _ H.out).2.2.2.2; clear b5)
              | (refine wpList_append_row _ rfl (.tmp 56) (.tmp 57) sgsS rfl w.heap.size (.slice A (m + 1) c) (m + 1) (vs ++ [V]) rfl (own_below HI.out.own (H.out.alloc H.out.size (.cells #[.slice none 0 0] 31))) (some ⟨w5.heap.size, 0, none⟩) 1 1 [.slice none 0 0] rfl rfl (Row.of_block (heap_alloc_new w5 (Obj.cells #[.slice none 0 0] 31))) (by simp [Value.oneCell']) (by simp only [maxLen]; omega) (by omega) (by have := HI.out.bel.size; have := H.out.size; simp; omega) ?_
                 intro A2 c2 w6 ho2 hg2 hh2
                 have HI2 := hid (HI.out.cut (H.out.alloc H.out.size (.cells #[.slice none 0 0] 31)) HKL.out x HX.out HCU.out ho2 hg2)
                 clear ho2 hg2 hh2))
            go_roundw
            case rel => exact ⟨k + 1, _, _, _, _, _, _, _, _, by omega, rfl, rfl, by go_num, HI2⟩
            case measure => simp [intOf]; omega
        · have q3 : ((x.c.toNat : Int) == 44) = false := ne_f h44
          have HCU : Hid (¬(!x.q && !x.r && x.c.toNat == 44 && !a) = true) := hid (by simp [h44])
          clear h60 h62 h44
          go_upto_region 12 with (go_at_call 19; refine (HPL.out _).mono ?_; rintro e w5 ⟨rfl, b5⟩; have H := hid (H.out.trans (b5.mono H.out.size)); have z0 := (HC.out _ H.out).1; have z1 := (HC.out _ H.out).2.1; have z2 := (HC.out _ H.out).2.2.1; have z3 := (HC.out _ H.out).2.2.2.1; have z4 := (HC.out _ H.out).2.2.2.2; clear b5)
          obtain ⟨g, rfl⟩ := HI.out.ne
          obtain ⟨B, d, hV, hVo⟩ := HI.out.last
          obtain ⟨nn, hnn⟩ : ∃ nn, cur.length = nn := ⟨_, rfl⟩
          rw [hnn] at hV hVo hnl
          subst hV
          have HNN := hid hnn
          have HVO := hid hVo
          clear hnn hVo
          obtain ⟨wx, hwx⟩ : ∃ wx, wx = w5 := ⟨_, rfl⟩
          rw [← hwx] at H ⊢
          have HSX : Hid (∀ W, Below wr.heap.size wr W → (W.cell? ⟨b, off + k * 5, none⟩ = some (.int .u8 (x.c.toNat : Int)) ∧ W.cell? ⟨b, off + k * 5 + 1, none⟩ = some (.bool x.q) ∧ W.cell? ⟨b, off + k * 5 + 2, none⟩ = some (.bool x.r) ∧ W.cell? ⟨b, off + k * 5 + 3, none⟩ = some (.bool x.o) ∧ W.cell? ⟨b, off + k * 5 + 4, none⟩ = some (.bool x.s))) := hid (fun W h => HC.out W h)
          have hS : wx.drew.cell? ⟨b, off + k * 5, none⟩ = some (.int .u8 (x.c.toNat : Int)) ∧ wx.drew.cell? ⟨b, off + k * 5 + 1, none⟩ = some (.bool x.q) ∧ wx.drew.cell? ⟨b, off + k * 5 + 2, none⟩ = some (.bool x.r) ∧ wx.drew.cell? ⟨b, off + k * 5 + 3, none⟩ = some (.bool x.o) ∧ wx.drew.cell? ⟨b, off + k * 5 + 4, none⟩ = some (.bool x.s) := HC.out _ (bq H.out 1)
          clear hwx HC x0 x1 x2 x3 x4
          have m0 : (0 : Int) ≤ (m : Int) := by omega
          have m1 : (m : Int) < (m : Int) + 1 := by omega
          have m2 : (m : Int).toNat = m := by omega
          have mw : IntKind.i64.wrap (m : Int) = (m : Int) := by rw [IntKind.wrap_i64]; omega
          have HY : Hid (∀ W, Below wr.heap.size wr W → W.cell? ⟨g, m, none⟩ = some (.slice B nn d)) := hid (fun W h => (HI.out.lastc h))
          go_upto_region 12 with fail
          refine wp_region_noPanic ?_
          refine wp_region_held_drew (S := (fun W => W.cell? ⟨b, off + k * 5, none⟩ = some (.int .u8 (x.c.toNat : Int)) ∧ W.cell? ⟨b, off + k * 5 + 1, none⟩ = some (.bool x.q) ∧ W.cell? ⟨b, off + k * 5 + 2, none⟩ = some (.bool x.r) ∧ W.cell? ⟨b, off + k * 5 + 3, none⟩ = some (.bool x.o) ∧ W.cell? ⟨b, off + k * 5 + 4, none⟩ = some (.bool x.s))) (by kernel_rfl) (by first | assumption | trivial) (fun hHeld => ?_)
          refine wpAnyH_take (i := 0) (v := ?_) rfl (by kernel_rfl) (by kernel_rfl) (by kernel_rfl) (fun _ _ _ h => h) (Or.inl ⟨by kernel_rfl, ?_⟩) (by first | assumption | trivial) ?_
          rotate_left
          · (intro wS hSw; (try dsimp only at hSw); go_simp; try with_reducible rfl)
          (try simp only [List.append_eq, List.cons_append, List.nil_append, List.getElem_toArray, List.getElem_cons_succ, List.getElem_cons_zero, Act.put, List.setIfInBounds_toArray, List.set_cons_zero, List.set_cons_succ])
          refine wpAnyH_take (i := 1) (v := ?_) rfl (by kernel_rfl) (by kernel_rfl) (by kernel_rfl) (fun _ _ _ h => h) (Or.inl ⟨by kernel_rfl, ?_⟩) (by first | assumption | trivial) ?_
          rotate_left
          · (intro wS hSw; (try dsimp only at hSw); go_simp; try with_reducible rfl)
          (try simp only [List.append_eq, List.cons_append, List.nil_append, List.getElem_toArray, List.getElem_cons_succ, List.getElem_cons_zero, Act.put, List.setIfInBounds_toArray, List.set_cons_zero, List.set_cons_succ])
          refine wpAnyH_take (i := 2) (v := ?_) rfl (by kernel_rfl) (by kernel_rfl) (by kernel_rfl) (fun _ _ _ h => h) (Or.inl ⟨by kernel_rfl, ?_⟩) (by first | assumption | trivial) ?_
          rotate_left
          · (intro wS hSw; (try dsimp only at hSw); go_simp; try with_reducible rfl)
          (try simp only [List.append_eq, List.cons_append, List.nil_append, List.getElem_toArray, List.getElem_cons_succ, List.getElem_cons_zero, Act.put, List.setIfInBounds_toArray, List.set_cons_zero, List.set_cons_succ])
          refine wpAnyH_take (i := 3) (v := ?_) rfl (by kernel_rfl) (by kernel_rfl) (by kernel_rfl) (fun _ _ _ h => h) (Or.inl ⟨by kernel_rfl, ?_⟩) (by first | assumption | trivial) ?_
          rotate_left
          · (intro wS hSw; (try dsimp only at hSw); go_simp; try with_reducible rfl)
          (try simp only [List.append_eq, List.cons_append, List.nil_append, List.getElem_toArray, List.getElem_cons_succ, List.getElem_cons_zero, Act.put, List.setIfInBounds_toArray, List.set_cons_zero, List.set_cons_succ])
          refine wpAnyH_take (i := 4) (v := ?_) rfl (by kernel_rfl) (by kernel_rfl) (by kernel_rfl) (fun _ _ _ h => h) (Or.inl ⟨by kernel_rfl, ?_⟩) (by first | assumption | trivial) ?_
          rotate_left
          · (intro wS hSw; (try dsimp only at hSw); go_simp; try with_reducible rfl)
          (try simp only [List.append_eq, List.cons_append, List.nil_append, List.getElem_toArray, List.getElem_cons_succ, List.getElem_cons_zero, Act.put, List.setIfInBounds_toArray, List.set_cons_zero, List.set_cons_succ])
          refine wpAnyH_take (i := 5) (v := ?_) rfl (by kernel_rfl) (by kernel_rfl) (by kernel_rfl) (fun _ _ _ h => h) (Or.inl ⟨by kernel_rfl, ?_⟩) (by first | assumption | trivial) ?_
          rotate_left
          · (intro wS hSw; (try dsimp only at hSw); go_simp; try with_reducible rfl)
          (try simp only [List.append_eq, List.cons_append, List.nil_append, List.getElem_toArray, List.getElem_cons_succ, List.getElem_cons_zero, Act.put, List.setIfInBounds_toArray, List.set_cons_zero, List.set_cons_succ])
          refine wpAnyH_take (i := 6) (v := ?_) rfl (by kernel_rfl) (by kernel_rfl) (by kernel_rfl) (fun _ _ _ h => h) (Or.inl ⟨by kernel_rfl, ?_⟩) (by first | assumption | trivial) ?_
          rotate_left
          · (intro wS hSw; (try dsimp only at hSw); go_simp; try with_reducible rfl)
          (try simp only [List.append_eq, List.cons_append, List.nil_append, List.getElem_toArray, List.getElem_cons_succ, List.getElem_cons_zero, Act.put, List.setIfInBounds_toArray, List.set_cons_zero, List.set_cons_succ])
          refine wpAnyH_take (i := 7) (v := ?_) rfl (by kernel_rfl) (by kernel_rfl) (by kernel_rfl) (fun _ _ _ h => h) (Or.inl ⟨by kernel_rfl, ?_⟩) (by first | assumption | trivial) ?_
          rotate_left
          · (intro wS hSw; (try dsimp only at hSw); go_simp; try with_reducible rfl)
          (try simp only [List.append_eq, List.cons_append, List.nil_append, List.getElem_toArray, List.getElem_cons_succ, List.getElem_cons_zero, Act.put, List.setIfInBounds_toArray, List.set_cons_zero, List.set_cons_succ])
          refine wpAnyH_take (i := 8) (v := ?_) rfl (by kernel_rfl) (by kernel_rfl) (by kernel_rfl) (fun _ _ _ h => h) (Or.inl ⟨by kernel_rfl, ?_⟩) (by first | assumption | trivial) ?_
          rotate_left
          · (intro wS hSw; (try dsimp only at hSw); go_simp; try with_reducible rfl)
          (try simp only [List.append_eq, List.cons_append, List.nil_append, List.getElem_toArray, List.getElem_cons_succ, List.getElem_cons_zero, Act.put, List.setIfInBounds_toArray, List.set_cons_zero, List.set_cons_succ])
          refine wpAnyH_take (i := 10) (v := ?_) rfl (by kernel_rfl) (by kernel_rfl) (by kernel_rfl) (fun _ _ _ h => h) (Or.inl ⟨by kernel_rfl, ?_⟩) (by first | assumption | trivial) ?_
          rotate_left
          · (intro wS hSw; (try dsimp only at hSw); go_simp; try with_reducible rfl)
          (try simp only [List.append_eq, List.cons_append, List.nil_append, List.getElem_toArray, List.getElem_cons_succ, List.getElem_cons_zero, Act.put, List.setIfInBounds_toArray, List.set_cons_zero, List.set_cons_succ])
          refine wpAnyH_take (i := 11) (v := ?_) rfl (by kernel_rfl) (by kernel_rfl) (by kernel_rfl) (fun _ _ _ h => h) (Or.inl ⟨by kernel_rfl, ?_⟩) (by first | assumption | trivial) ?_
          rotate_left
          · (intro wS hSw; (try dsimp only at hSw); go_simp; try with_reducible rfl)
          (try simp only [List.append_eq, List.cons_append, List.nil_append, List.getElem_toArray, List.getElem_cons_succ, List.getElem_cons_zero, Act.put, List.setIfInBounds_toArray, List.set_cons_zero, List.set_cons_succ])
          refine wpAnyH_take (i := 12) (v := ?_) rfl (by kernel_rfl) (by kernel_rfl) (by kernel_rfl) (fun _ _ _ h => h) (Or.inl ⟨by kernel_rfl, ?_⟩) (by first | assumption | trivial) ?_
          rotate_left
          · (intro wS hSw; (try dsimp only at hSw); go_simp; try with_reducible rfl)
          (try simp only [List.append_eq, List.cons_append, List.nil_append, List.getElem_toArray, List.getElem_cons_succ, List.getElem_cons_zero, Act.put, List.setIfInBounds_toArray, List.set_cons_zero, List.set_cons_succ])
          refine wpAnyH_take (i := 13) (v := ?_) rfl (by kernel_rfl) (by kernel_rfl) (by kernel_rfl) (fun _ _ _ h => h) (Or.inl ⟨by kernel_rfl, ?_⟩) (by first | assumption | trivial) ?_
          rotate_left
          · (intro wS hSw; (try dsimp only at hSw); go_simp; try with_reducible rfl)
          (try simp only [List.append_eq, List.cons_append, List.nil_append, List.getElem_toArray, List.getElem_cons_succ, List.getElem_cons_zero, Act.put, List.setIfInBounds_toArray, List.set_cons_zero, List.set_cons_succ])
          have y0 : wx.drew.cell? ⟨g, m, none⟩ = some (.slice B nn d) := HY.out _ (bq H.out 1)
          have hbz := bq (H.out.alloc H.out.size (.cells #[.int .u8 (x.c.toNat : Int), .bool x.q, .bool x.r, .bool x.o, .bool x.s] 42)) 1
          have y1 : (wx.alloc (.cells #[.int .u8 (x.c.toNat : Int), .bool x.q, .bool x.r, .bool x.o, .bool x.s] 42)).drew.cell? ⟨g, m, none⟩ = some (.slice B nn d) := HY.out _ hbz
          have hS2 := HSX.out _ hbz
          refine wpAnyH_ready (rs := [9, 14]) (by kernel_rfl) (by simp) ?_
          refine AllReadyH.cons rfl (fun K hK => ?_) (AllReadyH.cons rfl (fun K hK => ?_) AllReadyH.nil)
          · go_simp
            go_wp2_with fail
            refine hK.out _ _ hS (fun hHeld => ?_)
            clear hK K
            (try simp only [List.append_eq, List.cons_append, List.nil_append, List.getElem_toArray, List.getElem_cons_succ, List.getElem_cons_zero, Act.put, List.setIfInBounds_toArray, List.set_cons_zero, List.set_cons_succ])
            refine wpAnyH_ready (rs := [14]) (by kernel_rfl) (by simp) ?_
            refine AllReadyH.cons rfl (fun K hK => ?_) AllReadyH.nil
            go_simp
            skip
            go_wp2_with fail
            refine hK.out _ _ (by first | assumption | trivial) (fun hHeld => ?_)
            clear hK K
            (try simp only [List.append_eq, List.cons_append, List.nil_append, List.getElem_toArray, List.getElem_cons_succ, List.getElem_cons_zero, Act.put, List.setIfInBounds_toArray, List.set_cons_zero, List.set_cons_succ])
            refine wpAnyH_ready (rs := [15]) (by kernel_rfl) (by simp) ?_
            refine AllReadyH.cons rfl (fun K hK => ?_) AllReadyH.nil
            rw [if_pos (by kernel_rfl)]
            (refine wp_append_row _ (.tmp 68) (.tmp 73) sgS rfl w.heap.size (.slice B nn d) nn (cur.flatMap sgC) rfl (own_below HVO.out hbz) (some ⟨wx.heap.size, 0, none⟩) 1 1 (sgC x) rfl rfl (Row.of_block (w := (wx.alloc (.cells #[.int .u8 (x.c.toNat : Int), .bool x.q, .bool x.r, .bool x.o, .bool x.s] 42)).drew) (cs := #[.int .u8 (x.c.toNat : Int), .bool x.q, .bool x.r, .bool x.o, .bool x.s]) (heap_alloc_new wx _)) (by simp [sgC, B8, Value.oneCell']) (by simp only [maxLen]; omega) (by omega) (Nat.le_trans HI.out.bel.size hbz.size) ?_; intro A2 c2 w2 ho2 hg2 hh2; have HP2 := HI.out.put hbz HKL.out x HX.out HCU.out HA1.out HNN.out.symm ho2 hg2 hh2; have v0 := HP2.1; have v1 := HP2.2.1; have HI2 := hid HP2.2.2; have hS5 := HCW.out w2 ((HI.out.bel.trans (hbz.mono HI.out.bel.size)).grown hg2 (Nat.le_trans HI.out.bel.size hbz.size) (fun g2 hg2 => own_base HVO.out g2 hg2)); have hS6 := HCW.out _ HI2.out.bel; clear ho2 hg2 hh2 HP2)
            refine hK.out _ _ (by first | assumption | trivial) (fun hHeld => ?_)
            clear hK K
            (try simp only [List.append_eq, List.cons_append, List.nil_append, List.getElem_toArray, List.getElem_cons_succ, List.getElem_cons_zero, Act.put, List.setIfInBounds_toArray, List.set_cons_zero, List.set_cons_succ])
            refine wpAnyH_take (i := 16) (v := ?_) rfl (by kernel_rfl) (by kernel_rfl) (by kernel_rfl) (fun _ _ _ h => h) (Or.inl ⟨by kernel_rfl, ?_⟩) (by first | assumption | trivial) ?_
            rotate_left
            · (intro wS hSw; (try dsimp only at hSw); go_simp; try with_reducible rfl)
            (try simp only [List.append_eq, List.cons_append, List.nil_append, List.getElem_toArray, List.getElem_cons_succ, List.getElem_cons_zero, Act.put, List.setIfInBounds_toArray, List.set_cons_zero, List.set_cons_succ])
            refine wpAnyH_ready (rs := [17]) (by kernel_rfl) (by simp) ?_
            refine AllReadyH.cons rfl (fun K hK => ?_) AllReadyH.nil
            go_simp
            skip
            go_wp2_with fail
            refine hK.out _ _ (by first | assumption | trivial) (fun hHeld => ?_)
            clear hK K
            (try simp only [List.append_eq, List.cons_append, List.nil_append, List.getElem_toArray, List.getElem_cons_succ, List.getElem_cons_zero, Act.put, List.setIfInBounds_toArray, List.set_cons_zero, List.set_cons_succ])
            refine wpAnyH_done (by kernel_rfl) ?_ _
            refine NoPanic.normal ?_
            go_wp2_with fail
            go_roundw
            case rel => exact ⟨k + 1, _, _, _, _, _, _, _, _, by omega, rfl, rfl, by go_num, HI2⟩
            case measure => simp [intOf]; omega
          · go_simp
            go_wp2_with fail
            refine hK.out _ _ hS2 (fun hHeld => ?_)
            clear hK K
            (try simp only [List.append_eq, List.cons_append, List.nil_append, List.getElem_toArray, List.getElem_cons_succ, List.getElem_cons_zero, Act.put, List.setIfInBounds_toArray, List.set_cons_zero, List.set_cons_succ])
            refine wpAnyH_ready (rs := [9]) (by kernel_rfl) (by simp) ?_
            refine AllReadyH.cons rfl (fun K hK => ?_) AllReadyH.nil
            go_simp
            skip
            go_wp2_with fail
            refine hK.out _ _ (by first | assumption | trivial) (fun hHeld => ?_)
            clear hK K
            (try simp only [List.append_eq, List.cons_append, List.nil_append, List.getElem_toArray, List.getElem_cons_succ, List.getElem_cons_zero, Act.put, List.setIfInBounds_toArray, List.set_cons_zero, List.set_cons_succ])
            refine wpAnyH_ready (rs := [15]) (by kernel_rfl) (by simp) ?_
            refine AllReadyH.cons rfl (fun K hK => ?_) AllReadyH.nil
            rw [if_pos (by kernel_rfl)]
            (refine wp_append_row _ (.tmp 68) (.tmp 73) sgS rfl w.heap.size (.slice B nn d) nn (cur.flatMap sgC) rfl (own_below HVO.out hbz) (some ⟨wx.heap.size, 0, none⟩) 1 1 (sgC x) rfl rfl (Row.of_block (w := (wx.alloc (.cells #[.int .u8 (x.c.toNat : Int), .bool x.q, .bool x.r, .bool x.o, .bool x.s] 42)).drew) (cs := #[.int .u8 (x.c.toNat : Int), .bool x.q, .bool x.r, .bool x.o, .bool x.s]) (heap_alloc_new wx _)) (by simp [sgC, B8, Value.oneCell']) (by simp only [maxLen]; omega) (by omega) (Nat.le_trans HI.out.bel.size hbz.size) ?_; intro A2 c2 w2 ho2 hg2 hh2; have HP2 := HI.out.put hbz HKL.out x HX.out HCU.out HA1.out HNN.out.symm ho2 hg2 hh2; have v0 := HP2.1; have v1 := HP2.2.1; have HI2 := hid HP2.2.2; have hS5 := HCW.out w2 ((HI.out.bel.trans (hbz.mono HI.out.bel.size)).grown hg2 (Nat.le_trans HI.out.bel.size hbz.size) (fun g2 hg2 => own_base HVO.out g2 hg2)); have hS6 := HCW.out _ HI2.out.bel; clear ho2 hg2 hh2 HP2)
            refine hK.out _ _ (by first | assumption | trivial) (fun hHeld => ?_)
            clear hK K
            (try simp only [List.append_eq, List.cons_append, List.nil_append, List.getElem_toArray, List.getElem_cons_succ, List.getElem_cons_zero, Act.put, List.setIfInBounds_toArray, List.set_cons_zero, List.set_cons_succ])
            refine wpAnyH_take (i := 16) (v := ?_) rfl (by kernel_rfl) (by kernel_rfl) (by kernel_rfl) (fun _ _ _ h => h) (Or.inl ⟨by kernel_rfl, ?_⟩) (by first | assumption | trivial) ?_
            rotate_left
            · (intro wS hSw; (try dsimp only at hSw); go_simp; try with_reducible rfl)
            (try simp only [List.append_eq, List.cons_append, List.nil_append, List.getElem_toArray, List.getElem_cons_succ, List.getElem_cons_zero, Act.put, List.setIfInBounds_toArray, List.set_cons_zero, List.set_cons_succ])
            refine wpAnyH_ready (rs := [17]) (by kernel_rfl) (by simp) ?_
            refine AllReadyH.cons rfl (fun K hK => ?_) AllReadyH.nil
            go_simp
            skip
            go_wp2_with fail
            refine hK.out _ _ (by first | assumption | trivial) (fun hHeld => ?_)
            clear hK K
            (try simp only [List.append_eq, List.cons_append, List.nil_append, List.getElem_toArray, List.getElem_cons_succ, List.getElem_cons_zero, Act.put, List.setIfInBounds_toArray, List.set_cons_zero, List.set_cons_succ])
            refine wpAnyH_done (by kernel_rfl) ?_ _
            refine NoPanic.normal ?_
            go_wp2_with fail
            go_roundw
            case rel => exact ⟨k + 1, _, _, _, _, _, _, _, _, by omega, rfl, rfl, by go_num, HI2⟩
            case measure => simp [intOf]; omega
    · have hkn : k = n := by omega
      subst hkn
      have d1 : decide ((k : Int) < (k : Int)) = false := by simp
      have d1' : decide (k < k) = false := by simp
      have HE : Hid (cutR false [] xs = fin ++ [cur]) := hid (by
        have e : xs.drop k = [] := List.drop_of_length_le (by rw [HN.out]; exact Nat.le_refl _)
        rw [HI.out.eq, e, cutR])
      go_wp2_with fail
      go_ret
      refine ⟨A, m + 1, c, vs ++ [V], rfl, by rw [HE.out, List.length_append, HI.out.fl]; rfl, by rw [List.length_append, HI.out.vl]; rfl, Row.of_own HI.out.own, fun j h1 h2 => ?_, HI.out.bel, by have := HI.out.ml; omega⟩
      have e0 := HE.out
      revert h2
      rw [e0]
      intro h2
      rcases Nat.lt_or_ge j m with h3 | h3
      · have h4 : j < vs.length := by rw [HI.out.vl]; exact h3
        have h5 : j < fin.length := by rw [HI.out.fl]; exact h3
        have e1 : (vs ++ [V])[j]'h1 = vs[j]'h4 := List.getElem_append_left h4
        have e2 : (fin ++ [cur])[j]'h2 = fin[j]'h5 := List.getElem_append_left h5
        rw [e1, e2]
        exact HI.out.rows j h4 h5
      · have e1 : (vs ++ [V])[j]'h1 = V := by rw [List.getElem_append_right (by rw [HI.out.vl]; exact h3)]; simp
        have e2 : (fin ++ [cur])[j]'h2 = cur := by rw [List.getElem_append_right (by rw [HI.out.fl]; exact h3)]; simp
        rw [e1, e2]
        exact HI.out.last
end Go.Proofs.YtdanhdiinkgjnaaDoor
