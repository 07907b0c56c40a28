/-
  Pages in rows of their own. A part of the proof: see the head of the text that ends in 'Law'.
-/
import Derived.Test.YtlhngieinmgooaaTr2
namespace Go.Proofs.Ytlhngieinmgooaa
open Go.RowKit
set_option linter.unusedVariables false
set_option maxRecDepth 100000
attribute [local go_sem] Oper.semAt_some

theorem pgsT : SliceT Try.prog 24 34 (.slice none 0 0) 1 24 := ⟨Try.underlying24, by kernel_rfl, rfl, by decide⟩
theorem kdT : SliceT Try.prog 50 57 (.agg #[.int .u64 0, .int .i64 0]) 2 16 := ⟨Try.underlying50, by kernel_rfl, rfl, by decide⟩
def kdC (k : Kd) : List Value := [.int .u64 (k.least : Int), .int .i64 (k.at_ : Int)]
theorem kdC_len (l : List Kd) : (l.flatMap kdC).length = l.length * 2 := by
  induction l with
  | nil => rfl
  | cons x r ih => simp only [List.flatMap_cons, List.length_append, List.length_cons, ih, kdC, List.length_nil]; omega
theorem kdC_get (l : List Kd) (k : Nat) (h : k < l.length) (j : Nat) (hj : j < 2) : (l.flatMap kdC)[k * 2 + j]? = (kdC l[k])[j]? := by
  induction l generalizing k with
  | nil => cases h
  | cons x r ih =>
    rw [List.flatMap_cons]
    cases k with
    | zero =>
      rw [Nat.zero_mul, Nat.zero_add, List.getElem?_append_left (by show j < 2; exact hj)]
      rfl
    | succ k =>
      rw [List.getElem?_append_right (by show 2 ≤ _; omega)]
      have e : (k + 1) * 2 + j - (kdC x).length = k * 2 + j := by show (k + 1) * 2 + j - 2 = _; omega
      rw [e, ih k (by simpa using h)]
      rfl
theorem kd_at {w : World} {A : Option Addr} {l : List Kd} (h : Row w A (l.flatMap kdC)) {k : Nat} (hk : k < l.length) : ∃ b off, A = some ⟨b, off, none⟩ ∧ ∀ (j : Nat) (hj : j < l.length),
    w.cell? ⟨b, off + j * 2, none⟩ = some (.int .u64 ((l[j]'hj).least : Int)) ∧ w.cell? ⟨b, off + j * 2 + 1, none⟩ = some (.int .i64 ((l[j]'hj).at_ : Int)) := by
  obtain ⟨b, off, hA, hc⟩ := h (by intro e; have := congrArg List.length e; rw [kdC_len, List.length_nil] at this; omega)
  refine ⟨b, off, hA, fun j hj => ?_⟩
  have g := fun i hi => kdC_get l j hj i hi
  exact ⟨hc (j * 2 + 0) _ ((g 0 (by omega)).trans rfl), hc (j * 2 + 1) _ ((g 1 (by omega)).trans rfl)⟩
/-- A new block is the call's own. -/
theorem own_new (w : World) (base : Nat) (e : TypeId) (size n : Nat) (xs : List Value) (hb : base ≤ w.heap.size) (hl : xs.length = n * size) (hn : n ≤ maxLen) :
    (w.alloc (.cells xs.toArray e)).ownsRow base e size (.slice (some ⟨w.heap.size, 0, none⟩) n n) n xs :=
  ⟨hl, .inr ⟨w.heap.size, n, xs.toArray, rfl, hb, heap_alloc_new w _, Nat.le_refl _, hn, by simpa using hl, by
    rw [← hl]
    simp⟩⟩
/-- A page's slice. -/
def PgOwn (W : World) (base : Nat) (v : Value) (p : List UInt8) : Prop := ∃ g, v = .slice (some ⟨g, 0, none⟩) 128 128 ∧ OwnE W g 5 (p.map B8) ∧ base ≤ g ∧ p.length = 128
theorem PgOwn.below {W W' : World} {base : Nat} {v : Value} {p : List UInt8} (h : PgOwn W base v p) (hb : Below W.heap.size W W') : PgOwn W' base v p := by
  obtain ⟨g, h1, h2, h3, h4⟩ := h
  exact ⟨g, h1, h2.below hb, h3, h4⟩
theorem PgOwn.low {W : World} {b b' : Nat} {v : Value} {p : List UInt8} (h : PgOwn W b v p) (hb : b' ≤ b) : PgOwn W b' v p := by
  obtain ⟨g, h1, h2, h3, h4⟩ := h
  exact ⟨g, h1, h2, by omega, h4⟩
theorem PgOwn.grown {W W' : World} {base b0 size n : Nat} {T : TypeId} {v u : Value} {xs : List Value} {p : List UInt8} (h : PgOwn W base v p) (hr : W.ownsRow b0 T size u n xs) (hT : T ≠ 5) (hg : W.grownBy W' u.ownBlock) : PgOwn W' base v p := by
  obtain ⟨g, h1, h2, h3, h4⟩ := h
  refine ⟨g, h1, (hg.block g h2.lt (fun e => ?_)).trans h2, h3, h4⟩
  obtain ⟨cur, hh⟩ := own_type hr g e.symm
  rw [show W.heap[g]? = _ from h2] at hh
  injection hh with hh
  injection hh with _ ht
  exact hT ht.symm
theorem PgOwn.oct {W : World} {base : Nat} {v : Value} {p : List UInt8} (h : PgOwn W base v p) : ∃ A, v = .slice A 128 128 ∧ Oct W A 128 p := by
  obtain ⟨g, h1, h2, h3, h4⟩ := h
  exact ⟨_, h1, h4, h2.row⟩
/-- Pages in a row of their own. -/
structure OutI (b0 : Nat) (W : World) (A : Option Addr) (m c : Nat) (vs : List Value) (pgs : List (List UInt8)) : Prop where
  own : W.ownsRow b0 34 1 (.slice A m c) m vs
  vl : vs.length = m
  pl : pgs.length = m
  rows : ∀ (j : Nat) (h1 : j < vs.length) (h2 : j < pgs.length), PgOwn W b0 (vs[j]'h1) (pgs[j]'h2)
theorem OutI.nil (b0 : Nat) (W : World) : OutI b0 W none 0 0 [] [] := ⟨World.ownsRow_nil _ _ _ _, rfl, rfl, fun j h1 => absurd h1 (Nat.not_lt_zero _)⟩
theorem OutI.below {b0 : Nat} {W W' : World} {A : Option Addr} {m c : Nat} {vs : List Value} {pgs : List (List UInt8)} (h : OutI b0 W A m c vs pgs) (hb : Below W.heap.size W W') : OutI b0 W' A m c vs pgs :=
  ⟨own_below h.own hb, h.vl, h.pl, fun j h1 h2 => (h.rows j h1 h2).below hb⟩
theorem OutI.low {b0 b1 : Nat} {W : World} {A : Option Addr} {m c : Nat} {vs : List Value} {pgs : List (List UInt8)} (h : OutI b0 W A m c vs pgs) (hb : b1 ≤ b0) : OutI b1 W A m c vs pgs :=
  ⟨own_low h.own hb, h.vl, h.pl, fun j h1 h2 => (h.rows j h1 h2).low hb⟩
theorem own_grown {W W' : World} {b0 b1 s1 s2 n1 n2 : Nat} {T1 T2 : TypeId} {v u : Value} {xs ys : List Value} (h : W.ownsRow b0 T1 s1 v n1 xs) (hr : W.ownsRow b1 T2 s2 u n2 ys) (hT : T1 ≠ T2) (hg : W.grownBy W' u.ownBlock) : W'.ownsRow b0 T1 s1 v n1 xs := by
  refine h.kept hg ?_
  rcases h.2 with ⟨rfl, _⟩ | ⟨g, cap, cur, rfl, _, hgb, _⟩
  · exact .inl rfl
  · refine .inr fun e => ?_
    obtain ⟨cur2, hh⟩ := own_type hr g (by rw [← e]; rfl)
    rw [hgb] at hh
    injection hh with hh
    injection hh with _ ht
    exact hT ht
/-- Where another row grows. -/
theorem OutI.grown {b0 b1 s n m c : Nat} {W W' : World} {A : Option Addr} {T : TypeId} {u : Value} {xs vs : List Value} {pgs : List (List UInt8)} (h : OutI b0 W A m c vs pgs) (hr : W.ownsRow b1 T s u n xs) (h1 : T ≠ 5) (h2 : T ≠ 34) (hg : W.grownBy W' u.ownBlock) : OutI b0 W' A m c vs pgs :=
  ⟨own_grown h.own hr (Ne.symm h2) hg, h.vl, h.pl, fun j k1 k2 => (h.rows j k1 k2).grown hr h1 hg⟩
/-- A page more. -/
theorem OutI.put {b0 m c c' : Nat} {W W' : World} {A A' : Option Addr} {v : Value} {vs : List Value} {pgs : List (List UInt8)} {p : List UInt8} (h : OutI b0 W A m c vs pgs) (hv : PgOwn W b0 v p) (ho : W'.ownsRow b0 34 1 (.slice A' (m + 1) c') (m + 1) (vs ++ [v])) (hg : W.grownBy W' (Value.ownBlock (.slice A m c))) :
    OutI b0 W' A' (m + 1) c' (vs ++ [v]) (pgs ++ [p]) := by
  refine ⟨ho, by rw [List.length_append, h.vl]; rfl, by rw [List.length_append, h.pl]; rfl, fun j h1 h2 => ?_⟩
  rcases Nat.lt_or_ge j m with h3 | h3
  · have h4 : j < vs.length := by rw [h.vl]; exact h3
    have h5 : j < pgs.length := by rw [h.pl]; exact h3
    rw [List.getElem_append_left h4, List.getElem_append_left h5]
    exact (h.rows j h4 h5).grown h.own (by decide) hg
  · have e1 : (vs ++ [v])[j]'h1 = v := by rw [List.getElem_append_right (by rw [h.vl]; exact h3)]; simp
    have e2 : (pgs ++ [p])[j]'h2 = p := by rw [List.getElem_append_right (by rw [h.pl]; exact h3)]; simp
    rw [e1, e2]
    exact hv.grown h.own (by decide) hg
theorem chunks_get {α : Type} (k : Nat) (hk : 0 < k) : ∀ (i : Nat) (l : List α) (h : i < (chunks k l).length), (chunks k l)[i] = (l.drop (k * i)).take k
  | i, l, h => by
    have hne : l ≠ [] := by
      intro e
      subst e
      rw [chunks_nil] at h
      cases h
    have he := chunks_cons k hk l hne
    cases i with
    | zero => simp [he]
    | succ i =>
      have h2 : i < (chunks k (l.drop k)).length := by rw [he] at h; simpa using h
      have ih := chunks_get k hk i (l.drop k) h2
      have : (chunks k l)[i + 1] = (chunks k (l.drop k))[i] := by simp [he]
      rw [this, ih, List.drop_drop, Nat.mul_add, Nat.mul_one, Nat.add_comm (k * i)]
theorem leafC_get (l : List Pa) (i : Nat) (h : i < (leafC l).length) : (leafC l)[i] = (l.drop (7 * i)).take 7 := by
  unfold leafC at h ⊢
  cases l with
  | nil =>
    have : i = 0 := by simpa using h
    subst this
    rfl
  | cons a r =>
    simp only [List.isEmpty_cons, Bool.false_eq_true, if_false] at h ⊢
    exact chunks_get 7 (by omega) i _ h
theorem kidsP_take (cs : List (List Pa)) (i : Nat) (h : i < cs.length) : kidsP 0 (cs.take (i + 1)) = kidsP 0 (cs.take i) ++ [⟨leastP cs[i], i⟩] := by
  rw [List.take_succ_eq_append_getElem h, kidsP_snoc, List.length_take, Nat.min_eq_left (by omega), Nat.zero_add]
theorem leaves_take (l : List Pa) (i : Nat) (h : i < (leafC l).length) : (leavesL l).take (i + 1) = (leavesL l).take i ++ [pageP (leafL (leafC l)[i])] := by
  unfold leavesL
  rw [List.take_succ_eq_append_getElem (by rw [List.length_map]; exact h), List.getElem_map]
/-- i leaves are laid down. -/
structure LfI (w wr : World) (l : List Pa) (i : Nat) (A : Option Addr) (c : Nat) (B : Option Addr) (d : Nat) (vs : List Value) (A' : Option Addr) (n' c' : Nat) : Prop where
  out : OutI w.heap.size wr A i c vs ((leavesL l).take i)
  kid : wr.ownsRow w.heap.size 57 2 (.slice B i d) i ((kidsP 0 ((leafC l).take i)).flatMap kdC)
  bel : Below w.heap.size w wr
  rst : Row w A' ((l.drop (7 * i)).flatMap paC)
  len : n' = l.length - 7 * i
  cap : n' ≤ c'
end Go.Proofs.Ytlhngieinmgooaa
