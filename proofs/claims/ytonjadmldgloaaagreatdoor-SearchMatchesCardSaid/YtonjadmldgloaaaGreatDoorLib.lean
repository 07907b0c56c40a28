/-
  Words for memory that all texts of this seat share: a slice value that reads as a list of cells ('Row'), as octets ('Oct'); how they are kept. No program is in sight.
-/
import Derived.WalkKit
import Derived.WalkSpells
import Derived.WalkLawsBesides
import Derived.ProofKit
import Derived.OpenShut
import Derived.ShutString
import Derived.ChangeOld
import Derived.Deep.MidRow
import Derived.Deep.RegionHeld3
import Derived.Deep.RegionLaw
import Derived.Maps.AppendAt
import Derived.Deep.DeepMust
import Derived.Deep.DeepCutAuto
import Derived.Deep.DeepFit
import Derived.Deep.CutBlock
import Derived.Deep.Light
import Derived.BigQuiet
import Derived.Deep.QuietTactic
namespace Go.Proofs.YtonjadmldgloaaaGreatDoor
open Go.RowKit
set_option linter.unusedVariables false

theorem hid {p : Prop} (h : p) : Hid p := h

theorem ret_int {k : IntKind} {a b : Int} (h : a = b) : Ending.returned (.int k a) = .returned (.int k b) := by rw [h]

/-- A slice whose address is A reads as the cells xs in w. -/
def Row (w : World) (A : Option Addr) (xs : List Value) : Prop :=
  xs ≠ [] → ∃ b off, A = some ⟨b, off, none⟩ ∧ ∀ j v, xs[j]? = some v → w.cell? ⟨b, off + j, none⟩ = some v

theorem Row.nil (w : World) (A : Option Addr) : Row w A [] := fun h => absurd rfl h
theorem Row.below {w w' : World} {A : Option Addr} {xs : List Value} (h : Row w A xs) (hb : Below w.heap.size w w') : Row w' A xs := fun hn => by
  obtain ⟨b, off, hA, hc⟩ := h hn
  refine ⟨b, off, hA, fun j v hv => ?_⟩
  have := hc j v hv
  rw [hb.cell (p := ⟨b, off + j, none⟩) (World.block_lt_of_cell? w _ this)]
  exact this
theorem Row.alloc {w : World} {A : Option Addr} {xs : List Value} (h : Row w A xs) (o : Obj) : Row (w.alloc o) A xs := h.below ((Below.refl _ _).alloc (Nat.le_refl _) o)
theorem Row.drew {w : World} {A : Option Addr} {xs : List Value} (h : Row w A xs) : Row w.drew A xs := h

/-- One octet's cell. -/
def B8 (x : UInt8) : Value := .int .u8 (x.toNat : Int)

/-- A slice of n octets at A reads as l. -/
def Oct (w : World) (A : Option Addr) (n : Nat) (l : List UInt8) : Prop := l.length = n ∧ Row w A (l.map B8)

theorem Oct.len {w : World} {A : Option Addr} {n : Nat} {l : List UInt8} (h : Oct w A n l) : l.length = n := h.1
theorem Oct.cells_len {w : World} {A : Option Addr} {n : Nat} {l : List UInt8} (h : Oct w A n l) : (l.map B8).length = n * 1 := by rw [List.length_map, h.1, Nat.mul_one]
theorem Oct.nil (w : World) (A : Option Addr) : Oct w A 0 [] := ⟨rfl, Row.nil _ _⟩
theorem Oct.below {w w' : World} {A : Option Addr} {n : Nat} {l : List UInt8} (h : Oct w A n l) (hb : Below w.heap.size w w') : Oct w' A n l := ⟨h.1, h.2.below hb⟩
theorem Oct.alloc {w : World} {A : Option Addr} {n : Nat} {l : List UInt8} (h : Oct w A n l) (o : Obj) : Oct (w.alloc o) A n l := ⟨h.1, h.2.alloc o⟩
theorem Oct.drew {w : World} {A : Option Addr} {n : Nat} {l : List UInt8} (h : Oct w A n l) : Oct w.drew A n l := h
/-- The address and the cells, where there is an element. -/
theorem Oct.at_ {w : World} {A : Option Addr} {n : Nat} {l : List UInt8} (h : Oct w A n l) (hn : 0 < n) :
    ∃ b off, A = some ⟨b, off, none⟩ ∧ ∀ j (hj : j < l.length), w.cell? ⟨b, off + j, none⟩ = some (.int .u8 ((l[j].toNat : Nat) : Int)) := by
  obtain ⟨b, off, hA, hc⟩ := h.2 (by have := h.1; intro e; simp at e; subst e; simp at this; omega)
  exact ⟨b, off, hA, fun j hj => hc j _ (by simp [B8, hj])⟩
theorem Oct.take {w : World} {A : Option Addr} {n : Nat} {l : List UInt8} (h : Oct w A n l) (k : Nat) (hk : k ≤ n) : Oct w A k (l.take k) := by
  refine ⟨by simp [h.1]; omega, fun hne => ?_⟩
  obtain ⟨b, off, hA, hc⟩ := h.2 (by intro e; simp at e; subst e; simp at hne)
  refine ⟨b, off, hA, fun j v hv => hc j v ?_⟩
  rw [List.map_take] at hv
  rw [List.getElem?_take] at hv
  split at hv
  · exact hv
  · simp at hv
theorem below_setRow {B g : Nat} {a w : World} (h : Below B a w) (hg : B ≤ g) (cs : Array Value) : Below B a (w.setRow g cs) :=
  h.trans ⟨rfl, rfl, rfl, by simp, fun k hk => setRow_other w g k cs (by omega)⟩
/-- What is owned can be read. -/
theorem Row.of_own {w : World} {base : Nat} {e : TypeId} {size n c : Nat} {A : Option Addr} {xs : List Value} (h : w.ownsRow base e size (.slice A n c) n xs) : Row w A xs := fun hn => by
  rcases h.2 with ⟨hv, h0⟩ | ⟨g, cap, cur, hv, _⟩
  · subst h0
    exact absurd (List.eq_nil_of_length_eq_zero (by simpa using h.1)) hn
  · injection hv with hA
    subst hA
    exact ⟨g, 0, rfl, fun j v hj => by simpa [Addr.add_mid] using h.cells (g := g) rfl j v hj⟩
theorem own_below {w w' : World} {base : Nat} {e : TypeId} {size n : Nat} {v : Value} {xs : List Value} (h : w.ownsRow base e size v n xs) (hb : Below w.heap.size w w') : w'.ownsRow base e size v n xs := by
  obtain ⟨h1, h2⟩ := h
  refine ⟨h1, ?_⟩
  rcases h2 with h2 | ⟨g, cap, cur, hv, hg, hh, r⟩
  · exact Or.inl h2
  · have hlt : g < w.heap.size := by
      rcases Nat.lt_or_ge g w.heap.size with hlt | hge
      · exact hlt
      · rw [Array.getElem?_eq_none hge] at hh
        cases hh
    exact Or.inr ⟨g, cap, cur, hv, hg, (hb.block g hlt).trans hh, r⟩
theorem own_cap {w : World} {base : Nat} {e : TypeId} {size n c : Nat} {A : Option Addr} {xs : List Value} (h : w.ownsRow base e size (.slice A n c) n xs) : n ≤ c ∧ c ≤ maxLen := by
  rcases h.2 with ⟨hv, h0⟩ | ⟨g, cap, cur, hv, _, _, h1, h2, _⟩
  · injection hv with _ h1 h2
    subst h0 h2
    exact ⟨Nat.le_refl _, Nat.zero_le _⟩
  · injection hv with _ _ hc
    subst hc
    exact ⟨h1, h2⟩

/-- The facts on a slice type that an append asks. -/
structure SliceT (P : Program) (t e : TypeId) (z : Value) (size bytes : Nat) : Prop where
  und : P.underlying t = some (.slice e)
  info : (P.info? e).map (fun i => (i.zero, i.size, i.bytes)) = some (some z, size, bytes)
  zs : z.cells.size = size
  pos : 0 < size

section
variable {P : Program} (w : World)

theorem run_append_row {t e : TypeId} (ty : TypeId) {z : Value} {size bytes : Nat} (T : SliceT P t e z size bytes) (base : Nat)
    (v : Value) (n : Nat) (xs : List Value) (hown : w.ownsRow base e size v n xs)
    (A : Option Addr) (m c : Nat) (news : List Value) (hl : news.length = m * size) (hr : Row w A news) (h1 : ∀ u ∈ news, u.oneCell' = true)
    (h63 : n + m ≤ maxLen) (hbytes : (n + m) * bytes ≤ 140737488355328) (hbase : base ≤ w.heap.size) :
    ∃ A' c' w', (Builtin.append_ #[t, t] ty #[v, .slice A m c]).run P w = .ok (.slice A' (n + m) c') w' ∧ w'.ownsRow base e size (.slice A' (n + m) c') (n + m) (xs ++ news) ∧ w.grownBy w' v.ownBlock ∧
      (Value.ownBlock (.slice A' (n + m) c') = v.ownBlock ∨ Value.ownBlock (.slice A' (n + m) c') = some w.heap.size) := by
  obtain ⟨i, hi, hz, hs, hb⟩ := info_parts T.info
  have hpos := T.pos
  have shape : ∀ {v' : Value} {w' : World} {k : Nat} {ys : List Value}, w'.ownsRow base e size v' k ys → ∃ A' c', v' = .slice A' k c' := by
    intro v' w' k ys h
    rcases h.2 with ⟨rfl, rfl⟩ | ⟨g, cap, cur, rfl, _⟩
    · exact ⟨none, 0, rfl⟩
    · exact ⟨_, _, rfl⟩
  cases A with
  | none =>
    have hn : news = [] := by
      rcases news with _ | ⟨x, r⟩
      · rfl
      · obtain ⟨b, off, h, _⟩ := hr (by simp)
        cases h
    subst hn
    have hm : m = 0 := by
      rcases Nat.mul_eq_zero.1 hl.symm with h | h
      · exact h
      · omega
    subst hm
    obtain ⟨A', c', rfl⟩ := shape hown
    refine ⟨A', c', w, ?_, by simpa using hown, World.grownBy.refl w _, .inl rfl⟩
    rcases hown.2 with ⟨hv, hn⟩ | ⟨g, cap, cur, hv, _, _, hnc, _⟩
    · injection hv with hA hn hc
      subst hA hn hc
      simp [Builtin.append_, run_underlying T.und, sizeOf, typeInfo, hi, Builtin.lenOf, Builtin.firstCells]
    · injection hv with hA hn hc
      subst hA hc
      simp [Builtin.append_, run_underlying T.und, sizeOf, typeInfo, hi, Builtin.lenOf, Builtin.firstCells, hnc, storeCells]
  | some ad =>
    have hcells : ∀ j u, news[j]? = some u → w.cell? (ad.add j) = some u := by
      intro j u hu
      obtain ⟨b, off, h, hc⟩ := hr (by rintro rfl; simp at hu)
      injection h with h
      subst h
      rw [Addr.add_mid]
      exact hc j u hu
    obtain ⟨v', w', hrun, h2, h3, _, h5⟩ := run_append_own_at (P := P) w base t ty e i z size bytes T.und hi hz hs hb T.zs T.pos v n xs hown ad m c news hl hcells h1 h63 hbytes hbase
    obtain ⟨A', c', rfl⟩ := shape h2
    exact ⟨A', c', w', hrun, h2, h3, h5⟩

theorem wp_append_row {o : Oper} {a : Act} {K : Act → World → Prop} {Q : Exit → Act → World → Prop} (s x : Operand) {t e : TypeId} {z : Value} {size bytes : Nat} (T : SliceT P t e z size bytes)
    (ho : o.op = .call { callee := .builtin .append, args := #[s, x], argTypes := #[t, t] })
    (base : Nat) (v : Value) (n : Nat) (xs : List Value) (hs : a.eval s = v) (hown : w.ownsRow base e size v n xs)
    (A : Option Addr) (m c : Nat) (news : List Value) (hx : a.eval x = .slice A m c) (hl : news.length = m * size) (hr : Row w A news) (h1 : ∀ u ∈ news, u.oneCell' = true)
    (h63 : n + m ≤ maxLen) (hbytes : (n + m) * bytes ≤ 140737488355328) (hbase : base ≤ w.heap.size)
    (h : ∀ A' c' w', w'.ownsRow base e size (.slice A' (n + m) c') (n + m) (xs ++ news) → w.grownBy w' v.ownBlock →
      (Value.ownBlock (.slice A' (n + m) c') = v.ownBlock ∨ Value.ownBlock (.slice A' (n + m) c') = some w.heap.size) → K (a.put o.dst (.slice A' (n + m) c')) w') : o.wp P a w K Q := by
  obtain ⟨A', c', w', hrun, h2, h3, h4⟩ := run_append_row (P := P) w o.type T base v n xs hown A m c news hl hr h1 h63 hbytes hbase
  unfold Oper.wp execOp
  simp only [ho, resolve, invoke, builtin, Sem.run_bind, Sem.run_pure, Result.andThen_ok, List.map_toArray, List.map_cons, List.map_nil, hs, hx, hrun]
  exact h A' c' w' h2 h3 h4

theorem wpList_append_row {ops : Array Oper} {rest : List Oper} {o : Oper} {a : Act} {Q : Exit → Act → World → Prop} (hgd : o.guard = none) (s x : Operand) {t e : TypeId} {z : Value} {size bytes : Nat} (T : SliceT P t e z size bytes)
    (ho : o.op = .call { callee := .builtin .append, args := #[s, x], argTypes := #[t, t] })
    (base : Nat) (v : Value) (n : Nat) (xs : List Value) (hs : a.eval s = v) (hown : w.ownsRow base e size v n xs)
    (A : Option Addr) (m c : Nat) (news : List Value) (hx : a.eval x = .slice A m c) (hl : news.length = m * size) (hr : Row w A news) (h1 : ∀ u ∈ news, u.oneCell' = true)
    (h63 : n + m ≤ maxLen) (hbytes : (n + m) * bytes ≤ 140737488355328) (hbase : base ≤ w.heap.size)
    (h : ∀ A' c' w', w'.ownsRow base e size (.slice A' (n + m) c') (n + m) (xs ++ news) → w.grownBy w' v.ownBlock →
      (Value.ownBlock (.slice A' (n + m) c') = v.ownBlock ∨ Value.ownBlock (.slice A' (n + m) c') = some w.heap.size) → wpList P ops Q rest (a.put o.dst (.slice A' (n + m) c')) w') : wpList P ops Q (o :: rest) a w :=
  wpList_plain hgd fun _ hK => wp_append_row w s x T ho base v n xs hs hown A m c news hx hl hr h1 h63 hbytes hbase fun A' c' w' h2 h3 h4 => hK _ _ (h A' c' w' h2 h3 h4)

theorem step_append_row {ops : Array Oper} {o : Oper} {a : Act} {K : Act → World → Prop} {Q : Exit → Act → World → Prop} {E : Prop} (hgd : o.guard = none) (s x : Operand) {t e : TypeId} {z : Value} {size bytes : Nat} (T : SliceT P t e z size bytes)
    (ho : o.op = .call { callee := .builtin .append, args := #[s, x], argTypes := #[t, t] })
    (base : Nat) (v : Value) (n : Nat) (xs : List Value) (hs : a.eval s = v) (hown : w.ownsRow base e size v n xs)
    (A : Option Addr) (m c : Nat) (news : List Value) (hx : a.eval x = .slice A m c) (hl : news.length = m * size) (hr : Row w A news) (h1 : ∀ u ∈ news, u.oneCell' = true)
    (h63 : n + m ≤ maxLen) (hbytes : (n + m) * bytes ≤ 140737488355328) (hbase : base ≤ w.heap.size)
    (h : ∀ A' c' w', w'.ownsRow base e size (.slice A' (n + m) c') (n + m) (xs ++ news) → w.grownBy w' v.ownBlock →
      (Value.ownBlock (.slice A' (n + m) c') = v.ownBlock ∨ Value.ownBlock (.slice A' (n + m) c') = some w.heap.size) → K (a.put o.dst (.slice A' (n + m) c')) w') :
    if Region.wanted o (yielded ops a.tmps) = true then Oper.wp P o a w K Q else E := by
  rw [if_pos (by simp [Region.wanted, hgd])]
  exact wp_append_row w s x T ho base v n xs hs hown A m c news hx hl hr h1 h63 hbytes hbase h
end

theorem one_B8 (l : List UInt8) : ∀ u ∈ l.map B8, u.oneCell' = true := by
  intro u hu
  obtain ⟨x, _, rfl⟩ := List.mem_map.1 hu
  rfl
/-- Octets as a string. -/
def str (l : List UInt8) : ByteArray := ⟨l.toArray⟩
theorem str_size (l : List UInt8) : (str l).size = l.length := rfl
theorem str_toList (l : List UInt8) : (str l).data.toList = l := by simp [str]
@[simp, go_sem] theorem str_list (l : List UInt8) : (str l).toList = l := ByteArray.toList_mk l
theorem str_inj {l m : List UInt8} (h : str l = str m) : l = m := by rw [← str_toList l, h, str_toList]
theorem str_append (l m : List UInt8) : str l ++ str m = str (l ++ m) := by
  apply ByteArray.ext
  simp [str]
theorem strOfNums_map (l : List UInt8) : strOfNums (l.map fun x => (x.toNat : Int)) = str l := by
  unfold strOfNums str
  rw [List.map_map]
  have : ((fun n : Int => UInt8.ofNat n.toNat) ∘ fun x : UInt8 => (x.toNat : Int)) = id := by
    funext x
    simp
  rw [this, List.map_id]

/-- string(b), b whatever slice of octets. -/
theorem run_string_oct {P : Program} {w : World} {A : Option Addr} {n : Nat} (c : Nat) {l : List UInt8} (h : Oct w A n l) {src e dst : TypeId} (hs : P.underlying src = some (.slice e)) (he : P.underlying e = some (.int .u8)) (hd : P.underlying dst = some .string) :
    (convert src dst (.slice A n c)).run P w = .ok (.string (str l)) w := by
  rcases Nat.eq_zero_or_pos n with h0 | h0
  · subst h0
    have hl : l = [] := List.eq_nil_of_length_eq_zero h.1
    subst hl
    cases A with
    | none => exact run_convert_bytes_nil w src e hs he 0 c dst hd
    | some ad =>
      rw [run_convert_bytes_string w src dst e _ 0 c hs he hd, run_bytesToString w ad 0 c [] (by simp [loadCells, loadCellsFrom])]
      rfl
  · obtain ⟨b, off, rfl, hc⟩ := h.at_ h0
    have hlen : (l.map fun x => (x.toNat : Int)).length = n := by simp [h.1]
    have := run_convert_bytes_arg (P := P) w src e hs he b off n c (l.map fun x => (x.toNat : Int)) hlen (fun i hi => by
      rw [hc i (by rw [h.1]; exact hi)]
      simp [List.getElem?_eq_getElem (show i < l.length by rw [h.1]; exact hi)]) dst hd
    rw [this, strOfNums_map]
/-! Arrays of integers held against each other. -/
theorem run_part_int {P : Program} (w : World) {e : TypeId} {k : IntKind} (he : P.underlying e = some (.int k)) (xs : List Int) (i : Nat) (hi : i < xs.length) :
    (part e (xs.map (Value.int k)).toArray i).run P w = .ok (.int k (xs.getD i 0)) w := by
  have ha : (isAgg e).run P w = .ok false w := by
    unfold isAgg
    rw [Sem.run_bind, run_underlying he w]
    rfl
  unfold part
  rw [Sem.run_bind, ha, Result.andThen_ok]
  simp [hi, List.getD]
theorem run_eq_loop {P : Program} (w : World) {f : Nat → Option Bool × Unit → Sem (ForInStep (Option Bool × Unit))} (p : Nat → Bool) :
    ∀ idx : List Nat, (∀ i, i ∈ idx → ∀ s, (f i s).run P w = .ok (if p i then .yield (none, ()) else .done (some false, ())) w) →
      (forIn idx (none, ()) f).run P w = .ok (if idx.all p then (none, ()) else (some false, ())) w
  | [], _ => by simp
  | i :: r, h => by
    rw [List.forIn_cons, Sem.run_bind, h i (by simp), Result.andThen_ok]
    by_cases hp : p i = true
    · simp only [hp, if_true]
      rw [run_eq_loop w p r (fun j hj => h j (by simp [hj]))]
      simp [hp]
    · simp [hp]
theorem all_range_eq (xs ys : List Int) (h : xs.length = ys.length) : (List.range' 0 xs.length).all (fun i => xs.getD i 0 == ys.getD i 0) = (xs == ys) := by
  rw [Bool.eq_iff_iff, List.all_eq_true, beq_iff_eq]
  constructor
  · intro hh
    apply List.ext_getElem h
    intro i h1 h2
    have := hh i (by simp; omega)
    simpa [h1, h2] using this
  · rintro rfl i hi
    simp
theorem run_equalIn_arr {P : Program} (w : World) (d : Nat) {t e : TypeId} {n : Nat} {k : IntKind} (ht : P.underlying t = some (.array n e)) (he : P.underlying e = some (.int k)) (hs : ∀ w, (sizeOf e).run P w = .ok 1 w) (xs ys : List Int) (hx : xs.length = n) (hy : ys.length = n) :
   (Op.equalIn (d + 2) t (.agg (xs.map (Value.int k)).toArray) (.agg (ys.map (Value.int k)).toArray)).run P w = .ok (xs == ys) w := by
  unfold Op.equalIn
  simp only [Sem.run_bind, run_underlying ht, Result.andThen_ok, hs, Nat.mul_one, Std.Legacy.Range.forIn_eq_forIn_range']
  rw [run_eq_loop w (fun i => xs.getD i 0 == ys.getD i 0) _ (fun i hi s => ?_)]
  · have e := all_range_eq xs ys (by omega)
    rw [hx] at e
    simp only [Std.Legacy.Range.size, Nat.sub_zero, Nat.add_sub_cancel, Nat.div_one, e, Result.andThen_ok]
    by_cases hh : (xs == ys) = true
    · simp [hh]
    · simp only [Bool.not_eq_true] at hh
      simp [hh]
  · have hi' : i < n := by simpa [Std.Legacy.Range.size] using hi
    simp only [Sem.run_bind]
    rw [run_part_int w he xs i (by omega), Result.andThen_ok, run_part_int w he ys i (by omega), Result.andThen_ok, run_equalIn_int w d e k k _ _ he, Result.andThen_ok]
    simp
    split <;> rfl
theorem run_equal_arr {P : Program} (w : World) {t e : TypeId} {n : Nat} {k : IntKind} (ht : P.underlying t = some (.array n e)) (he : P.underlying e = some (.int k)) (hs : ∀ w, (sizeOf e).run P w = .ok 1 w) (xs ys : List Int) (hx : xs.length = n) (hy : ys.length = n) :
   (Op.equal t (.agg (xs.map (Value.int k)).toArray) (.agg (ys.map (Value.int k)).toArray)).run P w = .ok (xs == ys) w := run_equalIn_arr w 9998 ht he hs xs ys hx hy
/-- Two arrays of octets, held against each other. -/
theorem run_neq_oct {P : Program} (w : World) {t e : TypeId} {n : Nat} (ht : P.underlying t = some (.array n e)) (he : P.underlying e = some (.int .u8)) (hs : ∀ w, (sizeOf e).run P w = .ok 1 w) (l m : List UInt8) (hl : l.length = n) (hm : m.length = n) :
   (binOp .neq t (.agg (l.map B8).toArray) (.agg (m.map B8).toArray)).run P w = .ok (.bool (!(l == m))) w := by
  have e1 (x : List UInt8) : x.map B8 = (x.map fun y => (y.toNat : Int)).map (Value.int .u8) := by rw [List.map_map]; rfl
  have h := run_equal_arr (P := P) w ht he hs (l.map fun y => (y.toNat : Int)) (m.map fun y => (y.toNat : Int)) (by simpa using hl) (by simpa using hm)
  rw [← e1, ← e1] at h
  have e2 : ((l.map fun y : UInt8 => (y.toNat : Int)) == (m.map fun y : UInt8 => (y.toNat : Int))) = (l == m) := by
    rw [Bool.eq_iff_iff, beq_iff_eq, beq_iff_eq]
    exact ⟨fun h => (List.map_inj_right (fun a b hab => by simpa using UInt8.toNat_inj.1 (by omega))).1 h, fun h => by rw [h]⟩
  rw [e2] at h
  simp only [binOp]
  rw [Sem.run_bind, h]
  rfl
/-! What was there stays. -/
theorem bcell {W w1 : World} (hb : Below W.heap.size W w1) : (∀ b o, b < W.heap.size → w1.cell? ⟨b, o, none⟩ = W.cell? ⟨b, o, none⟩) ∧ (∀ b o, b < W.heap.size → w1.frozen? ⟨b, o, none⟩ = W.frozen? ⟨b, o, none⟩) :=
  ⟨fun b o h => hb.cell (p := ⟨b, o, none⟩) h, fun b o h => hb.frozen (p := ⟨b, o, none⟩) h⟩
theorem cells_keep {w w1 : World} (hb : Below w.heap.size w w1) {a : Addr} {v : Value} (h : w.cell? a = some v) : w1.cell? a = some v := by
  rw [hb.cell (World.block_lt_of_cell? w a h)]
  exact h
theorem below_alloc {w0 w : World} (h : Below w0.heap.size w0 w) (o : Obj) : Below w0.heap.size w0 (w.alloc o) := h.alloc h.size o
theorem past {w w0 w' : World} (h : Below w.heap.size w w0) (h2 : Below w0.heap.size w0 w') : Below w.heap.size w w' := h.trans (h2.mono h.size)
theorem keepS {w0 w : World} {a : Addr} {v : Value} (r : w0.cell? a = some v) (h : Below w0.heap.size w0 w) : Below w0.heap.size w0 w ∧ w.cell? a = some v := ⟨h, cells_keep h r⟩
theorem next {w0 w w' : World} (h : Below w0.heap.size w0 w) (h2 : Below w.heap.size w w') : Below w0.heap.size w0 w' := h.trans (h2.mono h.size)
theorem Row.of_block {w : World} {g : Nat} {t : TypeId} {cs : Array Value} {fr : Nat × Nat} (h : w.heap[g]? = some (.cells cs t fr)) : Row w (some ⟨g, 0, none⟩) cs.toList := fun _ =>
  ⟨g, 0, rfl, fun j v hv => by rw [Nat.zero_add, cell_of_row w g j cs t fr h]; simpa using hv⟩

theorem Oct.of_block {w : World} {g : Nat} {t : TypeId} {cs : Array Value} {fr : Nat × Nat} (l : List UInt8) (h : w.heap[g]? = some (.cells cs t fr)) (hl : cs = (l.map B8).toArray) : Oct w (some ⟨g, 0, none⟩) l.length l := by
  refine ⟨rfl, ?_⟩
  have := Row.of_block h
  rw [hl] at this
  exact this
theorem min_len {w : World} {A : Option Addr} {n : Nat} {l : List UInt8} (ho : Oct w A n l) : Oct w A (min n 500) (l.take 500) := by
  rcases Nat.le_total n 500 with h | h
  · rw [Nat.min_eq_left h, List.take_of_length_le (by rw [ho.len]; exact h)]
    exact ho
  · rw [Nat.min_eq_right h]
    exact ho.take 500 h

/-- A slice of octets as an element. -/
structure Sl where
  A : Option Addr
  n : Nat
  c : Nat
  l : List UInt8
def Sl.v (s : Sl) : Value := .slice s.A s.n s.c
def Sl.ok (w : World) (s : Sl) : Prop := s.n ≤ s.c ∧ s.c ≤ maxLen ∧ Oct w s.A s.n s.l

end Go.Proofs.YtonjadmldgloaaaGreatDoor
