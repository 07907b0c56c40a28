/-
  The finder's memory: the octets, and the places of each three. A part of the proof: see the head of the text that ends in 'Law'.
-/
import Derived.Test.YtaoigplmkckieaaMa3
import Derived.Test.YtaoigplmkckieaaSlim
namespace Go.Proofs.Ytaoigplmkckieaa
open Go.RowKit Go.MapKept Go.ChangeShapes
open Go.Maps (Keyed IsMap)
open Go.WideMaps (KeyLaw)
set_option linter.unusedVariables false

/-- Nothing but what T holds of is touched. -/
structure Only (T : Nat → Prop) (w w' : World) : Prop where
  os : w'.os = w.os
  tape : w'.tape = w.tape
  output : w'.output = w.output
  size : w.heap.size ≤ w'.heap.size
  block : ∀ k, k < w.heap.size → ¬ T k → w'.heap[k]? = w.heap[k]?
theorem Only.refl (T : Nat → Prop) (w : World) : Only T w w := ⟨rfl, rfl, rfl, Nat.le_refl _, fun _ _ _ => rfl⟩
theorem Only.trans {T T' : Nat → Prop} {a b c : World} (h : Only T a b) (h2 : Only T' b c) (ht : ∀ g, T' g → T g ∨ a.heap.size ≤ g) : Only T a c :=
  ⟨h2.os.trans h.os, h2.tape.trans h.tape, h2.output.trans h.output, Nat.le_trans h.size h2.size, fun k hk hn =>
    (h2.block k (Nat.lt_of_lt_of_le hk h.size) (fun h3 => by rcases ht k h3 with h4 | h4; exact hn h4; omega)).trans (h.block k hk hn)⟩
theorem Only.of_below {T : Nat → Prop} {a b : World} (h : Below a.heap.size a b) : Only T a b := ⟨h.os, h.tape, h.output, h.size, fun k hk _ => h.block k hk⟩
theorem Only.of_grown {T : Nat → Prop} {a b : World} {row : Option Nat} (h : a.grownBy b row) (hr : ∀ g, row = some g → T g) : Only T a b :=
  ⟨h.os, h.tape, h.output, h.size, fun k hk hn => h.block k hk (fun e => hn (hr k e.symm))⟩
theorem Only.of_set {T : Nat → Prop} (a : World) (p : Addr) (v : Value) (hp : T p.block) : Only T a (a.setCell p v) :=
  ⟨rfl, rfl, rfl, by simp, fun k hk hn => heap_setCell_other a p k v (fun e => hn (e ▸ hp))⟩
theorem Only.below {T : Nat → Prop} {a b : World} {B : Nat} (h : Only T a b) (hB : B ≤ a.heap.size) (ht : ∀ g, T g → B ≤ g) : Below B a b :=
  ⟨h.os, h.tape, h.output, h.size, fun k hk => h.block k (by omega) (fun h1 => by have := ht k h1; omega)⟩
theorem OwnC.only {T : Nat → Prop} {w w' : World} {g : Nat} {E : TypeId} {xs : List Value} (h : OwnC w g E xs) (ho : Only T w w') (hg : ¬ T g) : OwnC w' g E xs := by
  have hl := h.lt
  obtain ⟨cur, hh, hc⟩ := h
  exact ⟨cur, (ho.block g hl hg).trans hh, hc⟩
theorem own_same {w w' : World} {base : Nat} {e : TypeId} {size n : Nat} {v : Value} {xs : List Value} (h : w.ownsRow base e size v n xs) (hs : ∀ g, v.ownBlock = some g → w'.heap[g]? = w.heap[g]?) : w'.ownsRow base e size v n xs := by
  obtain ⟨h1, h2⟩ := h
  refine ⟨h1, ?_⟩
  rcases h2 with h2 | ⟨g, cap, cur, hv, hg, hh, r⟩
  · exact Or.inl h2
  · exact Or.inr ⟨g, cap, cur, hv, hg, (hs g (by rw [hv]; rfl)).trans hh, r⟩

abbrev T3 : TypeId := 58
abbrev TI : TypeId := 3
abbrev TM : TypeId := 45
theorem sizes : ∃ m, Try.prog.types.size = m + 1 := ⟨_, (Nat.succ_pred_eq_of_pos (Nat.lt_of_le_of_lt (Nat.zero_le _) (show T3 < Try.prog.types.size from of_decide_eq_true (by kernel_rfl)))).symm⟩
theorem laid11 : laidOutB Try.prog = true := by kernel_rfl
theorem row3 : T3 < Try.prog.types.size := of_decide_eq_true (by kernel_rfl)
theorem cells8 : Try.prog.cellsOf 5 = 1 := by kernel_rfl
theorem cells3 : Try.prog.cellsOf T3 = 3 := by kernel_rfl
theorem arr3 : Go.WideMaps.ArrKey Try.prog T3 5 3 := ⟨Try.underlying58, by kernel_rfl, cells8, cells3⟩
theorem wide3 : (match Try.prog.underlying T3 with | some (.array _ _) | some (.struct _) => true | _ => false) = true := by rw [Try.underlying58]
theorem law3 : KeyLaw Try.prog T3 := deep_law_laid laid11 (m := 2) (by omega) row3 (by kernel_rfl) wide3
theorem zeroRow (w : World) : (zeroValue 56).run Try.prog w = .ok (.slice none 0 0) w := by kernel_rfl
def kv (a b c : UInt8) : Value := .agg #[.int .u8 a.toNat, .int .u8 b.toNat, .int .u8 c.toNat]
def kl (a b c : UInt8) : Lit := .string (keyBytes [.int .u8 a.toNat, .int .u8 b.toNat, .int .u8 c.toNat])
theorem wf8 (a : UInt8) : (Lit.int .u8 (a.toNat : Int)).wf = true := by
  have := a.toNat_lt
  simp [Lit.wf, IntKind.min, IntKind.max, IntKind.signed, IntKind.bits]
  omega
theorem key_kv (a b c : UInt8) : keyOf Try.prog T3 (kv a b c) = some (kl a b c) := by
  have hkt := arr3.keyType sizes
  obtain ⟨m, hm⟩ := sizes
  unfold keyOf kv kl
  simp only [arr3.hu]
  rw [if_pos (by simp [hkt, Value.formed, arr3.hu, arr3.size]), hm]
  unfold Program.keyLits
  simp only [arr3.hu, Value.cells]
  rw [if_pos (by rw [arr3.size]; rfl), show List.range 3 = [0, 1, 2] from rfl, List.mapM_cons, List.mapM_cons, List.mapM_cons, List.mapM_nil]
  simp [arr3.one, Program.keyLits, Try.underlying5, wf8]
theorem kl_inj {a b c x y z : UInt8} (h : kl a b c = kl x y z) : a = x ∧ b = y ∧ c = z := by
  have h1 := key_kv a b c
  have h2 := key_kv x y z
  rw [← h] at h2
  have := law3.inj h1 h2
  unfold kv at this
  simp at this
  exact ⟨UInt8.toNat_inj.1 (by omega), UInt8.toNat_inj.1 (by omega), UInt8.toNat_inj.1 (by omega)⟩

def itemsD : DataW Unit → List (DataW Unit)
  | .slice xs _ => xs
  | _ => []
def nums (l : List Nat) : List Int := l.map Int.ofNat
/-- Block mb is the map of all places, its rows are blocks of which R holds. -/
def Grp (w : World) (mb : Nat) (R : Nat → Prop) (n : Nat) (G : UInt8 → UInt8 → UInt8 → List Nat) : Prop :=
  ∃ D : DataW Unit, w.ownsGroups Try.prog T3 (mb + 1) TI .i64 mb n D ∧ IsMap D ∧ w.Shuns mb (fun g => ¬ R g) ∧ ∀ a b c, itemsD (D.atKey (kl a b c) .nil) = lits .i64 (nums (G a b c))
theorem lits_inj {a b : List Int} (h : (lits .i64 a : List (DataW Unit)) = lits .i64 b) : a = b := by
  unfold lits at h
  exact (List.map_inj_right (fun x y hxy => by simpa using hxy)).1 h
theorem items_row {w : World} {base : Nat} {v : Value} {zs : List Int} (h : w.ownsInts base TI .i64 v zs) : itemsD (rowDatum .i64 v zs) = lits .i64 zs := by
  rcases h.datum (H := Unit) with ⟨e1, rfl⟩ | e1
  · rw [e1]; rfl
  · rw [e1]; rfl
def putG (G : UInt8 → UInt8 → UInt8 → List Nat) (a b c : UInt8) (u : Nat) : UInt8 → UInt8 → UInt8 → List Nat := fun x y z => if x = a ∧ y = b ∧ z = c then G a b c ++ [u] else G x y z

theorem Grp.stay {w w' : World} {mb n : Nat} {R : Nat → Prop} {G : UInt8 → UInt8 → UInt8 → List Nat} (h : Grp w mb R n G) (hb : w'.heap[mb]? = w.heap[mb]?) (hr : ∀ g, R g → w'.heap[g]? = w.heap[g]?) : Grp w' mb R n G := by
  obtain ⟨D, h1, h2, h3, h4⟩ := h
  obtain ⟨r1, r2⟩ := groups_stay h1 h3 hb hr
  exact ⟨D, r1, h2, r2, h4⟩
theorem Grp.lt {w : World} {mb n : Nat} {R : Nat → Prop} {G : UInt8 → UInt8 → UInt8 → List Nat} (h : Grp w mb R n G) : mb < w.heap.size := by
  obtain ⟨D, ⟨es, clock, hb, _⟩, _⟩ := h
  exact (Array.getElem?_eq_some_iff.1 hb).1
theorem Grp.more {w : World} {mb n m : Nat} {R : Nat → Prop} {G : UInt8 → UInt8 → UInt8 → List Nat} (h : Grp w mb R n G) (hm : n ≤ m) : Grp w mb R m G := by
  obtain ⟨D, ⟨es, clock, hb, F, hs, hD, hbb, hlen, hap⟩, h2, h3, h4⟩ := h
  exact ⟨D, ⟨es, clock, hb, F, Nat.le_trans hs hm, hD, hbb, fun x hx zs ho => Nat.le_trans (hlen x hx zs ho) hm, hap⟩, h2, h3, h4⟩
theorem Grp.made (w : World) (R : Nat → Prop) : Grp (w.alloc (.map #[] 0)) w.heap.size R 0 (fun _ _ _ => []) :=
  ⟨.map [], World.ownsGroups_made w _ _ _ _, ⟨[], rfl⟩, World.Shuns_made w _, fun a b c => rfl⟩

theorem nums_len (l : List Nat) : (nums l).length = l.length := by simp [nums]
/-- m[k] -/
theorem Grp.look {w : World} {mb n : Nat} {R : Nat → Prop} {G : UInt8 → UInt8 → UInt8 → List Nat} (h : Grp w mb R n G) (hn : n < maxLen) (a b c : UInt8) :
    ∃ v, (Instr.lookup TM (.map (some mb)) (kv a b c) false).run Try.prog w = .ok v w ∧ w.ownsRow (mb + 1) TI 1 v (G a b c).length ((nums (G a b c)).map (Value.int .i64)) ∧ ∀ g, v.ownBlock = some g → R g := by
  obtain ⟨D, h1, h2, h3, h4⟩ := h
  obtain ⟨v, zs, hrun, hat, ho, hz, _⟩ := h1.at (Keyed.of_law law3) Try.underlying45 (zeroRow w) hn (key_kv a b c)
  have hsh : ∀ g, v.ownBlock = some g → R g := by
    obtain ⟨es, clock, hb, F, _⟩ := h1
    rcases Maps.fit_look false (Keyed.of_law law3) Try.underlying45 (zeroRow w) hb F (key_kv a b c) with ⟨hrun', _, _⟩ | ⟨e0, y, hm0, _, hrun', _, _, _⟩
    · rw [hrun] at hrun'
      obtain rfl : v = .slice none 0 0 := by simpa using hrun'
      intro g hg'
      cases hg'
    · rw [hrun] at hrun'
      obtain rfl : v = e0.val := by simpa using hrun'
      exact fun g hg' => Classical.byContradiction (h3 es clock hb e0 hm0 g hg')
  have h5 := h4 a b c
  rw [hat, items_row ho] at h5
  have h6 := lits_inj h5
  subst h6
  refine ⟨v, hrun, ?_, hsh⟩
  have := ho.1
  rwa [nums_len] at this
/-- m[k] = append(m[k], u), k told once. -/
theorem Grp.entry {w : World} {mb n : Nat} {R : Nat → Prop} {G : UInt8 → UInt8 → UInt8 → List Nat} (h : Grp w mb R n G) (hn : n < 1000000) (a b c : UInt8) (u : Nat) (hu : u < 1000000) :
    ∃ v st w1, (Instr.mapEntry TM (.map (some mb)) (kv a b c)).run Try.prog w = .ok (.tuple #[v, goInt st]) w1 ∧ w.grownBy w1 (some mb) ∧ w1.heap.size = w.heap.size ∧ (G a b c).length ≤ n ∧
      w1.ownsRow (mb + 1) TI 1 v (G a b c).length ((nums (G a b c)).map (Value.int .i64)) ∧ (∀ g, v.ownBlock = some g → R g) ∧
      ∀ (w2 : World) (v' : Value), w1.grownBy w2 v.ownBlock → w2.ownsRow (mb + 1) TI 1 v' ((G a b c).length + 1) ((nums (G a b c)).map (Value.int .i64) ++ [.int .i64 u]) →
        (v'.ownBlock = v.ownBlock ∨ ∃ g, v'.ownBlock = some g ∧ w1.heap.size ≤ g) →
        ∃ w3, (Instr.entryStore TM (.map (some mb)) (goInt st) v').run Try.prog w2 = .ok () w3 ∧ w2.grownBy w3 (some mb) ∧ Grp w3 mb (fun g => R g ∨ v'.ownBlock = some g) (n + 1) (putG G a b c u) := by
  obtain ⟨D, h1, h2, h3, h4⟩ := h
  have hbig : n < maxLen := by unfold maxLen; omega
  obtain ⟨v, zs, st, w1, hrun, hg1, hsz, hat, ho, hz, hno, hback⟩ := groups_entry law3 Try.underlying45 zeroRow h1 hbig (key_kv a b c) h3
  have h5 := h4 a b c
  rw [hat, items_row ho] at h5
  have h6 := lits_inj h5
  subst h6
  have ho1 := ho.1
  rw [nums_len] at ho1 hz
  refine ⟨v, st, w1, hrun, hg1, hsz, hz, ho1, fun g hg => Classical.byContradiction (hno g hg), ?_⟩
  intro w2 v' hg2 hown hloc
  -- once more, with the new row in the set
  obtain ⟨v2, zs2, st2, w12, hrun2, _, _, hat2, ho2, _, _, hback2⟩ := groups_entry (No := fun g => ¬ (R g ∨ v'.ownBlock = some g)) law3 Try.underlying45 zeroRow h1 hbig (key_kv a b c) (fun es clock hb x hx g hg hc => h3 es clock hb x hx g hg (fun hr => hc (Or.inl hr)))
  rw [hrun] at hrun2
  have hr2 : (Value.tuple #[v, goInt st]) = .tuple #[v2, goInt st2] ∧ w1 = w12 := by simpa using hrun2
  obtain ⟨hv2, rfl⟩ := hr2
  have hv3 : v = v2 ∧ goInt st = goInt st2 := by simpa using hv2
  obtain ⟨rfl, hst⟩ := hv3
  have hin : w2.ownsInts (mb + 1) TI .i64 v' (nums (G a b c) ++ [(u : Int)]) := by
    refine ho.appended (by rw [nums_len]; exact hown) ?_
    simp [Lit.wf, IntKind.min, IntKind.max, IntKind.signed, IntKind.bits]
    omega
  obtain ⟨w3, r1, r2, r3, r4⟩ := hback2 w2 v' (nums (G a b c) ++ [(u : Int)]) hg2 hin (by simp [nums_len]; omega) hloc (fun g hg hc => hc (Or.inr hg))
  refine ⟨w3, by rw [hst]; exact r1, r4, _, r2, h2.put _ _, r3, fun x y z => ?_⟩
  unfold putG
  by_cases hk : x = a ∧ y = b ∧ z = c
  · obtain ⟨rfl, rfl, rfl⟩ := hk
    rw [Maps.atKey_put_same h2 ((Keyed.of_law law3).key (key_kv x y z)), items_row hin, if_pos ⟨rfl, rfl, rfl⟩]
    simp [nums]
  · rw [if_neg hk, Maps.atKey_put_other (fun he => hk (kl_inj he)), h4]
end Go.Proofs.Ytaoigplmkckieaa
