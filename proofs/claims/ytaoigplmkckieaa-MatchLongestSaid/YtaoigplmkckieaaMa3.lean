/-
  An entry that is written by its stamp, of a map of rows. A part of the proof: see the head of the text that ends in 'Law'.
-/
import Derived.Test.YtaoigplmkckieaaMa2
import Derived.Maps.GroupsBeside
import Derived.WideKeyEntry
import Derived.DeepKeys4
namespace Go.Proofs.Ytaoigplmkckieaa
open Go.RowKit Go.MapKept Go.ChangeShapes
open Go.WideElems (Fit rd rg pl rd_val elemAt entry_then_store atKey_some atKey_none)
open Go.Maps (Keyed)
open Go.WideMaps (KeyLaw)
open Go.ChangeMaps
set_option linter.unusedVariables false

section
variable {H : Type} {P : Program} {k : TypeId} {w : World} {base : Nat} {e : TypeId} {q : IntKind} {b n : Nat} {D : DataW H}

theorem grown_set {u : World} {o o' : Obj} (h : u.heap[b]? = some o) : u.grownBy (setBlock u b o') (some b) :=
  ⟨rfl, rfl, rfl, by simp [setBlock], fun i _ hi => by
    have hb : b < u.heap.size := (Array.getElem?_eq_some_iff.1 h).1
    simp only [setBlock]
    rw [Array.getElem?_setIfInBounds_ne (fun e1 => hi (by rw [e1]))]⟩
theorem ints_ne {u : World} {v : Value} {ys : List Int} (hbb : b < base) (ho : u.ownsInts base e q v ys) : v.ownBlock = none ∨ v.ownBlock ≠ some b := by
  cases hu : v.ownBlock with
  | none => exact Or.inl rfl
  | some g =>
    refine Or.inr (fun e1 => ?_)
    have := (ho.1.lt g hu).1
    cases e1
    omega

theorem groups_entry {t E : TypeId} {key : Value} {kl : Lit} {No : Nat → Prop} (K : KeyLaw P k) (ht : P.underlying t = some (.map k E)) (hz : ∀ u : World, (zeroValue E).run P u = .ok (.slice none 0 0) u)
    (h : w.ownsGroups P k base e q b n D) (hn : n < maxLen) (hkey : keyOf P k key = some kl) (hsh : w.Shuns b No) :
    ∃ v zs st w1, (Instr.mapEntry t (.map (some b)) key).run P w = .ok (.tuple #[v, goInt st]) w1 ∧ w.grownBy w1 (some b) ∧ w1.heap.size = w.heap.size ∧ D.atKey kl .nil = rowDatum q v zs ∧ w1.ownsInts base e q v zs ∧ zs.length ≤ n ∧ (∀ g, v.ownBlock = some g → ¬ No g) ∧
      ∀ (w2 : World) (v' : Value) (zs' : List Int), w1.grownBy w2 v.ownBlock → w2.ownsInts base e q v' zs' → zs'.length ≤ n + 1 → (v'.ownBlock = v.ownBlock ∨ ∃ g, v'.ownBlock = some g ∧ w1.heap.size ≤ g) → (∀ g, v'.ownBlock = some g → ¬ No g) →
        ∃ w3, (Instr.entryStore t (.map (some b)) (goInt st) v').run P w2 = .ok () w3 ∧ w3.ownsGroups P k base e q b (n + 1) (D.put kl (rowDatum q v' zs')) ∧ w3.Shuns b No ∧ w2.grownBy w3 (some b) := by
  obtain ⟨es, clock, hb, F, hs, rfl, hbb, hlen, hap⟩ := h
  have K' := Keyed.of_law K
  obtain ⟨v, st, es1, clock1, hrun, hcase, hstore⟩ := entry_then_store K ht hz hb F hkey
  have hsz : (setBlock w b (.map es1 clock1)).heap.size = w.heap.size := by simp [setBlock]
  have hg1 := grown_set (o' := .map es1 clock1) hb
  have hblt : b < w.heap.size := (Array.getElem?_eq_some_iff.1 hb).1
  have owned : ∀ x ∈ es.toList, ∃ zs, w.ownsInts base e q x.val zs := fun x hx => by
    obtain ⟨y, hy⟩ := F.reads x hx
    obtain ⟨z, hz, _⟩ := rd_val hy
    obtain ⟨zs, ho, _⟩ := rowElem_inv hz
    exact ⟨zs, ho⟩
  -- what is handed over
  have hand : ∃ zs, (DataW.map ((es.toList.map (rg P k (rowElem (H := H) w base e q))).foldr DataW.insert [])).atKey kl .nil = rowDatum q v zs ∧ w.ownsInts base e q v zs ∧ zs.length ≤ n ∧
      (∀ x ∈ es.toList, x.key ≠ key → x.val.ownBlock = none ∨ x.val.ownBlock ≠ v.ownBlock) ∧ v.ownBlock ≠ some b ∧ ∀ g, v.ownBlock = some g → ¬ No g := by
    rcases hcase with ⟨e0, hm0, hk0, rfl⟩ | ⟨hno, rfl⟩
    · obtain ⟨y, hy⟩ := F.reads e0 hm0
      obtain ⟨z, hz, _⟩ := rd_val hy
      obtain ⟨zs, ho, rfl⟩ := rowElem_inv hz
      refine ⟨zs, atKey_some K F hkey hm0 hk0 hz .nil, ho, hlen e0 hm0 zs ho, fun x hx hne => hap x hx e0 hm0 (by rw [hk0]; exact hne), fun e1 => ?_, fun g hg => hsh es clock hb e0 hm0 g hg⟩
      have := (ho.1.lt b e1).1
      omega
    · refine ⟨[], atKey_none K F hkey hno .nil, World.ownsInts_nil _ _ _ _, Nat.zero_le _, fun x _ _ => ?_, by simp [Value.ownBlock], fun g hg => by simp [Value.ownBlock] at hg⟩
      cases x.val.ownBlock <;> simp [Value.ownBlock]
  obtain ⟨zs, hat, ho, hzl, hv, hvb, hvno⟩ := hand
  refine ⟨v, zs, st, _, hrun, hg1, hsz, hat, ho.kept hg1 (ints_ne hbb ho), hzl, hvno, ?_⟩
  intro w2 v' zs' hg hown' hl' hloc hno'
  have hb2 : w2.heap[b]? = some (.map es1 clock1) := (hg.block b (by rw [hsz]; exact hblt) (fun e1 => hvb e1.symm)).trans (heap_setBlock_same hb _)
  have hsame : ∀ i, i < w.heap.size → some i ≠ some b → some i ≠ v.ownBlock → w2.heap[i]? = w.heap[i]? := fun i hi h1 h2 =>
    (hg.block i (by rw [hsz]; exact hi) h2).trans (hg1.block i hi h1)
  have keep2 : ∀ x ∈ es.toList, x.key ≠ key → ∀ zs, w.ownsInts base e q x.val zs → w2.ownsInts base e q x.val zs := fun x hx hne zs ho0 =>
    (ho0.kept hg1 (ints_ne hbb ho0)).kept hg (hv x hx hne)
  have hs1 : ∀ x ∈ es.toList, x.key ≠ key → ∀ z, rowElem (H := H) w base e q x.val = some z → rowElem w2 base e q x.val = some z := by
    intro x hx hne z hz
    obtain ⟨zs, ho0, rfl⟩ := rowElem_inv hz
    exact rowElem_mk (keep2 x hx hne zs ho0)
  obtain ⟨es', clock', hrunU, F', hput, _, _, hwho⟩ := Maps.fit_store (R' := rowElem w2 base e q) K' ht hb F (Nat.lt_of_le_of_lt hs hn) hs1 hkey (rowElem_mk hown')
  obtain ⟨es2, clock2, hrunE, hrunU2⟩ := hstore w2 v' hb2
  obtain ⟨rfl, rfl⟩ : es' = es2 ∧ clock' = clock2 := by
    rw [hrunU] at hrunU2
    have h0 : setBlock w b (.map es' clock') = setBlock w b (.map es2 clock2) := by simpa using hrunU2
    have h1 := heap_setBlock_same hb (.map es' clock')
    rw [h0, heap_setBlock_same hb] at h1
    simp at h1
    exact ⟨h1.1.symm, h1.2.symm⟩
  have hg2 := grown_set (o' := .map es' clock') hb2
  have hs2 : ∀ x ∈ es'.toList, ∀ z, rowElem (H := H) w2 base e q x.val = some z → rowElem (setBlock w2 b (.map es' clock')) base e q x.val = some z := by
    intro x _ z hz
    obtain ⟨ys, ho0, rfl⟩ := rowElem_inv hz
    exact rowElem_mk (ho0.kept hg2 (ints_ne hbb ho0))
  obtain ⟨F2, hmap2, _⟩ := F'.stay hs2
  have old_new : ∀ x ∈ es.toList, x.key ≠ key → x.val.ownBlock = none ∨ x.val.ownBlock ≠ v'.ownBlock := by
    intro x hx hne
    rcases hloc with h1 | ⟨g, h1, h2⟩
    · rw [h1]
      exact hv x hx hne
    · cases hx' : x.val.ownBlock with
      | none => exact Or.inl rfl
      | some gx =>
        obtain ⟨ys, ho0⟩ := owned x hx
        have := (ho0.1.lt gx hx').2
        refine Or.inr (fun e1 => ?_)
        rw [h1] at e1
        cases e1
        omega
  refine ⟨_, hrunE, ⟨es', clock', heap_setBlock_same hb2 _, F2, ?_, ?_, hbb, ?_, ?_⟩, ?_, hg2⟩
  · have e1 : es'.size = ((es'.toList.map (rg P k (rowElem (H := H) w2 base e q))).foldr DataW.insert []).length := by rw [length_sorted]; simp
    rw [e1, hput]
    unfold putKey
    rw [length_insert]
    have e2 := List.length_filter_le (notKey kl) ((es.toList.map (rg P k (rowElem (H := H) w base e q))).foldr DataW.insert [])
    rw [length_sorted] at e2
    simp at e2
    omega
  · rw [hmap2, DataW.put_eq, hput]
  · intro x hx ys ho0
    have back : w2.ownsInts base e q x.val ys := by
      obtain ⟨y, hy⟩ := F'.reads x hx
      obtain ⟨z, hz, _⟩ := rd_val hy
      obtain ⟨ys', ho', _⟩ := rowElem_inv hz
      rw [ho0.unique (ho'.kept hg2 (ints_ne hbb ho'))]
      exact ho'
    rcases hwho x hx with ⟨hx0, hne⟩ | ⟨_, hval⟩
    · obtain ⟨ys0, ho1⟩ := owned x hx0
      have := hlen x hx0 ys0 ho1
      rw [back.unique (keep2 x hx0 hne ys0 ho1)]
      omega
    · rw [hval] at back
      rw [back.unique hown']
      exact hl'
  · intro x hx y hy hne
    rcases hwho x hx with ⟨hx0, hxk⟩ | ⟨hxk, hxv⟩ <;> rcases hwho y hy with ⟨hy0, hyk⟩ | ⟨hyk, hyv⟩
    · exact hap x hx0 y hy0 hne
    · rw [hyv]
      exact old_new x hx0 hxk
    · rw [hxv]
      cases hv' : v'.ownBlock with
      | none => exact Or.inl rfl
      | some g =>
        refine Or.inr (fun e1 => ?_)
        rcases old_new y hy0 hyk with h | h
        · rw [h] at e1
          cases e1
        · exact h (by rw [hv', e1])
    · exact absurd (hxk.trans hyk.symm) hne
  · intro es3 clock3 hb3 x hx g hxg
    rw [heap_setBlock_same hb2] at hb3
    simp at hb3
    obtain ⟨rfl, rfl⟩ := hb3
    rcases hwho x hx with ⟨hx0, _⟩ | ⟨_, hval⟩
    · exact hsh es clock hb x hx0 g hxg
    · exact hno' g (hval ▸ hxg)

/-- The groups stay where neither the map's block nor a row's is touched. -/
theorem groups_stay {w' : World} {R : Nat → Prop} (h : w.ownsGroups P k base e q b n D) (hs : w.Shuns b (fun g => ¬ R g)) (hb : w'.heap[b]? = w.heap[b]?) (hr : ∀ g, R g → w'.heap[g]? = w.heap[g]?) : w'.ownsGroups P k base e q b n D ∧ w'.Shuns b (fun g => ¬ R g) := by
  obtain ⟨es, clock, h0, F, hs', rfl, hbb, hlen, hap⟩ := h
  have same : ∀ x ∈ es.toList, ∀ zs, w.ownsInts base e q x.val zs → w'.ownsInts base e q x.val zs := fun x hx zs ho => by
    obtain ⟨⟨h1, h2⟩, h3⟩ := ho
    refine ⟨⟨h1, ?_⟩, h3⟩
    rcases h2 with h2 | ⟨g, cap, cur, hv, hg, hh, r⟩
    · exact Or.inl h2
    · have hR : R g := Classical.byContradiction fun hn => hs es clock h0 x hx g (by rw [hv]; rfl) hn
      exact Or.inr ⟨g, cap, cur, hv, hg, (hr g hR).trans hh, r⟩
  have hst : ∀ x ∈ es.toList, ∀ z, rowElem (H := H) w base e q x.val = some z → rowElem w' base e q x.val = some z := fun x hx z hz => by
    obtain ⟨zs, ho, rfl⟩ := rowElem_inv hz
    exact rowElem_mk (same x hx zs ho)
  obtain ⟨F1, hmap, _⟩ := F.stay hst
  refine ⟨⟨es, clock, hb.trans h0, F1, hs', by rw [hmap], hbb, fun x hx zs ho => ?_, hap⟩, fun es2 clock2 hb2 x hx g hg => hs es2 clock2 (hb.symm.trans hb2) x hx g hg⟩
  obtain ⟨y, hy⟩ := F.reads x hx
  obtain ⟨z, hz, _⟩ := rd_val hy
  obtain ⟨zs0, ho0, _⟩ := rowElem_inv hz
  rw [ho.unique (same x hx zs0 ho0)]
  exact hlen x hx zs0 ho0
end
end Go.Proofs.Ytaoigplmkckieaa
