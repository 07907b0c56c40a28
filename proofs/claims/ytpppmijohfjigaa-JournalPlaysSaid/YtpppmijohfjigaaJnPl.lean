/-
  What steps do with a disk, and what a cut leaves of it: plain Lean, no program in sight; Recovering, in plain Lean: all or nothing; what a disk has behind it. A part of the proof: see the head of the text that ends in 'Law'.
-/
import Derived.Test.YtpppmijohfjigaaJn18
import Derived.Test.YtpppmijohfjigaaOctText
namespace Go.Proofs.Ytpppmijohfjigaa
section
open Go.RowKit
set_option linter.unusedVariables false
def wrS (ws : List Iss) : List Stp := ws.map fun p => .wr p.1 p.2
/-- The writes of a transaction's octets behind the head. -/
def putI (l : List Iss) : List Iss := (List.range l.length).map fun (i : Nat) => (1 + (i : Int), (l.getD i (0, [])).2)
theorem putS_wr (l : List Iss) : putS l = wrS (putI l) := by
  unfold putS putK wrS putI
  rw [List.map_map]
  rfl
theorem putI_len (l : List Iss) : (putI l).length = l.length := by unfold putI; rw [List.length_map, List.length_range]
theorem putI_get (l : List Iss) (k : Nat) (h : k < l.length) (h2 : k < (putI l).length) : (putI l)[k] = (1 + (k : Int), (l[k]).2) := by
  have e : (putI l)[k]? = some (1 + (k : Int), (l[k]).2) := by
    unfold putI
    rw [List.getElem?_map, List.getElem?_range h, Option.map_some, List.getD_eq_getElem?_getD, List.getElem?_eq_getElem h]
    rfl
  rw [List.getElem?_eq_getElem h2] at e
  exact Option.some.inj e
theorem settle_parts (l : List Iss) : settleS l = (wrS l ++ [.fl]) ++ (wrS [(0, zer)] ++ [.fl]) := by
  unfold settleS homeS tailS wrS
  simp
theorem commit_parts (l : List Iss) : commitS l = (wrS (putI l) ++ [.fl]) ++ ((wrS [(0, headL l)] ++ [.fl]) ++ settleS l) := by
  unfold commitS
  rw [putS_wr]
  simp [wrS]
theorem format_parts : formatS = wrS [(0, zer)] ++ [.fl] := rfl
/-- The power is on, and a budget without end has none yet. -/
structure Cal (D R : Dsk) : Prop where
  off : R.off = false
  bud : D.bud = -1 → R.bud = -1
theorem Cal.trans {A B C : Dsk} (h1 : Cal A B) (h2 : Cal B C) : Cal A C := ⟨h2.off, fun h => h2.bud (h1.bud h)⟩
theorem spend_hs (D : Dsk) : (spendD D).has = D.has := by unfold spendD; split <;> (try split) <;> (try split) <;> rfl
theorem ten_ne : ¬ (10 : Nat) = 0 := by decide
theorem spend_cal {D : Dsk} (h : D.off = false) (ho : onD D = true) : (spendD D).off = false ∧ (D.bud = -1 → (spendD D).bud = -1) := by
  unfold onD at ho
  rw [h] at ho
  have hb : D.bud ≠ 0 := by simpa using ho
  unfold spendD
  rw [if_neg (by rw [h]; simp), if_neg hb]
  split
  · exact ⟨h, fun e => by omega⟩
  · exact ⟨h, fun e => e⟩
theorem off_bud {D : Dsk} (h : D.off = false) (ho : ¬ onD D = true) : D.bud = 0 := by
  unfold onD at ho
  rw [h] at ho
  simpa using ho
theorem wr_run : ∀ (ws : List Iss) (D : Dsk), D.off = false → (∀ p ∈ ws, 0 ≤ p.1 ∧ p.1 < D.has.length) →
    ((runD (wrS ws) D).2 = 0 ∧ Cal D (runD (wrS ws) D).1 ∧ (runD (wrS ws) D).1.has = D.has ∧ (runD (wrS ws) D).1.waits = D.waits ++ ws) ∨
    ((runD (wrS ws) D).2 = 10 ∧ D.bud ≠ -1 ∧ (runD (wrS ws) D).1.has = D.has ∧ ∃ j, (runD (wrS ws) D).1.waits = D.waits ++ ws.take j)
  | [], D, h, _ => .inl ⟨rfl, ⟨h, fun e => e⟩, rfl, by simp [wrS, runD]⟩
  | p :: r, D, h, hi => by
    show ((runD (.wr p.1 p.2 :: wrS r) D).2 = 0 ∧ _) ∨ _
    have e : wrS (p :: r) = .wr p.1 p.2 :: wrS r := rfl
    rw [e]
    have h1 := hi p (List.mem_cons_self ..)
    by_cases ho : onD D = true
    · have hst : stepD D (.wr p.1 p.2) = ({ spendD D with waits := D.waits ++ [(p.1, p.2)] }, 0) := by show writeD D p.1 p.2 = _; unfold writeD; rw [if_pos h1, if_pos ho]
      rw [runD, hst, if_pos rfl]
      have hc := spend_cal h ho
      have ih := wr_run r { spendD D with waits := D.waits ++ [(p.1, p.2)] } hc.1 (fun q hq => by
        show 0 ≤ q.1 ∧ q.1 < (spendD D).has.length
        rw [spend_hs]
        exact hi q (List.mem_cons_of_mem _ hq))
      rcases ih with ⟨a1, a2, a3, a4⟩ | ⟨a1, a2, a3, j, a4⟩
      · exact .inl ⟨a1, ⟨a2.off, fun e => a2.bud (hc.2 e)⟩, a3.trans (spend_hs D), by rw [a4]; simp⟩
      · refine .inr ⟨a1, fun e => a2 (hc.2 e), a3.trans (spend_hs D), j + 1, by rw [a4]; simp⟩
    · have hst : stepD D (.wr p.1 p.2) = (spendD D, 10) := by show writeD D p.1 p.2 = _; unfold writeD; rw [if_pos h1, if_neg ho]
      rw [runD, hst, if_neg (show ¬ (spendD D, 10).2 = 0 from ten_ne)]
      exact .inr ⟨rfl, by rw [off_bud h ho]; decide, spend_hs D, 0, by rw [spend_waits]; simp⟩
/-- Writes that go on from nothing that waits, and a flush. -/
theorem phase (ws : List Iss) (D : Dsk) (h0 : D.off = false) (hw : D.waits = []) (hi : ∀ p ∈ ws, 0 ≤ p.1 ∧ p.1 < D.has.length) :
    ((runD (wrS ws ++ [.fl]) D).2 = 0 ∧ Cal D (runD (wrS ws ++ [.fl]) D).1 ∧ (runD (wrS ws ++ [.fl]) D).1.has = doneK (fun _ => true) ws D.has ws.length ∧ (runD (wrS ws ++ [.fl]) D).1.waits = []) ∨
    ((runD (wrS ws ++ [.fl]) D).2 = 10 ∧ D.bud ≠ -1 ∧ (runD (wrS ws ++ [.fl]) D).1.has = D.has ∧ ∃ j, (runD (wrS ws ++ [.fl]) D).1.waits = ws.take j) := by
  rw [runD_append]
  rcases wr_run ws D h0 hi with ⟨a1, a2, a3, a4⟩ | ⟨a1, a2, a3, j, a4⟩
  · rw [if_pos a1]
    rw [hw, List.nil_append] at a4
    obtain ⟨R, hR⟩ : ∃ R, (runD (wrS ws) D).1 = R := ⟨_, rfl⟩
    rw [hR] at a2 a3 a4 ⊢
    rw [runD]
    by_cases ho : onD R = true
    · have hst : stepD R .fl = ({ spendD R with has := doneK (fun _ => true) R.waits R.has R.waits.length, waits := [] }, 0) := by show flushD R = _; unfold flushD; rw [if_pos ho]
      have hc := spend_cal a2.off ho
      rw [hst, if_pos rfl]
      refine .inl ⟨rfl, ⟨hc.1, fun e => hc.2 (a2.bud e)⟩, ?_, rfl⟩
      show doneK (fun _ => true) R.waits R.has R.waits.length = _
      rw [a3, a4]
    · have hst : stepD R .fl = (spendD R, 10) := by show flushD R = _; unfold flushD; rw [if_neg ho]
      rw [hst, if_neg (show ¬ (spendD R, 10).2 = 0 from ten_ne)]
      exact .inr ⟨rfl, fun e => absurd ((off_bud a2.off ho).symm.trans (a2.bud e)) (by decide), (spend_hs R).trans a3, ws.length, by rw [spend_waits, a4, List.take_length]⟩
  · rw [if_neg (by rw [a1]; decide)]
    rw [hw, List.nil_append] at a4
    exact .inr ⟨a1, a2, a3, j, a4⟩
/-- What every write keeps is kept by what is done of some. -/
theorem done_pred (P : List (List UInt8) → Prop) (hold : Nat → Bool) (ws : List Iss) (H : List (List UInt8)) (hP : P H) (hs : ∀ p ∈ ws, ∀ G, P G → P (G.set p.1.toNat p.2)) : ∀ n, n ≤ ws.length → P (doneK hold ws H n)
  | 0, _ => hP
  | n + 1, hn => by
    have ih := done_pred P hold ws H hP hs n (by omega)
    unfold doneK
    split
    · rw [List.getD_eq_getElem?_getD, List.getElem?_eq_getElem hn, Option.getD_some]
      exact hs _ (List.getElem_mem hn) _ ih
    · exact ih
theorem set_getD (H : List (List UInt8)) (j : Nat) (s : List UInt8) (i : Nat) (hi : i < H.length) : (H.set j s).getD i [] = if j = i then s else H.getD i [] := by
  rw [List.getD_eq_getElem?_getD, List.getD_eq_getElem?_getD]
  split
  · rename_i e
    subst e
    rw [List.getElem?_set_self hi, Option.getD_some]
  · rename_i e
    rw [List.getElem?_set_ne e]
theorem last_fold (i : Nat) : ∀ (ws : List Iss) (a : Option (List UInt8)),
    (ws.foldl (fun a p => if p.1 = (i : Int) then some p.2 else a) a = a ∧ ∀ p ∈ ws, p.1 ≠ (i : Int)) ∨ (∃ p ∈ ws, p.1 = (i : Int) ∧ ws.foldl (fun a p => if p.1 = (i : Int) then some p.2 else a) a = some p.2)
  | [], a => .inl ⟨rfl, fun p hp => by cases hp⟩
  | q :: r, a => by
    rw [List.foldl_cons]
    by_cases e : q.1 = (i : Int)
    · rw [if_pos e]
      rcases last_fold i r (some q.2) with ⟨h1, h2⟩ | ⟨p, h1, h2, h3⟩
      · exact .inr ⟨q, List.mem_cons_self .., e, h1⟩
      · exact .inr ⟨p, List.mem_cons_of_mem _ h1, h2, h3⟩
    · rw [if_neg e]
      rcases last_fold i r a with ⟨h1, h2⟩ | ⟨p, h1, h2, h3⟩
      · refine .inl ⟨h1, fun p hp => ?_⟩
        rcases List.mem_cons.1 hp with rfl | hp
        · exact e
        · exact h2 p hp
      · exact .inr ⟨p, List.mem_cons_of_mem _ h1, h2, h3⟩
theorem last_or (ws : List Iss) (i : Nat) : (lastD ws i = none ∧ ∀ p ∈ ws, p.1 ≠ (i : Int)) ∨ (∃ p ∈ ws, p.1 = (i : Int) ∧ lastD ws i = some p.2) := last_fold i ws none
theorem pw_uniq : ∀ {l : List Iss}, (l.Pairwise fun p q => p.1 ≠ q.1) → ∀ p ∈ l, ∀ q ∈ l, p.1 = q.1 → p = q
  | [], _, p, hp, _, _, _ => by cases hp
  | a :: r, h, p, hp, q, hq, e => by
    rw [List.pairwise_cons] at h
    rcases List.mem_cons.1 hp with rfl | hp'
    · rcases List.mem_cons.1 hq with rfl | hq'
      · rfl
      · exact absurd e (h.1 q hq')
    · rcases List.mem_cons.1 hq with rfl | hq'
      · exact absurd e.symm (h.1 p hp')
      · exact pw_uniq h.2 p hp' q hq' e
theorem last_mem {l : List Iss} {z : Int} (hM : MayJ l z) {p : Iss} (hp : p ∈ l) {i : Nat} (e : p.1 = (i : Int)) : lastD l i = some p.2 := by
  rcases last_or l i with ⟨h1, h2⟩ | ⟨q, h1, h2, h3⟩
  · exact absurd e (h2 p hp)
  · rw [h3, pw_uniq hM.dif q h1 p hp (h2.trans e.symm)]
/-- What home has when all of a transaction is written. -/
def newO (l : List Iss) (was : Nat → List UInt8) (i : Nat) : List UInt8 := (lastD l i).getD (was i)
structure OldS (N : Nat) (was : Nat → List UInt8) (H : List (List UInt8)) : Prop where
  len : H.length = N
  hd : H.getD 0 [] = zer
  home : ∀ i, 41 ≤ i → i < N → H.getD i [] = was i
structure MidS (N : Nat) (was : Nat → List UInt8) (l : List Iss) (H : List (List UInt8)) : Prop where
  len : H.length = N
  hd : H.getD 0 [] = headL l
  put : ∀ k (hk : k < l.length), H.getD (1 + k) [] = (l[k]).2
  home : ∀ i, 41 ≤ i → i < N → H.getD i [] = was i ∨ H.getD i [] = newO l was i
def JP (N : Nat) (was : Nat → List UInt8) (l : List Iss) (H : List (List UInt8)) : Prop := OldS N was H ∨ MidS N was l H ∨ OldS N (newO l was) H
/-- Whatever a cut keeps, it is so. -/
def Bad (P : List (List UInt8) → Prop) (R : Dsk) : Prop := ∀ hold, P (doneK hold R.waits R.has R.waits.length)
theorem Bad.mono {P Q : List (List UInt8) → Prop} {R : Dsk} (h : Bad P R) (hq : ∀ H, P H → Q H) : Bad Q R := fun hold => hq _ (h hold)
theorem phase_pred (P : List (List UInt8) → Prop) (ws : List Iss) (D : Dsk) (h0 : D.off = false) (hw : D.waits = []) (hi : ∀ p ∈ ws, 0 ≤ p.1 ∧ p.1 < D.has.length) (hP : P D.has) (hs : ∀ p ∈ ws, ∀ G, P G → P (G.set p.1.toNat p.2)) :
    ((runD (wrS ws ++ [.fl]) D).2 = 0 ∧ Cal D (runD (wrS ws ++ [.fl]) D).1 ∧ (runD (wrS ws ++ [.fl]) D).1.has = doneK (fun _ => true) ws D.has ws.length ∧ (runD (wrS ws ++ [.fl]) D).1.waits = [] ∧ P (runD (wrS ws ++ [.fl]) D).1.has) ∨
    ((runD (wrS ws ++ [.fl]) D).2 = 10 ∧ D.bud ≠ -1 ∧ Bad P (runD (wrS ws ++ [.fl]) D).1) := by
  rcases phase ws D h0 hw hi with ⟨a1, a2, a3, a4⟩ | ⟨a1, a2, a3, j, a4⟩
  · exact .inl ⟨a1, a2, a3, a4, by rw [a3]; exact done_pred P _ ws D.has hP hs _ (Nat.le_refl _)⟩
  · refine .inr ⟨a1, a2, fun hold => ?_⟩
    rw [a3, a4]
    exact done_pred P hold _ D.has hP (fun p hp => hs p (List.mem_of_mem_take hp)) _ (Nat.le_refl _)
/-- All of it is done: what a sector has then. -/
theorem all_last (ws : List Iss) (H : List (List UInt8)) (i : Nat) (hi : i < H.length) (hw : ∀ p ∈ ws, 0 ≤ p.1) : (doneK (fun _ => true) ws H ws.length).getD i [] = (lastD ws i).getD (H.getD i []) := by
  have := done_last ws H i hi hw ws.length (Nat.le_refl _)
  rwa [List.take_length] at this
theorem mid_set {N : Nat} {was : Nat → List UInt8} {l : List Iss} (hM : MayJ l (N : Int)) {p : Iss} (hp : p ∈ l) (G : List (List UInt8)) (h : MidS N was l G) : MidS N was l (G.set p.1.toNat p.2) := by
  obtain ⟨b1, b2, b3⟩ := hM.one p hp
  have hl := hM.l40
  refine ⟨by rw [List.length_set]; exact h.len, ?_, fun k hk => ?_, fun i h1 h2 => ?_⟩
  · rw [set_getD _ _ _ _ (by rw [h.len]; omega), if_neg (by omega)]; exact h.hd
  · rw [set_getD _ _ _ _ (by rw [h.len]; omega), if_neg (by omega)]; exact h.put k hk
  · rw [set_getD _ _ _ _ (by rw [h.len]; omega)]
    split
    · rename_i e
      right
      unfold newO
      rw [last_mem hM hp (show p.1 = (i : Int) by omega)]
      rfl
    · exact h.home i h1 h2
/-- Settling, from where the head stands on. -/
theorem settle_run {N : Nat} {was : Nat → List UInt8} {l : List Iss} (hM : MayJ l (N : Int)) (D : Dsk) (h0 : D.off = false) (hw : D.waits = []) (h : MidS N was l D.has) (hN : 41 < N) :
    ((runD (settleS l) D).2 = 0 ∧ Cal D (runD (settleS l) D).1 ∧ (runD (settleS l) D).1.waits = [] ∧ OldS N (newO l was) (runD (settleS l) D).1.has) ∨
    ((runD (settleS l) D).2 = 10 ∧ D.bud ≠ -1 ∧ Bad (JP N was l) (runD (settleS l) D).1) := by
  rw [settle_parts, runD_append]
  rcases phase_pred (MidS N was l) l D h0 hw (fun p hp => by have := hM.one p hp; rw [h.len]; omega) h (fun p hp G hG => mid_set hM hp G hG) with ⟨a1, a2, a3, a4, a5⟩ | ⟨a1, a2, a3⟩
  · rw [if_pos a1]
    obtain ⟨R, hR⟩ : ∃ R, (runD (wrS l ++ [.fl]) D).1 = R := ⟨_, rfl⟩
    rw [hR] at a2 a3 a4 a5 ⊢
    have hfull : ∀ i, 41 ≤ i → i < N → R.has.getD i [] = newO l was i := fun i h1 h2 => by
      rw [a3, all_last l D.has i (by rw [h.len]; exact h2) (fun p hp => by have := hM.one p hp; omega)]
      rcases h.home i h1 h2 with e | e
      · rw [e]; rfl
      · rcases last_or l i with ⟨q1, q2⟩ | ⟨q, q1, q2, q3⟩
        · rw [q1, Option.getD_none, e]
        · unfold newO; rw [q3]; rfl
    have hz : ∀ G, MidS N was l G → (∀ i, 41 ≤ i → i < N → G.getD i [] = newO l was i) → OldS N (newO l was) (G.set 0 zer) := fun G g1 g2 =>
      ⟨by rw [List.length_set]; exact g1.len, by rw [set_getD _ _ _ _ (by rw [g1.len]; omega), if_pos rfl], fun i h1 h2 => by rw [set_getD _ _ _ _ (by rw [g1.len]; exact h2), if_neg (by omega)]; exact g2 i h1 h2⟩
    rcases phase [(0, zer)] R a2.off a4 (fun p hp => by rw [List.mem_singleton.1 hp, a5.len]; omega) with ⟨c1, c2, c3, c4⟩ | ⟨c1, c2, c3, j, c4⟩
    · refine .inl ⟨c1, a2.trans c2, c4, ?_⟩
      rw [c3]
      exact hz _ a5 hfull
    · refine .inr ⟨c1, fun e => c2 (a2.bud e), fun hold => ?_⟩
      rw [c3, c4]
      refine done_pred (fun G => (MidS N was l G ∧ ∀ i, 41 ≤ i → i < N → G.getD i [] = newO l was i) ∨ OldS N (newO l was) G) hold _ R.has (.inl ⟨a5, hfull⟩) (fun p hp G hG => ?_) _ (Nat.le_refl _) |> fun hh => hh.elim (fun q => .inr (.inl q.1)) (fun q => .inr (.inr q))
      rw [List.mem_singleton.1 (List.mem_of_mem_take hp)]
      rcases hG with ⟨g1, g2⟩ | hG
      · exact .inr (hz G g1 g2)
      · exact .inr ⟨by rw [List.length_set]; exact hG.len, by rw [show ((0 : Int), zer).1.toNat = 0 from rfl, set_getD _ _ _ _ (by rw [hG.len]; omega), if_pos rfl], fun i h1 h2 => by rw [show ((0 : Int), zer).1.toNat = 0 from rfl, set_getD _ _ _ _ (by rw [hG.len]; exact h2), if_neg (by omega)]; exact hG.home i h1 h2⟩
  · rw [if_neg (by rw [a1]; decide)]
    exact .inr ⟨a1, a2, a3.mono fun H hH => .inr (.inl hH)⟩
/-- Committing, from nothing that waits: all, or after any cut one of three. -/
theorem commit_run {N : Nat} {was : Nat → List UInt8} {l : List Iss} (hM : MayJ l (N : Int)) (D : Dsk) (h0 : D.off = false) (hw : D.waits = []) (h : OldS N was D.has) (hN : 41 < N) :
    ((runD (commitS l) D).2 = 0 ∧ Cal D (runD (commitS l) D).1 ∧ (runD (commitS l) D).1.waits = [] ∧ OldS N (newO l was) (runD (commitS l) D).1.has) ∨
    ((runD (commitS l) D).2 = 10 ∧ D.bud ≠ -1 ∧ Bad (JP N was l) (runD (commitS l) D).1) := by
  have hl := hM.l40
  have hpi : ∀ p ∈ putI l, 1 ≤ p.1 ∧ p.1 ≤ l.length := fun p hp => by
    obtain ⟨k, hk, rfl⟩ := List.getElem_of_mem hp
    have hk2 : k < l.length := by rw [← putI_len]; exact hk
    rw [putI_get l k hk2 hk]
    dsimp only
    omega
  rw [commit_parts, runD_append]
  rcases phase_pred (OldS N was) (putI l) D h0 hw (fun p hp => by have := hpi p hp; rw [h.len]; omega) h (fun p hp G hG => by
    have := hpi p hp
    exact ⟨by rw [List.length_set]; exact hG.len, by rw [set_getD _ _ _ _ (by rw [hG.len]; omega), if_neg (by omega)]; exact hG.hd, fun i h1 h2 => by rw [set_getD _ _ _ _ (by rw [hG.len]; exact h2), if_neg (by omega)]; exact hG.home i h1 h2⟩) with ⟨a1, a2, a3, a4, a5⟩ | ⟨a1, a2, a3⟩
  · rw [if_pos a1]
    obtain ⟨R, hR⟩ : ∃ R, (runD (wrS (putI l) ++ [.fl]) D).1 = R := ⟨_, rfl⟩
    rw [hR] at a2 a3 a4 a5 ⊢
    have hput : ∀ k (hk : k < l.length), R.has.getD (1 + k) [] = (l[k]).2 := fun k hk => by
      rw [a3, all_last (putI l) D.has (1 + k) (by rw [h.len]; omega) (fun p hp => by have := hpi p hp; omega)]
      have hk2 : k < (putI l).length := by rw [putI_len]; exact hk
      rcases last_or (putI l) (1 + k) with ⟨q1, q2⟩ | ⟨q, q1, q2, q3⟩
      · have := q2 _ (List.getElem_mem hk2)
        rw [putI_get l k hk hk2] at this
        exact absurd (by dsimp only; omega) this
      · obtain ⟨j, hj, rfl⟩ := List.getElem_of_mem q1
        have hj2 : j < l.length := by rw [← putI_len]; exact hj
        rw [putI_get l j hj2 hj] at q2 q3
        dsimp only at q2 q3
        have : j = k := by omega
        subst this
        rw [q3]
        rfl
    have hz : ∀ G, OldS N was G → (∀ k (hk : k < l.length), G.getD (1 + k) [] = (l[k]).2) → MidS N was l (G.set 0 (headL l)) := fun G g1 g2 =>
      ⟨by rw [List.length_set]; exact g1.len, by rw [set_getD _ _ _ _ (by rw [g1.len]; omega), if_pos rfl], fun k hk => by rw [set_getD _ _ _ _ (by rw [g1.len]; omega), if_neg (by omega)]; exact g2 k hk, fun i h1 h2 => by rw [set_getD _ _ _ _ (by rw [g1.len]; exact h2), if_neg (by omega)]; exact .inl (g1.home i h1 h2)⟩
    rw [runD_append]
    rcases phase [(0, headL l)] R a2.off a4 (fun p hp => by rw [List.mem_singleton.1 hp, a5.len]; omega) with ⟨c1, c2, c3, c4⟩ | ⟨c1, c2, c3, j, c4⟩
    · rw [if_pos c1]
      obtain ⟨Q, hQ⟩ : ∃ Q, (runD (wrS [(0, headL l)] ++ [.fl]) R).1 = Q := ⟨_, rfl⟩
      rw [hQ] at c2 c3 c4 ⊢
      have hm : MidS N was l Q.has := by rw [c3]; exact hz _ a5 hput
      rcases settle_run hM Q c2.off c4 hm hN with ⟨e1, e2, e3, e4⟩ | ⟨e1, e2, e3⟩
      · exact .inl ⟨e1, a2.trans (c2.trans e2), e3, e4⟩
      · exact .inr ⟨e1, fun e => e2 (c2.bud (a2.bud e)), e3⟩
    · rw [if_neg (by rw [c1]; decide)]
      refine .inr ⟨c1, fun e => c2 (a2.bud e), fun hold => ?_⟩
      rw [c3, c4]
      refine done_pred (fun G => (OldS N was G ∧ ∀ k (hk : k < l.length), G.getD (1 + k) [] = (l[k]).2) ∨ MidS N was l G) hold _ R.has (.inl ⟨a5, hput⟩) (fun p hp G hG => ?_) _ (Nat.le_refl _) |> fun hh => hh.elim (fun q => .inl q.1) (fun q => .inr (.inl q))
      rw [List.mem_singleton.1 (List.mem_of_mem_take hp)]
      rcases hG with ⟨g1, g2⟩ | hG
      · exact .inr (hz G g1 g2)
      · refine .inr ⟨by rw [List.length_set]; exact hG.len, ?_, fun k hk => ?_, fun i h1 h2 => ?_⟩
        · rw [show ((0 : Int), headL l).1.toNat = 0 from rfl, set_getD _ _ _ _ (by rw [hG.len]; omega), if_pos rfl]
        · rw [show ((0 : Int), headL l).1.toNat = 0 from rfl, set_getD _ _ _ _ (by rw [hG.len]; omega), if_neg (by omega)]; exact hG.put k hk
        · rw [show ((0 : Int), headL l).1.toNat = 0 from rfl, set_getD _ _ _ _ (by rw [hG.len]; exact h2), if_neg (by omega)]; exact hG.home i h1 h2
  · rw [if_neg (by rw [a1]; decide)]
    exact .inr ⟨a1, a2, a3.mono fun H hH => .inl hH⟩
end
section
open Go.RowKit
set_option linter.unusedVariables false
theorem cut_mid (a b c : List UInt8) : cutL (a ++ (b ++ c)) a.length b.length = b := by simp [cutL]
theorem cnt_head (l : List Iss) (h : l.length ≤ 40) : cntJ (headL l) = l.length := by
  have e : headL l = putL 1785491060 4 ++ (putL l.length 2 ++ (putL (sumJ l) 4 ++ atsJ l ++ le4 (sumL (headB l)) ++ List.replicate (128 - (headB l ++ le4 (sumL (headB l))).length) 0)) := by
    unfold headL padJ
    rw [show headB l = putL 1785491060 4 ++ putL l.length 2 ++ putL (sumJ l) 4 ++ atsJ l from rfl]
    simp only [List.append_assoc]
  unfold cntJ
  have := cut_mid (putL 1785491060 4) (putL l.length 2) (putL (sumJ l) 4 ++ atsJ l ++ le4 (sumL (headB l)) ++ List.replicate (128 - (headB l ++ le4 (sumL (headB l))).length) 0)
  rw [← e, putL_length, putL_length] at this
  rw [this]
  exact valL_put _ _ (Nat.div_eq_of_lt (by omega))
theorem at_head (l : List Iss) (i : Nat) (hi : i < l.length) (h0 : 0 ≤ (l[i]).1) (h1 : (l[i]).1 < 65536) : ((valL (cutL (headL l) (10 + 2 * i) 2) : Nat) : Int) = (l[i]).1 := by
  have ea : atsJ l = atsJ (l.take i) ++ (putL (l[i]).1.toNat 2 ++ atsJ (l.drop (i + 1))) := by
    conv => lhs; rw [← List.take_append_drop (i + 1) l]
    unfold atsJ
    rw [List.flatMap_append, List.take_succ_eq_append_getElem hi, List.flatMap_append]
    simp
  have e : headL l = (preJ l ++ atsJ (l.take i)) ++ (putL (l[i]).1.toNat 2 ++ (atsJ (l.drop (i + 1)) ++ le4 (sumL (headB l)) ++ List.replicate (128 - (headB l ++ le4 (sumL (headB l))).length) 0)) := by
    unfold headL padJ
    rw [show headB l = preJ l ++ atsJ l from rfl]
    conv => lhs; rw [show (preJ l ++ atsJ l ++ le4 (sumL (preJ l ++ atsJ l))) = preJ l ++ (atsJ (l.take i) ++ (putL (l[i]).1.toNat 2 ++ atsJ (l.drop (i + 1)))) ++ le4 (sumL (preJ l ++ atsJ l)) by rw [← ea]]
    simp only [List.append_assoc, ea]
  have hl : (preJ l ++ atsJ (l.take i)).length = 10 + 2 * i := by rw [List.length_append, preJ_len, atsJ_len, List.length_take]; omega
  have := cut_mid (preJ l ++ atsJ (l.take i)) (putL (l[i]).1.toNat 2) (atsJ (l.drop (i + 1)) ++ le4 (sumL (headB l)) ++ List.replicate (128 - (headB l ++ le4 (sumL (headB l))).length) 0)
  rw [← e, hl, putL_length] at this
  rw [this, valL_put _ _ (Nat.div_eq_of_lt (by omega))]
  omega
theorem read_q {D : Dsk} (hw : D.waits = []) (i : Nat) : readD D i = D.has.getD i [] := by
  unfold readD
  rw [hw]
  rfl
/-- A disk whose head stands tells its transaction. -/
theorem told_mid {N : Nat} {was : Nat → List UInt8} {l : List Iss} (hm : mayJ l (N : Int) = true) (hN : N ≤ 2048) (D : Dsk) (hw : D.waits = []) (h : MidS N was l D.has) : toldD D = some l := by
  have hM := mayJ_true hm
  have h1 := hM.l1
  have h40 := hM.l40
  have eh : readD D 0 = headL l := (read_q hw 0).trans h.hd
  have ec : cntJ (readD D 0) = l.length := by rw [eh]; exact cnt_head l h40
  have et : tellK D (readD D 0) l.length = l := by
    apply List.ext_getElem
    · exact tellK_len D _ _
    · intro k k1 k2
      have e : (tellK D (readD D 0) l.length)[k]? = some l[k] := by
        unfold tellK
        rw [List.getElem?_map, List.getElem?_range k2, Option.map_some, eh]
        unfold entJ
        have hk := hM.one _ (List.getElem_mem k2)
        rw [at_head l k k2 (by omega) (by omega), read_q hw, h.put k k2]
      rw [List.getElem?_eq_getElem k1] at e
      exact Option.some.inj e
  unfold toldD
  rw [ec, et, if_neg (by omega), if_pos ⟨by rw [h.len]; exact hm, eh.symm⟩]
theorem cnt_zer : cntJ zer = 0 := by decide +kernel
theorem told_zer {D : Dsk} (hw : D.waits = []) (h : D.has.getD 0 [] = zer) : toldD D = none := by
  unfold toldD
  rw [read_q hw, h, cnt_zer, if_pos (.inl (by omega))]
theorem rec_zer {D : Dsk} (hw : D.waits = []) (h0 : D.off = false) (h41 : 41 < D.has.length) (h : D.has.getD 0 [] = zer) : recoverD D = (D, 0, 0) := by
  unfold recoverD
  rw [if_neg (by omega), if_neg (by rw [h0]; simp), told_zer hw h]
  dsimp only
  rw [if_pos (by rw [read_q hw, h])]
theorem rec_some {D : Dsk} {l : List Iss} (h0 : D.off = false) (h41 : 41 < D.has.length) (h : toldD D = some l) : recoverD D = ((runD (settleS l) D).1, (if (runD (settleS l) D).2 = 0 then l.length else 0), (runD (settleS l) D).2) := by
  unfold recoverD
  rw [if_neg (by omega), if_neg (by rw [h0]; simp), h]
/-- What a disk has from a commit on; ok: it was answered OK. -/
def JQ (ok : Bool) (N : Nat) (was : Nat → List UInt8) (l : List Iss) (H : List (List UInt8)) : Prop := if ok = true then OldS N (newO l was) H else JP N was l H
theorem bad_now {P : List (List UInt8) → Prop} {D : Dsk} (h : Bad P D) : P D.has := by
  have := h (fun _ => false)
  have e : ∀ n, doneK (fun _ => false) D.waits D.has n = D.has := by
    intro n
    induction n with
    | zero => rfl
    | succ n ih => unfold doneK; rw [if_neg (by simp), ih]
  rwa [e] at this
theorem bad_q {P : List (List UInt8) → Prop} {D : Dsk} (hw : D.waits = []) (h : P D.has) : Bad P D := fun hold => by rw [hw]; exact h
theorem bad_cut {P : List (List UInt8) → Prop} {D : Dsk} (h : Bad P D) (ks : List Bool) : Bad P (cutD D ks) := bad_q rfl (h _)
theorem bad_on {P : List (List UInt8) → Prop} {D : Dsk} (h : Bad P D) : Bad P (onD' D) := bad_q rfl (show P D.has from bad_now h)
theorem jq_len {ok : Bool} {N : Nat} {was : Nat → List UInt8} {l : List Iss} {H : List (List UInt8)} (h : JQ ok N was l H) : H.length = N := by
  unfold JQ at h
  split at h
  · exact h.len
  · rcases h with h | h | h
    · exact h.len
    · exact h.len
    · exact h.len
theorem commit_safe {N : Nat} {was : Nat → List UInt8} {l : List Iss} (hm : mayJ l (N : Int) = true) (D : Dsk) (h0 : D.off = false) (hw : D.waits = []) (h : OldS N was D.has) (hN : 41 < N) :
    ((commitD D l).2 = 0 ∨ (commitD D l).2 = 10) ∧ Bad (JQ (decide ((commitD D l).2 = 0)) N was l) (commitD D l).1 ∧ (D.bud = -1 → (commitD D l).2 = 0) ∧
    ((commitD D l).2 = 0 → Cal D (commitD D l).1 ∧ (commitD D l).1.waits = [] ∧ OldS N (newO l was) (commitD D l).1.has) := by
  have e : commitD D l = runD (commitS l) D := by
    unfold commitD
    rw [if_neg]
    rintro (e | e)
    · rw [h.len] at e; omega
    · rw [h.len, hm] at e; cases e
  rw [e]
  rcases commit_run (mayJ_true hm) D h0 hw h hN with ⟨a1, a2, a3, a4⟩ | ⟨a1, a2, a3⟩
  · rw [a1]
    exact ⟨.inl rfl, bad_q a3 (by unfold JQ; rw [if_pos (by decide)]; exact a4), fun _ => rfl, fun _ => ⟨a2, a3, a4⟩⟩
  · rw [a1]
    exact ⟨.inr rfl, a3.mono fun H hH => by unfold JQ; rw [if_neg (by decide)]; exact hH, fun e => absurd e a2, fun e => absurd e (by decide)⟩
theorem recover_safe {ok : Bool} {N : Nat} {was : Nat → List UInt8} {l : List Iss} (hm : mayJ l (N : Int) = true) (D : Dsk) (h0 : D.off = false) (hw : D.waits = []) (h : JQ ok N was l D.has) (hN : 41 < N) (hN2 : N ≤ 2048) :
    Bad (JQ ok N was l) (recoverD D).1 ∧ (D.bud = -1 → (recoverD D).2.2 = 0 ∧ (recoverD D).1.waits = [] ∧ (recoverD D).1.off = false ∧ (OldS N (newO l was) (recoverD D).1.has ∨ (ok = false ∧ OldS N was (recoverD D).1.has))) := by
  have hlen := jq_len h
  cases ok with
  | true =>
    have h' : OldS N (newO l was) D.has := h
    rw [rec_zer hw h0 (by omega) h'.hd]
    exact ⟨bad_q hw h, fun _ => ⟨rfl, hw, h0, .inl h'⟩⟩
  | false =>
    rcases (show JP N was l D.has from h) with h' | h' | h'
    · rw [rec_zer hw h0 (by omega) h'.hd]
      exact ⟨bad_q hw h, fun _ => ⟨rfl, hw, h0, .inr ⟨rfl, h'⟩⟩⟩
    · rw [rec_some h0 (by omega) (told_mid hm hN2 D hw h')]
      rcases settle_run (mayJ_true hm) D h0 hw h' hN with ⟨a1, a2, a3, a4⟩ | ⟨a1, a2, a3⟩
      · exact ⟨bad_q a3 (show JP N was l _ from .inr (.inr a4)), fun _ => ⟨a1, a3, a2.off, .inl a4⟩⟩
      · exact ⟨a3, fun e => absurd e a2⟩
    · rw [rec_zer hw h0 (by omega) h'.hd]
      exact ⟨bad_q hw h, fun _ => ⟨rfl, hw, h0, .inl h'⟩⟩
/-- How many of a row are so. -/
def cntP (p : Nat → Bool) : Nat → Nat
  | 0 => 0
  | k + 1 => cntP p k + (if p k = true then 1 else 0)
theorem cnt_less (p : Nat → Bool) (x : Int) : ∀ k, cntP p k ≤ cntP (fun j => p j && !decide ((41 : Int) + j = x)) k + (if ∃ j, j < k ∧ (41 : Int) + j = x then 1 else 0)
  | 0 => Nat.zero_le _
  | k + 1 => by
    have ih := cnt_less p x k
    unfold cntP
    by_cases e : (41 : Int) + k = x
    · rw [if_pos (show ∃ j, j < k + 1 ∧ (41 : Int) + j = x from ⟨k, by omega, e⟩)]
      rw [if_neg (show ¬ ∃ j, j < k ∧ (41 : Int) + j = x by rintro ⟨j, h1, h2⟩; omega)] at ih
      split <;> split <;> omega
    · have hb : (if ∃ j, j < k ∧ (41 : Int) + j = x then 1 else 0) ≤ (if ∃ j, j < k + 1 ∧ (41 : Int) + j = x then 1 else 0) := by
        split
        · rename_i h; obtain ⟨j, h1, h2⟩ := h; rw [if_pos ⟨j, by omega, h2⟩]; exact Nat.le_refl _
        · exact Nat.zero_le _
      rw [decide_eq_false e, Bool.not_false, Bool.and_true]
      omega
theorem cnt_le : ∀ (l : List Iss) (p : Nat → Bool) (k : Nat), (∀ j, j < k → p j = true → ∃ q ∈ l, q.1 = (41 : Int) + j) → cntP p k ≤ l.length
  | [], p, k, h => by
    have : ∀ n, n ≤ k → cntP p n = 0 := by
      intro n
      induction n with
      | zero => intro _; rfl
      | succ n ih =>
        intro hn
        unfold cntP
        rw [ih (by omega), if_neg]
        intro hp
        obtain ⟨q, hq, _⟩ := h n (by omega) hp
        cases hq
    rw [this k (Nat.le_refl _)]
    exact Nat.zero_le _
  | a :: r, p, k, h => by
    have h1 := cnt_less p a.1 k
    have h2 := cnt_le r (fun j => p j && !decide ((41 : Int) + j = a.1)) k (fun j hj hp => by
      simp only [Bool.and_eq_true, Bool.not_eq_true', decide_eq_false_iff_not] at hp
      obtain ⟨q, hq, e⟩ := h j hj hp.1
      rcases List.mem_cons.1 hq with rfl | hq
      · exact absurd e.symm hp.2
      · exact ⟨q, hq, e⟩)
    rw [List.length_cons]
    have h3 : (if ∃ j, j < k ∧ (41 : Int) + j = a.1 then 1 else 0) ≤ 1 := by split <;> omega
    omega
/-- What a disk has behind recovering, whatever its first sectors have. -/
theorem settles_run (N : Nat) (D : Dsk) (h0 : D.off = false) (hw : D.waits = []) (hb : D.bud = -1) (hl : D.has.length = N) (hN : 41 < N) :
    (recoverD D).2.2 = 0 ∧ (recoverD D).1.waits = [] ∧ (recoverD D).1.off = false ∧ (recoverD D).1.has.length = N ∧ (recoverD D).1.has.getD 0 [] = zer ∧ recoverD (recoverD D).1 = ((recoverD D).1, 0, 0) ∧
    ∀ k, k + 41 ≤ N → cntP (fun j => !((recoverD D).1.has.getD (41 + j) [] == D.has.getD (41 + j) [])) k ≤ (recoverD D).2.1 := by
  have fin : ∀ R : Dsk, R.waits = [] → R.off = false → R.has.length = N → R.has.getD 0 [] = zer → recoverD R = (R, 0, 0) := fun R r1 r2 r3 r4 => rec_zer r1 r2 (by omega) r4
  have none_ : ∀ (R : Dsk), (∀ i, 41 ≤ i → i < N → R.has.getD i [] = D.has.getD i []) → ∀ n k : Nat, k + 41 ≤ N → cntP (fun j => !(R.has.getD (41 + j) [] == D.has.getD (41 + j) [])) k ≤ n := fun R hR n k hk =>
    Nat.le_trans (cnt_le [] _ k (fun j hj hp => by rw [hR (41 + j) (by omega) (by omega)] at hp; simp at hp)) (Nat.zero_le _)
  cases ht : toldD D with
  | some l =>
    obtain ⟨t1, t2⟩ := toldD_may ht
    rw [hl] at t1
    have hM := mayJ_true t1
    have hmid : MidS N (fun i => D.has.getD i []) l D.has := by
      refine ⟨hl, by rw [← read_q hw]; exact t2.symm, fun k hk => ?_, fun i _ _ => .inl rfl⟩
      have ht2 := ht
      unfold toldD at ht2
      split at ht2
      · cases ht2
      · split at ht2
        · injection ht2 with ht2
          obtain ⟨c, hc⟩ : ∃ c, cntJ (readD D 0) = c := ⟨_, rfl⟩
          rw [hc] at ht2
          subst ht2
          have hk2 : k < c := by rw [tellK_len] at hk; exact hk
          have e : (tellK D (readD D 0) c)[k]? = some (entJ D (readD D 0) k) := by unfold tellK; rw [List.getElem?_map, List.getElem?_range hk2]; rfl
          rw [List.getElem?_eq_getElem hk] at e
          rw [Option.some.inj e]
          exact (read_q hw (1 + k)).symm
        · cases ht2
    rw [rec_some h0 (by omega) ht]
    rcases settle_run hM D h0 hw hmid hN with ⟨a1, a2, a3, a4⟩ | ⟨a1, a2, a3⟩
    · dsimp only
      refine ⟨a1, a3, a2.off, a4.len, a4.hd, fin _ a3 a2.off a4.len a4.hd, fun k hk => ?_⟩
      rw [if_pos a1]
      refine cnt_le l _ k (fun j hj hp => ?_)
      rw [a4.home (41 + j) (by omega) (by omega)] at hp
      rcases last_or l (41 + j) with ⟨q1, q2⟩ | ⟨q, q1, q2, q3⟩
      · unfold newO at hp
        rw [q1] at hp
        simp at hp
      · exact ⟨q, q1, by rw [q2]; omega⟩
    · exact absurd hb a2
  | none =>
    by_cases hz : readD D 0 = zer
    · have e : recoverD D = (D, 0, 0) := rec_zer hw h0 (by omega) (by rw [← read_q hw]; exact hz)
      rw [e]
      exact ⟨rfl, hw, h0, hl, by rw [← read_q hw]; exact hz, e, none_ D (fun _ _ _ => rfl) 0⟩
    · have e : recoverD D = ((runD formatS D).1, 0, (runD formatS D).2) := by
        unfold recoverD
        rw [if_neg (by omega), if_neg (by rw [h0]; simp), ht]
        dsimp only
        rw [if_neg hz]
      rw [e, format_parts]
      rcases phase [(0, zer)] D h0 hw (fun p hp => by rw [List.mem_singleton.1 hp, hl]; omega) with ⟨c1, c2, c3, c4⟩ | ⟨c1, c2, c3, j, c4⟩
      · have c3' : (runD (wrS [(0, zer)] ++ [.fl]) D).1.has = D.has.set 0 zer := c3
        have c5 : (runD (wrS [(0, zer)] ++ [.fl]) D).1.has.length = N := by rw [c3', List.length_set]; exact hl
        have c6 : (runD (wrS [(0, zer)] ++ [.fl]) D).1.has.getD 0 [] = zer := by rw [c3', set_getD _ _ _ _ (by omega), if_pos rfl]
        exact ⟨c1, c4, c2.off, c5, c6, fin _ c4 c2.off c5 c6, none_ _ (fun i h1 h2 => by rw [c3', set_getD _ _ _ _ (by omega), if_neg (by omega)]) 0⟩
      · exact absurd hb c2
end
end Go.Proofs.Ytpppmijohfjigaa
