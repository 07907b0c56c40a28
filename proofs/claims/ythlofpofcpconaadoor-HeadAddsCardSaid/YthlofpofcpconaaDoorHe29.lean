/-
  What is put behind '[]byte(s)'. A part of the proof: see the head of the text that ends in 'Law'.
-/
import Derived.Test.YthlofpofcpconaaDoorHe28
import Derived.Test.YthlofpofcpconaaDoorBytes
import Derived.ArgAppend
namespace Go.Proofs.YthlofpofcpconaaDoor
open Go.RowKit Go.Shelf
set_option linter.unusedVariables false

theorem below_setCells {B b : Nat} {w : World} (hb : B ≤ b) : ∀ (vs : List Value) (o : Nat) (w' : World), Below B w w' → Below B w (w'.setCells b o vs)
  | [], o, w', h => h
  | v :: r, o, w', h => below_setCells hb r (o + 1) _ (h.setCell (p := ⟨b, o, none⟩) hb v)
theorem wpList_append_run {P : Program} {w w' : World} {ops : Array Oper} {rest : List Oper} {o : Oper} {a : Act} {Q : Exit → Act → World → Prop} (hgd : o.guard = none) (s x : Operand) {t : TypeId} {v xv v' : Value}
    (ho : o.op = .call { callee := .builtin .append, args := #[s, x], argTypes := #[t, t] }) (hs : a.eval s = v) (hx : a.eval x = xv) (hrun : (Builtin.append_ #[t, t] o.type #[v, xv]).run P w = .ok v' w')
    (h : wpList P ops Q rest (a.put o.dst v') w') : wpList P ops Q (o :: rest) a w := by
  refine wpList_plain hgd fun K hK' => ?_
  unfold Oper.wp execOp
  simp only [ho, resolve, invoke, builtin, Sem.run_bind, Sem.run_pure, Result.andThen_ok, List.map_toArray, List.map_cons, List.map_nil, hs, hx, hrun]
  exact hK' _ _ h
/-- append([]byte(s), r...). -/
theorem append_bytes (w : World) (l r : List UInt8) (A : Option Addr) (m c : Nat) (ty : TypeId) (hr : Oct w A m r) (h1 : l.length ≤ 100000) (h2 : m ≤ 100000) :
    ∃ A' k c' w', (Builtin.append_ #[22, 22] ty #[.slice (some ⟨w.heap.size, 0, none⟩) (str l).size (grownCap w (str l).size 0 5), .slice A m c]).run Tryd.prog (bytesW w 5 l) = .ok (.slice A' k c') w' ∧
      k = l.length + m ∧ k ≤ c' ∧ Oct w' A' k (l ++ r) ∧ Below w.heap.size w w' := by
  obtain ⟨i0, hi, hz0, hz1, hz2⟩ := info_parts u8S.info
  have hsz : (str l).size = l.length := rfl
  obtain ⟨cap, hcap⟩ : ∃ cap, grownCap w (str l).size 0 5 = cap := ⟨_, rfl⟩
  have hge : l.length ≤ cap := by rw [← hcap]; exact grownCap_ge w (str l).size 0 5
  have hB := bytesW_below w 5 l
  have hO := bytesW_own w 5 l
  have hW : (bytesW w 5 l).heap[w.heap.size]? = some (.cells (bytesRow (str l) cap) 5 ((bytesRow (str l) cap).size, (bytesRow (str l) cap).size + 1)) := by
    unfold bytesW
    rw [hcap]
    exact heap_alloc_new w.drew _
  have hrs : (bytesRow (str l) cap).size = cap := by
    have h2 : (str l).data.size = l.length := by simp [str]
    unfold bytesRow
    rw [Array.size_append, Array.size_map, Array.size_replicate, hsz, h2]
    omega
  rw [hcap, hsz]
  generalize bytesW w 5 l = W at hB hO hW ⊢
  have hrW := hr.below hB
  rcases (by cases A with | none => exact .inl rfl | some a => exact .inr ⟨a, rfl⟩ : A = none ∨ ∃ a, A = some a) with rfl | ⟨ad, rfl⟩
  · have hm : m = 0 := by
      rcases Nat.eq_zero_or_pos m with h | h
      · exact h
      · obtain ⟨b, off, h3, -⟩ := hr.at_ h; cases h3
    subst hm
    have hrn : r = [] := List.eq_nil_of_length_eq_zero hr.1
    subst hrn
    refine ⟨some ⟨w.heap.size, 0, none⟩, l.length, cap, W, ?_, rfl, hge, by rw [List.append_nil]; exact hO.oct, hB⟩
    simp [Builtin.append_, run_underlying u8S.und, sizeOf, typeInfo, hi, Builtin.lenOf, Builtin.firstCells, hge, storeCells]
  · have hnews : ∀ j u, (r.map B8)[j]? = some u → W.cell? (ad.add j) = some u := by
      intro j u hu
      obtain ⟨b, off, h3, h4⟩ := hrW.2 (by rintro h; rw [h] at hu; simp at hu)
      injection h3 with h3
      subst h3
      rw [Addr.add_mid]
      exact h4 j u hu
    have hlen : (r.map B8).length = m := by rw [List.length_map, hr.1]
    by_cases hroom : l.length + m ≤ cap
    · have hcs : ∀ j, j < (r.map B8).length → (W.cell? ⟨w.heap.size, 0 + l.length * i0.size + j, none⟩).isSome = true := by
        intro j hj
        rw [hlen] at hj
        rw [cell_of_row W w.heap.size _ _ _ _ hW, hz1, Array.getElem?_eq_getElem (by omega)]
        rfl
      have hfz : ∀ j, j < (r.map B8).length → W.frozen? ⟨w.heap.size, 0 + l.length * i0.size + j, none⟩ = false := by
        intro j hj
        rw [hlen] at hj
        unfold World.frozen?
        simp only [hW, hz1, hrs]
        simp
        omega
      have hrun := run_append_room_cells (P := Tryd.prog) W 22 ty 5 i0 u8S.und hi w.heap.size 0 l.length cap ad m c (r.map B8) (by rw [hlen, hz1, Nat.mul_one]) hnews (one_B8 _) hroom hcs hfz
      refine ⟨_, _, _, _, hrun, rfl, hroom, ⟨by rw [List.length_append, hr.1], fun _ => ⟨w.heap.size, 0, rfl, fun j v hv => ?_⟩⟩, below_setCells (Nat.le_refl _) _ _ _ hB⟩
      rw [List.map_append] at hv
      rw [Nat.zero_add, hz1, Nat.mul_one] at hcs
      rw [Nat.zero_add, hz1, Nat.mul_one, Nat.zero_add]
      rcases Nat.lt_or_ge j l.length with hj | hj
      · rw [World.cell?_setCells_out w.heap.size _ _ W _ (fun _ _ => .inl (by simpa using hj))]
        rw [List.getElem?_append_left (by rw [List.length_map]; exact hj)] at hv
        obtain ⟨b, off, h3, h4⟩ := hO.oct.2 (by intro h; rw [h] at hv; simp at hv)
        injection h3 with h3
        injection h3 with h5 h6
        subst h5 h6
        have := h4 j v hv
        rwa [Nat.zero_add] at this
      · rw [List.getElem?_append_right (by rw [List.length_map]; exact hj), List.length_map] at hv
        obtain ⟨hj2, hv2⟩ := List.getElem?_eq_some_iff.1 hv
        have := World.cell?_setCells_in w.heap.size (r.map B8) l.length W hcs (j - l.length) hj2
        rw [show l.length + (j - l.length) = j by omega] at this
        rw [this, hv2]
    · obtain ⟨v', w', hrun, h3, h4⟩ := run_append_arg_grows (P := Tryd.prog) W 22 ty 5 i0 (.int .u8 0) 1 1 u8S.und hi hz0 hz1 hz2 rfl (by decide) ⟨w.heap.size, 0, none⟩ l.length cap (l.map B8) (by rw [List.length_map, Nat.mul_one]) (fun j u hu => by
          obtain ⟨b, off, h3, h4⟩ := hO.oct.2 (by intro h; rw [h] at hu; simp at hu)
          injection h3 with h3
          rw [Addr.add_mid]
          injection h3 with h5 h6
          subst h5 h6
          exact h4 j u hu) ad m c (r.map B8) (by rw [hlen, Nat.mul_one]) hnews (by omega) (by simp only [maxLen]; omega) (by omega)
      obtain ⟨A', c', rfl, -⟩ := own_slice h3
      refine ⟨A', l.length + m, c', w', hrun, rfl, (own_cap h3).1, ⟨by rw [List.length_append, hr.1], ?_⟩, hB.grown h4 hB.size (fun k hk => by cases hk)⟩
      rw [List.map_append]
      exact Row.of_own h3
end Go.Proofs.YthlofpofcpconaaDoor
