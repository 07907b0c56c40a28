/-
  plain, Say and the same addresses: the document's walks. A part of the proof: see the head of the text that ends in 'Law'.
-/
import Derived.Test.YtdanhdiinkgjnaaDoorAd9
namespace Go.Proofs.YtdanhdiinkgjnaaDoor
open Go.RowKit
set_option linter.unusedVariables false
attribute [local go_sem] Oper.semAt_some

theorem sgC_len (x : Sg) : (sgC x).length = 5 := rfl
theorem flatMap_get {α : Type} (f : α → List Value) (m : Nat) (hf : ∀ a, (f a).length = m) : ∀ (l : List α) (k j : Nat) (hk : k < l.length), j < m → (l.flatMap f)[k * m + j]? = (f (l[k]'hk))[j]?
  | [], k, j, hk, _ => by simp at hk
  | a :: l, 0, j, _, hj => by
    rw [List.flatMap_cons, Nat.zero_mul, Nat.zero_add, List.getElem?_append_left (by rw [hf]; exact hj)]
    rfl
  | a :: l, k + 1, j, hk, hj => by
    rw [List.flatMap_cons, List.getElem?_append_right (by rw [hf, Nat.succ_mul]; omega), hf, show (k + 1) * m + j - m = k * m + j by rw [Nat.succ_mul]; omega]
    exact flatMap_get f m hf l k j (by simpa using hk) hj
theorem flatMap_ne {α : Type} (f : α → List Value) (m : Nat) (hm : 0 < m) (hf : ∀ a, (f a).length = m) (l : List α) (h : 0 < l.length) : l.flatMap f ≠ [] := by
  cases l with
  | nil => simp at h
  | cons a l =>
    intro e
    rw [List.flatMap_cons] at e
    have := congrArg List.length e
    rw [List.length_append, hf, List.length_nil] at this
    omega
/-- The cells of the k-th sign. -/
theorem sg_at {w : World} {A : Option Addr} {l : List Sg} (h : Row w A (l.flatMap sgC)) {k : Nat} (hk : k < l.length) : ∃ b off, A = some ⟨b, off, none⟩ ∧ ∀ (j : Nat) (hj : j < l.length), w.cell? ⟨b, off + j * 5, none⟩ = some (B8 (l[j]'hj).c) ∧ w.cell? ⟨b, off + j * 5 + 1, none⟩ = some (.bool (l[j]'hj).q) ∧ w.cell? ⟨b, off + j * 5 + 2, none⟩ = some (.bool (l[j]'hj).r) ∧ w.cell? ⟨b, off + j * 5 + 3, none⟩ = some (.bool (l[j]'hj).o) ∧ w.cell? ⟨b, off + j * 5 + 4, none⟩ = some (.bool (l[j]'hj).s) := by
  obtain ⟨b, off, hA, hc⟩ := h (flatMap_ne sgC 5 (by decide) sgC_len l (by omega))
  refine ⟨b, off, hA, fun j hj => ?_⟩
  have g := fun i hi => flatMap_get sgC 5 sgC_len l j i hj hi
  exact ⟨hc (j * 5 + 0) _ ((g 0 (by omega)).trans rfl), hc (j * 5 + 1) _ ((g 1 (by omega)).trans rfl), hc (j * 5 + 2) _ ((g 2 (by omega)).trans rfl), hc (j * 5 + 3) _ ((g 3 (by omega)).trans rfl), hc (j * 5 + 4) _ ((g 4 (by omega)).trans rfl)⟩
theorem plain_any (x : Sg) (w : World) : Calls Tryd.prog 19 #[.agg #[.int .u8 (x.c.toNat : Int), .bool x.q, .bool x.r, .bool x.o, .bool x.s]] w fun e w' => e = .returned (.bool (!x.q && !x.r)) ∧ Below w.heap.size w w' := by
  obtain ⟨c, q, r, o, s⟩ := x
  dsimp only
  have hb := (Below.refl _ w).alloc (Nat.le_refl _) (.cells #[.int .u8 (c.toNat : Int), .bool q, .bool r, .bool o, .bool s] 42)
  obtain ⟨W, hW⟩ : ∃ W, w.alloc (.cells #[.int .u8 (c.toNat : Int), .bool q, .bool r, .bool o, .bool s] 42) = W := ⟨_, rfl⟩
  have c1 : W.cell? ⟨w.heap.size, 1, none⟩ = some (.bool q) := by rw [← hW]; exact (OwnE.new_ w _ _).cell (j := 1) rfl
  have c2 : W.cell? ⟨w.heap.size, 2, none⟩ = some (.bool r) := by rw [← hW]; exact (OwnE.new_ w _ _).cell (j := 2) rfl
  rw [hW] at hb
  have HB := hid hb
  clear hb
  cases q <;> cases r <;>
  · go_enter Tryd.func19, Tryd.ntmps19
    go_wp2
    go_ret
    exact ⟨rfl, HB.out⟩
theorem one_str (X : World) (x : UInt8) : (convert 33 9 (.slice (some ⟨X.heap.size, 0, none⟩) 1 1)).run Tryd.prog (X.alloc (.cells #[.int .u8 (x.toNat : Int)] 5)) = .ok (.string (str [x])) (X.alloc (.cells #[.int .u8 (x.toNat : Int)] 5)) :=
  run_string_oct 1 (Oct.of_block [x] (heap_alloc_new X _) rfl) Tryd.underlying33 Tryd.underlying5 Tryd.underlying9
structure SrI (w wr : World) (xs : List Sg) (k : Nat) (g : Bool) (acc : List UInt8) : Prop where
  bel : Below w.heap.size w wr
  eq : sayR false [] xs = sayR g acc (xs.drop k)
  len : acc.length ≤ 2 * k
theorem str_nil_ne (acc : List UInt8) : (str acc != (⟨#[]⟩ : ByteArray)) = !acc.isEmpty := by
  have e : (⟨#[]⟩ : ByteArray) = str [] := rfl
  rw [e, bne, str_eqv]
  cases acc <;> simp
set_option maxRecDepth 100000 in
set_option maxHeartbeats 8000000 in
theorem say_any (xs : List Sg) (A : Option Addr) (n cp : Nat) (hn : xs.length = n) (w : World) (hr : Row w A (xs.flatMap sgC)) (hl : n ≤ 100000) :
    Calls Tryd.prog 15 #[.slice A n cp] w fun e w' => e = .returned (.string (str (sayR false [] xs))) ∧ Below w.heap.size w w' := by
  have HR := hid hr
  have HN := hid hn
  have I0 := hid (show SrI w w xs 0 false [] from ⟨Below.refl _ _, rfl, Nat.le_refl _⟩)
  clear hr hn
  go_enter Tryd.func15, Tryd.ntmps15
  go_wp2_with fail
  go_loopw [3, 4, 5] (fun v3 v4 v5 wr => ∃ (k : Nat) (g : Bool) (acc : List UInt8), k ≤ n ∧ v3 = .string (str acc) ∧ v4 = .bool g ∧ v5 = .int .i64 (k : Int) ∧ Hid (SrI w wr xs k g acc)) (fun v3 v4 v5 wr => n - (intOf v5).toNat)
  case atStart => exact ⟨0, false, [], Nat.zero_le _, rfl, rfl, rfl, I0⟩
  case round =>
    clear I0
    obtain ⟨k, g, acc, hk2, rfl, rfl, rfl, HI⟩ := hrel
    by_cases hlt : k < n
    · have d1 : decide ((k : Int) < (n : Int)) = true := by simp; omega
      have d1' : decide (k < n) = true := by simp; omega
      have hkl : k < xs.length := by rw [HN.out]; exact hlt
      have e0 : (0 : Int) ≤ (k : Int) := by omega
      have e2 : (k : Int) < (n : Int) := by omega
      have e3 : (k : Int).toNat = k := by omega
      have HRK := hid (HR.out.below HI.out.bel)
      obtain ⟨b, off, rfl, hcell⟩ := sg_at HRK.out hkl
      have hz := hcell k hkl
      obtain ⟨x, hx⟩ : ∃ x, xs[k]'hkl = x := ⟨_, rfl⟩
      rw [hx] at hz
      obtain ⟨x0, x1, x2, x3, x4⟩ := hz
      unfold B8 at x0
      have HD : Hid (xs.drop k = x :: xs.drop (k + 1)) := hid (by rw [List.drop_eq_getElem_cons hkl, hx])
      have HCELLS := hid (show ∀ wx, Below wr.heap.size wr wx → wx.cell? ⟨b, off + k * 5, none⟩ = some (.int .u8 (x.c.toNat : Int)) from fun wx h => cells_keep h x0)
      have HPL := hid (fun X => plain_any x X)
      have B := hid HI.out.bel
      have HLA := hid HI.out.len
      have hal : acc.length ≤ 200000 := by have := HI.out.len; omega
      clear hcell hkl hx HRK
      obtain ⟨xc, xq, xr, xo, xs4⟩ := x
      dsimp only at x0 x1 x2 x3 x4 HCELLS HPL
      cases xr with
      | true =>
        have HI2 := hid (show SrI w wr xs (k + 1) true acc from ⟨HI.out.bel, by rw [HI.out.eq, HD.out, sayR, if_pos (.inl rfl)], by have := HI.out.len; omega⟩)
        clear HI HD HPL HCELLS B HLA
        go_wp2_with fail
        go_roundw
        case rel => exact ⟨k + 1, true, acc, by omega, rfl, rfl, by go_num, HI2⟩
        case measure => simp [intOf]; omega
      | false =>
        cases xq with
        | true =>
          have HNB : Hid (¬((false : Bool) = true ∨ (true : Bool) = false ∧ bl xc = true)) := hid (by simp)
          have kone := fun X => one_str X xc
          have hz1 : (str [xc]).size ≤ 1 := by rw [str_size]; simp
          have hz2 : (str acc).size ≤ 200000 := hal
          have hz3 : (str (acc ++ [32])).size ≤ 200001 := by rw [str_size, List.length_append]; simp; omega
          have ha1 : str acc ++ (⟨#[32]⟩ : ByteArray) = str (acc ++ [32]) := str_append acc [32]
          have ha2 : str (acc ++ [32]) ++ str [xc] = str (acc ++ [32, xc]) := by rw [str_append, List.append_assoc]; rfl
          have ha3 : str acc ++ str [xc] = str (acc ++ [xc]) := str_append _ _
          cases g with
          | true =>
            by_cases hacc : acc = []
            · subst hacc
              have hne : (str [] != (⟨#[]⟩ : ByteArray)) = false := rfl
              have HG : Hid (([] : List UInt8).isEmpty = true) := hid rfl
              have HE : Hid (sayR false [] xs = sayR false ([] ++ [xc]) (xs.drop (k + 1))) := hid (by rw [HI.out.eq, HD.out, sayR, if_neg HNB.out]; simp [HG.out])
              clear HI HD HNB HG
              go_wp2_with (go_at_call 19; refine (HPL.out _).mono ?_; rintro e w5 ⟨rfl, b5⟩; have z0 := HCELLS.out _ b5; have B := hid (next B.out b5); clear x0 b5)
              go_roundw
              case rel => exact ⟨k + 1, false, ([] ++ [xc]), by omega, rfl, rfl, by go_num, hid ⟨B.out.alloc B.out.size _, HE.out, by have := HLA.out; simp; omega⟩⟩
              case measure => simp [intOf]; omega
            · have hne : (str acc != (⟨#[]⟩ : ByteArray)) = true := by rw [str_nil_ne]; cases acc with | nil => exact absurd rfl hacc | cons a l => rfl
              have HG : Hid (acc.isEmpty = false) := hid (by cases acc with | nil => exact absurd rfl hacc | cons a l => rfl)
              have hne2 : acc.isEmpty = false := HG.out
              clear hacc
              have HE : Hid (sayR false [] xs = sayR false (acc ++ [32, xc]) (xs.drop (k + 1))) := hid (by rw [HI.out.eq, HD.out, sayR, if_neg HNB.out]; simp [HG.out])
              clear HI HD HNB HG
              go_wp2_with (go_at_call 19; refine (HPL.out _).mono ?_; rintro e w5 ⟨rfl, b5⟩; have z0 := HCELLS.out _ b5; have B := hid (next B.out b5); clear x0 b5)
              go_roundw
              case rel => exact ⟨k + 1, false, (acc ++ [32, xc]), by omega, rfl, rfl, by go_num, hid ⟨B.out.alloc B.out.size _, HE.out, by have := HLA.out; simp; omega⟩⟩
              case measure => simp [intOf]; omega
          | false =>
            have HG : Hid True := hid trivial
            have HE : Hid (sayR false [] xs = sayR false (acc ++ [xc]) (xs.drop (k + 1))) := hid (by rw [HI.out.eq, HD.out, sayR, if_neg HNB.out]; simp [HG.out])
            clear HI HD HNB HG
            go_wp2_with (go_at_call 19; refine (HPL.out _).mono ?_; rintro e w5 ⟨rfl, b5⟩; have z0 := HCELLS.out _ b5; have B := hid (next B.out b5); clear x0 b5)
            go_roundw
            case rel => exact ⟨k + 1, false, (acc ++ [xc]), by omega, rfl, rfl, by go_num, hid ⟨B.out.alloc B.out.size _, HE.out, by have := HLA.out; simp; omega⟩⟩
            case measure => simp [intOf]; omega
        | false =>
          by_cases h32 : xc.toNat = 32
          · have q1 : ((xc.toNat : Int) == 32) = true := by rw [h32]; rfl
            have HX := hid h32
            clear h32
            have HE : Hid (sayR false [] xs = sayR true acc (xs.drop (k + 1))) := hid (by rw [HI.out.eq, HD.out, sayR, if_pos (.inr ⟨rfl, by unfold bl; simp [HX.out]⟩)])
            clear HI HD
            go_wp2_with (go_at_call 19; refine (HPL.out _).mono ?_; rintro e w5 ⟨rfl, b5⟩; have z0 := HCELLS.out _ b5; have B := hid (next B.out b5); clear x0 b5)
            go_roundw
            case rel => exact ⟨k + 1, true, acc, by omega, rfl, rfl, by go_num, hid ⟨B.out, HE.out, by have := HLA.out; omega⟩⟩
            case measure => simp [intOf]; omega
          have q1 : ((xc.toNat : Int) == 32) = false := ne_f h32
          by_cases h9 : xc.toNat = 9
          · have q2 : ((xc.toNat : Int) == 9) = true := by rw [h9]; rfl
            have HX := hid h9
            clear h32 h9
            have HE : Hid (sayR false [] xs = sayR true acc (xs.drop (k + 1))) := hid (by rw [HI.out.eq, HD.out, sayR, if_pos (.inr ⟨rfl, by unfold bl; simp [HX.out]⟩)])
            clear HI HD
            go_wp2_with (go_at_call 19; refine (HPL.out _).mono ?_; rintro e w5 ⟨rfl, b5⟩; have z0 := HCELLS.out _ b5; have B := hid (next B.out b5); clear x0 b5)
            go_roundw
            case rel => exact ⟨k + 1, true, acc, by omega, rfl, rfl, by go_num, hid ⟨B.out, HE.out, by have := HLA.out; omega⟩⟩
            case measure => simp [intOf]; omega
          have q2 : ((xc.toNat : Int) == 9) = false := ne_f h9
          have HNB : Hid (¬((false : Bool) = true ∨ (false : Bool) = false ∧ bl xc = true)) := hid (by unfold bl; simp [h32, h9])
          clear h32 h9
          have kone := fun X => one_str X xc
          have hz1 : (str [xc]).size ≤ 1 := by rw [str_size]; simp
          have hz2 : (str acc).size ≤ 200000 := hal
          have hz3 : (str (acc ++ [32])).size ≤ 200001 := by rw [str_size, List.length_append]; simp; omega
          have ha1 : str acc ++ (⟨#[32]⟩ : ByteArray) = str (acc ++ [32]) := str_append acc [32]
          have ha2 : str (acc ++ [32]) ++ str [xc] = str (acc ++ [32, xc]) := by rw [str_append, List.append_assoc]; rfl
          have ha3 : str acc ++ str [xc] = str (acc ++ [xc]) := str_append _ _
          cases g with
          | true =>
            by_cases hacc : acc = []
            · subst hacc
              have hne : (str [] != (⟨#[]⟩ : ByteArray)) = false := rfl
              have HG : Hid (([] : List UInt8).isEmpty = true) := hid rfl
              have HE : Hid (sayR false [] xs = sayR false ([] ++ [xc]) (xs.drop (k + 1))) := hid (by rw [HI.out.eq, HD.out, sayR, if_neg HNB.out]; simp [HG.out])
              clear HI HD HNB HG
              go_wp2_with (go_at_call 19; refine (HPL.out _).mono ?_; rintro e w5 ⟨rfl, b5⟩; have z0 := HCELLS.out _ b5; have B := hid (next B.out b5); clear x0 b5)
              go_roundw
              case rel => exact ⟨k + 1, false, ([] ++ [xc]), by omega, rfl, rfl, by go_num, hid ⟨B.out.alloc B.out.size _, HE.out, by have := HLA.out; simp; omega⟩⟩
              case measure => simp [intOf]; omega
            · have hne : (str acc != (⟨#[]⟩ : ByteArray)) = true := by rw [str_nil_ne]; cases acc with | nil => exact absurd rfl hacc | cons a l => rfl
              have HG : Hid (acc.isEmpty = false) := hid (by cases acc with | nil => exact absurd rfl hacc | cons a l => rfl)
              have hne2 : acc.isEmpty = false := HG.out
              clear hacc
              have HE : Hid (sayR false [] xs = sayR false (acc ++ [32, xc]) (xs.drop (k + 1))) := hid (by rw [HI.out.eq, HD.out, sayR, if_neg HNB.out]; simp [HG.out])
              clear HI HD HNB HG
              go_wp2_with (go_at_call 19; refine (HPL.out _).mono ?_; rintro e w5 ⟨rfl, b5⟩; have z0 := HCELLS.out _ b5; have B := hid (next B.out b5); clear x0 b5)
              go_roundw
              case rel => exact ⟨k + 1, false, (acc ++ [32, xc]), by omega, rfl, rfl, by go_num, hid ⟨B.out.alloc B.out.size _, HE.out, by have := HLA.out; simp; omega⟩⟩
              case measure => simp [intOf]; omega
          | false =>
            have HG : Hid True := hid trivial
            have HE : Hid (sayR false [] xs = sayR false (acc ++ [xc]) (xs.drop (k + 1))) := hid (by rw [HI.out.eq, HD.out, sayR, if_neg HNB.out]; simp [HG.out])
            clear HI HD HNB HG
            go_wp2_with (go_at_call 19; refine (HPL.out _).mono ?_; rintro e w5 ⟨rfl, b5⟩; have z0 := HCELLS.out _ b5; have B := hid (next B.out b5); clear x0 b5)
            go_roundw
            case rel => exact ⟨k + 1, false, (acc ++ [xc]), by omega, rfl, rfl, by go_num, hid ⟨B.out.alloc B.out.size _, HE.out, by have := HLA.out; simp; omega⟩⟩
            case measure => simp [intOf]; omega
    · have hkn : k = n := by omega
      subst hkn
      have d1 : decide ((k : Int) < (k : Int)) = false := by simp
      have d1' : decide (k < k) = false := by simp
      have HF : Hid (sayR false [] xs = acc) := hid (by
        have e : xs.drop k = [] := List.drop_of_length_le (by rw [HN.out]; exact Nat.le_refl _)
        rw [HI.out.eq, e, sayR])
      go_wp2_with fail
      go_ret
      exact ⟨by rw [HF.out]; rfl, HI.out.bel⟩
end Go.Proofs.YtdanhdiinkgjnaaDoor
