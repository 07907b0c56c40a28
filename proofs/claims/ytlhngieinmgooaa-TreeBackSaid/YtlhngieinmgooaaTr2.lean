/-
  Numbers put one behind the other; may pairs be laid down. A part of the proof: see the head of the text that ends in 'Law'.
-/
import Derived.Test.YtlhngieinmgooaaTr1
namespace Go.Proofs.Ytlhngieinmgooaa
open Go.RowKit
set_option linter.unusedVariables false
set_option maxRecDepth 100000
attribute [local go_sem] Oper.semAt_some

/-- Every block that holds no octets lies as it lay. -/
def Kept8 (w w' : World) : Prop := ∀ (B : Nat) (T : TypeId) (cs : Array Value) (fr : Nat × Nat), T ≠ 5 → w.heap[B]? = some (.cells cs T fr) → w'.heap[B]? = some (.cells cs T fr)
theorem Kept8.refl (w : World) : Kept8 w w := fun _ _ _ _ _ h => h
theorem Kept8.trans {a b c : World} (h : Kept8 a b) (k : Kept8 b c) : Kept8 a c := fun B T cs fr h1 h2 => k B T cs fr h1 (h B T cs fr h1 h2)
theorem Kept8.below {w w' : World} (h : Below w.heap.size w w') : Kept8 w w' := fun B T cs fr _ h2 => (h.block B (lt_of_heap h2)).trans h2
theorem Kept8.grown {w w' : World} {base n : Nat} {v : Value} {xs : List Value} (hr : w.ownsRow base 5 1 v n xs) (hg : w.grownBy w' v.ownBlock) : Kept8 w w' := fun B T cs fr h1 h2 => by
  refine (hg.block B (lt_of_heap h2) (fun e => ?_)).trans h2
  obtain ⟨cur, hh⟩ := own_type hr B e.symm
  rw [h2] at hh
  injection hh with hh
  injection hh with _ ht
  exact h1 ht
theorem Kept8.own {w w' : World} (h : Kept8 w w') {g : Nat} {T : TypeId} {xs : List Value} (hT : T ≠ 5) (ho : OwnE w g T xs) : OwnE w' g T xs := h g T _ _ hT ho
theorem Kept8.owns {w w' : World} (h : Kept8 w w') {base size n : Nat} {T : TypeId} {v : Value} {xs : List Value} (hT : T ≠ 5) (ho : w.ownsRow base T size v n xs) : w'.ownsRow base T size v n xs := by
  refine ⟨ho.1, ?_⟩
  rcases ho.2 with h1 | ⟨g, cap, cur, hv, hg, hh, r⟩
  · exact .inl h1
  · exact .inr ⟨g, cap, cur, hv, hg, h g T _ _ hT hh, r⟩
def u64V (v : Nat) : Value := .int .u64 (v : Int)
def putsL (vs : List Nat) (k : Nat) : List UInt8 := vs.flatMap fun v => putL v k
theorem putsL_len (vs : List Nat) (k : Nat) : (putsL vs k).length = vs.length * k := flat_len _ k (fun v => putL_length v k) vs
theorem putsL_succ (vs : List Nat) (k j : Nat) (hj : j < vs.length) : putsL (vs.take (j + 1)) k = putsL (vs.take j) k ++ putL vs[j] k := by
  unfold putsL
  rw [List.take_succ_eq_append_getElem hj, List.flatMap_append]
  simp
set_option maxHeartbeats 2000000 in
theorem number_any (k : Nat) (kI : Int) (hk : kI = (k : Int)) (h1 : 1 ≤ k) (h8 : k ≤ 8) (base : Nat) (A : Option Addr) (n c : Nat) (bs : List UInt8) (gn m d : Nat) (vs : List Nat) (w : World)
    (ho : w.ownsRow base 5 1 (.slice A n c) n (bs.map B8)) (hr : OwnE w gn 44 (vs.map u64V)) (hm : vs.length = m) (hv : ∀ v ∈ vs, v < 18446744073709551616 ∧ v / 256 ^ k = 0) (hb : base ≤ w.heap.size) (hn : n ≤ 10000) (hm2 : m ≤ 100) :
    Calls Try.prog 21 #[.slice A n c, .int .i64 kI, .slice (some ⟨gn, 0, none⟩) m d] w fun e w' => ∃ A' c', e = .returned (.slice A' (n + m * k) c') ∧ w'.ownsRow base 5 1 (.slice A' (n + m * k) c') (n + m * k) ((bs ++ putsL vs k).map B8) ∧ Kept8 w w' ∧ Below base w w' := by
  subst hk
  have HO := hid ho
  have HR := hid hr
  have HM := hid hm
  have HV := hid hv
  have HB := hid hb
  have B0 := hid (Below.refl base w)
  have K0 := hid (Kept8.refl w)
  have O0 : Hid (w.ownsRow base 5 1 (.slice A (n + 0 * k) c) (n + 0 * k) ((bs ++ putsL (vs.take 0) k).map B8)) := hid (by
    rw [List.take_zero, Nat.zero_mul, Nat.add_zero]
    show w.ownsRow base 5 1 (.slice A n c) n ((bs ++ []).map B8)
    rw [List.append_nil]
    exact ho)
  clear ho hr hm hv hb
  go_enter Try.func21, Try.ntmps21
  go_wp2_with fail
  go_loopw [0, 13] (fun v0 v13 wr => ∃ (j q : Nat) (A' : Option Addr) (c' : Nat), j ≤ m ∧ q = n + j * k ∧ v0 = .slice A' q c' ∧ v13 = .int .i64 (j : Int) ∧ Hid (wr.ownsRow base 5 1 (.slice A' q c') q ((bs ++ putsL (vs.take j) k).map B8)) ∧ Hid (Kept8 w wr) ∧ Hid (Below base w wr)) (fun v0 v13 wr => m - (intOf v13).toNat)
  case atStart => exact ⟨0, n, A, c, Nat.zero_le _, by rw [Nat.zero_mul, Nat.add_zero], rfl, rfl, by rw [Nat.zero_mul, Nat.add_zero] at O0; exact O0, K0, B0⟩
  case round =>
    clear O0 K0 B0
    obtain ⟨j, q, A', c', hj, hq, rfl, rfl, HOW, HKW, HBW⟩ := hrel
    by_cases hlt : j < m
    · have d1 := lt_t hlt
      have d1' := lt_nt hlt
      have e0 : (0 : Int) ≤ (j : Int) := by omega
      have e1 : (j : Int) < (m : Int) := by omega
      have e3 : (j : Int).toNat = j := by omega
      have hjl : j < vs.length := by rw [HM.out]; exact hlt
      obtain ⟨v, hvj⟩ : ∃ v, vs[j]'hjl = v := ⟨_, rfl⟩
      have x0 : ∀ X, Kept8 w X → X.cell? ⟨gn, j, none⟩ = some (.int .u64 (v : Int)) := fun X hX => (hX.own (by decide) HR.out).cell (by rw [List.getElem?_map, List.getElem?_eq_getElem hjl, hvj]; rfl)
      have x1 := x0 wr HKW.out
      have hv1 := HV.out v (hvj ▸ List.getElem_mem hjl)
      have HPS := hid (putsL_succ vs k j hjl)
      rw [hvj] at HPS
      have HP := hid (put_fits v k wr hv1.1 h1 h8 hv1.2)
      have hqk : q + k = n + (j + 1) * k := by rw [hq, Nat.add_mul]; omega
      have hjk : j * k ≤ 100 * 8 := Nat.mul_le_mul (by omega) h8
      have hql : q ≤ 10800 := by omega
      have HQK := hid hqk
      clear hjl hvj x0 hv1 hqk hq hjk
      go_wp2_with (first
        | (go_at_call 36; refine HP.out.mono ?_; rintro e w1 ⟨A1, c1, rfl, ho1, b1⟩; have HO1 := hid ho1; have HB1 := hid b1; have HOW1 := hid (own_below HOW.out b1); clear ho1 b1)
        | (refine wpList_append_row _ rfl (.tmp 23) (.tmp 24) bytesT rfl base (.slice A' q c') q ((bs ++ putsL (vs.take j) k).map B8) rfl HOW1.out A1 k c1 ((putL v k).map B8) rfl (by rw [List.length_map, putL_length, Nat.mul_one]) (Row.of_own HO1.out) (one_B8 _) (by simp only [maxLen]; omega) (by omega) (Nat.le_trans HB.out (Nat.le_trans HBW.out.size HB1.out.size)) ?_
           intro A2 c2 w2 ho2 hg2 hh2
           have HB2 := hid ((HBW.out.trans (HB1.out.mono (Nat.le_trans HB.out HBW.out.size))).grown hg2 (Nat.le_trans HB.out (Nat.le_trans HBW.out.size HB1.out.size)) (own_base HOW1.out))
           have HK2 := hid (HKW.out.trans ((Kept8.below HB1.out).trans (Kept8.grown HOW1.out hg2)))
           have HO2 := hid ho2
           clear ho2 hg2 hh2))
      go_roundw
      case rel => exact ⟨j + 1, q + k, A2, c2, by omega, HQK.out, rfl, by go_num, hid (by rw [HPS.out, ← List.append_assoc, List.map_append]; exact HO2.out), HK2, HB2⟩
      case measure => simp [intOf]; omega
    · have d1 := lt_f hlt
      have d1' := lt_nf hlt
      have hjm : j = m := by omega
      have HQ := hid hq
      have HT : Hid (vs.take j = vs) := hid (by rw [List.take_of_length_le (by rw [HM.out]; omega)])
      subst hjm
      clear hq
      go_wp2_with fail
      go_ret
      refine ⟨A', c', by rw [← HQ.out]; rfl, ?_, HKW.out, HBW.out⟩
      rw [← HQ.out]
      have h := HOW.out
      rw [HT.out] at h
      exact h
/-- A pair's cells. -/
def paC (p : Pa) : List Value := [.int .u64 (p.key : Int), .int .u64 (p.val : Int)]
theorem paC_get (l : List Pa) (k : Nat) (h : k < l.length) (j : Nat) (hj : j < 2) : (l.flatMap paC)[k * 2 + j]? = (paC l[k])[j]? := by
  induction l generalizing k with
  | nil => cases h
  | cons x r ih =>
    rw [List.flatMap_cons]
    cases k with
    | zero =>
      rw [Nat.zero_mul, Nat.zero_add, List.getElem?_append_left (by show j < 2; exact hj)]
      rfl
    | succ k =>
      rw [List.getElem?_append_right (by show 2 ≤ _; omega)]
      have e : (k + 1) * 2 + j - (paC x).length = k * 2 + j := by show (k + 1) * 2 + j - 2 = _; omega
      rw [e, ih k (by simpa using h)]
      rfl
theorem paC_len (l : List Pa) : (l.flatMap paC).length = l.length * 2 := by
  induction l with
  | nil => rfl
  | cons x r ih => simp only [List.flatMap_cons, List.length_append, List.length_cons, ih, paC, List.length_nil]; omega
theorem pa_at {w : World} {A : Option Addr} {l : List Pa} (h : Row w A (l.flatMap paC)) {k : Nat} (hk : k < l.length) : ∃ b off, A = some ⟨b, off, none⟩ ∧ ∀ (j : Nat) (hj : j < l.length),
    w.cell? ⟨b, off + j * 2, none⟩ = some (.int .u64 ((l[j]'hj).key : Int)) ∧ w.cell? ⟨b, off + j * 2 + 1, none⟩ = some (.int .u64 ((l[j]'hj).val : Int)) := by
  obtain ⟨b, off, hA, hc⟩ := h (by intro e; have := congrArg List.length e; rw [paC_len, List.length_nil] at this; omega)
  refine ⟨b, off, hA, fun j hj => ?_⟩
  have g := fun i hi => paC_get l j hj i hi
  exact ⟨hc (j * 2 + 0) _ ((g 0 (by omega)).trans rfl), hc (j * 2 + 1) _ ((g 1 (by omega)).trans rfl)⟩
theorem ascB_step : ∀ (l : List Pa) (k : Nat) (h : k + 1 < l.length), ascB (l.drop k) = (decide (l[k].key < l[k + 1].key) && ascB (l.drop (k + 1)))
  | p :: q :: r, 0, h => rfl
  | p :: r, k + 1, h => by
    have := ascB_step r k (by simpa using h)
    simpa using this
theorem ascB_end (l : List Pa) (k : Nat) (h : l.length ≤ k + 1) : ascB (l.drop k) = true := by
  have hl : (l.drop k).length ≤ 1 := by rw [List.length_drop]; omega
  generalize l.drop k = m at hl
  match m, hl with
  | [], _ => rfl
  | [p], _ => rfl
set_option maxHeartbeats 2000000 in
theorem may_any (A : Option Addr) (n c : Nat) (l : List Pa) (w : World) (hr : Row w A (l.flatMap paC)) (hn : l.length = n) (hl : n ≤ 700) :
    Calls Try.prog 18 #[.slice A n c] w fun e w' => e = .returned (.bool (mayP l)) ∧ Below w.heap.size w w' := by
  have HR := hid hr
  have HN := hid hn
  have HA0 : Hid (ascB (l.drop 0) = ascB l) := hid rfl
  clear hr hn
  go_enter Try.func18, Try.ntmps18
  go_wp2_with fail
  go_loopw [3] (fun v3 wr => ∃ j : Nat, j ≤ 700 ∧ v3 = .int .i64 ((j : Int) + 1) ∧ (j = 0 ∨ j + 1 ≤ n) ∧ Hid (ascB (l.drop j) = ascB l) ∧ Hid (Below w.heap.size w wr)) (fun v3 wr => n - (intOf v3).toNat)
  case atStart => exact ⟨0, by omega, rfl, .inl rfl, HA0, hid (Below.refl _ _)⟩
  case round =>
    clear HA0
    obtain ⟨j, hj, rfl, hj2, HA, HB⟩ := hrel
    by_cases hlt : j + 1 < n
    · have d1 : decide ((j : Int) + 1 < (n : Int)) = true := by rw [decide_eq_true_iff]; omega
      have d1' : decide (j + 1 < n) = true := by simpa using hlt
      have e0 : (0 : Int) ≤ (j : Int) := by omega
      have e1 : (j : Int) + 1 < (n : Int) := by omega
      have e2 : (j : Int) < (n : Int) := by omega
      have e3 : (j : Int).toNat = j := by omega
      have e4 : ((j : Int) + 1).toNat = j + 1 := by omega
      have hl1 : j + 1 < l.length := by rw [HN.out]; exact hlt
      obtain ⟨b, off, rfl, hc⟩ := pa_at HR.out hl1
      have hst := ascB_step l j hl1
      have p0 := cells_keep HB.out (hc j (by omega)).1
      have p1 := cells_keep HB.out (hc (j + 1) hl1).1
      obtain ⟨x, hx⟩ : ∃ x, (l[j]'(by omega)).key = x := ⟨_, rfl⟩
      obtain ⟨y, hy⟩ : ∃ y, (l[j + 1]'hl1).key = y := ⟨_, rfl⟩
      rw [hx] at p0 hst
      rw [hy] at p1 hst
      rw [HA.out] at hst
      have HST := hid hst
      have mw : IntKind.i64.wrap (j : Int) = (j : Int) := by rw [IntKind.wrap_i64]; omega
      clear hc hx hy hl1 hst HA
      by_cases hxy : x < y
      · have g1 : decide ((y : Int) ≤ (x : Int)) = false := by rw [decide_eq_false_iff_not]; omega
        have g1' : decide (y ≤ x) = false := by rw [decide_eq_false_iff_not]; omega
        have HF : Hid (ascB (l.drop (j + 1)) = ascB l) := hid (by rw [HST.out, decide_eq_true hxy]; rfl)
        go_upto_region 4 with fail
        go_quiet (fail)
        clear mw
        go_wp2_with fail
        go_roundw
        case rel => exact ⟨j + 1, by omega, by go_num, .inr (by omega), HF, hid (bq HB.out _)⟩
        case measure => simp [intOf]; omega
      · have g1 : decide ((y : Int) ≤ (x : Int)) = true := by rw [decide_eq_true_iff]; omega
        have g1' : decide (y ≤ x) = true := by rw [decide_eq_true_iff]; omega
        have HF : Hid (mayP l = false) := hid (by unfold mayP; rw [HST.out, decide_eq_false hxy]; rfl)
        go_upto_region 4 with fail
        go_quiet (fail)
        clear mw
        go_wp2_with fail
        go_ret
        exact ⟨by rw [HF.out]; rfl, bq HB.out _⟩
    · have d1 : decide ((j : Int) + 1 < (n : Int)) = false := by rw [decide_eq_false_iff_not]; omega
      have d1' : decide (j + 1 < n) = false := by rw [decide_eq_false_iff_not]; exact hlt
      have HF : Hid (mayP l = decide (n ≤ 600)) := hid (by unfold mayP; rw [← HA.out, ascB_end l j (by rw [HN.out]; omega), HN.out]; rfl)
      clear HA
      by_cases h6 : n ≤ 600
      · have g1 : decide ((n : Int) ≤ 600) = true := by rw [decide_eq_true_iff]; omega
        have g1' : decide (n ≤ 600) = true := by simpa using h6
        go_wp2_with fail
        go_ret
        exact ⟨by rw [HF.out, g1']; rfl, HB.out⟩
      · have g1 : decide ((n : Int) ≤ 600) = false := by rw [decide_eq_false_iff_not]; omega
        have g1' : decide (n ≤ 600) = false := by simpa using h6
        go_wp2_with fail
        go_ret
        exact ⟨by rw [HF.out, g1']; rfl, HB.out⟩
set_option maxHeartbeats 2000000 in
theorem rmay_any (A : Option Addr) (n c : Nat) (l : List Pa) (w : World) (hr : Row w A (l.flatMap paC)) (hn : l.length = n) (hl : n ≤ 700) :
    Calls Try.prog 11 #[.slice A n c] w fun e w' => e = .returned (.bool (mayP l)) ∧ Below w.heap.size w w' := by
  have HR := hid hr
  have HN := hid hn
  have HA0 : Hid (ascB (l.drop 0) = ascB l) := hid rfl
  clear hr hn
  go_enter Try.func11, Try.ntmps11
  go_wp2_with fail
  go_loopw [3] (fun v3 wr => ∃ j : Nat, j ≤ 700 ∧ v3 = .int .i64 ((j : Int) + 1) ∧ (j = 0 ∨ j + 1 ≤ n) ∧ Hid (ascB (l.drop j) = ascB l) ∧ Hid (Below w.heap.size w wr)) (fun v3 wr => n - (intOf v3).toNat)
  case atStart => exact ⟨0, by omega, rfl, .inl rfl, HA0, hid (Below.refl _ _)⟩
  case round =>
    clear HA0
    obtain ⟨j, hj, rfl, hj2, HA, HB⟩ := hrel
    by_cases hlt : j + 1 < n
    · have d1 : decide ((j : Int) + 1 < (n : Int)) = true := by rw [decide_eq_true_iff]; omega
      have d1' : decide (j + 1 < n) = true := by simpa using hlt
      have e0 : (0 : Int) ≤ (j : Int) := by omega
      have e1 : (j : Int) + 1 < (n : Int) := by omega
      have e2 : (j : Int) < (n : Int) := by omega
      have e3 : (j : Int).toNat = j := by omega
      have e4 : ((j : Int) + 1).toNat = j + 1 := by omega
      have hl1 : j + 1 < l.length := by rw [HN.out]; exact hlt
      obtain ⟨b, off, rfl, hc⟩ := pa_at HR.out hl1
      have hst := ascB_step l j hl1
      have p0 := cells_keep HB.out (hc j (by omega)).1
      have p1 := cells_keep HB.out (hc (j + 1) hl1).1
      obtain ⟨x, hx⟩ : ∃ x, (l[j]'(by omega)).key = x := ⟨_, rfl⟩
      obtain ⟨y, hy⟩ : ∃ y, (l[j + 1]'hl1).key = y := ⟨_, rfl⟩
      rw [hx] at p0 hst
      rw [hy] at p1 hst
      rw [HA.out] at hst
      have HST := hid hst
      have mw : IntKind.i64.wrap (j : Int) = (j : Int) := by rw [IntKind.wrap_i64]; omega
      clear hc hx hy hl1 hst HA
      by_cases hxy : x < y
      · have g1 : decide ((y : Int) ≤ (x : Int)) = false := by rw [decide_eq_false_iff_not]; omega
        have g1' : decide (y ≤ x) = false := by rw [decide_eq_false_iff_not]; omega
        have HF : Hid (ascB (l.drop (j + 1)) = ascB l) := hid (by rw [HST.out, decide_eq_true hxy]; rfl)
        go_upto_region 4 with fail
        go_quiet (fail)
        clear mw
        go_wp2_with fail
        go_roundw
        case rel => exact ⟨j + 1, by omega, by go_num, .inr (by omega), HF, hid (bq HB.out _)⟩
        case measure => simp [intOf]; omega
      · have g1 : decide ((y : Int) ≤ (x : Int)) = true := by rw [decide_eq_true_iff]; omega
        have g1' : decide (y ≤ x) = true := by rw [decide_eq_true_iff]; omega
        have HF : Hid (mayP l = false) := hid (by unfold mayP; rw [HST.out, decide_eq_false hxy]; rfl)
        go_upto_region 4 with fail
        go_quiet (fail)
        clear mw
        go_wp2_with fail
        go_ret
        exact ⟨by rw [HF.out]; rfl, bq HB.out _⟩
    · have d1 : decide ((j : Int) + 1 < (n : Int)) = false := by rw [decide_eq_false_iff_not]; omega
      have d1' : decide (j + 1 < n) = false := by rw [decide_eq_false_iff_not]; exact hlt
      have HF : Hid (mayP l = decide (n ≤ 600)) := hid (by unfold mayP; rw [← HA.out, ascB_end l j (by rw [HN.out]; omega), HN.out]; rfl)
      clear HA
      by_cases h6 : n ≤ 600
      · have g1 : decide ((n : Int) ≤ 600) = true := by rw [decide_eq_true_iff]; omega
        have g1' : decide (n ≤ 600) = true := by simpa using h6
        go_wp2_with fail
        go_ret
        exact ⟨by rw [HF.out, g1']; rfl, HB.out⟩
      · have g1 : decide ((n : Int) ≤ 600) = false := by rw [decide_eq_false_iff_not]; omega
        have g1' : decide (n ≤ 600) = false := by simpa using h6
        go_wp2_with fail
        go_ret
        exact ⟨by rw [HF.out, g1']; rfl, HB.out⟩
end Go.Proofs.Ytlhngieinmgooaa
