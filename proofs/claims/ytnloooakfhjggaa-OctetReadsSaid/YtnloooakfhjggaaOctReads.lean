/-
  The walk of the law OctetReads: it returns true at whatever octets and steps. A part of the proof: see the head of the text that ends in 'Law'.
-/
import Derived.Test.YtnloooakfhjggaaOctTk3
import Derived.Test.YtnloooakfhjggaaOctArg
namespace Go.Proofs.Ytnloooakfhjggaa
open Go.RowKit
set_option linter.unusedVariables false

theorem Rd.other {w : World} {g : Nat} {A : Option Addr} {n c : Nat} {l : List UInt8} {a e wh : Nat} (h : Rd w g A n c l a e wh) {b j : Nat} (v : Value) (h1 : g ≠ b) (h2 : ∀ b' off, A = some ⟨b', off, none⟩ → b' ≠ b) : Rd (w.setCell ⟨b, j, none⟩ v) g A n c l a e wh := by
  refine ⟨(heap_setCell_other w ⟨b, j, none⟩ g v h1).trans h.1, ⟨h.2.1.1, fun hne => ?_⟩, h.2.2⟩
  obtain ⟨b', off, hA, hc⟩ := h.2.1.2 hne
  refine ⟨b', off, hA, fun i u hu => ?_⟩
  rw [World.cell?_setCell_other _ _ _ _ (fun e => h2 b' off hA (by injection e with e1; exact e1.symm))]
  exact hc i u hu
theorem lit_bytes {n : Nat} {w : World} {base : Nat} {A : Option Addr} {c : Nat} {xs : List Value} (h : w.ownsRow base 5 1 (.slice A n c) n xs) (h0 : 0 < n) : ∃ b cur, A = some ⟨b, 0, none⟩ ∧ base ≤ b ∧ w.heap[b]? = some (.cells cur 5 (0, 0)) ∧ n ≤ cur.size := by
  rcases h.2 with ⟨hv, h1⟩ | ⟨g, cap, cur, hv, hg, hh, h1, h2, h3, h4⟩
  · omega
  · injection hv with hA _ _
    exact ⟨g, cur, hA, hg, hh, by omega⟩

/-- Octets stay where one other block is written. -/
theorem Oct.grown {w w' : World} {A : Option Addr} {n k : Nat} {l : List UInt8} (h : Oct w A n l) (hg : w.grownBy w' (some k)) (hne : ∀ b off, A = some ⟨b, off, none⟩ → 0 < n → b ≠ k) : Oct w' A n l :=
  ⟨h.1, fun hx => by
    obtain ⟨b, off, hA, hc⟩ := h.2 hx
    refine ⟨b, off, hA, fun j u hu => ?_⟩
    have h1 := hc j u hu
    have h0 : 0 < n := by
      have := h.1
      rcases l with _ | ⟨x, r⟩
      · exact absurd rfl hx
      · simp at this; omega
    exact (World.cell?_of_block (hg.block b (World.block_lt_of_cell? w _ h1) (by intro e; injection e with e; exact hne b off hA h0 e))).trans h1⟩
theorem Oct.grown_far {w w' : World} {A : Option Addr} {n k : Nat} {l : List UInt8} {cs : Array Value} {t : TypeId} {fr : Nat × Nat} (h : Oct w A n l) (hg : w.grownBy w' (some k)) (hk : w.heap[k]? = some (.cells cs t fr)) (hc : ∀ (x : UInt8) (j : Nat), cs[j]? ≠ some (B8 x)) : Oct w' A n l :=
  ⟨h.1, fun hx => by
    obtain ⟨b, off, hA, hcell⟩ := h.2 hx
    refine ⟨b, off, hA, fun j u hu => ?_⟩
    have h1 := hcell j u hu
    refine (World.cell?_of_block (hg.block b (World.block_lt_of_cell? w _ h1) (fun e => ?_))).trans h1
    injection e with e
    subst e
    rw [cell_of_row w b (off + j) cs t fr hk] at h1
    rw [List.getElem?_map] at hu
    obtain ⟨x, _, rfl⟩ := Option.map_eq_some_iff.1 hu
    exact hc x _ h1⟩
theorem tk_not {l : List UInt8} {s : St} : ∀ (x : UInt8) (j : Nat), (#[Value.string (str l), .int .i64 s.at_, .int .i64 s.e, .int .i64 s.wh] : Array Value)[j]? ≠ some (B8 x) := by
  intro x j
  match j with
  | 0 => simp [B8]
  | 1 => simp [B8]
  | 2 => simp [B8]
  | 3 => simp [B8]
  | k + 4 => simp
/-- Both readers, each behind its pointer, each in its state. -/
structure Two (w0 w : World) (g gt : Nat) (A : Option Addr) (n c : Nat) (l : List UInt8) (s s2 : St) : Prop where
  r : RdS w g A n c l s
  t : Tk w gt l s2
  b : Below w0.heap.size w0 w
  hg : w0.heap.size ≤ g
  ht : w0.heap.size ≤ gt
  ne : g ≠ gt
  na : ∀ b off, A = some ⟨b, off, none⟩ → 0 < n → b ≠ gt
  sa : s.at_ ≤ n
  ta : s2.at_ ≤ n
theorem Two.drew {w0 w : World} {g gt n c : Nat} {A : Option Addr} {l : List UInt8} {s t : St} (h : Two w0 w g gt A n c l s t) : Two w0 w.drew g gt A n c l s t :=
  ⟨h.r.drew, h.t, h.b.drew, h.hg, h.ht, h.ne, h.na, h.sa, h.ta⟩
theorem Two.drewN {w0 w : World} {g gt n c : Nat} {A : Option Addr} {l : List UInt8} {s t : St} (h : Two w0 w g gt A n c l s t) (k : Nat) : Two w0 (w.drewN k) g gt A n c l s t :=
  ⟨h.r.drewN k, h.t.drewN k, ⟨h.b.os, h.b.tape, h.b.output, h.b.size, h.b.block⟩, h.hg, h.ht, h.ne, h.na, h.sa, h.ta⟩
theorem Two.first {w0 w w' : World} {g gt n c : Nat} {A : Option Addr} {l : List UInt8} {s t s' : St} (h : Two w0 w g gt A n c l s t) (hg : w.grownBy w' (some g)) (hr : RdS w' g A n c l s') (ha : s'.at_ ≤ n) : Two w0 w' g gt A n c l s' t :=
  ⟨hr, (hg.block gt (lt_of_heap h.t) (by intro e; injection e with e; exact h.ne e.symm)).trans h.t, h.b.grown hg h.b.size (fun k hk => by injection hk with hk; have := h.hg; omega), h.hg, h.ht, h.ne, h.na, ha, h.ta⟩
theorem Two.second {w0 w w' : World} {g gt n c : Nat} {A : Option Addr} {l : List UInt8} {s t t' : St} (h : Two w0 w g gt A n c l s t) (hg : w.grownBy w' (some gt)) (ht : Tk w' gt l t') (ha : t'.at_ ≤ n) : Two w0 w' g gt A n c l s t' :=
  ⟨⟨(hg.block g (lt_of_heap h.r.1) (by intro e; injection e with e; exact h.ne e)).trans h.r.1, h.r.2.1.grown hg h.na, h.r.2.2⟩, ht, h.b.grown hg h.b.size (fun k hk => by injection hk with hk; have := h.ht; omega), h.hg, h.ht, h.ne, h.na, h.sa, ha⟩
theorem Two.only {w0 w w' : World} {g gt n c : Nat} {A : Option Addr} {l : List UInt8} {s t : St} (h : Two w0 w g gt A n c l s t) (hg : w.grownBy w' none) : Two w0 w' g gt A n c l s t :=
  h.first (s' := s) ⟨hg.os, hg.tape, hg.output, hg.size, fun i hi _ => hg.block i hi (by simp)⟩ ⟨(hg.block g (lt_of_heap h.r.1) (by simp)).trans h.r.1, h.r.2.1.below ⟨hg.os, hg.tape, hg.output, hg.size, fun i hi => hg.block i hi (by simp)⟩, h.r.2.2⟩ h.sa

set_option maxRecDepth 20000 in
set_option maxHeartbeats 4000000 in
theorem walkOctetReads (A0 : Option Addr) (n0 c0 : Nat) (l0 : List UInt8) (B0 : Option Addr) (m0 d0 : Nat) (Q : List (Int × Int)) (w : World) (ho0 : Oct w A0 n0 l0) (hn0 : n0 ≤ c0) (hcm : c0 ≤ maxLen) (hm0 : m0 ≤ d0) (hd0 : d0 ≤ maxLen) (hQ : Prs w B0 m0 Q) (hQ64 : ∀ q ∈ Q, in64 q.1 ∧ in64 q.2) :
    Calls Try.prog 7 #[.slice A0 n0 c0, .slice B0 m0 d0] w fun e w' => e = .returned (.bool true) ∧ Below w.heap.size w w' := by
  have HQ := hid hQ
  have HQ64 := hid hQ64
  have HM := hid (And.intro hm0 hd0)
  clear hcm hQ hQ64 hm0 hd0
  go_enter Try.func7, Try.ntmps7
  obtain ⟨B, hB⟩ : ∃ B, decide ((400 : Int) < n0) = B := ⟨_, rfl⟩
  go_upto_if 18 with fail
  go_cut [0] (fun s0 wx => (∃ (n : Nat) (l : List UInt8), s0 = .slice A0 n c0 ∧ Hid (n ≤ 400) ∧ n ≤ c0 ∧ Oct w A0 n l) ∧ w = wx)
  case first =>
    cases B with
    | true =>
      have h : 400 < n0 := by simp at hB; omega
      have hc0 : ¬ c0 = 0 := by omega
      have hc1 : (400 : Int) ≤ c0 := by omega
      have m0 := ho0.take 400 (by omega)
      have H := hid h
      clear h hB
      go_wp2_with fail
      go_meet
      have h := H.out
      exact ⟨⟨400, _, rfl, hid (by omega), by omega, m0⟩, rfl⟩
    | false =>
      have h : n0 ≤ 400 := by simp at hB; omega
      have H := hid h
      clear h hB
      go_wp2_with fail
      go_meet
      have h := H.out
      exact ⟨⟨n0, _, rfl, hid (by omega), by omega, ho0⟩, rfl⟩
  case rest =>
    obtain ⟨⟨n, L, rfl, hn2, hnc, o0⟩, rfl⟩ := hcut
    clear ho0 hn0 hB
    have oA : Oct (w.alloc (Obj.cells #[] 5)) A0 n L := o0.alloc _
    have HS := hid (show w.heap.size ≤ (w.alloc (Obj.cells #[] 5)).heap.size by simp)
    have HB1 := hid (show n + 0 ≤ 400 by have := hn2.out; omega)
    go_upto_region 7 with (first
      | (at_builtin
         go_loud (refine wpList_append_row _ rfl (.tmp 21) (.tmp 22) bytesT rfl w.heap.size (.slice (some ⟨w.heap.size, 0, none⟩) 0 0) 0 [] rfl (World.ownsRow_lit w #[] 0 (Nat.le_refl _) (Nat.zero_le _) rfl) A0 n c0 (L.map B8) rfl oA.cells_len oA.2 (one_B8 _) (by have := HB1.out; simp only [maxLen]; omega) (by have := HB1.out; omega) HS.out ?_)
         intro A5 c5 w5 hown5 hgr5 hat5
         have hb5 : Below w.heap.size w w5 := ((Below.refl w.heap.size w).alloc (Nat.le_refl _) _).grown hgr5 (by simp) (fun k hk => by simp [Value.ownBlock] at hk; omega)
         simp only [Nat.zero_add, List.nil_append] at hown5 hat5
         have o5 : Oct w5 A5 n L := ⟨o0.len, Row.of_own hown5⟩
         clear hgr5)
      | (go_at_call 16; refine (read_any A5 n c5 L _ o5 (by have := hn2.out; omega)).mono ?_; rintro e w6 ⟨g, A6, c6, rfl, hg6, hr6, hA6, hA6b, hb6⟩))
    obtain ⟨b5, h5⟩ : ∃ b5, Hid (0 < n → A5 = some ⟨b5, 0, none⟩ ∧ w.heap.size ≤ b5 ∧ b5 < w5.heap.size ∧ ∃ cur, w6.heap[b5]? = some (.cells cur 5 (0, 0)) ∧ n ≤ cur.size) := by
      by_cases h0 : 0 < n
      · obtain ⟨b, cur, hA, hb, hh, hs⟩ := lit_bytes hown5 h0
        exact ⟨b, hid (fun _ => ⟨hA, hb, lt_of_heap hh, cur, (hb6.block b (lt_of_heap hh)).trans hh, hs⟩)⟩
      · exact ⟨0, hid (fun h => absurd h h0)⟩
    have hg5 := hid hg6
    have hA5 := hid hA6b
    have hb7 := hid (hb5.trans (hb6.mono hb5.size))
    have HW5 := hid hb5.size
    have H6 := hid hr6
    clear hown5 hat5 o5 hb6 hb5 hA6b hg6 hr6 oA
    go_wp2
    go_loopw [7] (fun i wr => ∃ j : Nat, j ≤ n ∧ i = .int .i64 j ∧ Hid (RdS wr g A6 n c6 L ⟨0, 0, 0⟩ ∧ Below w.heap.size w wr ∧ (0 < n → ∃ cur, wr.heap[b5]? = some (.cells cur 5 (0, 0)) ∧ n ≤ cur.size))) (fun i wr => n - (intOf i).toNat)
    case atStart => exact ⟨0, by omega, rfl, hid ⟨H6.out, hb7.out, fun h => (h5.out h).2.2.2⟩⟩
    case round =>
      obtain ⟨j, hj, rfl, hI⟩ := hrel
      by_cases hlt : j < n
      · have hlt1 : decide (j < n) = true := by simpa using hlt
        obtain ⟨rfl, q1, q2, _⟩ := h5.out (by omega)
        obtain ⟨cur, hc1, hc2⟩ := hI.out.2.2 (by omega)
        have hcj := cell_of_row _ b5 j cur _ _ hc1
        rw [Array.getElem?_eq_getElem (by omega)] at hcj
        have hfj := frozen_of_row _ b5 j cur _ hc1
        have HC := hid hc1
        have hb64 : j + 1 ≤ 4611686018427387904 := by have := HB1.out; omega
        clear hc1
        go_wp2
        go_roundw
        case rel =>
          refine ⟨j + 1, by omega, by go_num, hid ⟨?_, hI.out.2.1.setCell q1 _, fun _ => ⟨_, heap_set _ HC.out, by rw [Array.size_setIfInBounds]; exact hc2⟩⟩⟩
          exact Rd.other hI.out.1 _ (by have := hg5.out; omega) (fun b' off h => by have := hA5.out b' off h; omega)
        case measure => simp [intOf]; omega
      · have hlt1 : decide (j < n) = false := by simpa using hlt
        obtain ⟨hr, hb, _⟩ := hI.out
        have hst := strP c0 (o0.below hb)
        have HR := hid hr
        have HB := hid hb
        have hA7 : Hid (∀ b off, A6 = some ⟨b, off, none⟩ → 0 < n → b < wr.heap.size) := hid (fun b off hA h0 => by
          obtain ⟨b', off', hA', hc⟩ := hr.2.1.at_ h0
          rw [hA] at hA'
          injection hA' with hA'
          injection hA' with e1 e2
          subst e1
          exact World.block_lt_of_cell? wr _ (hc 0 (by have := hr.2.1.1; omega)))
        clear hI hr hb h5 H6 hb7
        go_upto_region 12 with fail
        have hT : Two w (wr.alloc (Obj.cells #[Value.string (str L), Value.int .i64 0, Value.int .i64 0, Value.int .i64 0] 53)) g wr.heap.size A6 n c6 L ⟨0, 0, 0⟩ ⟨0, 0, 0⟩ :=
          ⟨HR.out.below ((Below.refl _ _).alloc (Nat.le_refl _) _), heap_alloc_new _ _, HB.out.alloc HB.out.size _, by
            have := hg5.out; have := HB1.out; have h0 := HW5.out; omega, HB.out.size, by
            have := lt_of_heap HR.out.1; omega, fun b off hA h0 => by have := hA7.out b off hA h0; omega, by simp, by simp⟩
        have hgt : w.heap.size ≤ wr.heap.size := HB.out.size
        generalize hW : wr.alloc (Obj.cells #[Value.string (str L), Value.int .i64 0, Value.int .i64 0, Value.int .i64 0] 53) = wt at hT ⊢
        generalize hG : wr.heap.size = gt at hT ⊢
        have HT := hid hT
        have HLn := hid o0.len
        clear hT hW hG hA7 HR HB hst o0 hgt HW5 hA5 hg5
        go_wp2
        go_loopw [9] (fun i W => ∃ (k : Nat) (s : St), k ≤ 60 ∧ i = .int .i64 k ∧ Hid (Two w W g gt A6 n c6 L s s)) (fun i W => 60 - (intOf i).toNat)
        case atStart => exact ⟨0, ⟨0, 0, 0⟩, by omega, rfl, HT⟩
        case round =>
          obtain ⟨k, s, hk, rfl, hI⟩ := hrel
          by_cases h1 : k < m0
          · have d1 : decide (k < m0) = true := by simpa using h1
            by_cases h2 : k < 60
            · have d2 : decide ((k : Int) < 60) = true := by simp; omega
              have hkQ : k < Q.length := by rw [HQ.out.1]; exact h1
              obtain ⟨bq, oq, rfl, hq⟩ := HQ.out.2 (by intro e; rw [e] at hkQ; simp at hkQ)
              obtain ⟨q0, q1⟩ := hq k hkQ
              clear hq
              generalize Q[k] = q at q0 q1
              obtain ⟨d, N⟩ := q
              simp only at q0 q1
              rw [← Nat.add_assoc] at q1
              have c0 := cells_keep hI.out.b q0
              have c1 := cells_keep hI.out.b q1
              have Q1 := hid q1
              clear q0 q1 hkQ
              have hk0 : (0 : Int) ≤ k := by omega
              have hk1 : (k : Int) < m0 := by omega
              have HA := hid hA6
              clear hA6
              go_upto_block 4 with (fail)
              go_cut [] (fun wx => ∃ s' : St, Hid (Two w wx g gt A6 n c6 L s' s'))
              case first =>
                by_cases hd0 : d = 0
                · have e0 : (d == 0) = true := by simpa using hd0
                  clear hd0
                  go_wp2
                  go_region_held3 (fun W => W.cell? ⟨bq, oq + k * 2 + 1, none⟩ = some (.int .i64 N)) (assumption) (first
                    | (go_at_call 18; refine (rnum_any _ g A6 n c6 L s N hI.out.drew.r (by have := hn2.out; omega)).mono ?_; rintro e w7 ⟨rfl, hr7, hg7⟩; have T7 := hid (hI.out.drew.first hg7 hr7 (HLn.out ▸ numS_at N (HLn.out.symm ▸ hI.out.sa))); have hS7 := cells_keep T7.out.b Q1.out; clear hr7 hg7)
                    | (go_at_call 21; refine (tnum_any _ gt L s N T7.out.t (by have := hn2.out; have := HLn.out; omega)).mono ?_; rintro e w8 ⟨rfl, hr8, hg8⟩; have T8 := hid (T7.out.second hg8 hr8 (HLn.out ▸ numS_at N (HLn.out.symm ▸ hI.out.sa))); have hS8 := cells_keep T8.out.b Q1.out; clear hr8 hg8))
                  go_wp2
                  go_meet
                  exact ⟨_, T8⟩
                · have e0 : (d == 0) = false := by simpa using hd0
                  clear hd0
                  by_cases hd1 : d = 1
                  · have e1 : (d == 1) = true := by simpa using hd1
                    clear hd1
                    go_wp2_with (first
                      | (go_at_call 19; refine (rtext_any _ g A6 n c6 L s hI.out.r (by have := hn2.out; omega) HA.out hI.out.sa).mono ?_; rintro e w7 ⟨rfl, hr7, hg7⟩; have T7 := hid (hI.out.first hg7 hr7 (HLn.out ▸ textS_at (HLn.out.symm ▸ hI.out.sa))); clear hr7 hg7)
                      | (go_at_call 22; refine (ttext_any _ gt L s T7.out.t (by have := hn2.out; have := HLn.out; omega) (by have := HLn.out; have := hI.out.sa; omega)).mono ?_; rintro e w8 ⟨rfl, hr8, hg8⟩; have T8 := hid (T7.out.second hg8 hr8 (HLn.out ▸ textS_at (HLn.out.symm ▸ hI.out.sa))); clear hr8 hg8))
                    go_meet
                    exact ⟨_, T8⟩
                  · have e1 : (d == 1) = false := by simpa using hd1
                    clear hd1
                    go_wp2
                    go_region_with (first
                      | (go_at_call 17; refine (rraw_any _ g A6 n c6 L s N hI.out.drew.r (by have := hn2.out; omega) HA.out hI.out.sa).mono ?_; rintro e w7 ⟨A7, c7, rfl, ho7, hr7, hg7⟩; have T7 := hid (hI.out.drew.first hg7 hr7 (HLn.out ▸ rawS_at N (HLn.out.symm ▸ hI.out.sa))); have hS7 := cells_keep T7.out.b Q1.out; have hst7 := strP c7 ho7; clear hr7 hg7)
                      | (go_at_call 23; refine (traw_any _ gt L s N T7.out.t (by have := hn2.out; have := HLn.out; omega) (by have := HLn.out; have := hI.out.sa; omega)).mono ?_; rintro e w8 ⟨rfl, hr8, hg8⟩; have T8 := hid (T7.out.second hg8 hr8 (HLn.out ▸ rawS_at N (HLn.out.symm ▸ hI.out.sa))); have hS8 := cells_keep T8.out.b Q1.out; have hst8 := strP c7 (ho7.grown_far hg8 T7.out.t tk_not); clear hr8 hg8))
                    all_goals
                      go_wp2
                      go_meet
                      exact ⟨_, T8⟩
              case rest =>
                obtain ⟨s', T0⟩ := hcut
                clear hI c0 c1
                go_wp2_with (first
                  | (go_at_call 24; refine (err_any _ g A6 n c6 L s'.at_ s'.e s'.wh T0.out.r).mono ?_; rintro e w1 ⟨rfl, hr1, hg1⟩; have T1 := hid (T0.out.only hg1); clear hr1 hg1)
                  | (go_at_call 20; refine (rend_any _ g A6 n c6 L s' T1.out.r).mono ?_; rintro e w2 ⟨rfl, hr2, hg2⟩; have T2 := hid (T1.out.only hg2); clear hr2 hg2)
                  | (go_at_call 25; refine (tend_any _ gt L s' T2.out.t).mono ?_; rintro e w3 ⟨rfl, hr3, hg3⟩; have T3 := hid (T2.out.only hg3); clear hr3 hg3))
                obtain ⟨t0, t1, t2, t3, _⟩ := T3.out.t.cells
                go_quiet ((go_at_call 26; exact Calls.quiet_of_same ((at_any _ g A6 n c6 L s'.at_ s'.e s'.wh (T3.out.r.drewN _)).mono fun _ _ h => ⟨h.1, h.2.symm⟩)))
                go_wp2
                go_roundw
                case rel => exact ⟨k + 1, s', by omega, by go_num, hid (T3.out.drewN _)⟩
                case measure => simp [intOf]; omega
            · have d2 : decide ((k : Int) < 60) = false := by simp; omega
              go_wp2_with (go_at_call 11; refine (awake_any _).mono ?_; rintro e w9 ⟨rfl, hb9⟩)
              go_ret
              exact ⟨rfl, past hI.out.b hb9⟩
          · have d1 : decide (k < m0) = false := by simpa using h1
            go_wp2_with (go_at_call 11; refine (awake_any _).mono ?_; rintro e w9 ⟨rfl, hb9⟩)
            go_ret
            exact ⟨rfl, past hI.out.b hb9⟩
end Go.Proofs.Ytnloooakfhjggaa
