/-
  The document's signs of a text: its walk. A part of the proof: see the head of the text that ends in 'Law'.
-/
import Derived.Test.YtdanhdiinkgjnaaDoorAd8
namespace Go.Proofs.YtdanhdiinkgjnaaDoor
open Go.RowKit
set_option linter.unusedVariables false
attribute [local go_sem] Oper.semAt_some

def sgC (x : Sg) : List Value := [B8 x.c, .bool x.q, .bool x.r, .bool x.o, .bool x.s]
theorem sgS : SliceT Tryd.prog 31 42 (.agg #[.int .u8 0, .bool false, .bool false, .bool false, .bool false]) 5 5 := ⟨Tryd.underlying31, by kernel_rfl, rfl, by decide⟩
/-- k octets are looked at; the signs so far stand in a row of its own. -/
structure SgI (w wr : World) (l : List UInt8) (k u d : Nat) (e : Bool) (A : Option Addr) (m c : Nat) (out : List Sg) : Prop where
  own : wr.ownsRow w.heap.size 42 5 (.slice A m c) m (out.flatMap sgC)
  bel : Below w.heap.size w wr
  st : stAfter st0 (l.take k) = ⟨u, d, e⟩
  eq : sgs (marks st0 (l.take k)) = out
  le : k < l.length → e = false
  len : out.length = m
  ml : m ≤ k
  dl : d ≤ k
theorem SgI.start (w : World) (l : List UInt8) : SgI w w l 0 0 0 false none 0 0 [] := ⟨World.ownsRow_nil _ _ _ _, Below.refl _ _, rfl, rfl, fun _ => rfl, rfl, Nat.le_refl _, Nat.le_refl _⟩
theorem SgI.ok {w wr : World} {l : List UInt8} {k u d : Nat} {e : Bool} {A : Option Addr} {m c : Nat} {out : List Sg} (h : SgI w wr l k u d e A m c out) : StOk ⟨u, d, e⟩ := by
  rw [← h.st]
  exact stAfter_ok _ _ st0_ok
theorem sgs_append (a b : List Mk) : sgs (a ++ b) = sgs a ++ sgs b := by unfold sgs; rw [List.filter_append, List.map_append]
theorem sgs_one (m : Mk) (h : m.u ≠ 3) : sgs [m] = [sgOf m] := by unfold sgs; rw [List.filter_cons_of_pos (by simpa using h)]; rfl
theorem sgs_none (m : Mk) (h : m.u = 3) : sgs [m] = [] := by unfold sgs; rw [List.filter_cons_of_neg (by simp [h])]; rfl
theorem SgI.skip {w wr : World} {l : List UInt8} {k u d : Nat} {e : Bool} {A : Option Addr} {m c : Nat} {out : List Sg} (h : SgI w wr l k u d e A m c out) (hk : k < l.length) (x : UInt8) (hx : l[k]'hk = x) (y : Mk) (u' d' : Nat) (e' : Bool) (hm : markS ⟨u, d, e⟩ x = (y, ⟨u', d', e'⟩)) (h3 : y.u = 3) (he : k + 1 < l.length → e' = false) (hd : d' ≤ k + 1) : SgI w wr l (k + 1) u' d' e' A m c out := by
  refine ⟨h.own, h.bel, ?_, ?_, he, h.len, by have := h.ml; omega, hd⟩
  · rw [take_next l k hk, stAfter_append, h.st, hx, stAfter, hm, stAfter]
  · rw [take_next l k hk, marks_append, h.st, hx, marks, hm, marks, sgs_append, h.eq, sgs_none y h3, List.append_nil]
theorem SgI.put {w wr w' : World} {l : List UInt8} {k u d : Nat} {e : Bool} {A A' : Option Addr} {m c c' : Nat} {out : List Sg} (h : SgI w wr l k u d e A m c out) (hk : k < l.length) (x : UInt8) (hx : l[k]'hk = x) (y : Mk) (u' d' : Nat) (hm : markS ⟨u, d, e⟩ x = (y, ⟨u', d', false⟩)) (h3 : y.u ≠ 3) (z : Sg) (hz : sgOf y = z) (hd : d' ≤ k + 1)
    (ho : w'.ownsRow w.heap.size 42 5 (.slice A' (m + 1) c') (m + 1) (out.flatMap sgC ++ sgC z)) (hb : Below w.heap.size w w') : SgI w w' l (k + 1) u' d' false A' (m + 1) c' (out ++ [z]) := by
  refine ⟨by rw [List.flatMap_append]; simpa using ho, hb, ?_, ?_, fun _ => rfl, by rw [List.length_append, h.len]; rfl, by have := h.ml; omega, hd⟩
  · rw [take_next l k hk, stAfter_append, h.st, hx, stAfter, hm, stAfter]
  · rw [take_next l k hk, marks_append, h.st, hx, marks, hm, marks, sgs_append, h.eq, sgs_one y h3, hz]
theorem SgI.two {w wr w' : World} {l : List UInt8} {k u d : Nat} {A A' : Option Addr} {m c c' : Nat} {out : List Sg} (h : SgI w wr l k u d false A m c out) (hk : k + 1 < l.length) (x : UInt8) (hx : l[k]'(by omega) = x) (h92 : x.toNat = 92) (hu : u ≠ 0) (x2 : UInt8) (hx2 : l[k + 1]'hk = x2) (z : Sg) (hz : sgOf ⟨x2, u, true, false, false⟩ = z)
    (ho : w'.ownsRow w.heap.size 42 5 (.slice A' (m + 1) c') (m + 1) (out.flatMap sgC ++ sgC z)) (hb : Below w.heap.size w w') : SgI w w' l (k + 2) u d false A' (m + 1) c' (out ++ [z]) := by
  have hu3 := h.ok.u
  dsimp only at hu3
  refine ⟨by rw [List.flatMap_append]; simpa using ho, hb, ?_, ?_, fun _ => rfl, by rw [List.length_append, h.len]; rfl, by have := h.ml; omega, by have := h.dl; omega⟩
  · rw [take_next l (k + 1) hk, take_next l k (by omega), stAfter_append, stAfter_append, h.st, hx]
    have e5 : stAfter ⟨u, d, false⟩ [x] = ⟨u, d, true⟩ := by rw [stAfter, esc1 h92 hu]; rfl
    rw [e5, stAfter, esc2]; rfl
  · rw [take_next l (k + 1) hk, take_next l k (by omega), marks_append, marks_append, stAfter_append, h.st, hx, hx2]
    have e5 : stAfter ⟨u, d, false⟩ [x] = ⟨u, d, true⟩ := by rw [stAfter, esc1 h92 hu]; rfl
    have e6 : marks ⟨u, d, false⟩ [x] = [⟨x, 3, false, false, false⟩] := by rw [marks, esc1 h92 hu]; rfl
    have e7 : marks ⟨u, d, true⟩ [x2] = [⟨x2, u, true, false, false⟩] := by rw [marks, esc2]; rfl
    rw [e5, e6, e7, sgs_append, sgs_append, h.eq, sgs_none _ rfl, List.append_nil, sgs_one _ (by dsimp only; omega), hz]
set_option maxRecDepth 100000 in
set_option maxHeartbeats 8000000 in
theorem signs_any (l : List UInt8) (n : Nat) (hn : l.length = n) (w : World) (hl : n ≤ 100000) :
    Calls Tryd.prog 16 #[.string (str l)] w fun e w' => ∃ A m c, e = .returned (.slice A m c) ∧ (signsL l).length = m ∧ w'.ownsRow w.heap.size 42 5 (.slice A m c) m ((signsL l).flatMap sgC) ∧ Below w.heap.size w w' ∧ m ≤ n := by
  have HN := hid hn
  have hsz : (str l).size = n := hn
  have I0 := hid (SgI.start w l)
  clear hn
  go_enter Tryd.func16, Tryd.ntmps16
  go_wp2_with fail
  go_loopw [3, 4, 5, 6] (fun v3 v4 v5 v6 wr => ∃ (k u d : Nat) (e : Bool) (A : Option Addr) (m c : Nat) (out : List Sg), k ≤ n ∧ v3 = .slice A m c ∧ v4 = .bool (u == 1) ∧ v5 = .int .i64 (d : Int) ∧ v6 = .int .i64 (k : Int) ∧ Hid (SgI w wr l k u d e A m c out)) (fun v3 v4 v5 v6 wr => n - (intOf v6).toNat)
  case atStart => exact ⟨0, 0, 0, false, none, 0, 0, [], Nat.zero_le _, rfl, rfl, rfl, rfl, I0⟩
  case round =>
    clear I0
    obtain ⟨k, u, d, e, A, m, c0, out, hk2, rfl, rfl, rfl, rfl, HI⟩ := hrel
    by_cases hlt : k < n
    · have d1 : decide ((k : Int) < (n : Int)) = true := by simp; omega
      have d1' : decide (k < n) = true := by simp; omega
      have hks : k < (str l).size := by rw [hsz]; omega
      have hkl : k < l.length := by rw [HN.out]; exact hlt
      have e0 : (0 : Int) ≤ (k : Int) := by omega
      have e1 : (k : Int) < ((str l).size : Int) := by rw [hsz]; omega
      have e3 : (k : Int).toNat = k := by omega
      obtain rfl := HI.out.le hkl
      have hdn : d ≤ n := by have := HI.out.dl; omega
      have hok := HI.out.ok
      have HUD := hid hok.d
      have HU := hid hok.u
      dsimp only at HUD HU
      obtain ⟨x, hc0⟩ : ∃ c, l[k]'hkl = c := ⟨_, rfl⟩
      have hc : (str l)[k]'hks = x := hc0
      have HKL := hid hkl
      have HC : Hid (l[k]'HKL.out = x) := hid hc0
      clear hok hkl hc0
      rcases (by have := HU.out; omega : u = 0 ∨ u = 1 ∨ u = 2) with rfl | rfl | rfl
      · obtain rfl : d = 0 := by
          rcases Nat.eq_zero_or_pos d with h | h
          · exact h
          · have := HUD.out.2 h; omega
        clear HUD HU
        by_cases hx2 : x.toNat = 34
        · have q2 : ((x.toNat : Int) == 34) = true := by rw [hx2]; rfl
          have HX := hid hx2
          clear hx2
          have HI2 : Hid (SgI w wr l (k + 1) 1 0 false A m c0 out) := hid (by
            refine HI.out.skip HKL.out x HC.out ⟨x, 3, false, false, false⟩ 1 0 false ?_ rfl (fun _ => rfl) (by have := HI.out.dl; omega)
            unfold markS
            simp [HX.out])
          clear HC HKL HI
          go_wp2_with fail
          go_roundw
          case rel => exact ⟨k + 1, 1, 0, false, _, _, _, _, by omega, rfl, by first | rfl | go_num | simp, by first | rfl | go_num | simp, by first | rfl | go_num | simp, HI2⟩
          case measure => simp [intOf]; omega
        have q2 : ((x.toNat : Int) == 34) = false := ne_f hx2
        by_cases hx3 : x.toNat = 40
        · have q3 : ((x.toNat : Int) == 40) = true := by rw [hx3]; rfl
          have HX := hid hx3
          clear hx2 hx3
          have HI2 : Hid (∀ (w' : World) (A' : Option Addr) (c' : Nat), w'.ownsRow w.heap.size 42 5 (.slice A' (m + 1) c') (m + 1) (out.flatMap sgC ++ sgC ⟨x, false, true, true, false⟩) → Below w.heap.size w w' → SgI w w' l (k + 1) 2 1 false A' (m + 1) c' (out ++ [⟨x, false, true, true, false⟩])) := hid (fun w' A' c' h1 h2 => by
            refine HI.out.put HKL.out x HC.out ⟨x, 2, false, true, false⟩ 2 1 ?_ (fun h => by cases h) _ rfl (by have := HI.out.dl; omega) h1 h2
            unfold markS
            simp [HX.out])
          clear HC HKL
          go_wp2_with (
            refine wpList_append_row _ rfl (.tmp 57) (.tmp 62) sgS rfl w.heap.size (.slice A m c0) m (out.flatMap sgC) rfl (own_below HI.out.own ((Below.refl wr.heap.size wr).alloc (Nat.le_refl _) (.cells #[.int .u8 (x.toNat : Int), .bool false, .bool true, .bool true, .bool false] 42))) (some ⟨wr.heap.size, 0, none⟩) 1 1 (sgC ⟨x, false, true, true, false⟩) rfl rfl (Row.of_block (heap_alloc_new wr (Obj.cells #[.int .u8 (x.toNat : Int), .bool false, .bool true, .bool true, .bool false] 42))) (by simp [sgC, B8, Value.oneCell']) (by simp only [maxLen]; have := HI.out.ml; omega) (by have := HI.out.ml; omega) (by simp; have := HI.out.bel.size; omega) ?_
            intro A2 c2 w2 ho2 hg2 hh2
            have HI3 := hid (HI2.out w2 A2 c2 ho2 ((HI.out.bel.alloc HI.out.bel.size _).grown hg2 (by simp; have := HI.out.bel.size; omega) (fun k hk => own_base HI.out.own k hk)))
            clear ho2 hg2 hh2)
          go_roundw
          case rel => exact ⟨k + 1, 2, 1, false, _, _, _, _, by omega, rfl, by first | rfl | go_num | simp, by first | rfl | go_num | simp, by first | rfl | go_num | simp, HI3⟩
          case measure => simp [intOf]; omega
        have q3 : ((x.toNat : Int) == 40) = false := ne_f hx3
        have HX := hid (show x.toNat ≠ 34 ∧ x.toNat ≠ 40 from ⟨hx2, hx3⟩)
        clear hx2 hx3
        have HI2 : Hid (∀ (w' : World) (A' : Option Addr) (c' : Nat), w'.ownsRow w.heap.size 42 5 (.slice A' (m + 1) c') (m + 1) (out.flatMap sgC ++ sgC ⟨x, false, false, false, false⟩) → Below w.heap.size w w' → SgI w w' l (k + 1) 0 0 false A' (m + 1) c' (out ++ [⟨x, false, false, false, false⟩])) := hid (fun w' A' c' h1 h2 => by
          refine HI.out.put HKL.out x HC.out ⟨x, 0, false, false, false⟩ 0 0 ?_ (fun h => by cases h) _ rfl (by have := HI.out.dl; omega) h1 h2
          unfold markS
          simp [HX.out.1, HX.out.2])
        clear HC HKL
        go_wp2_with (
          refine wpList_append_row _ rfl (.tmp 81) (.tmp 87) sgS rfl w.heap.size (.slice A m c0) m (out.flatMap sgC) rfl (own_below HI.out.own ((Below.refl wr.heap.size wr).alloc (Nat.le_refl _) (.cells #[.int .u8 (x.toNat : Int), .bool false, .bool false, .bool false, .bool false] 42))) (some ⟨wr.heap.size, 0, none⟩) 1 1 (sgC ⟨x, false, false, false, false⟩) rfl rfl (Row.of_block (heap_alloc_new wr (Obj.cells #[.int .u8 (x.toNat : Int), .bool false, .bool false, .bool false, .bool false] 42))) (by simp [sgC, B8, Value.oneCell']) (by simp only [maxLen]; have := HI.out.ml; omega) (by have := HI.out.ml; omega) (by simp; have := HI.out.bel.size; omega) ?_
          intro A2 c2 w2 ho2 hg2 hh2
          have HI3 := hid (HI2.out w2 A2 c2 ho2 ((HI.out.bel.alloc HI.out.bel.size _).grown hg2 (by simp; have := HI.out.bel.size; omega) (fun k hk => own_base HI.out.own k hk)))
          clear ho2 hg2 hh2)
        go_roundw
        case rel => exact ⟨k + 1, 0, 0, false, _, _, _, _, by omega, rfl, by first | rfl | go_num | simp, by first | rfl | go_num | simp, by first | rfl | go_num | simp, HI3⟩
        case measure => simp [intOf]; omega
      · obtain rfl : d = 0 := by
          rcases Nat.eq_zero_or_pos d with h | h
          · exact h
          · have := HUD.out.2 h; omega
        clear HUD HU
        by_cases hx : x.toNat = 92
        · have q1 : ((x.toNat : Int) == 92) = true := by rw [hx]; rfl
          have HX := hid hx
          clear hx
          by_cases hk2' : k + 1 < n
          · have hkl2 : k + 1 < l.length := by rw [HN.out]; exact hk2'
            have hks2 : k + 1 < (str l).size := by rw [hsz]; exact hk2'
            obtain ⟨x2, hx2⟩ : ∃ x2, l[k + 1]'hkl2 = x2 := ⟨_, rfl⟩
            have hc2 : (str l)[k + 1]'hks2 = x2 := hx2
            have HI2 : Hid (∀ (w' : World) (A' : Option Addr) (c' : Nat), w'.ownsRow w.heap.size 42 5 (.slice A' (m + 1) c') (m + 1) (out.flatMap sgC ++ sgC ⟨x2, true, false, false, false⟩) → Below w.heap.size w w' → SgI w w' l (k + 2) 1 0 false A' (m + 1) c' (out ++ [⟨x2, true, false, false, false⟩])) := hid (fun w' A' c' h1 h2 => HI.out.two hkl2 x HC.out HX.out (by decide) x2 hx2 _ rfl h1 h2)
            have d7 : decide ((k : Int) + 1 < (n : Int)) = true := by simp; omega
            have d7' : decide (k + 1 < n) = true := by simp; omega
            have d8 : (k : Int) + 1 < ((str l).size : Int) := by rw [hsz]; omega
            have d9 : (0 : Int) ≤ (k : Int) + 1 := by omega
            have d10 : ((k : Int) + 1).toNat = k + 1 := by omega
            clear HC HKL hx2 hkl2
            go_wp2_with (
              refine wpList_append_row _ rfl (.tmp 33) (.tmp 41) sgS rfl w.heap.size (.slice A m c0) m (out.flatMap sgC) rfl (own_below HI.out.own ((Below.refl wr.heap.size wr).alloc (Nat.le_refl _) (.cells #[.int .u8 (x2.toNat : Int), .bool true, .bool false, .bool false, .bool false] 42))) (some ⟨wr.heap.size, 0, none⟩) 1 1 (sgC ⟨x2, true, false, false, false⟩) rfl rfl (Row.of_block (heap_alloc_new wr (Obj.cells #[.int .u8 (x2.toNat : Int), .bool true, .bool false, .bool false, .bool false] 42))) (by simp [sgC, B8, Value.oneCell']) (by simp only [maxLen]; have := HI.out.ml; omega) (by have := HI.out.ml; omega) (by simp; have := HI.out.bel.size; omega) ?_
              intro A2 c2 w2 ho2 hg2 hh2
              have HI3 := hid (HI2.out w2 A2 c2 ho2 ((HI.out.bel.alloc HI.out.bel.size _).grown hg2 (by simp; have := HI.out.bel.size; omega) (fun k hk => own_base HI.out.own k hk)))
              clear ho2 hg2 hh2)
            go_roundw
            case rel => exact ⟨k + 2, 1, 0, false, _, _, _, _, by omega, rfl, by first | rfl | go_num | simp, by first | rfl | go_num | simp, by first | rfl | go_num | simp, HI3⟩
            case measure => simp [intOf]; omega
          · have HI2 : Hid (SgI w wr l (k + 1) 1 0 true A m c0 out) := hid (HI.out.skip HKL.out x HC.out _ _ _ _ (esc1 HX.out (by decide)) rfl (by rw [HN.out]; intro h; omega) (by have := HI.out.dl; omega))
            have d7 : decide ((k : Int) + 1 < (n : Int)) = false := by simp; omega
            have d7' : decide (k + 1 < n) = false := by simp; omega
            clear HC HKL HI
            go_wp2_with fail
            go_roundw
            case rel => exact ⟨k + 1, 1, 0, true, _, _, _, _, by omega, rfl, by first | rfl | go_num | simp, by first | rfl | go_num | simp, by first | rfl | go_num | simp, HI2⟩
            case measure => simp [intOf]; omega
        have q1 : ((x.toNat : Int) == 92) = false := ne_f hx
        by_cases hx2 : x.toNat = 34
        · have q2 : ((x.toNat : Int) == 34) = true := by rw [hx2]; rfl
          have HX := hid hx2
          clear hx2 hx
          have HI2 : Hid (SgI w wr l (k + 1) 0 0 false A m c0 out) := hid (by
            refine HI.out.skip HKL.out x HC.out ⟨x, 3, false, false, false⟩ 0 0 false ?_ rfl (fun _ => rfl) (by have := HI.out.dl; omega)
            unfold markS
            simp [HX.out])
          clear HC HKL HI
          go_wp2_with fail
          go_roundw
          case rel => exact ⟨k + 1, 0, 0, false, _, _, _, _, by omega, rfl, by first | rfl | go_num | simp, by first | rfl | go_num | simp, by first | rfl | go_num | simp, HI2⟩
          case measure => simp [intOf]; omega
        have q2 : ((x.toNat : Int) == 34) = false := ne_f hx2
        have HX := hid (show x.toNat ≠ 92 ∧ x.toNat ≠ 34 from ⟨hx, hx2⟩)
        clear hx2 hx
        have HI2 : Hid (∀ (w' : World) (A' : Option Addr) (c' : Nat), w'.ownsRow w.heap.size 42 5 (.slice A' (m + 1) c') (m + 1) (out.flatMap sgC ++ sgC ⟨x, true, false, false, false⟩) → Below w.heap.size w w' → SgI w w' l (k + 1) 1 0 false A' (m + 1) c' (out ++ [⟨x, true, false, false, false⟩])) := hid (fun w' A' c' h1 h2 => by
          refine HI.out.put HKL.out x HC.out ⟨x, 1, false, false, false⟩ 1 0 ?_ (fun h => by cases h) _ rfl (by have := HI.out.dl; omega) h1 h2
          unfold markS
          simp [HX.out.1, HX.out.2])
        clear HC HKL
        go_wp2_with (
          refine wpList_append_row _ rfl (.tmp 81) (.tmp 87) sgS rfl w.heap.size (.slice A m c0) m (out.flatMap sgC) rfl (own_below HI.out.own ((Below.refl wr.heap.size wr).alloc (Nat.le_refl _) (.cells #[.int .u8 (x.toNat : Int), .bool true, .bool false, .bool false, .bool false] 42))) (some ⟨wr.heap.size, 0, none⟩) 1 1 (sgC ⟨x, true, false, false, false⟩) rfl rfl (Row.of_block (heap_alloc_new wr (Obj.cells #[.int .u8 (x.toNat : Int), .bool true, .bool false, .bool false, .bool false] 42))) (by simp [sgC, B8, Value.oneCell']) (by simp only [maxLen]; have := HI.out.ml; omega) (by have := HI.out.ml; omega) (by simp; have := HI.out.bel.size; omega) ?_
          intro A2 c2 w2 ho2 hg2 hh2
          have HI3 := hid (HI2.out w2 A2 c2 ho2 ((HI.out.bel.alloc HI.out.bel.size _).grown hg2 (by simp; have := HI.out.bel.size; omega) (fun k hk => own_base HI.out.own k hk)))
          clear ho2 hg2 hh2)
        go_roundw
        case rel => exact ⟨k + 1, 1, 0, false, _, _, _, _, by omega, rfl, by first | rfl | go_num | simp, by first | rfl | go_num | simp, by first | rfl | go_num | simp, HI3⟩
        case measure => simp [intOf]; omega
      · have hd0 : ((d : Int) == 0) = false := by have := HUD.out.1 rfl; rw [beq_eq_false_iff_ne]; omega
        have hd1 : decide ((0 : Int) < (d : Int)) = true := by have := HUD.out.1 rfl; simp; omega
        have hd1' : decide (0 < d) = true := by have := HUD.out.1 rfl; simp; omega
        by_cases hx : x.toNat = 92
        · have q1 : ((x.toNat : Int) == 92) = true := by rw [hx]; rfl
          have HX := hid hx
          clear hx HUD HU
          by_cases hk2' : k + 1 < n
          · have hkl2 : k + 1 < l.length := by rw [HN.out]; exact hk2'
            have hks2 : k + 1 < (str l).size := by rw [hsz]; exact hk2'
            obtain ⟨x2, hx2⟩ : ∃ x2, l[k + 1]'hkl2 = x2 := ⟨_, rfl⟩
            have hc2 : (str l)[k + 1]'hks2 = x2 := hx2
            have HI2 : Hid (∀ (w' : World) (A' : Option Addr) (c' : Nat), w'.ownsRow w.heap.size 42 5 (.slice A' (m + 1) c') (m + 1) (out.flatMap sgC ++ sgC ⟨x2, false, true, false, false⟩) → Below w.heap.size w w' → SgI w w' l (k + 2) 2 d false A' (m + 1) c' (out ++ [⟨x2, false, true, false, false⟩])) := hid (fun w' A' c' h1 h2 => HI.out.two hkl2 x HC.out HX.out (by decide) x2 hx2 _ rfl h1 h2)
            have d7 : decide ((k : Int) + 1 < (n : Int)) = true := by simp; omega
            have d7' : decide (k + 1 < n) = true := by simp; omega
            have d8 : (k : Int) + 1 < ((str l).size : Int) := by rw [hsz]; omega
            have d9 : (0 : Int) ≤ (k : Int) + 1 := by omega
            have d10 : ((k : Int) + 1).toNat = k + 1 := by omega
            clear HC HKL hx2 hkl2
            go_wp2_with (
              refine wpList_append_row _ rfl (.tmp 33) (.tmp 41) sgS rfl w.heap.size (.slice A m c0) m (out.flatMap sgC) rfl (own_below HI.out.own ((Below.refl wr.heap.size wr).alloc (Nat.le_refl _) (.cells #[.int .u8 (x2.toNat : Int), .bool false, .bool true, .bool false, .bool false] 42))) (some ⟨wr.heap.size, 0, none⟩) 1 1 (sgC ⟨x2, false, true, false, false⟩) rfl rfl (Row.of_block (heap_alloc_new wr (Obj.cells #[.int .u8 (x2.toNat : Int), .bool false, .bool true, .bool false, .bool false] 42))) (by simp [sgC, B8, Value.oneCell']) (by simp only [maxLen]; have := HI.out.ml; omega) (by have := HI.out.ml; omega) (by simp; have := HI.out.bel.size; omega) ?_
              intro A2 c2 w2 ho2 hg2 hh2
              have HI3 := hid (HI2.out w2 A2 c2 ho2 ((HI.out.bel.alloc HI.out.bel.size _).grown hg2 (by simp; have := HI.out.bel.size; omega) (fun k hk => own_base HI.out.own k hk)))
              clear ho2 hg2 hh2)
            go_roundw
            case rel => exact ⟨k + 2, 2, d, false, _, _, _, _, by omega, rfl, by first | rfl | go_num | simp, by first | rfl | go_num | simp, by first | rfl | go_num | simp, HI3⟩
            case measure => simp [intOf]; omega
          · have HI2 : Hid (SgI w wr l (k + 1) 2 d true A m c0 out) := hid (HI.out.skip HKL.out x HC.out _ _ _ _ (esc1 HX.out (by decide)) rfl (by rw [HN.out]; intro h; omega) (by have := HI.out.dl; omega))
            have d7 : decide ((k : Int) + 1 < (n : Int)) = false := by simp; omega
            have d7' : decide (k + 1 < n) = false := by simp; omega
            clear HC HKL HI
            go_wp2_with fail
            go_roundw
            case rel => exact ⟨k + 1, 2, d, true, _, _, _, _, by omega, rfl, by first | rfl | go_num | simp, by first | rfl | go_num | simp, by first | rfl | go_num | simp, HI2⟩
            case measure => simp [intOf]; omega
        have q1 : ((x.toNat : Int) == 92) = false := ne_f hx
        by_cases hx3 : x.toNat = 40
        · have q3 : ((x.toNat : Int) == 40) = true := by rw [hx3]; rfl
          have HX := hid hx3
          clear hx hx3 HUD HU
          have HI2 : Hid (∀ (w' : World) (A' : Option Addr) (c' : Nat), w'.ownsRow w.heap.size 42 5 (.slice A' (m + 1) c') (m + 1) (out.flatMap sgC ++ sgC ⟨x, false, true, false, false⟩) → Below w.heap.size w w' → SgI w w' l (k + 1) 2 (d + 1) false A' (m + 1) c' (out ++ [⟨x, false, true, false, false⟩])) := hid (fun w' A' c' h1 h2 => by
            refine HI.out.put HKL.out x HC.out ⟨x, 2, false, false, false⟩ 2 (d + 1) ?_ (fun h => by cases h) _ rfl (by have := HI.out.dl; omega) h1 h2
            unfold markS
            simp [HX.out])
          clear HC HKL
          go_wp2_with (
            refine wpList_append_row _ rfl (.tmp 57) (.tmp 62) sgS rfl w.heap.size (.slice A m c0) m (out.flatMap sgC) rfl (own_below HI.out.own ((Below.refl wr.heap.size wr).alloc (Nat.le_refl _) (.cells #[.int .u8 (x.toNat : Int), .bool false, .bool true, .bool false, .bool false] 42))) (some ⟨wr.heap.size, 0, none⟩) 1 1 (sgC ⟨x, false, true, false, false⟩) rfl rfl (Row.of_block (heap_alloc_new wr (Obj.cells #[.int .u8 (x.toNat : Int), .bool false, .bool true, .bool false, .bool false] 42))) (by simp [sgC, B8, Value.oneCell']) (by simp only [maxLen]; have := HI.out.ml; omega) (by have := HI.out.ml; omega) (by simp; have := HI.out.bel.size; omega) ?_
            intro A2 c2 w2 ho2 hg2 hh2
            have HI3 := hid (HI2.out w2 A2 c2 ho2 ((HI.out.bel.alloc HI.out.bel.size _).grown hg2 (by simp; have := HI.out.bel.size; omega) (fun k hk => own_base HI.out.own k hk)))
            clear ho2 hg2 hh2)
          go_roundw
          case rel => exact ⟨k + 1, 2, (d + 1), false, _, _, _, _, by omega, rfl, by first | rfl | go_num | simp, by first | rfl | go_num | simp, by first | rfl | go_num | simp, HI3⟩
          case measure => simp [intOf]; omega
        have q3 : ((x.toNat : Int) == 40) = false := ne_f hx3
        by_cases hx4 : x.toNat = 41
        · have q4 : ((x.toNat : Int) == 41) = true := by rw [hx4]; rfl
          have HX := hid hx4
          obtain ⟨d2, rfl⟩ : ∃ d2, d = d2 + 1 := ⟨d - 1, by have := HUD.out.1 rfl; omega⟩
          clear hx hx3 hx4 HUD HU
          by_cases hd2 : d2 = 0
          · subst hd2
            have HI2 : Hid (∀ (w' : World) (A' : Option Addr) (c' : Nat), w'.ownsRow w.heap.size 42 5 (.slice A' (m + 1) c') (m + 1) (out.flatMap sgC ++ sgC ⟨x, false, true, false, true⟩) → Below w.heap.size w w' → SgI w w' l (k + 1) 0 0 false A' (m + 1) c' (out ++ [⟨x, false, true, false, true⟩])) := hid (fun w' A' c' h1 h2 => by
              refine HI.out.put HKL.out x HC.out ⟨x, 2, false, false, true⟩ 0 0 ?_ (fun h => by cases h) _ rfl (by have := HI.out.dl; omega) h1 h2
              unfold markS
              simp [HX.out])
            clear HC HKL
            go_wp2_with (
              refine wpList_append_row _ rfl (.tmp 74) (.tmp 79) sgS rfl w.heap.size (.slice A m c0) m (out.flatMap sgC) rfl (own_below HI.out.own ((Below.refl wr.heap.size wr).alloc (Nat.le_refl _) (.cells #[.int .u8 (x.toNat : Int), .bool false, .bool true, .bool false, .bool true] 42))) (some ⟨wr.heap.size, 0, none⟩) 1 1 (sgC ⟨x, false, true, false, true⟩) rfl rfl (Row.of_block (heap_alloc_new wr (Obj.cells #[.int .u8 (x.toNat : Int), .bool false, .bool true, .bool false, .bool true] 42))) (by simp [sgC, B8, Value.oneCell']) (by simp only [maxLen]; have := HI.out.ml; omega) (by have := HI.out.ml; omega) (by simp; have := HI.out.bel.size; omega) ?_
              intro A2 c2 w2 ho2 hg2 hh2
              have HI3 := hid (HI2.out w2 A2 c2 ho2 ((HI.out.bel.alloc HI.out.bel.size _).grown hg2 (by simp; have := HI.out.bel.size; omega) (fun k hk => own_base HI.out.own k hk)))
              clear ho2 hg2 hh2)
            go_roundw
            case rel => exact ⟨k + 1, 0, 0, false, _, _, _, _, by omega, rfl, by first | rfl | go_num | simp, by first | rfl | go_num | simp, by first | rfl | go_num | simp, HI3⟩
            case measure => simp [intOf]; omega
          · have q5 : ((d2 : Int) == 0) = false := by simpa using hd2
            have HD2 := hid hd2
            clear hd2
            have HI2 : Hid (∀ (w' : World) (A' : Option Addr) (c' : Nat), w'.ownsRow w.heap.size 42 5 (.slice A' (m + 1) c') (m + 1) (out.flatMap sgC ++ sgC ⟨x, false, true, false, false⟩) → Below w.heap.size w w' → SgI w w' l (k + 1) 2 d2 false A' (m + 1) c' (out ++ [⟨x, false, true, false, false⟩])) := hid (fun w' A' c' h1 h2 => by
              refine HI.out.put HKL.out x HC.out ⟨x, 2, false, false, false⟩ 2 d2 ?_ (fun h => by cases h) _ rfl (by have := HI.out.dl; omega) h1 h2
              unfold markS
              simp [HX.out, HD2.out])
            clear HC HKL
            go_wp2_with (
              refine wpList_append_row _ rfl (.tmp 74) (.tmp 79) sgS rfl w.heap.size (.slice A m c0) m (out.flatMap sgC) rfl (own_below HI.out.own ((Below.refl wr.heap.size wr).alloc (Nat.le_refl _) (.cells #[.int .u8 (x.toNat : Int), .bool false, .bool true, .bool false, .bool false] 42))) (some ⟨wr.heap.size, 0, none⟩) 1 1 (sgC ⟨x, false, true, false, false⟩) rfl rfl (Row.of_block (heap_alloc_new wr (Obj.cells #[.int .u8 (x.toNat : Int), .bool false, .bool true, .bool false, .bool false] 42))) (by simp [sgC, B8, Value.oneCell']) (by simp only [maxLen]; have := HI.out.ml; omega) (by have := HI.out.ml; omega) (by simp; have := HI.out.bel.size; omega) ?_
              intro A2 c2 w2 ho2 hg2 hh2
              have HI3 := hid (HI2.out w2 A2 c2 ho2 ((HI.out.bel.alloc HI.out.bel.size _).grown hg2 (by simp; have := HI.out.bel.size; omega) (fun k hk => own_base HI.out.own k hk)))
              clear ho2 hg2 hh2)
            go_roundw
            case rel => exact ⟨k + 1, 2, d2, false, _, _, _, _, by omega, rfl, by first | rfl | go_num | simp, by first | rfl | go_num | simp, by first | rfl | go_num | simp, HI3⟩
            case measure => simp [intOf]; omega
        have q4 : ((x.toNat : Int) == 41) = false := ne_f hx4
        have HX := hid (show x.toNat ≠ 92 ∧ x.toNat ≠ 40 ∧ x.toNat ≠ 41 from ⟨hx, hx3, hx4⟩)
        clear hx hx3 hx4 HUD HU
        have HI2 : Hid (∀ (w' : World) (A' : Option Addr) (c' : Nat), w'.ownsRow w.heap.size 42 5 (.slice A' (m + 1) c') (m + 1) (out.flatMap sgC ++ sgC ⟨x, false, true, false, false⟩) → Below w.heap.size w w' → SgI w w' l (k + 1) 2 d false A' (m + 1) c' (out ++ [⟨x, false, true, false, false⟩])) := hid (fun w' A' c' h1 h2 => by
          refine HI.out.put HKL.out x HC.out ⟨x, 2, false, false, false⟩ 2 d ?_ (fun h => by cases h) _ rfl (by have := HI.out.dl; omega) h1 h2
          unfold markS
          simp [HX.out.1, HX.out.2.1, HX.out.2.2])
        clear HC HKL
        go_wp2_with (
          refine wpList_append_row _ rfl (.tmp 81) (.tmp 87) sgS rfl w.heap.size (.slice A m c0) m (out.flatMap sgC) rfl (own_below HI.out.own ((Below.refl wr.heap.size wr).alloc (Nat.le_refl _) (.cells #[.int .u8 (x.toNat : Int), .bool false, .bool true, .bool false, .bool false] 42))) (some ⟨wr.heap.size, 0, none⟩) 1 1 (sgC ⟨x, false, true, false, false⟩) rfl rfl (Row.of_block (heap_alloc_new wr (Obj.cells #[.int .u8 (x.toNat : Int), .bool false, .bool true, .bool false, .bool false] 42))) (by simp [sgC, B8, Value.oneCell']) (by simp only [maxLen]; have := HI.out.ml; omega) (by have := HI.out.ml; omega) (by simp; have := HI.out.bel.size; omega) ?_
          intro A2 c2 w2 ho2 hg2 hh2
          have HI3 := hid (HI2.out w2 A2 c2 ho2 ((HI.out.bel.alloc HI.out.bel.size _).grown hg2 (by simp; have := HI.out.bel.size; omega) (fun k hk => own_base HI.out.own k hk)))
          clear ho2 hg2 hh2)
        go_roundw
        case rel => exact ⟨k + 1, 2, d, false, _, _, _, _, by omega, rfl, by first | rfl | go_num | simp, by first | rfl | go_num | simp, by first | rfl | go_num | simp, HI3⟩
        case measure => simp [intOf]; omega
    · have hkn : k = n := by omega
      subst hkn
      have d1 : decide ((k : Int) < (k : Int)) = false := by simp
      have d1' : decide (k < k) = false := by simp
      have HE : Hid (signsL l = out) := hid (by
        have := HI.out.eq
        rw [List.take_of_length_le (by rw [HN.out]; exact Nat.le_refl _)] at this
        exact this)
      go_wp2_with fail
      go_ret
      refine ⟨A, m, c0, rfl, by rw [HE.out]; exact HI.out.len, ?_, HI.out.bel, HI.out.ml⟩
      rw [HE.out]
      exact HI.out.own
end Go.Proofs.YtdanhdiinkgjnaaDoor
