/-
  What each octet is for: the program's walk. A part of the proof: see the head of the text that ends in 'Law'.
-/
import Derived.Test.YtdanhdiinkgjnaaDoorAd3
namespace Go.Proofs.YtdanhdiinkgjnaaDoor
open Go.RowKit
set_option linter.unusedVariables false
attribute [local go_sem] Oper.semAt_some

theorem useS : SliceT Tryd.prog 43 45 (.int .i64 0) 1 8 := ⟨Tryd.underlying43, by kernel_rfl, rfl, by decide⟩
def mU (l : List Mk) : List Value := l.map fun m => U m.u
/-- k octets are looked at; u, d, e is where it stands. -/
structure UsI (w wr : World) (g : Nat) (l : List UInt8) (k u d : Nat) (e : Bool) : Prop where
  own : OwnE wr g 45 (mU (marks st0 (l.take k)) ++ List.replicate (l.length - k) (U 0))
  bel : Below w.heap.size w wr
  g : w.heap.size ≤ g
  st : stAfter st0 (l.take k) = ⟨u, d, e⟩
  le : k < l.length → e = false
  dl : d ≤ k
theorem UsI.ok {w wr : World} {g : Nat} {l : List UInt8} {k u d : Nat} {e : Bool} (h : UsI w wr g l k u d e) : StOk ⟨u, d, e⟩ := by
  rw [← h.st]
  exact stAfter_ok _ _ st0_ok
theorem take_next (l : List UInt8) (k : Nat) (hk : k < l.length) : l.take (k + 1) = l.take k ++ [l[k]'hk] := List.take_succ_eq_append_getElem hk
theorem mU_len (l : List UInt8) (k : Nat) (hk : k ≤ l.length) : (mU (marks st0 (l.take k))).length = k := by
  unfold mU
  rw [List.length_map, marks_len, List.length_take, Nat.min_eq_left hk]
theorem UsI.cells {w wr : World} {g : Nat} {l : List UInt8} {k u d : Nat} {e : Bool} (h : UsI w wr g l k u d e) (hk : k < l.length) : wr.cell? ⟨g, k, none⟩ = some (.int .i64 0) ∧ wr.frozen? ⟨g, k, none⟩ = false := by
  refine ⟨h.own.cell (j := k) ?_, h.own.frozen k⟩
  rw [List.getElem?_append_right (by rw [mU_len l k (by omega)]; exact Nat.le_refl _), mU_len l k (by omega), Nat.sub_self, List.getElem?_replicate, if_pos (by omega)]
  rfl
theorem UsI.step {w wr : World} {g : Nat} {l : List UInt8} {k u d : Nat} {e : Bool} (h : UsI w wr g l k u d e) (hk : k < l.length) (c : UInt8) (hc : l[k]'hk = c) (m : Mk) (u' d' : Nat) (e' : Bool) (hm : markS ⟨u, d, e⟩ c = (m, ⟨u', d', e'⟩)) (he : k + 1 < l.length → e' = false) (hd : d' ≤ k + 1) :
    UsI w (wr.setCell ⟨g, k, none⟩ (U m.u)) g l (k + 1) u' d' e' := by
  have e1 : marks st0 (l.take (k + 1)) = marks st0 (l.take k) ++ [m] := by
    rw [take_next l k hk, marks_append, h.st, hc, marks, hm, marks]
  refine ⟨?_, h.bel.setCell (p := ⟨g, k, none⟩) h.g _, h.g, ?_, he, hd⟩
  · have := h.own.set k (U m.u)
    have e2 : (mU (marks st0 (l.take k)) ++ List.replicate (l.length - k) (U 0)).set k (U m.u) = mU (marks st0 (l.take (k + 1))) ++ List.replicate (l.length - (k + 1)) (U 0) := by
      rw [List.set_append_right _ _ (by rw [mU_len l k (by omega)]; exact Nat.le_refl _), mU_len l k (by omega), Nat.sub_self, e1]
      obtain ⟨r, hr⟩ : ∃ r, l.length - k = r + 1 := ⟨l.length - k - 1, by omega⟩
      rw [hr, List.replicate_succ, List.set_cons_zero, show l.length - (k + 1) = r by omega]
      unfold mU
      rw [List.map_append, List.append_assoc]
      rfl
    rw [e2] at this
    exact this
  · rw [take_next l k hk, stAfter_append, h.st, hc, stAfter, hm, stAfter]
theorem esc1 {u d : Nat} {c : UInt8} (h92 : c.toNat = 92) (hu : u ≠ 0) : markS ⟨u, d, false⟩ c = (⟨c, 3, false, false, false⟩, ⟨u, d, true⟩) := by
  unfold markS
  rw [if_neg (fun h => by cases h), if_pos ⟨hu, h92⟩]
theorem esc2 {u d : Nat} {c : UInt8} : markS ⟨u, d, true⟩ c = (⟨c, u, true, false, false⟩, ⟨u, d, false⟩) := by
  unfold markS
  rw [if_pos rfl]
/-- The pair that a \ and the octet behind it leave. -/
structure UsE (w wr : World) (g : Nat) (l : List UInt8) (k u d : Nat) : Prop where
  x : (wr.setCell ⟨g, k, none⟩ (U 3)).cell? ⟨g, k + 1, none⟩ = some (.int .i64 0)
  f : (wr.setCell ⟨g, k, none⟩ (U 3)).frozen? ⟨g, k + 1, none⟩ = false
  i : UsI w ((wr.setCell ⟨g, k, none⟩ (U 3)).setCell ⟨g, k + 1, none⟩ (U u)) g l (k + 2) u d false
theorem UsI.two {w wr : World} {g : Nat} {l : List UInt8} {k u d : Nat} (h : UsI w wr g l k u d false) (hk : k + 1 < l.length) (c : UInt8) (hc : l[k]'(by omega) = c) (h92 : c.toNat = 92) (hu : u ≠ 0) : UsE w wr g l k u d := by
  have hdl := h.dl
  have hs := h.own.set k (U 3)
  have h3 : (wr.setCell ⟨g, k, none⟩ (U 3)).cell? ⟨g, k + 1, none⟩ = some (.int .i64 0) := by
    refine hs.cell (j := k + 1) ?_
    rw [List.getElem?_set_ne (by omega), List.getElem?_append_right (by rw [mU_len l k (by omega)]; omega), mU_len l k (by omega), List.getElem?_replicate, if_pos (by omega)]
    rfl
  refine ⟨h3, hs.frozen _, ?_⟩
  have e1 : marks st0 (l.take (k + 2)) = marks st0 (l.take k) ++ [⟨c, 3, false, false, false⟩, ⟨l[k + 1]'hk, u, true, false, false⟩] := by
    rw [take_next l (k + 1) hk, take_next l k (by omega), marks_append, marks_append, stAfter_append, h.st, hc, marks, stAfter, esc1 h92 hu, marks, stAfter, marks, esc2, marks, List.append_assoc]
    rfl
  refine ⟨?_, (h.bel.setCell (p := ⟨g, k, none⟩) h.g _).setCell (p := ⟨g, k + 1, none⟩) h.g _, h.g, ?_, fun _ => rfl, by omega⟩
  · have h4 := hs.set (k + 1) (U u)
    have e2 : ((mU (marks st0 (l.take k)) ++ List.replicate (l.length - k) (U 0)).set k (U 3)).set (k + 1) (U u) = mU (marks st0 (l.take (k + 2))) ++ List.replicate (l.length - (k + 2)) (U 0) := by
      rw [List.set_append_right _ _ (by rw [mU_len l k (by omega)]; exact Nat.le_refl _), mU_len l k (by omega), Nat.sub_self, e1]
      rw [List.set_append_right _ _ (by rw [mU_len l k (by omega)]; omega), mU_len l k (by omega)]
      obtain ⟨r, hr⟩ : ∃ r, l.length - k = r + 1 + 1 := ⟨l.length - k - 2, by omega⟩
      rw [hr, show k + 1 - k = 1 by omega, List.replicate_succ, List.replicate_succ, List.set_cons_zero, show l.length - (k + 2) = r by omega]
      unfold mU
      rw [List.map_append, List.append_assoc]
      rfl
    rw [e2] at h4
    exact h4
  · rw [take_next l (k + 1) hk, take_next l k (by omega), stAfter_append, stAfter_append, h.st, hc]
    have e5 : stAfter ⟨u, d, false⟩ [c] = ⟨u, d, true⟩ := by rw [stAfter, esc1 h92 hu]; rfl
    rw [e5, stAfter, esc2]; rfl
theorem UsI.start {w wr : World} {g : Nat} {l : List UInt8} {n : Nat} (hn : l.length = n) (h : OwnE wr g 45 (List.replicate n (.int .i64 0))) (hb : Below w.heap.size w wr) (hg : w.heap.size ≤ g) : UsI w wr g l 0 0 0 false := by
  subst hn
  exact ⟨h, hb, hg, rfl, fun _ => rfl, Nat.le_refl _⟩
theorem UsI.row {w wr : World} {g : Nat} {l : List UInt8} {n u d : Nat} {e : Bool} (hn : l.length = n) (h : UsI w wr g l n u d e) : Row wr (some ⟨g, 0, none⟩) ((prs (marks st0 l)).map fun x => U x.2) := by
  subst hn
  have h1 := h.own.row
  rw [List.take_of_length_le (Nat.le_refl _), Nat.sub_self, List.replicate_zero, List.append_nil] at h1
  unfold prs
  rw [List.map_map]
  exact h1
theorem ne_f {x k : Nat} (h : x ≠ k) : ((x : Int) == (k : Int)) = false := by rw [beq_eq_false_iff_ne]; omega
set_option maxRecDepth 100000 in
set_option maxHeartbeats 8000000 in
theorem uses_any (l : List UInt8) (w : World) (n : Nat) (hn : l.length = n) (hl : n ≤ 100000) :
    Calls Tryd.prog 21 #[.string (str l)] w fun e w' => e = .returned (.slice (some ⟨w.heap.size, 0, none⟩) n n) ∧ Row w' (some ⟨w.heap.size, 0, none⟩) ((prs (marks st0 l)).map fun x => U x.2) ∧ Below w.heap.size w w' ∧ w.heap.size < w'.heap.size := by
  have hsz : (str l).size = n := by rw [str_size, hn]
  have HN := hid hn
  obtain ⟨i0, hi0, hz0, hz1, hz2⟩ := info_parts useS.info
  have Hz1 := hid hz1
  have Hz2 := hid hz2
  have Hi0 := hid hi0
  have Hz0 := hid hz0
  clear hz1 hz2 hi0 hz0 hn
  go_enter Tryd.func21, Tryd.ntmps21
  go_upto_region 2 with (
    refine wpList_make_full _ rfl (.tmp 9) (.tmp 9) 43 rfl w.heap.size 45 i0 (.int .i64 0) 1 Tryd.underlying43 Hi0.out Hz0.out Hz1.out .i64 .i64 n n n rfl rfl rfl rfl (by rw [Hz2.out]; omega) (by unfold maxLen; omega) (Nat.le_refl _) ?_
    intro w4 ho4 hg4
    have b4 := (Below.refl _ _).grown hg4 (Nat.le_refl _) (fun k hk => by cases hk)
    rw [made_one _ rfl] at ho4
    have I0 := hid (UsI.start HN.out (OwnE.made ho4) b4 (Nat.le_refl _))
    clear hg4 ho4 b4)
  go_wp2_with fail
  go_loopw [4, 5, 6] (fun v4 v5 v6 wr => ∃ (k u d : Nat) (e : Bool), k ≤ n ∧ v4 = .int .i64 (u : Int) ∧ v5 = .int .i64 (d : Int) ∧ v6 = .int .i64 (k : Int) ∧ Hid (UsI w wr w.heap.size l k u d e)) (fun v4 v5 v6 wr => n - (intOf v6).toNat)
  case atStart => exact ⟨0, 0, 0, false, Nat.zero_le _, rfl, rfl, rfl, I0⟩
  case round =>
    clear I0
    obtain ⟨k, u, d, e, hk2, rfl, rfl, rfl, HI⟩ := hrel
    by_cases hlt : k < n
    · have d1 : decide ((k : Int) < ((str l).size : Int)) = true := by rw [hsz]; simp; omega
      have d1' : decide (k < (str l).size) = true := by rw [hsz]; simp; omega
      have hks : k < (str l).size := by rw [hsz]; omega
      have hkl : k < l.length := by rw [HN.out]; exact hlt
      have e0 : (0 : Int) ≤ (k : Int) := by omega
      have e1 : (k : Int) < ((str l).size : Int) := by rw [hsz]; omega
      have e2 : (k : Int) < (n : Int) := by omega
      have e3 : (k : Int).toNat = k := by omega
      obtain rfl := HI.out.le hkl
      have hz := HI.out.cells hkl
      have x0 := hz.1
      have f0 := hz.2
      have hdn : d ≤ n := by have := HI.out.dl; omega
      have hok := HI.out.ok
      have hu := hok.u
      have hud := hok.d
      dsimp only at hu hud
      have HUD := hid hud
      have HU := hid hu
      clear hu hud
      obtain ⟨c, hc0⟩ : ∃ c, l[k]'hkl = c := ⟨_, rfl⟩
      have hc : (str l)[k]'hks = c := hc0
      have HKL := hid hkl
      have HC : Hid (l[k]'HKL.out = c) := hid hc0
      clear hz hok hkl hc0
      by_cases hx : c.toNat = 92
      · have q1 : ((c.toNat : Int) == 92) = true := by rw [hx]; rfl
        have q2 : ((c.toNat : Int) == 34) = false := by rw [hx]; rfl
        have q3 : ((c.toNat : Int) == 40) = false := by rw [hx]; rfl
        have q4 : ((c.toNat : Int) == 41) = false := by rw [hx]; rfl
        have HX := hid hx
        clear hx
        rcases (by have := HU.out; omega : u = 0 ∨ u = 1 ∨ u = 2) with rfl | rfl | rfl
        · have HI2 : Hid (UsI w (wr.setCell ⟨w.heap.size, k, none⟩ (U 0)) w.heap.size l (k + 1) 0 d false) := hid (by
            refine HI.out.step HKL.out c HC.out ⟨c, 0, false, false, false⟩ 0 d false ?_ (fun _ => rfl) (by have := HI.out.dl; omega)
            unfold markS
            simp [HX.out])
          unfold U at HI2
          clear HI HC HKL
          go_wp2_with fail
          go_roundw
          case rel => exact ⟨k + 1, 0, d, false, by omega, by first | rfl | go_num | simp, by first | rfl | go_num | simp, by first | rfl | go_num | simp, HI2⟩
          case measure => simp [intOf]; omega
        · by_cases hk2 : k + 1 < n
          · have HE := hid (HI.out.two (by rw [HN.out]; exact hk2) c HC.out (by rw [HX.out]) (by decide))
            have z0 : (wr.setCell ⟨w.heap.size, k, none⟩ (.int .i64 3)).cell? ⟨w.heap.size, k + 1, none⟩ = some (.int .i64 0) := HE.out.x
            have zf : (wr.setCell ⟨w.heap.size, k, none⟩ (.int .i64 3)).frozen? ⟨w.heap.size, k + 1, none⟩ = false := HE.out.f
            have HI2 := hid HE.out.i
            unfold U at HI2
            have d7 : decide ((k : Int) + 1 < ((str l).size : Int)) = true := by rw [hsz]; simp; omega
            have d7' : decide (k + 1 < (str l).size) = true := by rw [hsz]; simp; omega
            have d8 : (k : Int) + 1 < (n : Int) := by omega
            have d9 : (0 : Int) ≤ (k : Int) + 1 := by omega
            have d10 : ((k : Int) + 1).toNat = k + 1 := by omega
            clear HI HC HKL HE
            go_wp2_with fail
            go_roundw
            case rel => exact ⟨k + 2, 1, d, false, by omega, by first | rfl | go_num | simp, by first | rfl | go_num | simp, by first | rfl | go_num | simp, HI2⟩
            case measure => simp [intOf]; omega
          · have HI2 : Hid (UsI w (wr.setCell ⟨w.heap.size, k, none⟩ (U 3)) w.heap.size l (k + 1) 1 d true) := hid (HI.out.step HKL.out c HC.out _ _ _ _ (esc1 (by rw [HX.out]) (by decide)) (by rw [HN.out]; intro h; omega) (by have := HI.out.dl; omega))
            unfold U at HI2
            have d7 : decide ((k : Int) + 1 < ((str l).size : Int)) = false := by rw [hsz]; simp; omega
            have d7' : decide (k + 1 < (str l).size) = false := by rw [hsz]; simp; omega
            clear HI HC HKL
            go_wp2_with fail
            go_roundw
            case rel => exact ⟨k + 1, 1, d, true, by omega, by first | rfl | go_num | simp, by first | rfl | go_num | simp, by first | rfl | go_num | simp, HI2⟩
            case measure => simp [intOf]; omega
        · by_cases hk2 : k + 1 < n
          · have HE := hid (HI.out.two (by rw [HN.out]; exact hk2) c HC.out (by rw [HX.out]) (by decide))
            have z0 : (wr.setCell ⟨w.heap.size, k, none⟩ (.int .i64 3)).cell? ⟨w.heap.size, k + 1, none⟩ = some (.int .i64 0) := HE.out.x
            have zf : (wr.setCell ⟨w.heap.size, k, none⟩ (.int .i64 3)).frozen? ⟨w.heap.size, k + 1, none⟩ = false := HE.out.f
            have HI2 := hid HE.out.i
            unfold U at HI2
            have d7 : decide ((k : Int) + 1 < ((str l).size : Int)) = true := by rw [hsz]; simp; omega
            have d7' : decide (k + 1 < (str l).size) = true := by rw [hsz]; simp; omega
            have d8 : (k : Int) + 1 < (n : Int) := by omega
            have d9 : (0 : Int) ≤ (k : Int) + 1 := by omega
            have d10 : ((k : Int) + 1).toNat = k + 1 := by omega
            clear HI HC HKL HE
            go_wp2_with fail
            go_roundw
            case rel => exact ⟨k + 2, 2, d, false, by omega, by first | rfl | go_num | simp, by first | rfl | go_num | simp, by first | rfl | go_num | simp, HI2⟩
            case measure => simp [intOf]; omega
          · have HI2 : Hid (UsI w (wr.setCell ⟨w.heap.size, k, none⟩ (U 3)) w.heap.size l (k + 1) 2 d true) := hid (HI.out.step HKL.out c HC.out _ _ _ _ (esc1 (by rw [HX.out]) (by decide)) (by rw [HN.out]; intro h; omega) (by have := HI.out.dl; omega))
            unfold U at HI2
            have d7 : decide ((k : Int) + 1 < ((str l).size : Int)) = false := by rw [hsz]; simp; omega
            have d7' : decide (k + 1 < (str l).size) = false := by rw [hsz]; simp; omega
            clear HI HC HKL
            go_wp2_with fail
            go_roundw
            case rel => exact ⟨k + 1, 2, d, true, by omega, by first | rfl | go_num | simp, by first | rfl | go_num | simp, by first | rfl | go_num | simp, HI2⟩
            case measure => simp [intOf]; omega
      by_cases hx2 : c.toNat = 34
      · have q1 : ((c.toNat : Int) == 92) = false := by rw [hx2]; rfl
        have q2 : ((c.toNat : Int) == 34) = true := by rw [hx2]; rfl
        have q3 : ((c.toNat : Int) == 40) = false := by rw [hx2]; rfl
        have q4 : ((c.toNat : Int) == 41) = false := by rw [hx2]; rfl
        have HX := hid hx2
        clear hx hx2
        rcases (by have := HU.out; omega : u = 0 ∨ u = 1 ∨ u = 2) with rfl | rfl | rfl
        · have HI2 : Hid (UsI w (wr.setCell ⟨w.heap.size, k, none⟩ (U 3)) w.heap.size l (k + 1) 1 d false) := hid (by
            refine HI.out.step HKL.out c HC.out ⟨c, 3, false, false, false⟩ 1 d false ?_ (fun _ => rfl) (by have := HI.out.dl; omega)
            unfold markS
            simp [HX.out])
          unfold U at HI2
          clear HI HC HKL
          go_wp2_with fail
          go_roundw
          case rel => exact ⟨k + 1, 1, d, false, by omega, by first | rfl | go_num | simp, by first | rfl | go_num | simp, by first | rfl | go_num | simp, HI2⟩
          case measure => simp [intOf]; omega
        · have HI2 : Hid (UsI w (wr.setCell ⟨w.heap.size, k, none⟩ (U 3)) w.heap.size l (k + 1) 0 d false) := hid (by
            refine HI.out.step HKL.out c HC.out ⟨c, 3, false, false, false⟩ 0 d false ?_ (fun _ => rfl) (by have := HI.out.dl; omega)
            unfold markS
            simp [HX.out])
          unfold U at HI2
          clear HI HC HKL
          go_wp2_with fail
          go_roundw
          case rel => exact ⟨k + 1, 0, d, false, by omega, by first | rfl | go_num | simp, by first | rfl | go_num | simp, by first | rfl | go_num | simp, HI2⟩
          case measure => simp [intOf]; omega
        · have HI2 : Hid (UsI w (wr.setCell ⟨w.heap.size, k, none⟩ (U 2)) w.heap.size l (k + 1) 2 d false) := hid (by
            refine HI.out.step HKL.out c HC.out ⟨c, 2, false, false, false⟩ 2 d false ?_ (fun _ => rfl) (by have := HI.out.dl; omega)
            unfold markS
            simp [HX.out])
          unfold U at HI2
          clear HI HC HKL
          go_wp2_with fail
          go_roundw
          case rel => exact ⟨k + 1, 2, d, false, by omega, by first | rfl | go_num | simp, by first | rfl | go_num | simp, by first | rfl | go_num | simp, HI2⟩
          case measure => simp [intOf]; omega
      by_cases hx3 : c.toNat = 40
      · have q1 : ((c.toNat : Int) == 92) = false := by rw [hx3]; rfl
        have q2 : ((c.toNat : Int) == 34) = false := by rw [hx3]; rfl
        have q3 : ((c.toNat : Int) == 40) = true := by rw [hx3]; rfl
        have q4 : ((c.toNat : Int) == 41) = false := by rw [hx3]; rfl
        have HX := hid hx3
        clear hx hx2 hx3
        rcases (by have := HU.out; omega : u = 0 ∨ u = 1 ∨ u = 2) with rfl | rfl | rfl
        · have HI2 : Hid (UsI w (wr.setCell ⟨w.heap.size, k, none⟩ (U 2)) w.heap.size l (k + 1) 2 (d + 1) false) := hid (by
            refine HI.out.step HKL.out c HC.out ⟨c, 2, false, true, false⟩ 2 (d + 1) false ?_ (fun _ => rfl) (by have := HI.out.dl; omega)
            unfold markS
            simp [HX.out])
          unfold U at HI2
          clear HI HC HKL
          go_wp2_with fail
          go_roundw
          case rel => exact ⟨k + 1, 2, (d + 1), false, by omega, by first | rfl | go_num | simp, by first | rfl | go_num | simp, by first | rfl | go_num | simp, HI2⟩
          case measure => simp [intOf]; omega
        · have HI2 : Hid (UsI w (wr.setCell ⟨w.heap.size, k, none⟩ (U 1)) w.heap.size l (k + 1) 1 d false) := hid (by
            refine HI.out.step HKL.out c HC.out ⟨c, 1, false, false, false⟩ 1 d false ?_ (fun _ => rfl) (by have := HI.out.dl; omega)
            unfold markS
            simp [HX.out])
          unfold U at HI2
          clear HI HC HKL
          go_wp2_with fail
          go_roundw
          case rel => exact ⟨k + 1, 1, d, false, by omega, by first | rfl | go_num | simp, by first | rfl | go_num | simp, by first | rfl | go_num | simp, HI2⟩
          case measure => simp [intOf]; omega
        · have HI2 : Hid (UsI w (wr.setCell ⟨w.heap.size, k, none⟩ (U 2)) w.heap.size l (k + 1) 2 (d + 1) false) := hid (by
            refine HI.out.step HKL.out c HC.out ⟨c, 2, false, false, false⟩ 2 (d + 1) false ?_ (fun _ => rfl) (by have := HI.out.dl; omega)
            unfold markS
            simp [HX.out])
          unfold U at HI2
          clear HI HC HKL
          go_wp2_with fail
          go_roundw
          case rel => exact ⟨k + 1, 2, (d + 1), false, by omega, by first | rfl | go_num | simp, by first | rfl | go_num | simp, by first | rfl | go_num | simp, HI2⟩
          case measure => simp [intOf]; omega
      by_cases hx4 : c.toNat = 41
      · have q1 : ((c.toNat : Int) == 92) = false := by rw [hx4]; rfl
        have q2 : ((c.toNat : Int) == 34) = false := by rw [hx4]; rfl
        have q3 : ((c.toNat : Int) == 40) = false := by rw [hx4]; rfl
        have q4 : ((c.toNat : Int) == 41) = true := by rw [hx4]; rfl
        have HX := hid hx4
        clear hx hx2 hx3 hx4
        rcases (by have := HU.out; omega : u = 0 ∨ u = 1 ∨ u = 2) with rfl | rfl | rfl
        · have HI2 : Hid (UsI w (wr.setCell ⟨w.heap.size, k, none⟩ (U 0)) w.heap.size l (k + 1) 0 d false) := hid (by
            refine HI.out.step HKL.out c HC.out ⟨c, 0, false, false, false⟩ 0 d false ?_ (fun _ => rfl) (by have := HI.out.dl; omega)
            unfold markS
            simp [HX.out])
          unfold U at HI2
          clear HI HC HKL
          go_wp2_with fail
          go_roundw
          case rel => exact ⟨k + 1, 0, d, false, by omega, by first | rfl | go_num | simp, by first | rfl | go_num | simp, by first | rfl | go_num | simp, HI2⟩
          case measure => simp [intOf]; omega
        · have HI2 : Hid (UsI w (wr.setCell ⟨w.heap.size, k, none⟩ (U 1)) w.heap.size l (k + 1) 1 d false) := hid (by
            refine HI.out.step HKL.out c HC.out ⟨c, 1, false, false, false⟩ 1 d false ?_ (fun _ => rfl) (by have := HI.out.dl; omega)
            unfold markS
            simp [HX.out])
          unfold U at HI2
          clear HI HC HKL
          go_wp2_with fail
          go_roundw
          case rel => exact ⟨k + 1, 1, d, false, by omega, by first | rfl | go_num | simp, by first | rfl | go_num | simp, by first | rfl | go_num | simp, HI2⟩
          case measure => simp [intOf]; omega
        · obtain ⟨d2, rfl⟩ : ∃ d2, d = d2 + 1 := ⟨d - 1, by have := HUD.out.1 rfl; omega⟩
          have w1 : ((d2 + 1 : Nat) : Int) - 1 = (d2 : Int) := by omega
          by_cases hd2 : d2 = 0
          · subst hd2
            have HI2 : Hid (UsI w (wr.setCell ⟨w.heap.size, k, none⟩ (U 2)) w.heap.size l (k + 1) 0 0 false) := hid (by
              refine HI.out.step HKL.out c HC.out ⟨c, 2, false, false, true⟩ 0 0 false ?_ (fun _ => rfl) (by have := HI.out.dl; omega)
              unfold markS
              simp [HX.out])
            unfold U at HI2
            clear HI HC HKL
            go_wp2_with fail
            go_roundw
            case rel => exact ⟨k + 1, 0, 0, false, by omega, by first | rfl | go_num | simp, by first | rfl | go_num | simp, by first | rfl | go_num | simp, HI2⟩
            case measure => simp [intOf]; omega
          · have q5 : ((d2 : Int) == 0) = false := by simpa using hd2
            have HD2 := hid hd2
            clear hd2
            have HI2 : Hid (UsI w (wr.setCell ⟨w.heap.size, k, none⟩ (U 2)) w.heap.size l (k + 1) 2 d2 false) := hid (by
              refine HI.out.step HKL.out c HC.out ⟨c, 2, false, false, false⟩ 2 d2 false ?_ (fun _ => rfl) (by have := HI.out.dl; omega)
              unfold markS
              simp [HX.out, HD2.out])
            unfold U at HI2
            clear HI HC HKL
            go_wp2_with fail
            go_roundw
            case rel => exact ⟨k + 1, 2, d2, false, by omega, by first | rfl | go_num | simp, by first | rfl | go_num | simp, by first | rfl | go_num | simp, HI2⟩
            case measure => simp [intOf]; omega
      have q1 : ((c.toNat : Int) == 92) = false := ne_f hx
      have q2 : ((c.toNat : Int) == 34) = false := ne_f hx2
      have q3 : ((c.toNat : Int) == 40) = false := ne_f hx3
      have q4 : ((c.toNat : Int) == 41) = false := ne_f hx4
      have HX := hid (show c.toNat ≠ 92 ∧ c.toNat ≠ 34 ∧ c.toNat ≠ 40 ∧ c.toNat ≠ 41 from ⟨hx, hx2, hx3, hx4⟩)
      clear hx hx2 hx3 hx4
      rcases (by have := HU.out; omega : u = 0 ∨ u = 1 ∨ u = 2) with rfl | rfl | rfl
      · have HI2 : Hid (UsI w (wr.setCell ⟨w.heap.size, k, none⟩ (U 0)) w.heap.size l (k + 1) 0 d false) := hid (by
          refine HI.out.step HKL.out c HC.out ⟨c, 0, false, false, false⟩ 0 d false ?_ (fun _ => rfl) (by have := HI.out.dl; omega)
          unfold markS
          simp [HX.out.1, HX.out.2.1, HX.out.2.2.1, HX.out.2.2.2])
        unfold U at HI2
        clear HI HC HKL
        go_wp2_with fail
        go_roundw
        case rel => exact ⟨k + 1, 0, d, false, by omega, by first | rfl | go_num | simp, by first | rfl | go_num | simp, by first | rfl | go_num | simp, HI2⟩
        case measure => simp [intOf]; omega
      · have HI2 : Hid (UsI w (wr.setCell ⟨w.heap.size, k, none⟩ (U 1)) w.heap.size l (k + 1) 1 d false) := hid (by
          refine HI.out.step HKL.out c HC.out ⟨c, 1, false, false, false⟩ 1 d false ?_ (fun _ => rfl) (by have := HI.out.dl; omega)
          unfold markS
          simp [HX.out.1, HX.out.2.1, HX.out.2.2.1, HX.out.2.2.2])
        unfold U at HI2
        clear HI HC HKL
        go_wp2_with fail
        go_roundw
        case rel => exact ⟨k + 1, 1, d, false, by omega, by first | rfl | go_num | simp, by first | rfl | go_num | simp, by first | rfl | go_num | simp, HI2⟩
        case measure => simp [intOf]; omega
      · have HI2 : Hid (UsI w (wr.setCell ⟨w.heap.size, k, none⟩ (U 2)) w.heap.size l (k + 1) 2 d false) := hid (by
          refine HI.out.step HKL.out c HC.out ⟨c, 2, false, false, false⟩ 2 d false ?_ (fun _ => rfl) (by have := HI.out.dl; omega)
          unfold markS
          simp [HX.out.1, HX.out.2.1, HX.out.2.2.1, HX.out.2.2.2])
        unfold U at HI2
        clear HI HC HKL
        go_wp2_with fail
        go_roundw
        case rel => exact ⟨k + 1, 2, d, false, by omega, by first | rfl | go_num | simp, by first | rfl | go_num | simp, by first | rfl | go_num | simp, HI2⟩
        case measure => simp [intOf]; omega
    · have hkn : k = n := by omega
      subst hkn
      have d1 : decide ((k : Int) < ((str l).size : Int)) = false := by rw [hsz]; simp
      have d1' : decide (k < (str l).size) = false := by rw [hsz]; simp
      go_wp2_with fail
      go_ret
      exact ⟨rfl, HI.out.row HN.out, HI.out.bel, HI.out.own.lt⟩
end Go.Proofs.YtdanhdiinkgjnaaDoor
