/-
  The program's Meets. A part of the proof: see the head of the text that ends in 'Law'.
-/
import Derived.Test.YthgopanipmnphaaNa11
import Derived.Test.YthgopanipmnphaaExact
namespace Go.Proofs.Ythgopanipmnphaa
open Go.RowKit Go.Shelf
set_option linter.unusedVariables false

theorem addr_add0 (g j : Nat) : (⟨g, 0, none⟩ : Addr).add j = ⟨g, j, none⟩ := by
  cases j with
  | zero => rfl
  | succ j => simp [Addr.add]
/-- Which beginnings of the name a pattern meets. -/
def rowL (a p : List UInt8) : List Bool := (List.range (a.length + 1)).map fun j => mt p (a.take j)
theorem rowL_length (a p : List UInt8) : (rowL a p).length = a.length + 1 := by simp [rowL]
theorem rowL_get (a p : List UInt8) (j : Nat) (hj : j ≤ a.length) : (rowL a p)[j]? = some (mt p (a.take j)) := by
  unfold rowL
  rw [List.getElem?_map, List.getElem?_range (by omega)]
  rfl
theorem rowL_nil (a : List UInt8) : (List.replicate (a.length + 1) false).set 0 true = rowL a [] := by
  apply List.ext_getElem?
  intro j
  by_cases hj : j ≤ a.length
  · rw [rowL_get a [] j hj, mt_nil, List.getElem?_set]
    cases j with
    | zero => simp
    | succ j =>
      rw [if_neg (by omega), List.getElem?_replicate, if_pos (by omega)]
      cases a with
      | nil => simp at hj
      | cons x a => rfl
  · rw [List.getElem?_eq_none (by simp; omega), List.getElem?_eq_none (by rw [rowL_length]; omega)]
structure MtJ (w wr : World) (g1 g2 : Nat) (a b : List UInt8) (k : Nat) (nx : List Bool) : Prop where
  r : OwnE wr g1 4 ((rowL a (b.take k)).map Value.bool)
  x : OwnE wr g2 4 (nx.map Value.bool)
  l : nx.length = a.length + 1
  b : Below w.heap.size w wr
def Pre (a q : List UInt8) (m : Nat) (nx : List Bool) : Prop := ∀ j, j ≤ m → nx[j]? = some (mt q (a.take j))
theorem Pre.full {a q : List UInt8} {nx : List Bool} (h : Pre a q a.length nx) (hl : nx.length = a.length + 1) : nx = rowL a q := by
  apply List.ext_getElem?
  intro j
  by_cases hj : j ≤ a.length
  · rw [h j hj, rowL_get a q j hj]
  · rw [List.getElem?_eq_none (by omega), List.getElem?_eq_none (by rw [rowL_length]; omega)]
theorem Pre.step {a q : List UInt8} {m : Nat} {nx : List Bool} (h : Pre a q m nx) (hl : m + 1 < nx.length) {v : Bool} (hv : mt q (a.take (m + 1)) = v) : Pre a q (m + 1) (nx.set (m + 1) v) := by
  intro j hj
  rw [List.getElem?_set]
  by_cases he : m + 1 = j
  · subst he
    rw [if_pos rfl, if_pos hl, hv]
  · rw [if_neg he]
    exact h j (by omega)
theorem Pre.zero {a q : List UInt8} {nx : List Bool} (hl : 0 < nx.length) {v : Bool} (hv : mt q [] = v) : Pre a q 0 (nx.set 0 v) := by
  intro j hj
  obtain rfl : j = 0 := by omega
  rw [List.getElem?_set, if_pos rfl, if_pos hl, List.take_zero, hv]

set_option maxRecDepth 20000 in
set_option maxHeartbeats 4000000 in
theorem nameMeets_any (s p : List UInt8) (w : World) (hs : s.length ≤ 1000) (hp : p.length ≤ 1000) (hG : GM w) :
    Calls Try.prog 8 #[.string (str s), .string (str p)] w fun e w' => e = .returned (.bool (metB s p)) ∧ Below w.heap.size w w' := by
  have B := hid (Below.refl w.heap.size w)
  have HG := hid hG
  have hzp : (str p).size ≤ 1000 := hp
  clear hG
  cases h1 : isL s with
  | false =>
    have hu : metB s p = false := by unfold metB; rw [h1]; rfl
    have H1 := hid h1
    rw [hu]
    clear h1 hu
    go_enter Try.func8, Try.ntmps8
    go_wp2_with (go_at_call 13; (with_reducible refine (is_any s _ (by omega) HG.out).mono ?_); rw [H1.out]; rintro e w1 ⟨rfl, b1⟩; ((first | replace HG := HG.far b1 | replace HG := hid (HG.out.below b1) | skip); (first | replace B := B.far b1 | replace B := hid (B.out.below b1) | skip)); clear b1)
    go_ret
    exact ⟨rfl, B.out⟩
  | true =>
    have H1 := hid h1
    by_cases h60 : 60 < (str p).size
    · have hd : decide (60 < (str p).size) = true := by simpa using h60
      have hu : metB s p = false := by
        unfold metB
        rw [h1, decide_eq_false (p := p.length ≤ 60) (by rw [str_size] at h60; omega)]
        rfl
      rw [hu]
      clear h1 hu
      go_enter Try.func8, Try.ntmps8
      go_wp2_with (go_at_call 13; (with_reducible refine (is_any s _ (by omega) HG.out).mono ?_); rw [H1.out]; rintro e w1 ⟨rfl, b1⟩; ((first | replace HG := HG.far b1 | replace HG := hid (HG.out.below b1) | skip); (first | replace B := B.far b1 | replace B := hid (B.out.below b1) | skip)); clear b1)
      go_ret
      exact ⟨rfl, B.out⟩
    · have hd : decide (60 < (str p).size) = false := by simpa using h60
      have hpl : p.length ≤ 60 := by rw [str_size] at h60; omega
      have hu : metB s p = mt (inboxL p) (toldL s) := by
        unfold metB
        rw [h1, decide_eq_true hpl]
        rfl
      have hsl := isL_len h1
      have T1 := hid (fun w hG => told_any s w (by omega) hG)
      have I1 := hid (fun w hG => inbox_any p w (by omega) hG)
      have hla : (toldL s).length ≤ 60 := by rw [toldL_length]; exact hsl
      have hlb : (inboxL p).length ≤ 60 := by rw [inboxL_length]; exact hpl
      have HU := hid hu
      clear h1 hu
      generalize toldL s = a at *
      generalize inboxL p = b at *
      have hza : (str a).size ≤ 60 := hla
      have hzb : (str b).size ≤ 60 := hlb
      have HLA : Hid ((str a).size = a.length) := hid rfl
      have HLB : Hid ((str b).size = b.length) := hid rfl
      obtain ⟨i0, hi0, hz0, hz1, hz2⟩ := info_parts boolsT.info
      have Hz1 := hid hz1
      have Hz2 := hid hz2
      have Hi0 := hid hi0
      have Hz0 := hid hz0
      clear hz1 hz2 hi0 hz0 hla hlb
      obtain ⟨n, hn⟩ : ∃ n, (str a).size + 1 = n := ⟨_, rfl⟩
      have hn61 : n ≤ 61 := by omega
      have hn0 : 0 < n := by omega
      have hwn : IntKind.i64.wrap (((str a).size : Int) + 1) = (n : Int) := by rw [IntKind.wrap_i64]; omega
      have hi01 : (0 : Int) < (n : Int) := by omega
      have HN := hid hn
      clear hn
      go_enter Try.func8, Try.ntmps8
      go_upto_region 7 with (first
        | (go_at_call 13; (with_reducible refine (is_any s _ (by omega) HG.out).mono ?_); rw [H1.out]; rintro e w1 ⟨rfl, b1⟩; ((first | replace HG := HG.far b1 | replace HG := hid (HG.out.below b1) | skip); (first | replace B := B.far b1 | replace B := hid (B.out.below b1) | skip)); clear b1)
        | (go_at_call 14; (with_reducible refine (T1.out _ HG.out).mono ?_); rintro e w2 ⟨rfl, b1⟩; ((first | replace HG := HG.far b1 | replace HG := hid (HG.out.below b1) | skip); (first | replace B := B.far b1 | replace B := hid (B.out.below b1) | skip)); clear b1)
        | (go_at_call 17; (with_reducible refine (I1.out _ HG.out).mono ?_); rintro e w3 ⟨rfl, b1⟩; ((first | replace HG := HG.far b1 | replace HG := hid (HG.out.below b1) | skip); (first | replace B := B.far b1 | replace B := hid (B.out.below b1) | skip)); clear b1)
        | (refine wpList_make_full _ rfl (.tmp 25) (.tmp 25) 35 rfl w3.heap.size 4 i0 (.bool false) 1 Try.underlying35 Hi0.out Hz0.out Hz1.out .i64 .i64 n n n rfl rfl rfl rfl (by rw [Hz2.out]; omega) (by unfold maxLen; omega) (Nat.le_refl _) ?_
           intro w4 ho4 hg4
           have b4 := (Below.refl _ _).grown hg4 (Nat.le_refl _) (fun k hk => by cases hk)
           rw [made_one _ rfl] at ho4
           have hsz4 : w3.heap.size < w4.heap.size := (OwnE.made ho4).lt
           have r4 := OwnE.made ho4
           have c4 : w4.cell? ⟨w3.heap.size, 0, none⟩ = some (.bool false) := r4.cell (by rw [List.getElem?_replicate, if_pos hn0])
           have f4 := r4.frozen 0
           have R4 := hid (r4.set 0 (.bool true))
           have hbs := B.out.size
           have B4 := hid ((B.out.trans (b4.mono hbs)).setCell (p := ⟨w3.heap.size, 0, none⟩) hbs (.bool true))
           clear hg4 ho4 b4 r4)
        | (refine wpList_make_full _ rfl (.tmp 31) (.tmp 31) 35 rfl w4.heap.size 4 i0 (.bool false) 1 Try.underlying35 Hi0.out Hz0.out Hz1.out .i64 .i64 n n n rfl rfl rfl rfl (by rw [Hz2.out]; omega) (by unfold maxLen; omega) (by simp) ?_
           intro w5 ho5 hg5
           have b5 := (Below.refl _ _).grown hg5 (Nat.le_refl _) (fun k hk => by cases hk)
           rw [made_one _ rfl] at ho5
           have r5 := hid (OwnE.made ho5)
           have R5 := hid (R4.out.below b5)
           have B5 := hid (next B4.out b5)
           clear hg5 ho5 b5))
      have r5' : Hid (OwnE w5 w4.heap.size 4 (List.replicate n (Value.bool false))) := hid (by
        have h := r5.out
        rw [show (w4.setCell ⟨w3.heap.size, 0, none⟩ (Value.bool true)).heap.size = w4.heap.size by simp] at h
        exact h)
      have J5 : Hid (MtJ w w5 w3.heap.size w4.heap.size a b 0 (List.replicate n false)) := hid ⟨by
        have h := R5.out
        rw [← List.map_replicate, ← List.map_set, ← HN.out, HLA.out, rowL_nil] at h
        exact h, by rw [List.map_replicate]; exact r5'.out, by rw [List.length_replicate, ← HN.out, HLA.out], B5.out⟩
      clear r5 r5' R4 R5 B4 B5 c4 f4 T1 I1 H1
      generalize w3.heap.size = g1 at *
      generalize w4.heap.size = g2 at *
      go_wp2_with fail
      go_loopw [35] (fun i wr => ∃ (k : Nat) (nx : List Bool), k ≤ (str b).size ∧ i = .int .i64 k ∧ Hid (MtJ w wr g1 g2 a b k nx)) (fun i wr => (str b).size - (intOf i).toNat)
      case atStart => exact ⟨0, _, by omega, rfl, hid J5.out⟩
      case round =>
        obtain ⟨k, nx, hk, rfl, hJ⟩ := hrel
        clear J5
        by_cases hkm : k < (str b).size
        · have hdk : decide (k < (str b).size) = true := by simpa using hkm
          obtain ⟨c, hc⟩ : ∃ c, ((str b)[k]'hkm) = c := ⟨_, rfl⟩
          have hcl := c.toNat_lt
          have htk : Hid (b.take (k + 1) = b.take k ++ [c]) := hid (by
            have hkl : k < b.length := by rw [← HLB.out]; exact hkm
            rw [List.take_succ_eq_append_getElem hkl]
            exact congrArg (fun x => b.take k ++ [x]) hc)
          obtain ⟨wl, hwl⟩ : ∃ wl, wB c = wl := ⟨_, rfl⟩
          have HWL := hid hwl
          clear hwl
          go_upto_region 11 with fail
          go_cut [9] (fun t wx => t = .bool wl ∧ wr = wx)
          case first =>
            obtain ⟨f42, h42⟩ : ∃ f, ((c.toNat : Int) == 42) = f := ⟨_, rfl⟩
            obtain ⟨f37, h37⟩ : ∃ f, ((c.toNat : Int) == 37) = f := ⟨_, rfl⟩
            have hE : Hid (wl = (f42 || f37)) := hid (by rw [← HWL.out, wB_i, h42, h37])
            go_wp2_with fail
            all_goals (go_meet; exact ⟨by rw [hE.out]; simp [*], rfl⟩)
          case rest =>
          obtain ⟨rfl, rfl⟩ := hcut
          obtain ⟨r0, hr0⟩ : ∃ r0, mt (b.take k) [] = r0 := ⟨_, rfl⟩
          have HR0 := hid hr0
          have cr0 : wr.cell? ⟨g1, 0, none⟩ = some (.bool r0) := hJ.out.r.cell (by rw [List.getElem?_map, rowL_get _ _ 0 (by omega), List.take_zero, hr0]; rfl)
          obtain ⟨x0, hx0⟩ : ∃ x0, nx[0]? = some x0 := ⟨nx[0]'(by rw [hJ.out.l]; omega), List.getElem?_eq_getElem _⟩
          have cx0 : wr.cell? ⟨g2, 0, none⟩ = some (.bool x0) := hJ.out.x.cell (by rw [List.getElem?_map, hx0]; rfl)
          have fx0 := hJ.out.x.frozen 0
          clear hr0 hx0
          go_upto_region 12 with fail
          go_cut [] (fun wx => Hid (MtJ w wx g1 g2 a b k (nx.set 0 (r0 && wl))))
          case first =>
            have hS : ∀ v, MtJ w (wr.setCell ⟨g2, 0, none⟩ (.bool v)) g1 g2 a b k (nx.set 0 v) := fun v => ⟨hJ.out.r.far (by omega) _, by rw [List.map_set]; exact hJ.out.x.set 0 _, by rw [List.length_set]; exact hJ.out.l, hJ.out.b.setCell (by show w.heap.size ≤ g2; omega) _⟩
            have HS := hid hS
            clear hS
            cases r0 with
            | true =>
              go_wp2_with fail
              go_meet
              exact hid (HS.out _)
            | false =>
              go_wp2_with fail
              go_meet
              exact hid (HS.out _)
          case rest =>
          have hP0 : Hid (Pre a (b.take (k + 1)) 0 (nx.set 0 (r0 && wl))) := hid (Pre.zero (by rw [hJ.out.l]; omega) (by rw [htk.out, mt_snoc_nil, HR0.out, HWL.out]))
          clear hJ cr0 cx0 fx0 HR0
          generalize nx.set 0 (r0 && wl) = nx0 at *
          clear r0 x0 nx
          go_wp2_with fail
          go_loopw [57] (fun i wq => ∃ (m : Nat) (nx : List Bool), m ≤ (str a).size ∧ i = .int .i64 m ∧ Hid (MtJ w wq g1 g2 a b k nx ∧ Pre a (b.take (k + 1)) m nx)) (fun i wq => (str a).size - (intOf i).toNat)
          case atStart => exact ⟨0, nx0, by omega, rfl, hid ⟨hcut.out, hP0.out⟩⟩
          case round =>
            obtain ⟨m, nx, hm, rfl, hI⟩ := hrel
            clear hcut hP0
            by_cases hia : m < (str a).size
            · have hdm : decide (m < (str a).size) = true := by simpa using hia
              have hml : m + 1 ≤ a.length := by have := HLA.out; omega
              obtain ⟨x, hx⟩ : ∃ x, ((str a)[m]'hia) = x := ⟨_, rfl⟩
              have hxl := x.toNat_lt
              have hta : Hid (a.take (m + 1) = a.take m ++ [x]) := hid (by
                have hml : m < a.length := by rw [← HLA.out]; exact hia
                rw [List.take_succ_eq_append_getElem hml]
                exact congrArg (fun x => a.take m ++ [x]) hx)
              have hlen : m + 1 < nx.length := by rw [hI.out.1.l]; omega
              obtain ⟨y1, hy1⟩ : ∃ y1, nx[m + 1]? = some y1 := ⟨_, List.getElem?_eq_getElem hlen⟩
              have cx1 : wr.cell? ⟨g2, m + 1, none⟩ = some (.bool y1) := hI.out.1.x.cell (by rw [List.getElem?_map, hy1]; rfl)
              have fx1 := hI.out.1.x.frozen (m + 1)
              have hi1 : (0 : Int) ≤ (m : Int) + 1 := by omega
              have hi2 : (m : Int) + 1 < (n : Int) := by have := HN.out; omega
              have hi3 : (m : Int) < (n : Int) := by omega
              have hi4 : (0 : Int) ≤ (m : Int) := by omega
              have hS : ∀ v, mt (b.take (k + 1)) (a.take (m + 1)) = v → MtJ w (wr.setCell ⟨g2, m + 1, none⟩ (.bool v)) g1 g2 a b k (nx.set (m + 1) v) ∧ Pre a (b.take (k + 1)) (m + 1) (nx.set (m + 1) v) := fun v hv => ⟨⟨hI.out.1.r.far (by omega) _, by rw [List.map_set]; exact hI.out.1.x.set (m + 1) _, by rw [List.length_set]; exact hI.out.1.l, hI.out.1.b.setCell (by show w.heap.size ≤ g2; omega) _⟩, hI.out.2.step hlen hv⟩
              have HS := hid hS
              clear hS hy1 hlen
              cases wl with
              | true =>
                obtain ⟨r1, hr1⟩ : ∃ r, mt (b.take k) (a.take (m + 1)) = r := ⟨_, rfl⟩
                obtain ⟨n1, hn1⟩ : ∃ r, mt (b.take (k + 1)) (a.take m) = r := ⟨_, rfl⟩
                have cr1 : wr.cell? ⟨g1, m + 1, none⟩ = some (.bool r1) := hI.out.1.r.cell (by rw [List.getElem?_map, rowL_get _ _ (m + 1) hml, hr1]; rfl)
                have cn1 : wr.cell? ⟨g2, m, none⟩ = some (.bool n1) := hI.out.1.x.cell (by rw [List.getElem?_map, hI.out.2 m (Nat.le_refl _), hn1]; rfl)
                obtain ⟨f42, h42⟩ : ∃ f, ((c.toNat : Int) == 42) = f := ⟨_, rfl⟩
                obtain ⟨f47, h47⟩ : ∃ f, ((x.toNat : Int) != 47) = f := ⟨_, rfl⟩
                have h47' : ((((str a)[m]'hia).toNat : Int) != 47) = f47 := by rw [hx]; exact h47
                have hE : Hid (mt (b.take (k + 1)) (a.take (m + 1)) = (r1 || (n1 && (f42 || f47)))) := hid (by
                  rw [htk.out, hta.out, mt_snoc_wild _ _ _ _ HWL.out, ← htk.out, ← hta.out, hr1, hn1, eatB_i, h42, h47])
                clear hr1 hn1 hx
                cases r1 <;> cases n1 <;> cases f42 <;> cases f47 <;> (
                  go_wp2_with fail
                  go_roundw
                  case rel => exact ⟨m + 1, _, by omega, by go_num, hid (HS.out _ (by rw [hE.out]; rfl))⟩
                  case measure => simp [intOf]; omega)
              | false =>
                obtain ⟨r1, hr1⟩ : ∃ r, mt (b.take k) (a.take m) = r := ⟨_, rfl⟩
                have cr1 : wr.cell? ⟨g1, m, none⟩ = some (.bool r1) := hI.out.1.r.cell (by rw [List.getElem?_map, rowL_get _ _ m (by omega), hr1]; rfl)
                obtain ⟨fe, hfe⟩ : ∃ f, ((x.toNat : Int) == (c.toNat : Int)) = f := ⟨_, rfl⟩
                have hfe' : ((((str a)[m]'hia).toNat : Int) == (c.toNat : Int)) = fe := by rw [hx]; exact hfe
                have hE : Hid (mt (b.take (k + 1)) (a.take (m + 1)) = (r1 && fe)) := hid (by
                  rw [htk.out, hta.out, mt_snoc_lit _ _ _ _ HWL.out, hr1, ← hfe]
                  congr 1
                  rw [Bool.eq_iff_iff, beq_iff_eq, beq_iff_eq, ← UInt8.toNat_inj]
                  omega)
                clear hr1 hx
                cases r1 <;> cases fe <;> (
                  go_wp2_with fail
                  go_roundw
                  case rel => exact ⟨m + 1, _, by omega, by go_num, hid (HS.out _ (by rw [hE.out]; rfl))⟩
                  case measure => simp [intOf]; omega)
            · have hdm : decide (m < (str a).size) = false := by simpa using hia
              have hmm : m = a.length := by have := HLA.out; omega
              have hnx : nx = rowL a (b.take (k + 1)) := by
                have h := hI.out.2
                rw [hmm] at h
                exact h.full hI.out.1.l
              have HNX := hid hnx
              have hl1 : (nx.map Value.bool).length = n := by rw [List.length_map, hI.out.1.l, ← HLA.out]; exact HN.out
              have hl2 : ((rowL a (b.take k)).map Value.bool).length = n := by rw [List.length_map, rowL_length, ← HLA.out]; exact HN.out
              have HL1 := hid hl1
              have HL2 := hid hl2
              clear hmm hnx hl1 hl2
              have hX : (((rowL a (b.take k)).map Value.bool).toArray.toList.take 0 ++ (nx.map Value.bool ++ ((rowL a (b.take k)).map Value.bool).toArray.toList.drop (0 + (nx.map Value.bool).length))).toArray = (nx.map Value.bool).toArray := by
                rw [List.take_zero, List.nil_append, Nat.zero_add, List.drop_of_length_le (by rw [HL1.out]; simp; have := HL2.out; simp at this; omega), List.append_nil]
              have J9 : MtJ w (wr.setRow g1 (nx.map Value.bool).toArray) g1 g2 a b (k + 1) nx := ⟨by
                  have h := setRow_heap wr g1 _ (nx.map Value.bool).toArray 4 _ hI.out.1.r
                  rw [← HNX.out]
                  exact h, (setRow_other wr g1 g2 _ (by omega)).trans hI.out.1.x, hI.out.1.l, below_setRow hI.out.1.b (by omega) _⟩
              have J9 := hid J9
              have HX := hid hX
              clear hX
              go_wp2_with (
                refine wpList_copy_own rfl (.tmp 103) (.tmp 104) 35 35 rfl 4 Try.underlying35 (by kernel_rfl) g1 0 n n ⟨g2, 0, none⟩ n n rfl rfl ((rowL a (b.take k)).map Value.bool).toArray 4 hI.out.1.r (nx.map Value.bool) (by rw [HL1.out]; exact (Nat.min_self n).symm) (fun j v hv => by rw [addr_add0]; exact hI.out.1.x.cell hv) (by rw [HL1.out]; simp; have := HL2.out; simp at this; omega) (fun u hu => by obtain ⟨x, _, rfl⟩ := List.mem_map.1 hu; rfl) ?_
                rw [HX.out]
                generalize wr.setRow g1 (nx.map Value.bool).toArray = w9 at *)
              go_roundw
              case rel => exact ⟨k + 1, nx, by omega, by go_num, hid J9.out⟩
              case measure => simp [intOf]; omega
        · have hdk : decide (k < (str b).size) = false := by simpa using hkm
          have hkl : b.take k = b := by rw [List.take_of_length_le]; have := HLB.out; omega
          obtain ⟨r1, hr1⟩ : ∃ r, mt b a = r := ⟨_, rfl⟩
          have cr1 : wr.cell? ⟨g1, (str a).size, none⟩ = some (.bool r1) := hJ.out.r.cell (by rw [List.getElem?_map, HLA.out, rowL_get _ _ a.length (Nat.le_refl _), hkl, List.take_length, hr1]; rfl)
          have HR1 := hid hr1
          have hi3 : ((str a).size : Int) < (n : Int) := by have := HN.out; omega
          have hi4 : (0 : Int) ≤ ((str a).size : Int) := by omega
          have hb := hid hJ.out.b
          clear hkl hr1 hJ
          go_wp2_with fail
          go_ret
          exact ⟨by rw [HU.out, HR1.out]; rfl, hb.out⟩
end Go.Proofs.Ythgopanipmnphaa
