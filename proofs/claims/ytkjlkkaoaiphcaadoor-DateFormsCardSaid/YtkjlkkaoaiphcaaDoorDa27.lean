/-
  The date of a text: the document's walk. A part of the proof: see the head of the text that ends in 'Law'.
-/
import Derived.Test.YtkjlkkaoaiphcaaDoorDaPlain5
import Derived.Test.YtkjlkkaoaiphcaaDoorDa25
import Derived.Test.YtkjlkkaoaiphcaaDoorDa13
namespace Go.Proofs.YtkjlkkaoaiphcaaDoor
open Go.RowKit Go.Shelf
set_option linter.unusedVariables false
attribute [local go_sem] Oper.semAt_some

theorem rs_res {tmps : Array Value} {w : World} {g : Nat} {s z : Int} {u : Value} {T : TypeId} {fr : Nat × Nat} (hg : w.heap[g]? = some (.cells #[.int .i64 s, .int .i64 z] T fr)) (hp : tmps.getD 2 undef = .pointer (some ⟨g, 0, none⟩)) (hu : tmps.getD 3 undef = u) :
    (results Tryd.f20 tmps).run Tryd.prog w = .ok (.tuple #[.agg #[.int .i64 s, .int .i64 z], u]) w := by
  rw [results_cell_tmp Tryd.results20, hp, hu]
  simp [asAddr, run_loadVar_row w g T 37 #[.int .i64 s, .int .i64 z] fr _ hg Tryd.underlying37 rfl (by kernel_rfl)]
theorem sign_no {l : List UInt8} (hl : l.length = 26) {k : Nat} (hk : k < 26) (h : okAt l k = false) : parseF l = ((0, 0), 3) := parse_bad3 (fun hq => by
  have := (sign_all hl).2 ⟨hq.1, hq.2.1⟩ k hk
  rw [h] at this
  cases this)
theorem zero_drop (l : List UInt8) (a : Nat) (h : 1 ≤ a) : (zeroL l).drop a = l.drop a := by
  unfold zeroL
  split
  · obtain ⟨b, rfl⟩ : ∃ b, a = b + 1 := ⟨a - 1, by omega⟩
    rw [List.drop_succ_cons, List.drop_drop, Nat.add_comm]
  · rfl
theorem pc_ex (l : List UInt8) (k : Nat) (h0 : 0 < k) (hk : k < 7) : (str l).extract (fA k) (fA k + fN k) = str (pcL l k) := by
  rw [str_extract, Nat.add_sub_cancel_left]
  unfold pcL pcT
  rw [zero_drop l (fA k) (by
    obtain rfl | rfl | rfl | rfl | rfl | rfl : k = 1 ∨ k = 2 ∨ k = 3 ∨ k = 4 ∨ k = 5 ∨ k = 6 := by omega
    all_goals decide)]
theorem rnum_pc {l : List UInt8} (h : digsB l) (k : Nat) (hk : k < 7) (w : World) : Calls Tryd.prog 38 #[.string (str (pcL l k))] w fun e w' => e = .returned (.int .i64 (fvL l k : Int)) ∧ w = w' :=
  rnum_yes (h k hk) (by
    unfold pcL pcT
    rw [List.length_take]
    have : fN k ≤ 4 := (fld_facts k hk).2.2.2
    omega) w
theorem rnum_first {l : List UInt8} (h : digsB l) (hl : l.length = 26) (w : World) : Calls Tryd.prog 38 #[.string (str ((l.drop 1).take 1))] w fun e w' => ∃ X : Int, e = .returned (.int .i64 X) ∧ (chN l 0 = 32 → X = (fvL l 0 : Int)) ∧ w = w' :=
  (rnumber_any ((l.drop 1).take 1) w (by rw [List.length_take]; omega)).mono fun e w' ⟨X, he, _, h2, hw⟩ => ⟨X, he, fun h32 => by
    have h0 := h 0 (by omega)
    have e0 : pcL l 0 = 48 :: (l.drop 1).take 1 := by
      unfold pcL pcT zeroL
      rw [if_pos h32]
      rfl
    have hne : (l.drop 1).take 1 ≠ [] := by
      intro e
      have := congrArg List.length e
      rw [List.length_take, List.length_drop, hl] at this
      simp at this
    rw [e0] at h0
    unfold numOk at h0
    have h3 : numOk ((l.drop 1).take 1) = true := by
      unfold numOk
      rw [Bool.and_eq_true] at h0 ⊢
      refine ⟨?_, ?_⟩
      · have := h0.1
        rw [List.all_cons, Bool.and_eq_true] at this
        exact this.2
      · cases hq : (l.drop 1).take 1 with
        | nil => exact absurd hq hne
        | cons _ _ => rfl
    rw [h2 h3 (by rw [List.length_take]; omega)]
    unfold fvL
    rw [e0]
    rfl, hw⟩
theorem rnum_two {l : List UInt8} (h : digsB l) (h32 : ¬ chN l 0 = 32) (w : World) : Calls Tryd.prog 38 #[.string (str (l.take 2))] w fun e w' => e = .returned (.int .i64 (fvL l 0 : Int)) ∧ w = w' := by
  have e0 : pcL l 0 = l.take 2 := by
    unfold pcL pcT
    rw [zeroL_no h32]
    rfl
  have := rnum_pc h 0 (by omega) w
  rw [e0] at this
  exact this
set_option maxRecDepth 100000 in
set_option maxHeartbeats 8000000 in
theorem rparse_any (l : List UInt8) (w : World) (hl : l.length ≤ 100000) : Calls Tryd.prog 20 #[.string (str l)] w (PP w (parseF l).1.1 (parseF l).1.2 (parseF l).2) := by
  have hsz : (str l).size ≤ 100000 := hl
  have hhw := heap_alloc_new w (Obj.cells #[.int .i64 0, .int .i64 0] 37)
  have hBB := (Below.refl w.heap.size w).alloc (Nat.le_refl _) (Obj.cells #[.int .i64 0, .int .i64 0] 37)
  by_cases c0 : l.length = 26
  · have hs26 : (str l).size = 26 := c0
    have HL := hid c0
    clear c0 hl hsz
    go_enter Tryd.func20, Tryd.ntmps20
    go_upto_region 1 with fail
    obtain ⟨w0, hw0⟩ : ∃ w0, w.alloc (.cells #[.int .i64 0, .int .i64 0] 37) = w0 := ⟨_, rfl⟩
    rw [hw0] at hBB hhw ⊢
    have HBB := hid hBB
    have HHW := hid hhw
    have HS0 := hid (show w0.heap.size = w.heap.size + 1 by rw [← hw0]; simp)
    obtain ⟨z0, z1, f0, f1⟩ := box2 hhw
    clear hBB hw0 hhw
    go_upto_block 0 with fail
    go_cut [3, 5, 6, 7, 44, 57, 59] from 22 to 67 (fun r3 i c d x1 x2 x3 wx => ∃ j : Int, i = .int .i64 j ∧ Hid (∀ i, i < 26 → okAt l i = true) ∧ wx = w0)
    case first =>
      go_wp2_with fail
      go_loopw [5, 6, 7, 44, 57, 59] (fun i c d x1 x2 x3 wr => ∃ k : Nat, k ≤ 26 ∧ i = .int .i64 (k : Int) ∧ Hid (∀ i, i < k → okAt l i = true) ∧ wr = w0) (fun i c d x1 x2 x3 wr => 26 - (intOf i).toNat)
      case atStart => exact ⟨0, by omega, rfl, hid (fun i h => absurd h (by omega)), rfl⟩
      case round =>
        obtain ⟨k, hk, rfl, hI, hwr⟩ := hrel
        subst hwr
        by_cases hlt : k < 26
        · have d1 : decide ((k : Int) < 26) = true := by simp; omega
          have d1' : decide (k < 26) = true := by simpa using hlt
          have hls : k < (str l).size := by omega
          have hlf : k < (⟨#[110, 110, 45, 109, 109, 109, 45, 110, 110, 110, 110, 32, 110, 110, 58, 110, 110, 58, 110, 110, 32, 122, 110, 110, 110, 110]⟩ : ByteArray).size := hlt
          obtain ⟨c, hc⟩ : ∃ c, l.getD k 0 = c := ⟨_, rfl⟩
          obtain ⟨f, hf⟩ : ∃ f, fmL.getD k 0 = f := ⟨_, rfl⟩
          have gc : (str l)[k]'hls = c := by rw [← hc, List.getD_eq_getElem?_getD, List.getElem?_eq_getElem (show k < l.length from hls)]; rfl
          have gf : (⟨#[110, 110, 45, 109, 109, 109, 45, 110, 110, 110, 110, 32, 110, 110, 58, 110, 110, 58, 110, 110, 32, 122, 110, 110, 110, 110]⟩ : ByteArray)[k]'hlf = f := by rw [← hf, List.getD_eq_getElem?_getD, List.getElem?_eq_getElem (show k < fmL.length from hlt)]; rfl
          have HOK := hid (show okAt l k = okB c f k by unfold okAt; rw [hc, hf])
          have hcl := c.toNat_lt
          clear hc hf
          go_upto_region 8 with fail
          go_cut [7] from 29 to 34 (fun q wx => ∃ b : Bool, q = .bool b ∧ wx = wr ∧ Hid (b = digB c))
          case first =>
            by_cases h48 : 48 ≤ c.toNat
            · have e1 : decide ((48 : Int) ≤ (c.toNat : Int)) = true := by simp; omega
              have e1' : decide (48 ≤ c.toNat) = true := by simpa using h48
              have HD := hid (show digB c = decide (c.toNat ≤ 57) by unfold digB; rw [Bool.eq_iff_iff, decide_eq_true_eq, decide_eq_true_eq]; omega)
              clear h48
              go_wp2
              go_meet
              exact ⟨_, rfl, rfl, hid (by rw [HD.out, Bool.eq_iff_iff]; simp; try omega)⟩
            · have e1 : decide ((48 : Int) ≤ (c.toNat : Int)) = false := by simp; omega
              have e1' : decide (48 ≤ c.toNat) = false := by simpa using h48
              have HD := hid (show digB c = false by unfold digB; rw [decide_eq_false_iff_not]; omega)
              clear h48
              go_wp2
              go_meet
              exact ⟨_, rfl, rfl, hid (by rw [HD.out])⟩
          case rest =>
          obtain ⟨bd, rfl, hwc, hbd⟩ := hcut
          subst hwc
          by_cases k110 : f = 110
          · have g1 : ((f.toNat : Int) == 110) = true := by rw [k110]; rfl
            have p1 : (f.toNat : Int) = 110 := by rw [k110]; rfl
            have HOK2 := hid (show okB c f k = (bd || (decide (k = 0) && decide (c = 32))) by rw [k110, okN, hbd.out])
            clear k110
            cases bd with
            | true =>
              have HBO := hid (show okB c f k = true by rw [HOK2.out]; rfl)
              have HNX := hid (show ∀ i, i < k + 1 → okAt l i = true from fun i hi => by
                rcases Nat.lt_or_ge i k with h | h
                · exact hI.out i h
                · rw [show i = k by omega, HOK.out]; exact HBO.out)
              go_wp2_with fail
              go_roundw
              case rel => exact ⟨k + 1, by omega, by go_num, HNX, trivial⟩
              case measure => simp [intOf]; omega
            | false =>
              by_cases hk0 : k = 0
              · have d2 : decide ((0 : Int) < (k : Int)) = false := by simp; omega
                have d2' : decide (0 < k) = false := by simp; omega
                have d2'' : ¬ 0 < k := by omega
                by_cases h32 : c = 32
                · have HBO := hid (show okB c f k = true by rw [HOK2.out, decide_eq_true hk0, h32]; rfl)
                  have p2 : (c.toNat : Int) = 32 := by rw [h32]; rfl
                  clear h32 hk0
                  have HNX := hid (show ∀ i, i < k + 1 → okAt l i = true from fun i hi => by
                    rcases Nat.lt_or_ge i k with h | h
                    · exact hI.out i h
                    · rw [show i = k by omega, HOK.out]; exact HBO.out)
                  go_wp2_with fail
                  go_roundw
                  case rel => exact ⟨k + 1, by omega, by go_num, HNX, trivial⟩
                  case measure => simp [intOf]; omega
                · have HBO := hid (show okB c f k = false by rw [HOK2.out, decide_eq_false h32, decide_eq_true hk0]; rfl)
                  have p2 : ((c.toNat : Int) != 32) = true := by rw [bne_iff_ne]; exact fun e => h32 ((u8_eq (n := 32) (by omega)).1 (by omega))
                  clear h32 hk0
                  have HBD := hid (sign_no HL.out hlt (by rw [HOK.out]; exact HBO.out))
                  go_wp2_with fail
                  refine bodyPost_ret (rs_res (box2_set HHW.out) rfl rfl) rfl ?_
                  rw [HBD.out]
                  exact ⟨rfl, (HBB.out.setCell (p := ⟨w.heap.size, 0, none⟩) (Nat.le_refl _) _).setCell (p := ⟨w.heap.size, 1, none⟩) (Nat.le_refl _) _⟩
              · have HBO := hid (show okB c f k = false by rw [HOK2.out, decide_eq_false hk0]; rfl)
                have d2 : decide ((0 : Int) < (k : Int)) = true := by simp; omega
                have d2' : decide (0 < k) = true := by simp; omega
                clear hk0
                have HBD := hid (sign_no HL.out hlt (by rw [HOK.out]; exact HBO.out))
                go_wp2_with fail
                refine bodyPost_ret (rs_res (box2_set HHW.out) rfl rfl) rfl ?_
                rw [HBD.out]
                exact ⟨rfl, (HBB.out.setCell (p := ⟨w.heap.size, 0, none⟩) (Nat.le_refl _) _).setCell (p := ⟨w.heap.size, 1, none⟩) (Nat.le_refl _) _⟩
          · have g1 : ((f.toNat : Int) == 110) = false := by rw [beq_eq_false_iff_ne]; exact fun e => k110 ((u8_eq (n := 110) (by omega)).1 (by omega))
            have p1 : ¬ (f.toNat : Int) = 110 := fun e => k110 ((u8_eq (n := 110) (by omega)).1 (by omega))
            by_cases k109 : f = 109
            · have g2 : ((f.toNat : Int) == 109) = true := by rw [k109]; rfl
              have p2 : (f.toNat : Int) = 109 := by rw [k109]; rfl
              have HBO := hid (show okB c f k = true by rw [k109]; rfl)
              clear k110 k109
              have HNX := hid (show ∀ i, i < k + 1 → okAt l i = true from fun i hi => by
                rcases Nat.lt_or_ge i k with h | h
                · exact hI.out i h
                · rw [show i = k by omega, HOK.out]; exact HBO.out)
              go_wp2_with fail
              go_roundw
              case rel => exact ⟨k + 1, by omega, by go_num, HNX, trivial⟩
              case measure => simp [intOf]; omega
            · have g2 : ((f.toNat : Int) == 109) = false := by rw [beq_eq_false_iff_ne]; exact fun e => k109 ((u8_eq (n := 109) (by omega)).1 (by omega))
              have p2 : ¬ (f.toNat : Int) = 109 := fun e => k109 ((u8_eq (n := 109) (by omega)).1 (by omega))
              by_cases k122 : f = 122
              · have g3 : ((f.toNat : Int) == 122) = true := by rw [k122]; rfl
                have p3 : (f.toNat : Int) = 122 := by rw [k122]; rfl
                have HOK2 := hid (show okB c f k = decide (c = 43 ∨ c = 45) by rw [k122]; rfl)
                clear k110 k109 k122
                by_cases h43 : c = 43
                · have HBO := hid (show okB c f k = true by rw [HOK2.out]; exact decide_eq_true (.inl h43))
                  have p4 : (c.toNat : Int) = 43 := by rw [h43]; rfl
                  clear h43
                  have HNX := hid (show ∀ i, i < k + 1 → okAt l i = true from fun i hi => by
                    rcases Nat.lt_or_ge i k with h | h
                    · exact hI.out i h
                    · rw [show i = k by omega, HOK.out]; exact HBO.out)
                  go_wp2_with fail
                  go_roundw
                  case rel => exact ⟨k + 1, by omega, by go_num, HNX, trivial⟩
                  case measure => simp [intOf]; omega
                · by_cases h45 : c = 45
                  · have HBO := hid (show okB c f k = true by rw [HOK2.out]; exact decide_eq_true (.inr h45))
                    have p4 : (c.toNat : Int) = 45 := by rw [h45]; rfl
                    clear h43 h45
                    have HNX := hid (show ∀ i, i < k + 1 → okAt l i = true from fun i hi => by
                      rcases Nat.lt_or_ge i k with h | h
                      · exact hI.out i h
                      · rw [show i = k by omega, HOK.out]; exact HBO.out)
                    go_wp2_with fail
                    go_roundw
                    case rel => exact ⟨k + 1, by omega, by go_num, HNX, trivial⟩
                    case measure => simp [intOf]; omega
                  · have HBO := hid (show okB c f k = false by rw [HOK2.out]; exact decide_eq_false (fun h => h.elim h43 h45))
                    have p4 : ((c.toNat : Int) != 43) = true := by rw [bne_iff_ne]; exact fun e => h43 ((u8_eq (n := 43) (by omega)).1 (by omega))
                    have p5 : ((c.toNat : Int) != 45) = true := by rw [bne_iff_ne]; exact fun e => h45 ((u8_eq (n := 45) (by omega)).1 (by omega))
                    clear h43 h45
                    have HBD := hid (sign_no HL.out hlt (by rw [HOK.out]; exact HBO.out))
                    go_wp2_with fail
                    refine bodyPost_ret (rs_res (box2_set HHW.out) rfl rfl) rfl ?_
                    rw [HBD.out]
                    exact ⟨rfl, (HBB.out.setCell (p := ⟨w.heap.size, 0, none⟩) (Nat.le_refl _) _).setCell (p := ⟨w.heap.size, 1, none⟩) (Nat.le_refl _) _⟩
              · have g3 : ((f.toNat : Int) == 122) = false := by rw [beq_eq_false_iff_ne]; exact fun e => k122 ((u8_eq (n := 122) (by omega)).1 (by omega))
                have p3 : ¬ (f.toNat : Int) = 122 := fun e => k122 ((u8_eq (n := 122) (by omega)).1 (by omega))
                have HOK2 := hid (show okB c f k = decide (c = f) by unfold okB; rw [if_neg k110, if_neg k109, if_neg k122])
                clear k110 k109 k122
                by_cases hcf : c = f
                · have HBO := hid (show okB c f k = true by rw [HOK2.out]; exact decide_eq_true hcf)
                  subst hcf
                  have HNX := hid (show ∀ i, i < k + 1 → okAt l i = true from fun i hi => by
                    rcases Nat.lt_or_ge i k with h | h
                    · exact hI.out i h
                    · rw [show i = k by omega, HOK.out]; exact HBO.out)
                  go_wp2_with fail
                  go_roundw
                  case rel => exact ⟨k + 1, by omega, by go_num, HNX, trivial⟩
                  case measure => simp [intOf]; omega
                · have HBO := hid (show okB c f k = false by rw [HOK2.out]; exact decide_eq_false hcf)
                  have p4 : ((c.toNat : Int) != (f.toNat : Int)) = true := by rw [bne_iff_ne]; exact fun e => hcf (UInt8.toNat_inj.1 (by omega))
                  clear hcf
                  have HBD := hid (sign_no HL.out hlt (by rw [HOK.out]; exact HBO.out))
                  go_wp2_with fail
                  refine bodyPost_ret (rs_res (box2_set HHW.out) rfl rfl) rfl ?_
                  rw [HBD.out]
                  exact ⟨rfl, (HBB.out.setCell (p := ⟨w.heap.size, 0, none⟩) (Nat.le_refl _) _).setCell (p := ⟨w.heap.size, 1, none⟩) (Nat.le_refl _) _⟩
        · have d1 : decide ((k : Int) < 26) = false := by simp; omega
          have d1' : decide (k < 26) = false := by simpa using hlt
          have HAll := hid (show ∀ i, i < 26 → okAt l i = true from fun i hi => hI.out i (by omega))
          go_wp2_with fail
          go_meet
          exact ⟨k, rfl, HAll, rfl⟩
    case rest =>
    obtain ⟨j, rfl, hAll, hwc⟩ := hcut
    subst hwc
    have hFD := (sign_all HL.out).1 hAll.out
    have HF := hid hFD.1
    have HDG := hid hFD.2
    clear hFD
    have HMO := hid (fun w => rmonth_any ((l.drop 3).take 3) w (by rw [List.length_take]; omega))
    have hme := mon_ex l
    obtain ⟨M, hM⟩ : ∃ M, monP l = M := ⟨_, rfl⟩
    have hM' : monF ((l.drop 3).take 3) = M := hM
    rw [hM'] at HMO
    have HM := hid hM
    clear hM hM'
    obtain ⟨a0, h0⟩ : ∃ a0, fvL l 0 = a0 := ⟨_, rfl⟩
    obtain ⟨a1, h1⟩ : ∃ a1, fvL l 1 = a1 := ⟨_, rfl⟩
    obtain ⟨a2, h2⟩ : ∃ a2, fvL l 2 = a2 := ⟨_, rfl⟩
    obtain ⟨a3, h3⟩ : ∃ a3, fvL l 3 = a3 := ⟨_, rfl⟩
    obtain ⟨a4, h4⟩ : ∃ a4, fvL l 4 = a4 := ⟨_, rfl⟩
    obtain ⟨a5, h5⟩ : ∃ a5, fvL l 5 = a5 := ⟨_, rfl⟩
    obtain ⟨a6, h6⟩ : ∃ a6, fvL l 6 = a6 := ⟨_, rfl⟩
    have N1 := hid (fun w => rnum_pc HDG.out 1 (by omega) w)
    have N2 := hid (fun w => rnum_pc HDG.out 2 (by omega) w)
    have N3 := hid (fun w => rnum_pc HDG.out 3 (by omega) w)
    have N4 := hid (fun w => rnum_pc HDG.out 4 (by omega) w)
    have N5 := hid (fun w => rnum_pc HDG.out 5 (by omega) w)
    have N6 := hid (fun w => rnum_pc HDG.out 6 (by omega) w)
    rw [h1] at N1
    rw [h2] at N2
    rw [h3] at N3
    rw [h4] at N4
    rw [h5] at N5
    rw [h6] at N6
    have x1 := pc_ex l 1 (by omega) (by omega)
    have x2 := pc_ex l 2 (by omega) (by omega)
    have x3 := pc_ex l 3 (by omega) (by omega)
    have x4 := pc_ex l 4 (by omega) (by omega)
    have x5 := pc_ex l 5 (by omega) (by omega)
    have x6 := pc_ex l 6 (by omega) (by omega)
    unfold fA fN at x1 x2 x3 x4 x5 x6
    simp only [List.getD_cons_zero, List.getD_cons_succ, Nat.reduceAdd] at x1 x2 x3 x4 x5 x6
    have xa : (str l).extract 1 2 = str ((l.drop 1).take 1) := by rw [str_extract]
    have xb : (str l).extract 0 2 = str (l.take 2) := by rw [str_extract]; rfl
    have NA := hid (fun w => rnum_first HDG.out HL.out w)
    obtain ⟨tA, hA⟩ : ∃ t, (l.drop 1).take 1 = t := ⟨_, rfl⟩
    rw [hA] at NA xa
    have N0 := hid (fun h32 w => rnum_two HDG.out h32 w)
    obtain ⟨tB, hB⟩ : ∃ t, l.take 2 = t := ⟨_, rfl⟩
    rw [hB] at N0 xb
    obtain ⟨tC, hC⟩ : ∃ t, (l.drop 3).take 3 = t := ⟨_, rfl⟩
    rw [hC] at HMO hme
    clear hA hB hC
    have HB0 := hid (chS l 0 (by omega))
    have HF0 := hid h0
    have HF1 := hid h1
    have HF2 := hid h2
    have HF3 := hid h3
    have HF4 := hid h4
    have HF5 := hid h5
    have HF6 := hid h6
    have HDN := hid (fun w => rdays_nat a1 M a0 w)
    clear h0 h1 h2 h3 h4 h5 h6
    go_upto_if 76 with (first
      | (go_at_call 37; (with_reducible refine (HMO.out _).mono ?_); rintro e w3 ⟨rfl, b3⟩; have HZ := hid ((b3.block _ (lt_of_heap HHW.out)).trans HHW.out); have HB := hid (next HBB.out b3); clear b3)
      | (go_at_call 38; (with_reducible refine (NA.out _).mono ?_); rintro e w4 ⟨X, rfl, hX, hw4⟩; subst hw4; have HX := hid hX; clear hX))
    go_cut [9] from 71 to 79 (fun v wx => v = .int .i64 (a0 : Int) ∧ wx = w3)
    case first =>
      by_cases h32 : chN l 0 = 32
      · have b0 := HB0.out
        rw [h32] at b0
        simp only [Int.cast_ofNat_Int] at b0
        have hx := HX.out h32
        have HXX := hid hx
        clear h32 hx
        go_wp2_with fail
        go_meet
        exact ⟨by rw [HXX.out, HF0.out], rfl⟩
      · have n0 : ((((str l)[0]'(by omega)).toNat : Int) != 32) = true := by rw [bne_iff_ne, HB0.out]; omega
        have n1 : ¬ (((str l)[0]'(by omega)).toNat : Int) = 32 := by rw [HB0.out]; omega
        have N0 := N0.out h32
        rw [HF0.out] at N0
        have N0 := hid N0
        clear h32
        go_wp2_with (go_at_call 38; (with_reducible refine (N0.out _).mono ?_); rintro e w4 ⟨rfl, hw4⟩; subst hw4)
        go_meet
        exact ⟨rfl, rfl⟩
    case rest =>
    obtain ⟨rfl, hwc⟩ := hcut
    subst hwc
    obtain ⟨z0, z1, f0, f1⟩ := box2 HZ.out
    by_cases hm : M = 0
    · have HBD := hid (parse_bad3 (l := l) (fun h => h.2.2 (by rw [HM.out]; exact hm)))
      have m1 : (M == 0) = true := by simpa using hm
      have m2 : ((M : Int) == 0) = true := by simp; omega
      clear hm
      go_wp2_with fail
      refine bodyPost_ret (rs_res (box2_set HZ.out) rfl rfl) rfl ?_
      rw [HBD.out]
      exact ⟨rfl, (HB.out.setCell (p := ⟨w.heap.size, 0, none⟩) (Nat.le_refl _) _).setCell (p := ⟨w.heap.size, 1, none⟩) (Nat.le_refl _) _⟩
    · have m1 : (M == 0) = false := by simpa using hm
      have m2 : ((M : Int) == 0) = false := by rw [beq_eq_false_iff_ne]; omega
      have HM0 := hid hm
      clear hm
      go_upto_region 26 with (first
        | (go_at_call 38; (with_reducible refine (N1.out _).mono ?_); rintro e w4 ⟨rfl, hw4⟩; subst hw4)
        | (go_at_call 9; (with_reducible refine (HDN.out _).mono ?_); rintro e w4 ⟨rfl, hw4⟩; subst hw4))
      go_quiet ((first
        | (go_at_call 38; with_reducible exact Calls.quiet_of_same ((N2.out _).mono fun _ _ h => ⟨h.1, h.2.symm⟩))
        | (go_at_call 38; with_reducible exact Calls.quiet_of_same ((N3.out _).mono fun _ _ h => ⟨h.1, h.2.symm⟩))
        | (go_at_call 38; with_reducible exact Calls.quiet_of_same ((N4.out _).mono fun _ _ h => ⟨h.1, h.2.symm⟩))))
      simp only [Exit.then]
      generalize hwd : World.drewN wc nq = wd
      have HZ := hid (show wd.heap[w.heap.size]? = some (.cells #[.int .i64 0, .int .i64 0] 37 (0, 0)) by rw [← hwd]; exact HZ.out)
      have HB := hid (show Below w.heap.size w wd by rw [← hwd]; exact bq HB.out nq)
      clear hwd z0 z1 f0 f1
      obtain ⟨z0, z1, f0, f1⟩ := box2 HZ.out
      go_upto_region 27 with fail
      go_quiet ((first
        | (go_at_call 38; with_reducible exact Calls.quiet_of_same ((N5.out _).mono fun _ _ h => ⟨h.1, h.2.symm⟩))
        | (go_at_call 38; with_reducible exact Calls.quiet_of_same ((N6.out _).mono fun _ _ h => ⟨h.1, h.2.symm⟩))))
      simp only [Exit.then]
      generalize hwe : World.drewN wd nq = we
      have HZ := hid (show we.heap[w.heap.size]? = some (.cells #[.int .i64 0, .int .i64 0] 37 (0, 0)) by rw [← hwe]; exact HZ.out)
      have HB := hid (show Below w.heap.size w we by rw [← hwe]; exact bq HB.out nq)
      clear hwe z0 z1 f0 f1
      obtain ⟨z0, z1, f0, f1⟩ := box2 HZ.out
      by_cases hV : Vld a1 M a0
      · have hdm : dmy a1 M a0 = (dayN a1 M a0, 0) := by unfold dmy; rw [if_pos hV]
        have hNr := dayN_range hV
        obtain ⟨N, hN⟩ : ∃ N, dayN a1 M a0 = N := ⟨_, rfl⟩
        rw [hN] at hdm hNr
        rw [hdm, decide_eq_true hV]
        have HN := hid hN
        have HV := hid hV
        obtain ⟨hN1, hN2⟩ := hNr
        clear hdm hN hV
        by_cases k2 : 23 < a2
        · have d2 : decide ((23 : Int) < (a2 : Int)) = true := by simp; omega
          have d2' : decide (23 < a2) = true := by simpa using k2
          have HNC := hid (show ¬ (Vld a1 M a0 ∧ a2 ≤ 23 ∧ a3 ≤ 59 ∧ a4 ≤ 59 ∧ a5 ≤ 23 ∧ a6 ≤ 59) from fun h => by omega)
          clear k2
          have HBD := hid (parse_bad4 (l := l) ⟨HF.out, HDG.out, by rw [HM.out]; exact HM0.out⟩ (by unfold clkB; rw [HF0.out, HF1.out, HF2.out, HF3.out, HF4.out, HF5.out, HF6.out, HM.out]; exact HNC.out))
          go_wp2_with fail
          refine bodyPost_ret (rs_res (box2_set HZ.out) rfl rfl) rfl ?_
          rw [HBD.out]
          exact ⟨rfl, (HB.out.setCell (p := ⟨w.heap.size, 0, none⟩) (Nat.le_refl _) _).setCell (p := ⟨w.heap.size, 1, none⟩) (Nat.le_refl _) _⟩
        have d2 : decide ((23 : Int) < (a2 : Int)) = false := by simp; omega
        have d2' : decide (23 < a2) = false := by simpa using k2
        by_cases k3 : 59 < a3
        · have d3 : decide ((59 : Int) < (a3 : Int)) = true := by simp; omega
          have d3' : decide (59 < a3) = true := by simpa using k3
          have HNC := hid (show ¬ (Vld a1 M a0 ∧ a2 ≤ 23 ∧ a3 ≤ 59 ∧ a4 ≤ 59 ∧ a5 ≤ 23 ∧ a6 ≤ 59) from fun h => by omega)
          clear k3
          have HBD := hid (parse_bad4 (l := l) ⟨HF.out, HDG.out, by rw [HM.out]; exact HM0.out⟩ (by unfold clkB; rw [HF0.out, HF1.out, HF2.out, HF3.out, HF4.out, HF5.out, HF6.out, HM.out]; exact HNC.out))
          go_wp2_with fail
          refine bodyPost_ret (rs_res (box2_set HZ.out) rfl rfl) rfl ?_
          rw [HBD.out]
          exact ⟨rfl, (HB.out.setCell (p := ⟨w.heap.size, 0, none⟩) (Nat.le_refl _) _).setCell (p := ⟨w.heap.size, 1, none⟩) (Nat.le_refl _) _⟩
        have d3 : decide ((59 : Int) < (a3 : Int)) = false := by simp; omega
        have d3' : decide (59 < a3) = false := by simpa using k3
        by_cases k4 : 59 < a4
        · have d4 : decide ((59 : Int) < (a4 : Int)) = true := by simp; omega
          have d4' : decide (59 < a4) = true := by simpa using k4
          have HNC := hid (show ¬ (Vld a1 M a0 ∧ a2 ≤ 23 ∧ a3 ≤ 59 ∧ a4 ≤ 59 ∧ a5 ≤ 23 ∧ a6 ≤ 59) from fun h => by omega)
          clear k4
          have HBD := hid (parse_bad4 (l := l) ⟨HF.out, HDG.out, by rw [HM.out]; exact HM0.out⟩ (by unfold clkB; rw [HF0.out, HF1.out, HF2.out, HF3.out, HF4.out, HF5.out, HF6.out, HM.out]; exact HNC.out))
          go_wp2_with fail
          refine bodyPost_ret (rs_res (box2_set HZ.out) rfl rfl) rfl ?_
          rw [HBD.out]
          exact ⟨rfl, (HB.out.setCell (p := ⟨w.heap.size, 0, none⟩) (Nat.le_refl _) _).setCell (p := ⟨w.heap.size, 1, none⟩) (Nat.le_refl _) _⟩
        have d4 : decide ((59 : Int) < (a4 : Int)) = false := by simp; omega
        have d4' : decide (59 < a4) = false := by simpa using k4
        by_cases k5 : 23 < a5
        · have d5 : decide ((23 : Int) < (a5 : Int)) = true := by simp; omega
          have d5' : decide (23 < a5) = true := by simpa using k5
          have HNC := hid (show ¬ (Vld a1 M a0 ∧ a2 ≤ 23 ∧ a3 ≤ 59 ∧ a4 ≤ 59 ∧ a5 ≤ 23 ∧ a6 ≤ 59) from fun h => by omega)
          clear k5
          have HBD := hid (parse_bad4 (l := l) ⟨HF.out, HDG.out, by rw [HM.out]; exact HM0.out⟩ (by unfold clkB; rw [HF0.out, HF1.out, HF2.out, HF3.out, HF4.out, HF5.out, HF6.out, HM.out]; exact HNC.out))
          go_wp2_with fail
          refine bodyPost_ret (rs_res (box2_set HZ.out) rfl rfl) rfl ?_
          rw [HBD.out]
          exact ⟨rfl, (HB.out.setCell (p := ⟨w.heap.size, 0, none⟩) (Nat.le_refl _) _).setCell (p := ⟨w.heap.size, 1, none⟩) (Nat.le_refl _) _⟩
        have d5 : decide ((23 : Int) < (a5 : Int)) = false := by simp; omega
        have d5' : decide (23 < a5) = false := by simpa using k5
        by_cases k6 : 59 < a6
        · have d6 : decide ((59 : Int) < (a6 : Int)) = true := by simp; omega
          have d6' : decide (59 < a6) = true := by simpa using k6
          have HNC := hid (show ¬ (Vld a1 M a0 ∧ a2 ≤ 23 ∧ a3 ≤ 59 ∧ a4 ≤ 59 ∧ a5 ≤ 23 ∧ a6 ≤ 59) from fun h => by omega)
          clear k6
          have HBD := hid (parse_bad4 (l := l) ⟨HF.out, HDG.out, by rw [HM.out]; exact HM0.out⟩ (by unfold clkB; rw [HF0.out, HF1.out, HF2.out, HF3.out, HF4.out, HF5.out, HF6.out, HM.out]; exact HNC.out))
          go_wp2_with fail
          refine bodyPost_ret (rs_res (box2_set HZ.out) rfl rfl) rfl ?_
          rw [HBD.out]
          exact ⟨rfl, (HB.out.setCell (p := ⟨w.heap.size, 0, none⟩) (Nat.le_refl _) _).setCell (p := ⟨w.heap.size, 1, none⟩) (Nat.le_refl _) _⟩
        have d6 : decide ((59 : Int) < (a6 : Int)) = false := by simp; omega
        have d6' : decide (59 < a6) = false := by simpa using k6
        have HBD := hid (parse_good (l := l) ⟨HF.out, HDG.out, by rw [HM.out]; exact HM0.out⟩ (by unfold clkB; rw [HF0.out, HF1.out, HF2.out, HF3.out, HF4.out, HF5.out, HF6.out, HM.out]; exact ⟨HV.out, by omega, by omega, by omega, by omega, by omega⟩))
        have HB21 := hid (chS l 21 (by omega))
        rcases HF.out.2.2.2.2.2.2.2 with c21 | c21
        · have hzf : zoneF l = ((a5 : Int) * 60 + (a6 : Int)) := by unfold zoneF; rw [if_neg (by rw [c21]; decide), HF5.out, HF6.out]; omega
          have hsf : secF l = N * 86400 + (a2 : Int) * 3600 + (a3 : Int) * 60 + (a4 : Int) - ((a5 : Int) * 60 + (a6 : Int)) * 60 := by unfold secF; rw [hzf, HF0.out, HF1.out, HF2.out, HF3.out, HF4.out, HM.out, HN.out]; omega
          have HSF := hid hsf
          have HZF := hid hzf
          have b21 := HB21.out
          rw [c21] at b21
          simp only [Int.cast_ofNat_Int] at b21
          clear hsf hzf c21
          go_wp2_with fail
          refine bodyPost_ret (rs_res (box2_set HZ.out) rfl rfl) rfl ?_
          rw [HBD.out, HSF.out, HZF.out]
          exact ⟨rfl, (HB.out.setCell (p := ⟨w.heap.size, 0, none⟩) (Nat.le_refl _) _).setCell (p := ⟨w.heap.size, 1, none⟩) (Nat.le_refl _) _⟩
        · have hzf : zoneF l = (-((a5 : Int) * 60 + (a6 : Int))) := by unfold zoneF; rw [if_pos c21, HF5.out, HF6.out]; omega
          have hsf : secF l = N * 86400 + (a2 : Int) * 3600 + (a3 : Int) * 60 + (a4 : Int) - (-((a5 : Int) * 60 + (a6 : Int))) * 60 := by unfold secF; rw [hzf, HF0.out, HF1.out, HF2.out, HF3.out, HF4.out, HM.out, HN.out]; omega
          have HSF := hid hsf
          have HZF := hid hzf
          have b21 := HB21.out
          rw [c21] at b21
          simp only [Int.cast_ofNat_Int] at b21
          clear hsf hzf c21
          go_wp2_with fail
          refine bodyPost_ret (rs_res (box2_set HZ.out) rfl rfl) rfl ?_
          rw [HBD.out, HSF.out, HZF.out]
          exact ⟨rfl, (HB.out.setCell (p := ⟨w.heap.size, 0, none⟩) (Nat.le_refl _) _).setCell (p := ⟨w.heap.size, 1, none⟩) (Nat.le_refl _) _⟩
      · have hdm : dmy a1 M a0 = (0, 4) := by unfold dmy; rw [if_neg hV]
        rw [hdm, decide_eq_false hV]
        have HNC := hid (show ¬ (Vld a1 M a0 ∧ a2 ≤ 23 ∧ a3 ≤ 59 ∧ a4 ≤ 59 ∧ a5 ≤ 23 ∧ a6 ≤ 59) from fun h => hV h.1)
        clear hdm hV
        have HBD := hid (parse_bad4 (l := l) ⟨HF.out, HDG.out, by rw [HM.out]; exact HM0.out⟩ (by unfold clkB; rw [HF0.out, HF1.out, HF2.out, HF3.out, HF4.out, HF5.out, HF6.out, HM.out]; exact HNC.out))
        go_wp2_with fail
        refine bodyPost_ret (rs_res (box2_set HZ.out) rfl rfl) rfl ?_
        rw [HBD.out]
        exact ⟨rfl, (HB.out.setCell (p := ⟨w.heap.size, 0, none⟩) (Nat.le_refl _) _).setCell (p := ⟨w.heap.size, 1, none⟩) (Nat.le_refl _) _⟩
  · have n0 : (((str l).size : Int) != 26) = true := by rw [bne_iff_ne]; intro e; exact c0 (by rw [str_size] at e; omega)
    have n0' : ((str l).size != 26) = true := by rw [bne_iff_ne]; exact c0
    have n0'' : ¬ (str l).size = 26 := c0
    have HBD := hid (parse_bad3 (l := l) (fun h => c0 h.1.1))
    obtain ⟨z0, z1, f0, f1⟩ := box2 hhw
    have HBB := hid hBB
    have HHW := hid hhw
    clear c0 hl hsz hBB hhw
    go_enter Tryd.func20, Tryd.ntmps20
    go_wp2_with fail
    refine bodyPost_ret (rs_res HHW.out rfl rfl) rfl ?_
    rw [HBD.out]
    exact ⟨rfl, HBB.out⟩
end Go.Proofs.YtkjlkkaoaiphcaaDoor
