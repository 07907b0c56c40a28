/-
  What the first remark says: the program's walk. A part of the proof: see the head of the text that ends in 'Law'.
-/
import Derived.Test.YtdanhdiinkgjnaaDoorAd4
import Derived.Shelf.Strings.SlTrimAscii
namespace Go.Proofs.YtdanhdiinkgjnaaDoor
open Go.RowKit
set_option linter.unusedVariables false
attribute [local go_sem] Oper.semAt_some

/-- What the first remark has, without its signs. -/
def frM : List UInt8 → List Mk → List UInt8
  | acc, [] => acc
  | acc, m :: r => if m.o = true then frM acc r else if m.s = true then acc else frM (if m.u = 2 then acc ++ [m.c] else acc) r
def trimB (l : List UInt8) : List UInt8 := Lib.trimS l [32, 9]
theorem trim_any (l : List UInt8) (w : World) (hl : l.length ≤ 1000000) : Calls Tryd.prog 30 #[.string (str l), .string ⟨#[32, 9]⟩] w fun e w' => e = .returned (.string (str (trimB l))) ∧ Below w.heap.size w w' :=
  (Any.strings_Trim_laid Tryd.lays160 (by kernel_rfl) (str l) ⟨#[32, 9]⟩ w (by rw [str_size]; omega) (by decide) (Go.Proofs.ascii_of_all (by decide))).mono fun e w' ⟨h1, h2⟩ => ⟨by rw [h1, str_toList]; rfl, h2⟩
theorem markS_e (t : St) (c : UInt8) (h : StOk t) : (markS t c).2.e = (decide ((markS t c).1.u = 3) && decide (c.toNat = 92)) := by
  have := h.u
  unfold markS
  split
  · have h3 : t.u ≠ 3 := by omega
    simp [h3]
  split
  · rename_i h4; simp [h4.2]
  split
  · rename_i h4; simp [h4.2]
  split
  · rename_i h4; simp [h4.2]
  split
  · simp
  split
  · dsimp only
    split <;> simp
  · have h3 : t.u ≠ 3 := by omega
    simp [h3]
theorem markS_no (t : St) (c : UInt8) (h : (markS t c).1.u ≠ 2) : (markS t c).1.o = false ∧ (markS t c).1.s = false ∧ (markS t c).2.d = t.d := by
  revert h
  unfold markS
  split
  · exact fun _ => ⟨rfl, rfl, rfl⟩
  split
  · exact fun _ => ⟨rfl, rfl, rfl⟩
  split
  · exact fun _ => ⟨rfl, rfl, rfl⟩
  split
  · exact fun _ => ⟨rfl, rfl, rfl⟩
  split
  · exact fun h => absurd rfl h
  split
  · exact fun h => absurd rfl h
  · exact fun _ => ⟨rfl, rfl, rfl⟩
theorem markS_same (t : St) (c : UInt8) (h : (markS t c).1.u ≠ 2) : markS t c = ((markS t c).1, ⟨(markS t c).2.u, t.d, (markS t c).2.e⟩) := by
  have h2 := (markS_no t c h).2.2
  revert h2
  generalize markS t c = y
  obtain ⟨m, ⟨a, b, f⟩⟩ := y
  intro h2
  dsimp only at h2 ⊢
  rw [h2]
/-- k octets are looked at. -/
structure FrI (w wr : World) (l : List UInt8) (k u d : Nat) (e : Bool) (acc : List UInt8) : Prop where
  b : BldAt w.heap.size w.heap.size acc wr
  bel : Below w.heap.size w wr
  st : stAfter st0 (l.take k) = ⟨u, d, e⟩
  eq : frM [] (marks st0 l) = frM acc (marks ⟨u, d, e⟩ (l.drop k))
  len : acc.length ≤ k
  dl : d ≤ k
theorem FrI.ok {w wr : World} {l : List UInt8} {k u d : Nat} {e : Bool} {acc : List UInt8} (h : FrI w wr l k u d e acc) : StOk ⟨u, d, e⟩ := by
  rw [← h.st]
  exact stAfter_ok _ _ st0_ok
theorem FrI.step {w wr w' : World} {l : List UInt8} {k u d : Nat} {e : Bool} {acc : List UInt8} (h : FrI w wr l k u d e acc) (hk : k < l.length) (c : UInt8) (hc : l[k]'hk = c) (m : Mk) (u' d' : Nat) (e' : Bool) (hm : markS ⟨u, d, e⟩ c = (m, ⟨u', d', e'⟩)) (acc' : List UInt8) (hf : ∀ r, frM acc (m :: r) = frM acc' r)
    (hb : BldAt w.heap.size w.heap.size acc' w') (hbel : Below w.heap.size w w') (hl : acc'.length ≤ acc.length + 1) (hd : d' ≤ k + 1) : FrI w w' l (k + 1) u' d' e' acc' := by
  refine ⟨hb, hbel, ?_, ?_, by have := h.len; omega, hd⟩
  · rw [take_next l k hk, stAfter_append, h.st, hc, stAfter, hm, stAfter]
  · rw [h.eq, List.drop_eq_getElem_cons hk, hc, marks, hm, hf]
theorem marks_get (l : List UInt8) (t : St) (k : Nat) (hk : k < l.length) (hp : k < (prs (marks t l)).length) : (prs (marks t l))[k]'hp = (l[k]'hk, (markS (stAfter t (l.take k)) (l[k]'hk)).1.u) := by
  have e : marks t l = marks t (l.take k) ++ (markS (stAfter t (l.take k)) (l[k]'hk)).1 :: marks (markS (stAfter t (l.take k)) (l[k]'hk)).2 (l.drop (k + 1)) := by
    conv => lhs; rw [← List.take_append_drop k l]
    rw [marks_append, List.drop_eq_getElem_cons hk, marks]
  have h2 : (prs (marks t l))[k]? = some (l[k]'hk, (markS (stAfter t (l.take k)) (l[k]'hk)).1.u) := by
    unfold prs
    rw [List.getElem?_map, e, List.getElem?_append_right (by rw [marks_len, List.length_take]; omega), marks_len, List.length_take, Nat.min_eq_left (by omega), Nat.sub_self, List.getElem?_cons_zero, Option.map_some, markS_c]
  rw [List.getElem?_eq_getElem hp] at h2
  exact Option.some.inj h2
theorem prs_len (l : List UInt8) (t : St) : (prs (marks t l)).length = l.length := by unfold prs; rw [List.length_map, marks_len]
theorem prs_c (l : List UInt8) (t : St) : (prs (marks t l)).map (·.1) = l := by
  unfold prs
  rw [List.map_map]
  exact marks_c l t
/-- Where the state at j + 1 stands behind a \. -/
theorem after_e (l : List UInt8) (j : Nat) (hj : j < l.length) : (stAfter st0 (l.take (j + 1))).e = (decide ((markS (stAfter st0 (l.take j)) (l[j]'hj)).1.u = 3) && decide ((l[j]'hj).toNat = 92)) := by
  rw [take_next l j hj, stAfter_append, stAfter, stAfter]
  exact markS_e _ _ (stAfter_ok _ _ st0_ok)
set_option maxRecDepth 100000 in
set_option maxHeartbeats 8000000 in
theorem first_any (l : List UInt8) (A : Option Addr) (n cp : Nat) (hn : l.length = n) (w : World) (hr : Row w A ((prs (marks st0 l)).map fun x => U x.2)) (hl : n ≤ 100000) :
    Calls Tryd.prog 23 #[.string (str l), .slice A n cp] w fun e w' => e = .returned (.string (str (trimB (frM [] (marks st0 l))))) ∧ Below w.heap.size w w' := by
  have hsz : (str l).size = n := by rw [str_size, hn]
  have HR := hid hr
  have HN := hid hn
  have I0 := hid (show FrI w (w.alloc (.cells #[.pointer none, .slice none 0 0] 51)) l 0 0 0 false [] from ⟨bld_new w, (Below.refl _ w).alloc (Nat.le_refl _) _, rfl, rfl, Nat.le_refl _, Nat.le_refl _⟩)
  clear hr hn
  go_enter Tryd.func23, Tryd.ntmps23
  go_wp2_with fail
  go_loopw [6, 11] (fun v6 v11 wr => ∃ (k u d : Nat) (e : Bool) (acc : List UInt8), k ≤ n ∧ v6 = .int .i64 (d : Int) ∧ v11 = .int .i64 (k : Int) ∧ Hid (FrI w wr l k u d e acc)) (fun v6 v11 wr => n - (intOf v11).toNat)
  case atStart => exact ⟨0, 0, 0, false, [], Nat.zero_le _, rfl, rfl, I0⟩
  case round =>
    clear I0
    obtain ⟨k, u, d, e, acc, hk2, rfl, rfl, HI⟩ := hrel
    by_cases hlt : k < n
    · have d1 : decide ((k : Int) < (n : Int)) = true := by simp; omega
      have d1' : decide (k < n) = true := by simp; omega
      have hks : k < (str l).size := by rw [hsz]; omega
      have hkl : k < l.length := by rw [HN.out]; exact hlt
      have e0 : (0 : Int) ≤ (k : Int) := by omega
      have e1 : (k : Int) < ((str l).size : Int) := by rw [hsz]; omega
      have e2 : (k : Int) < (n : Int) := by omega
      have e3 : (k : Int).toNat = k := by omega
      have HRK := hid (HR.out.below HI.out.bel)
      have hkp : k < (prs (marks st0 l)).length := by rw [prs_len]; exact hkl
      obtain ⟨b, off, rfl, hcell⟩ := row_at HRK.out hkp
      have x0 := hcell k hkp
      rw [marks_get l st0 k hkl hkp] at x0
      have HCELL : Hid (∀ (j : Nat) (hj : j < l.length), wr.cell? ⟨b, off + j, none⟩ = some (U (markS (stAfter st0 (l.take j)) (l[j]'hj)).1.u)) := hid (fun j hj => by
        have := hcell j (by rw [prs_len]; exact hj)
        rw [marks_get l st0 j hj] at this
        exact this)
      obtain ⟨c, hc0⟩ : ∃ c, l[k]'hkl = c := ⟨_, rfl⟩
      have hc : (str l)[k]'hks = c := hc0
      obtain ⟨um, hum⟩ : ∃ um, (markS ⟨u, d, e⟩ c).1.u = um := ⟨_, rfl⟩
      rw [HI.out.st, hc0] at x0
      dsimp only at x0
      rw [hum] at x0
      unfold U at x0
      have hdn : d ≤ n := by have := HI.out.dl; omega
      have hok := HI.out.ok
      have HUD := hid hok.d
      have HU := hid hok.u
      dsimp only at HUD HU
      have HKL := hid hkl
      have HC : Hid (l[k]'HKL.out = c) := hid hc0
      have HM := hid hum
      clear hcell hok hkl hc0 hkp HRK hum
      go_upto_region 6 with fail
      go_cut [8] from 14 to 30 (fun s8 wx => s8 = .bool (!e) ∧ wr = wx)
      case first =>
        cases k with
        | zero =>
          have he : e = false := by
            have := HI.out.st
            rw [List.take_zero, stAfter] at this
            exact (congrArg St.e this).symm
          subst he
          clear HI HCELL HC HKL HM HUD HU
          go_wp2_with fail
          go_meet
          exact ⟨rfl, rfl⟩
        | succ j =>
          have hj : j < l.length := by have := HKL.out; omega
          have he := after_e l j hj
          rw [HI.out.st] at he
          dsimp only at he
          have y0 := HCELL.out j hj
          obtain ⟨up, hup⟩ : ∃ up, (markS (stAfter st0 (l.take j)) (l[j]'hj)).1.u = up := ⟨_, rfl⟩
          obtain ⟨c2, hc2⟩ : ∃ c2, l[j]'hj = c2 := ⟨_, rfl⟩
          rw [hup, hc2] at he
          rw [hup] at y0
          unfold U at y0
          have hjs : j < (str l).size := by omega
          have hc3 : (str l)[j]'hjs = c2 := hc2
          have j0 : (0 : Int) ≤ (j : Int) := by omega
          have j1 : (j : Int) < ((str l).size : Int) := by omega
          have j2 : (j : Int) < (n : Int) := by omega
          have j3 : (j : Int).toNat = j := by omega
          have j4 : ((j : Int) + 1 == 0) = false := by rw [beq_eq_false_iff_ne]; omega
          have j5 : (((j + 1 : Nat) : Int) == 0) = false := by rw [beq_eq_false_iff_ne]; omega
          by_cases hup3 : up = 3
          · subst hup3
            by_cases h92 : c2.toNat = 92
            · have q : ((c2.toNat : Int) != 92) = false := by rw [h92]; rfl
              have he2 : e = true := by rw [he]; simp [h92]
              subst he2
              clear HI HCELL HC HKL HM HUD HU he hup hc2 h92 hc x0
              go_wp2_with fail
              go_meet
              exact ⟨rfl, rfl⟩
            · have q : ((c2.toNat : Int) != 92) = true := by rw [bne_iff_ne]; omega
              have he2 : e = false := by rw [he]; simp [h92]
              subst he2
              clear HI HCELL HC HKL HM HUD HU he hup hc2 h92 hc x0
              go_wp2_with fail
              go_meet
              exact ⟨rfl, rfl⟩
          · have q : ((up : Int) != 3) = true := by rw [bne_iff_ne]; omega
            have he2 : e = false := by rw [he]; simp [hup3]
            subst he2
            clear HI HCELL HC HKL HM HUD HU he hup hc2 hc x0 hc3
            go_wp2_with fail
            go_meet
            exact ⟨rfl, rfl⟩
      case rest =>
      obtain ⟨rfl, rfl⟩ := hcut
      clear HCELL
      by_cases hu2 : um = 2
      · subst hu2
        by_cases hx3 : c.toNat = 40
        · have q3 : ((c.toNat : Int) == 40) = true := by rw [hx3]; rfl
          have q4 : ((c.toNat : Int) == 41) = false := by rw [hx3]; rfl
          have HX := hid hx3
          clear hx3
          cases e with
          | true =>
            obtain rfl : u = 2 := by have := HM.out; simpa [markS] using this
            have hd0 : ((d : Int) == 0) = false := by have := HUD.out.1 rfl; rw [beq_eq_false_iff_ne]; omega
            clear HM HUD HU
            have HI2 : ∀ w', BldAt w.heap.size w.heap.size (acc ++ [c]) w' → Below w.heap.size w w' → Hid (FrI w w' l (k + 1) 2 d false (acc ++ [c])) := fun w' h1 h2 => hid (by
              refine HI.out.step HKL.out c HC.out ⟨c, 2, true, false, false⟩ 2 d false ?_ (acc ++ [c]) (fun r => by rw [frM, if_neg (fun h => by cases h), if_neg (fun h => by cases h), if_pos rfl]) h1 h2 (by simp) (by have := HI.out.dl; omega)
              unfold markS
              simp)
            have B := hid HI.out.b
            have BL := hid HI.out.bel
            have HLA := hid HI.out.len
            clear HI HC HKL
            go_wp2_with (go_at_call 28; refine (write_any _ _ acc c _ B.out (by have := HLA.out; omega) BL.out.size).mono ?_; rintro e w1 ⟨rfl, b1, b2⟩; have HI3 := HI2 _ b1 (BL.out.trans b2); clear B b1 b2)
            go_roundw
            case rel => exact ⟨k + 1, 2, d, false, _, by omega, by go_num, by go_num, HI3⟩
            case measure => simp [intOf]; omega
          | false =>
            by_cases hu0 : u = 0
            · subst hu0
              obtain rfl : d = 0 := by
                rcases Nat.eq_zero_or_pos d with h | h
                · exact h
                · have := HUD.out.2 h; omega
              have HI2 : Hid (FrI w wr l (k + 1) 2 1 false acc) := hid (HI.out.step HKL.out c HC.out ⟨c, 2, false, true, false⟩ 2 1 false (by unfold markS; simp [HX.out]) acc (fun r => by rw [frM, if_pos rfl]) HI.out.b HI.out.bel (by omega) (by omega))
              clear HI HC HKL HM HUD HU
              go_wp2_with fail
              go_roundw
              case rel => exact ⟨k + 1, 2, 1, false, acc, by omega, by first | rfl | go_num, by go_num, HI2⟩
              case measure => simp [intOf]; omega
            · obtain rfl : u = 2 := by
                have := HM.out
                have := HU.out
                rcases (by omega : u = 1 ∨ u = 2) with rfl | h
                · simp [markS, HX.out] at this
                  have h5 := HM.out
                  simp [markS, HX.out] at h5
                · exact h
              have hd0 : ((d : Int) == 0) = false := by have := HUD.out.1 rfl; rw [beq_eq_false_iff_ne]; omega
              have hd1 : ((d : Int) + 1 == 0) = false := by rw [beq_eq_false_iff_ne]; omega
              clear HM HUD HU hu0
              have HI2 : ∀ w', BldAt w.heap.size w.heap.size (acc ++ [c]) w' → Below w.heap.size w w' → Hid (FrI w w' l (k + 1) 2 (d + 1) false (acc ++ [c])) := fun w' h1 h2 => hid (by
                refine HI.out.step HKL.out c HC.out ⟨c, 2, false, false, false⟩ 2 (d + 1) false ?_ (acc ++ [c]) (fun r => by rw [frM, if_neg (fun h => by cases h), if_neg (fun h => by cases h), if_pos rfl]) h1 h2 (by simp) (by have := HI.out.dl; omega)
                unfold markS
                simp [HX.out])
              have B := hid HI.out.b
              have BL := hid HI.out.bel
              have HLA := hid HI.out.len
              clear HI HC HKL
              go_wp2_with (go_at_call 28; refine (write_any _ _ acc c _ B.out (by have := HLA.out; omega) BL.out.size).mono ?_; rintro e w1 ⟨rfl, b1, b2⟩; have HI3 := HI2 _ b1 (BL.out.trans b2); clear B b1 b2)
              go_roundw
              case rel => exact ⟨k + 1, 2, (d + 1), false, _, by omega, by go_num, by go_num, HI3⟩
              case measure => simp [intOf]; omega
        have q3 : ((c.toNat : Int) == 40) = false := ne_f hx3
        have hn1 : e = false → u = 2 := fun he => by
          subst he
          have h1 := HM.out
          have h2 := HU.out
          rcases (by omega : u = 0 ∨ u = 1 ∨ u = 2) with rfl | rfl | h
          · by_cases h34 : c.toNat = 34 <;> simp [markS, h34, hx3] at h1
          · by_cases h34 : c.toNat = 34 <;> by_cases h92 : c.toNat = 92 <;> simp [markS, h34, h92] at h1
          · exact h
        obtain rfl : u = 2 := by
          cases e with
          | true => have := HM.out; simpa [markS] using this
          | false => exact hn1 rfl
        have hd0 : ((d : Int) == 0) = false := by have := HUD.out.1 rfl; rw [beq_eq_false_iff_ne]; omega
        by_cases hx4 : c.toNat = 41
        · have q4 : ((c.toNat : Int) == 41) = true := by rw [hx4]; rfl
          have HX := hid hx4
          clear hx3 hx4 hn1
          cases e with
          | true =>
            clear HM HUD HU
            have HI2 : ∀ w', BldAt w.heap.size w.heap.size (acc ++ [c]) w' → Below w.heap.size w w' → Hid (FrI w w' l (k + 1) 2 d false (acc ++ [c])) := fun w' h1 h2 => hid (by
              refine HI.out.step HKL.out c HC.out ⟨c, 2, true, false, false⟩ 2 d false ?_ (acc ++ [c]) (fun r => by rw [frM, if_neg (fun h => by cases h), if_neg (fun h => by cases h), if_pos rfl]) h1 h2 (by simp) (by have := HI.out.dl; omega)
              unfold markS
              simp)
            have B := hid HI.out.b
            have BL := hid HI.out.bel
            have HLA := hid HI.out.len
            clear HI HC HKL
            go_wp2_with (go_at_call 28; refine (write_any _ _ acc c _ B.out (by have := HLA.out; omega) BL.out.size).mono ?_; rintro e w1 ⟨rfl, b1, b2⟩; have HI3 := HI2 _ b1 (BL.out.trans b2); clear B b1 b2)
            go_roundw
            case rel => exact ⟨k + 1, 2, d, false, _, by omega, by go_num, by go_num, HI3⟩
            case measure => simp [intOf]; omega
          | false =>
            obtain ⟨d2, rfl⟩ : ∃ d2, d = d2 + 1 := ⟨d - 1, by have := HUD.out.1 rfl; omega⟩
            by_cases hd2 : d2 = 0
            · subst hd2
              have HF : Hid (frM [] (marks st0 l) = acc) := hid (by
                rw [HI.out.eq, List.drop_eq_getElem_cons HKL.out, HC.out, marks, show (markS ⟨2, 0 + 1, false⟩ c) = (⟨c, 2, false, false, true⟩, ⟨0, 0, false⟩) by unfold markS; simp [HX.out], frM, if_neg (fun h => by cases h), if_pos rfl])
              have B := hid HI.out.b
              have BL := hid HI.out.bel
              have HLA := hid HI.out.len
              have HK := hid hdn
              have HKN := hid hk2
              clear HI HC HKL HM HUD HU
              go_wp2_with (first
                | (go_at_call 29; refine (string_any _ _ acc _ B.out BL.out.size).mono ?_; rintro e w1 ⟨rfl, b1⟩; have BL := hid (BL.out.trans b1); clear b1)
                | (go_at_call 30; refine (trim_any acc _ (by have := HLA.out; omega)).mono ?_; rintro e w2 ⟨rfl, b1⟩; have BL := hid (next BL.out b1); clear b1))
              go_ret
              exact ⟨by rw [HF.out]; rfl, BL.out⟩
            · have q5 : ((d2 : Int) == 0) = false := by simpa using hd2
              have HD2 := hid hd2
              clear HM HUD HU hd2
              have HI2 : ∀ w', BldAt w.heap.size w.heap.size (acc ++ [c]) w' → Below w.heap.size w w' → Hid (FrI w w' l (k + 1) 2 d2 false (acc ++ [c])) := fun w' h1 h2 => hid (by
                refine HI.out.step HKL.out c HC.out ⟨c, 2, false, false, false⟩ 2 d2 false ?_ (acc ++ [c]) (fun r => by rw [frM, if_neg (fun h => by cases h), if_neg (fun h => by cases h), if_pos rfl]) h1 h2 (by simp) (by have := HI.out.dl; omega)
                unfold markS
                simp [HX.out, HD2.out])
              have B := hid HI.out.b
              have BL := hid HI.out.bel
              have HLA := hid HI.out.len
              clear HI HC HKL
              go_wp2_with (go_at_call 28; refine (write_any _ _ acc c _ B.out (by have := HLA.out; omega) BL.out.size).mono ?_; rintro e w1 ⟨rfl, b1, b2⟩; have HI3 := HI2 _ b1 (BL.out.trans b2); clear B b1 b2)
              go_roundw
              case rel => exact ⟨k + 1, 2, d2, false, _, by omega, by go_num, by go_num, HI3⟩
              case measure => simp [intOf]; omega
        have q4 : ((c.toNat : Int) == 41) = false := ne_f hx4
        cases e with
        | true =>
          clear HM HUD HU hn1
          have HI2 : ∀ w', BldAt w.heap.size w.heap.size (acc ++ [c]) w' → Below w.heap.size w w' → Hid (FrI w w' l (k + 1) 2 d false (acc ++ [c])) := fun w' h1 h2 => hid (by
            refine HI.out.step HKL.out c HC.out ⟨c, 2, true, false, false⟩ 2 d false ?_ (acc ++ [c]) (fun r => by rw [frM, if_neg (fun h => by cases h), if_neg (fun h => by cases h), if_pos rfl]) h1 h2 (by simp) (by have := HI.out.dl; omega)
            unfold markS
            simp)
          have B := hid HI.out.b
          have BL := hid HI.out.bel
          have HLA := hid HI.out.len
          clear HI HC HKL
          go_wp2_with (go_at_call 28; refine (write_any _ _ acc c _ B.out (by have := HLA.out; omega) BL.out.size).mono ?_; rintro e w1 ⟨rfl, b1, b2⟩; have HI3 := HI2 _ b1 (BL.out.trans b2); clear B b1 b2)
          go_roundw
          case rel => exact ⟨k + 1, 2, d, false, _, by omega, by go_num, by go_num, HI3⟩
          case measure => simp [intOf]; omega
        | false =>
          have h92 : c.toNat ≠ 92 := fun h => by
            have := HM.out
            simp [markS, h] at this
          have HX := hid (show c.toNat ≠ 92 ∧ c.toNat ≠ 40 ∧ c.toNat ≠ 41 from ⟨h92, hx3, hx4⟩)
          clear HM HUD HU hn1 hx3 hx4 h92
          have HI2 : ∀ w', BldAt w.heap.size w.heap.size (acc ++ [c]) w' → Below w.heap.size w w' → Hid (FrI w w' l (k + 1) 2 d false (acc ++ [c])) := fun w' h1 h2 => hid (by
            refine HI.out.step HKL.out c HC.out ⟨c, 2, false, false, false⟩ 2 d false ?_ (acc ++ [c]) (fun r => by rw [frM, if_neg (fun h => by cases h), if_neg (fun h => by cases h), if_pos rfl]) h1 h2 (by simp) (by have := HI.out.dl; omega)
            unfold markS
            simp [HX.out.1, HX.out.2.1, HX.out.2.2])
          have B := hid HI.out.b
          have BL := hid HI.out.bel
          have HLA := hid HI.out.len
          clear HI HC HKL
          go_wp2_with (go_at_call 28; refine (write_any _ _ acc c _ B.out (by have := HLA.out; omega) BL.out.size).mono ?_; rintro e w1 ⟨rfl, b1, b2⟩; have HI3 := HI2 _ b1 (BL.out.trans b2); clear B b1 b2)
          go_roundw
          case rel => exact ⟨k + 1, 2, d, false, _, by omega, by go_num, by go_num, HI3⟩
          case measure => simp [intOf]; omega
      · have q0 : ((um : Int) == 2) = false := by rw [beq_eq_false_iff_ne]; omega
        have hno := markS_no ⟨u, d, e⟩ c (by rw [HM.out]; exact hu2)
        dsimp only at hno
        have HI2 : Hid (FrI w wr l (k + 1) (markS ⟨u, d, e⟩ c).2.u d (markS ⟨u, d, e⟩ c).2.e acc) := hid (HI.out.step HKL.out c HC.out (markS ⟨u, d, e⟩ c).1 _ d _ (markS_same ⟨u, d, e⟩ c (by rw [HM.out]; exact hu2)) acc (fun r => by rw [frM, if_neg (by rw [hno.1]; decide), if_neg (by rw [hno.2.1]; decide), if_neg (by rw [HM.out]; exact hu2)]) HI.out.b HI.out.bel (by omega) (by have := HI.out.dl; omega))
        clear HI HC HKL HM HUD HU hno hu2
        go_wp2_with fail
        go_roundw
        case rel => exact ⟨k + 1, _, d, _, acc, by omega, rfl, by go_num, HI2⟩
        case measure => simp [intOf]; omega
    · have hkn : k = n := by omega
      subst hkn
      have d1 : decide ((k : Int) < (k : Int)) = false := by simp
      have d1' : decide (k < k) = false := by simp
      have HF : Hid (frM [] (marks st0 l) = acc) := hid (by rw [HI.out.eq, List.drop_of_length_le (by rw [HN.out]; exact Nat.le_refl _), marks, frM])
      have B := hid HI.out.b
      have BL := hid HI.out.bel
      have HLA := hid HI.out.len
      clear HI
      go_wp2_with (first
        | (go_at_call 29; refine (string_any _ _ acc _ B.out BL.out.size).mono ?_; rintro e w1 ⟨rfl, b1⟩; have BL := hid (BL.out.trans b1); clear b1)
        | (go_at_call 30; refine (trim_any acc _ (by have := HLA.out; omega)).mono ?_; rintro e w2 ⟨rfl, b1⟩; have BL := hid (next BL.out b1); clear b1))
      go_ret
      exact ⟨by rw [HF.out]; rfl, BL.out⟩
end Go.Proofs.YtdanhdiinkgjnaaDoor
