/-
  A date as it is formatted: the document's walk. A part of the proof: see the head of the text that ends in 'Law'.
-/
import Derived.Test.YtkjlkkaoaiphcaaDoorDa10
namespace Go.Proofs.YtkjlkkaoaiphcaaDoor
open Go.RowKit Go.Shelf
set_option linter.unusedVariables false

theorem rdig2 (v : Nat) (w : World) (h : v ≤ 10000000) : Calls Tryd.prog 36 #[.int .i64 (v : Int), .int .i64 2] w fun e w' => e = .returned (.string (str (digL v 2))) ∧ w' = w := (rdigits_any v 2 w h (by omega)).mono fun _ _ ⟨a, b⟩ => ⟨a, b.symm⟩
theorem rdig4 (v : Nat) (w : World) (h : v ≤ 10000000) : Calls Tryd.prog 36 #[.int .i64 (v : Int), .int .i64 4] w fun e w' => e = .returned (.string (str (digL v 4))) ∧ w' = w := (rdigits_any v 4 w h (by omega)).mono fun _ _ ⟨a, b⟩ => ⟨a, b.symm⟩
theorem dig_two (dd : Nat) : digL dd 2 = UInt8.ofNat (48 + dd / 10 % 10) :: digL dd 1 := by
  rw [digL, Nat.pow_one]
theorem str_join15 (F ml y a b c s e f : List UInt8) : str F ++ ⟨#[45]⟩ ++ str ml ++ ⟨#[45]⟩ ++ str y ++ ⟨#[32]⟩ ++ str a ++ ⟨#[58]⟩ ++ str b ++ ⟨#[58]⟩ ++ str c ++ ⟨#[32]⟩ ++ str s ++ str e ++ str f = str (F ++ ([45] ++ (ml ++ ([45] ++ (y ++ ([32] ++ (a ++ ([58] ++ (b ++ ([58] ++ (c ++ ([32] ++ (s ++ (e ++ f)))))))))))))) := by
  show str F ++ str [45] ++ str ml ++ str [45] ++ str y ++ str [32] ++ str a ++ str [58] ++ str b ++ str [58] ++ str c ++ str [32] ++ str s ++ str e ++ str f = _
  simp only [str_append, List.append_assoc]
set_option maxHeartbeats 4000000 in
theorem rformat_any (s z : Int) (w : World) (h : mayD s z = true) :
    Calls Tryd.prog 18 #[.agg #[.int .i64 s, .int .i64 z]] w fun e w' => e = .returned (.string (str (formL s z))) ∧ Below w.heap.size w w' := by
  obtain ⟨x0, x1⟩ := date_box w s z
  have HB := hid (box_below w s z)
  have hck := fun w => clock_yes s z w h
  obtain ⟨f1, f2, f3, f4, f5, f6⟩ := mayD_facts h
  have hcv := civ_is f3 f4
  have hci := fun w => rcivil_yes ((s + 60 * z) / 86400) w f3 f4
  obtain ⟨t, ht⟩ : ∃ t : Nat, (s + 60 * z) % 86400 = t := ⟨((s + 60 * z) % 86400).toNat, by omega⟩
  have htb : t < 86400 := by omega
  have hform : formL s z = formP (civ ((s + 60 * z) / 86400)).2.2 (civ ((s + 60 * z) / 86400)).2.1 (civ ((s + 60 * z) / 86400)).1 t z.natAbs (decide (z < 0)) := by unfold formL; rw [ht]; rfl
  rw [ht] at hck
  obtain ⟨D, hD⟩ : ∃ D, (s + 60 * z) / 86400 = D := ⟨_, rfl⟩
  rw [hD] at hcv hci hform hck f3 f4
  obtain ⟨⟨y, m, dd⟩, hy⟩ : ∃ c, civ D = c := ⟨_, rfl⟩
  rw [hy] at hcv hci hform
  obtain ⟨⟨v1, v2, v3, v4, v5, v6⟩, _⟩ := hcv
  dsimp only at v1 v2 v3 v4 v5 v6
  have hll := (long_le y m).2
  have hd31 : dd ≤ 31 := Nat.le_trans v6 hll
  have HCI := hid hci
  have HCK := hid hck
  rw [hform]
  clear h hci hck hform hy ht hD v6 hll
  obtain ⟨G, hG⟩ : ∃ G, digL dd 2 = G := ⟨_, rfl⟩
  have hdd := fun w => rdig2 dd w (by omega)
  have hsG : (str G).size = 2 := by rw [str_size, ← hG, digL_len]
  have h0 : 0 < (str G).size := by omega
  have hx : (str G)[0]'h0 = UInt8.ofNat (48 + dd / 10 % 10) := by
    subst hG
    rw [str_get]
    simp only [dig_two]
    rfl
  have hxn := dig_nat (dd / 10 % 10) (Nat.mod_lt _ (by omega))
  obtain ⟨x, hxx⟩ : ∃ x, UInt8.ofNat (48 + dd / 10 % 10) = x := ⟨_, rfl⟩
  rw [hxx] at hx hxn
  rw [hG] at hdd
  have HDD := hid hdd
  have HG := hid hG
  have HX := hid hxx
  obtain ⟨n, hnn⟩ : ∃ n, z.natAbs = n := ⟨_, rfl⟩
  obtain ⟨sg, hsg⟩ : ∃ b, decide (z < 0) = b := ⟨_, rfl⟩
  have hn0 : n ≤ 1439 := by omega
  rw [hnn, hsg]
  clear hdd hG hxx
  obtain ⟨a, ha⟩ : ∃ a, t / 3600 = a := ⟨_, rfl⟩
  obtain ⟨u, hu⟩ : ∃ u, t % 3600 = u := ⟨_, rfl⟩
  obtain ⟨b, hb⟩ : ∃ b, t / 60 % 60 = b := ⟨_, rfl⟩
  obtain ⟨c, hc⟩ : ∃ c, t % 60 = c := ⟨_, rfl⟩
  obtain ⟨e, he⟩ : ∃ e, n / 60 = e := ⟨_, rfl⟩
  obtain ⟨f, hf⟩ : ∃ f, n % 60 = f := ⟨_, rfl⟩
  have i1 : (t : Int) / 3600 = (a : Int) := by omega
  have i2 : (t : Int) % 3600 = (u : Int) := by omega
  have i3 : (u : Int) / 60 = (b : Int) := by omega
  have i4 : (t : Int) % 60 = (c : Int) := by omega
  have i5 : (n : Int) / 60 = (e : Int) := by omega
  have i6 : (n : Int) % 60 = (f : Int) := by omega
  have j1 : Int.tdiv (t : Int) 3600 = (a : Int) := by rw [Int.tdiv_eq_ediv_of_nonneg (by omega)]; exact i1
  have j2 : Int.tmod (t : Int) 3600 = (u : Int) := by rw [Int.tmod_eq_emod_of_nonneg (by omega)]; exact i2
  have j3 : Int.tdiv (u : Int) 60 = (b : Int) := by rw [Int.tdiv_eq_ediv_of_nonneg (by omega)]; exact i3
  have j4 : Int.tmod (t : Int) 60 = (c : Int) := by rw [Int.tmod_eq_emod_of_nonneg (by omega)]; exact i4
  have j5 : Int.tdiv (n : Int) 60 = (e : Int) := by rw [Int.tdiv_eq_ediv_of_nonneg (by omega)]; exact i5
  have j6 : Int.tmod (n : Int) 60 = (f : Int) := by rw [Int.tmod_eq_emod_of_nonneg (by omega)]; exact i6
  have ab : a ≤ 23 := by omega
  have bb : b ≤ 59 := by omega
  have cb : c ≤ 59 := by omega
  have eb : e ≤ 23 := by omega
  have fb : f ≤ 59 := by omega
  have ub : u < 3600 := by omega
  have hform2 : formP dd m y t n sg = (if dd < 10 then 32 :: digL dd 1 else digL dd 2) ++ ([45] ++ (monL (m - 1) ++ ([45] ++ (digL y 4 ++ ([32] ++ (digL a 2 ++ ([58] ++ (digL b 2 ++ ([58] ++ (digL c 2 ++ ([32] ++ ((if sg then [45] else [43]) ++ (digL e 2 ++ digL f 2))))))))))))) := by
    unfold formP
    rw [ha, hb, hc, he, hf]
  rw [hform2]
  have hix := names_cut (m - 1) (by omega)
  rw [show 3 * (m - 1) = 3 * m - 3 by omega, show 3 * m - 3 + 3 = 3 * m by omega] at hix
  unfold namesV at hix
  obtain ⟨ml, hml⟩ : ∃ v, monL (m - 1) = v := ⟨_, rfl⟩
  have hmll := monL_len (i := m - 1) (by omega)
  rw [hml] at hix hmll ⊢
  have sml : (str ml).size = 3 := hmll
  obtain ⟨Y, hY⟩ : ∃ Y, digL y 4 = Y := ⟨_, rfl⟩
  obtain ⟨La, hLa⟩ : ∃ Y, digL a 2 = Y := ⟨_, rfl⟩
  obtain ⟨Lb, hLb⟩ : ∃ Y, digL b 2 = Y := ⟨_, rfl⟩
  obtain ⟨Lc, hLc⟩ : ∃ Y, digL c 2 = Y := ⟨_, rfl⟩
  obtain ⟨Le, hLe⟩ : ∃ Y, digL e 2 = Y := ⟨_, rfl⟩
  obtain ⟨Lf, hLf⟩ : ∃ Y, digL f 2 = Y := ⟨_, rfl⟩
  have sY : (str Y).size = 4 := by rw [str_size, ← hY, digL_len]
  have sa : (str La).size = 2 := by rw [str_size, ← hLa, digL_len]
  have sb : (str Lb).size = 2 := by rw [str_size, ← hLb, digL_len]
  have sc : (str Lc).size = 2 := by rw [str_size, ← hLc, digL_len]
  have se : (str Le).size = 2 := by rw [str_size, ← hLe, digL_len]
  have sf : (str Lf).size = 2 := by rw [str_size, ← hLf, digL_len]
  have hdY := fun w => rdig4 y w (by omega)
  have hda := fun w => rdig2 a w (by omega)
  have hdb := fun w => rdig2 b w (by omega)
  have hdc := fun w => rdig2 c w (by omega)
  have hde := fun w => rdig2 e w (by omega)
  have hdf := fun w => rdig2 f w (by omega)
  rw [hY] at hdY
  rw [hLa] at hda
  rw [hLb] at hdb
  rw [hLc] at hdc
  rw [hLe] at hde
  rw [hLf] at hdf
  rw [hY, hLa, hLb, hLc, hLe, hLf]
  have DY := hid hdY
  have DA := hid hda
  have DB := hid hdb
  have DC := hid hdc
  have DE := hid hde
  have DF := hid hdf
  obtain ⟨F, hF⟩ : ∃ F, (if dd < 10 then 32 :: digL dd 1 else digL dd 2) = F := ⟨_, rfl⟩
  rw [hF]
  obtain ⟨OUT, hOUT⟩ : ∃ o, F ++ ([45] ++ (ml ++ ([45] ++ (Y ++ ([32] ++ (La ++ ([58] ++ (Lb ++ ([58] ++ (Lc ++ ([32] ++ ((if sg = true then [45] else [43]) ++ (Le ++ Lf))))))))))))) = o := ⟨_, rfl⟩
  rw [hOUT]
  have HOUT := hid hOUT
  have HF := hid hF
  have sF : (str F).size = 2 := by
    rw [str_size, ← hF]
    split
    · rw [List.length_cons, digL_len]
    · rw [digL_len]
  have HNN := hid hnn
  have HSG := hid hsg
  clear hdY hda hdb hdc hde hdf hY hLa hLb hLc hLe hLf hOUT hF hform2 hml hmll ha hu hb hc he hf hnn hsg
  by_cases h10 : dd < 10
  · have hx48 : x.toNat = 48 := by rw [hxn]; omega
    have d1 : ((x.toNat : Int) == 48) = true := by simp; omega
    have d1' : (x.toNat == 48) = true := by simpa using hx48
    obtain ⟨q, hq⟩ : ∃ q, digL dd 1 = q := ⟨_, rfl⟩
    have hGq : G = UInt8.ofNat (48 + dd / 10 % 10) :: q := by rw [← HG.out, dig_two, hq]
    have hFq : F = 32 :: q := by rw [← HF.out, if_pos h10, hq]
    have hql : q.length = 1 := by rw [← hq, digL_len]
    have sq : (str q).size = 1 := hql
    have hex : (str G).extract 1 2 = str q := by
      rw [str_extract, hGq, List.drop_succ_cons, List.drop_zero, show 2 - 1 = 1 by rfl, List.take_of_length_le (by omega)]
    have hap : (⟨#[32]⟩ : ByteArray) ++ str q = str F := by rw [hFq]; exact str_append [32] q
    clear hx48 hxn h10 hGq hFq hql hq
    have HX := hid x.toNat_lt
    by_cases hneg : z < 0
    · obtain rfl : z = -(n : Int) := by have := HNN.out; omega
      have hd : decide (-(n : Int) < 0) = true := by simpa using hneg
      have hd' : decide (0 < n) = true := by simp; omega
      obtain rfl : sg = true := by rw [← HSG.out]; exact hd
      clear HSG
      go_enter Tryd.func18, Tryd.ntmps18
      go_wp2_with (first
        | (go_at_call 15; (with_reducible refine (HCK.out _).mono ?_); rintro e' w1 ⟨rfl, b1⟩; have x0 := cells_keep b1 x0; have x1 := cells_keep b1 x1; have HB := hid (next HB.out b1); clear b1)
        | (go_at_call 11; (with_reducible refine (HCI.out _).mono ?_); rintro e' w3 ⟨rfl, rfl⟩)
        | (go_at_call 36; (with_reducible refine (HDD.out _).mono ?_); rintro e' w4 ⟨rfl, rfl⟩))
      have g0 : (0 : Int) ≤ 3 * (m : Int) - 3 := by omega
      have g1 : 3 * (m : Int) ≤ 36 := by omega
      have g2 : (3 * (m : Int) - 3).toNat = 3 * m - 3 := by omega
      have g3 : (3 * (m : Int)).toNat = 3 * m := by omega
      have g4 : 3 * (m : Int) - 3 ≤ 3 * (m : Int) := by omega
      have g5 : 3 * m ≤ 36 := by omega
      have g6 : 3 * m - 3 ≤ 3 * m := by omega
      have g7 : (3 : Int) ≤ 3 * (m : Int) := by omega
      have k1 : IntKind.i64.wrap (3 * (m : Int)) = 3 * (m : Int) := by rw [IntKind.wrap_i64]; omega
      have k0 : IntKind.i64.wrap (3 * (m : Int) - 3) = 3 * (m : Int) - 3 := by rw [IntKind.wrap_i64]; omega
      have k2 : IntKind.i64.wrap (a : Int) = (a : Int) := by rw [IntKind.wrap_i64]; omega
      have k3 : IntKind.i64.wrap (u : Int) = (u : Int) := by rw [IntKind.wrap_i64]; omega
      have k4 : IntKind.i64.wrap (b : Int) = (b : Int) := by rw [IntKind.wrap_i64]; omega
      have k5 : IntKind.i64.wrap (c : Int) = (c : Int) := by rw [IntKind.wrap_i64]; omega
      have k6 : IntKind.i64.wrap (e : Int) = (e : Int) := by rw [IntKind.wrap_i64]; omega
      have k7 : IntKind.i64.wrap (f : Int) = (f : Int) := by rw [IntKind.wrap_i64]; omega
      go_quiet ((first
        | (go_at_call 36; with_reducible exact Calls.quiet_of_same (DY.out _))
        | (go_at_call 36; with_reducible exact Calls.quiet_of_same (DA.out _))
        | (go_at_call 36; with_reducible exact Calls.quiet_of_same (DB.out _))
        | (go_at_call 36; with_reducible exact Calls.quiet_of_same (DC.out _))
        | (go_at_call 36; with_reducible exact Calls.quiet_of_same (DE.out _))
        | (go_at_call 36; with_reducible exact Calls.quiet_of_same (DF.out _))))
      go_wp2
      go_ret
      refine ⟨?_, bq HB.out nq⟩
      rw [← HOUT.out]
      refine congrArg (fun x => Ending.returned (Value.string x)) ?_
      exact str_join15 F ml Y La Lb Lc [45] Le Lf
    · obtain rfl : z = (n : Int) := by have := HNN.out; omega
      have hd : decide ((n : Int) < 0) = false := by simp
      obtain rfl : sg = false := by rw [← HSG.out]; exact hd
      clear hneg HSG
      go_enter Tryd.func18, Tryd.ntmps18
      go_wp2_with (first
        | (go_at_call 15; (with_reducible refine (HCK.out _).mono ?_); rintro e' w1 ⟨rfl, b1⟩; have x0 := cells_keep b1 x0; have x1 := cells_keep b1 x1; have HB := hid (next HB.out b1); clear b1)
        | (go_at_call 11; (with_reducible refine (HCI.out _).mono ?_); rintro e' w3 ⟨rfl, rfl⟩)
        | (go_at_call 36; (with_reducible refine (HDD.out _).mono ?_); rintro e' w4 ⟨rfl, rfl⟩))
      have g0 : (0 : Int) ≤ 3 * (m : Int) - 3 := by omega
      have g1 : 3 * (m : Int) ≤ 36 := by omega
      have g2 : (3 * (m : Int) - 3).toNat = 3 * m - 3 := by omega
      have g3 : (3 * (m : Int)).toNat = 3 * m := by omega
      have g4 : 3 * (m : Int) - 3 ≤ 3 * (m : Int) := by omega
      have g5 : 3 * m ≤ 36 := by omega
      have g6 : 3 * m - 3 ≤ 3 * m := by omega
      have g7 : (3 : Int) ≤ 3 * (m : Int) := by omega
      have k1 : IntKind.i64.wrap (3 * (m : Int)) = 3 * (m : Int) := by rw [IntKind.wrap_i64]; omega
      have k0 : IntKind.i64.wrap (3 * (m : Int) - 3) = 3 * (m : Int) - 3 := by rw [IntKind.wrap_i64]; omega
      have k2 : IntKind.i64.wrap (a : Int) = (a : Int) := by rw [IntKind.wrap_i64]; omega
      have k3 : IntKind.i64.wrap (u : Int) = (u : Int) := by rw [IntKind.wrap_i64]; omega
      have k4 : IntKind.i64.wrap (b : Int) = (b : Int) := by rw [IntKind.wrap_i64]; omega
      have k5 : IntKind.i64.wrap (c : Int) = (c : Int) := by rw [IntKind.wrap_i64]; omega
      have k6 : IntKind.i64.wrap (e : Int) = (e : Int) := by rw [IntKind.wrap_i64]; omega
      have k7 : IntKind.i64.wrap (f : Int) = (f : Int) := by rw [IntKind.wrap_i64]; omega
      go_quiet ((first
        | (go_at_call 36; with_reducible exact Calls.quiet_of_same (DY.out _))
        | (go_at_call 36; with_reducible exact Calls.quiet_of_same (DA.out _))
        | (go_at_call 36; with_reducible exact Calls.quiet_of_same (DB.out _))
        | (go_at_call 36; with_reducible exact Calls.quiet_of_same (DC.out _))
        | (go_at_call 36; with_reducible exact Calls.quiet_of_same (DE.out _))
        | (go_at_call 36; with_reducible exact Calls.quiet_of_same (DF.out _))))
      go_wp2
      go_ret
      refine ⟨?_, bq HB.out nq⟩
      rw [← HOUT.out]
      refine congrArg (fun x => Ending.returned (Value.string x)) ?_
      exact str_join15 F ml Y La Lb Lc [43] Le Lf
  · have hx48 : ¬ x.toNat = 48 := by rw [hxn]; omega
    have d1 : ((x.toNat : Int) == 48) = false := by simp; omega
    have d1' : (x.toNat == 48) = false := by simpa using hx48
    have hGF : G = F := by rw [← HG.out, ← HF.out, if_neg h10]
    subst hGF
    clear hx48 hxn h10
    have HX := hid x.toNat_lt
    by_cases hneg : z < 0
    · obtain rfl : z = -(n : Int) := by have := HNN.out; omega
      have hd : decide (-(n : Int) < 0) = true := by simpa using hneg
      have hd' : decide (0 < n) = true := by simp; omega
      obtain rfl : sg = true := by rw [← HSG.out]; exact hd
      clear HSG
      go_enter Tryd.func18, Tryd.ntmps18
      go_wp2_with (first
        | (go_at_call 15; (with_reducible refine (HCK.out _).mono ?_); rintro e' w1 ⟨rfl, b1⟩; have x0 := cells_keep b1 x0; have x1 := cells_keep b1 x1; have HB := hid (next HB.out b1); clear b1)
        | (go_at_call 11; (with_reducible refine (HCI.out _).mono ?_); rintro e' w3 ⟨rfl, rfl⟩)
        | (go_at_call 36; (with_reducible refine (HDD.out _).mono ?_); rintro e' w4 ⟨rfl, rfl⟩))
      have g0 : (0 : Int) ≤ 3 * (m : Int) - 3 := by omega
      have g1 : 3 * (m : Int) ≤ 36 := by omega
      have g2 : (3 * (m : Int) - 3).toNat = 3 * m - 3 := by omega
      have g3 : (3 * (m : Int)).toNat = 3 * m := by omega
      have g4 : 3 * (m : Int) - 3 ≤ 3 * (m : Int) := by omega
      have g5 : 3 * m ≤ 36 := by omega
      have g6 : 3 * m - 3 ≤ 3 * m := by omega
      have g7 : (3 : Int) ≤ 3 * (m : Int) := by omega
      have k1 : IntKind.i64.wrap (3 * (m : Int)) = 3 * (m : Int) := by rw [IntKind.wrap_i64]; omega
      have k0 : IntKind.i64.wrap (3 * (m : Int) - 3) = 3 * (m : Int) - 3 := by rw [IntKind.wrap_i64]; omega
      have k2 : IntKind.i64.wrap (a : Int) = (a : Int) := by rw [IntKind.wrap_i64]; omega
      have k3 : IntKind.i64.wrap (u : Int) = (u : Int) := by rw [IntKind.wrap_i64]; omega
      have k4 : IntKind.i64.wrap (b : Int) = (b : Int) := by rw [IntKind.wrap_i64]; omega
      have k5 : IntKind.i64.wrap (c : Int) = (c : Int) := by rw [IntKind.wrap_i64]; omega
      have k6 : IntKind.i64.wrap (e : Int) = (e : Int) := by rw [IntKind.wrap_i64]; omega
      have k7 : IntKind.i64.wrap (f : Int) = (f : Int) := by rw [IntKind.wrap_i64]; omega
      go_quiet ((first
        | (go_at_call 36; with_reducible exact Calls.quiet_of_same (DY.out _))
        | (go_at_call 36; with_reducible exact Calls.quiet_of_same (DA.out _))
        | (go_at_call 36; with_reducible exact Calls.quiet_of_same (DB.out _))
        | (go_at_call 36; with_reducible exact Calls.quiet_of_same (DC.out _))
        | (go_at_call 36; with_reducible exact Calls.quiet_of_same (DE.out _))
        | (go_at_call 36; with_reducible exact Calls.quiet_of_same (DF.out _))))
      go_wp2
      go_ret
      refine ⟨?_, bq HB.out nq⟩
      rw [← HOUT.out]
      refine congrArg (fun x => Ending.returned (Value.string x)) ?_
      exact str_join15 G ml Y La Lb Lc [45] Le Lf
    · obtain rfl : z = (n : Int) := by have := HNN.out; omega
      have hd : decide ((n : Int) < 0) = false := by simp
      obtain rfl : sg = false := by rw [← HSG.out]; exact hd
      clear hneg HSG
      go_enter Tryd.func18, Tryd.ntmps18
      go_wp2_with (first
        | (go_at_call 15; (with_reducible refine (HCK.out _).mono ?_); rintro e' w1 ⟨rfl, b1⟩; have x0 := cells_keep b1 x0; have x1 := cells_keep b1 x1; have HB := hid (next HB.out b1); clear b1)
        | (go_at_call 11; (with_reducible refine (HCI.out _).mono ?_); rintro e' w3 ⟨rfl, rfl⟩)
        | (go_at_call 36; (with_reducible refine (HDD.out _).mono ?_); rintro e' w4 ⟨rfl, rfl⟩))
      have g0 : (0 : Int) ≤ 3 * (m : Int) - 3 := by omega
      have g1 : 3 * (m : Int) ≤ 36 := by omega
      have g2 : (3 * (m : Int) - 3).toNat = 3 * m - 3 := by omega
      have g3 : (3 * (m : Int)).toNat = 3 * m := by omega
      have g4 : 3 * (m : Int) - 3 ≤ 3 * (m : Int) := by omega
      have g5 : 3 * m ≤ 36 := by omega
      have g6 : 3 * m - 3 ≤ 3 * m := by omega
      have g7 : (3 : Int) ≤ 3 * (m : Int) := by omega
      have k1 : IntKind.i64.wrap (3 * (m : Int)) = 3 * (m : Int) := by rw [IntKind.wrap_i64]; omega
      have k0 : IntKind.i64.wrap (3 * (m : Int) - 3) = 3 * (m : Int) - 3 := by rw [IntKind.wrap_i64]; omega
      have k2 : IntKind.i64.wrap (a : Int) = (a : Int) := by rw [IntKind.wrap_i64]; omega
      have k3 : IntKind.i64.wrap (u : Int) = (u : Int) := by rw [IntKind.wrap_i64]; omega
      have k4 : IntKind.i64.wrap (b : Int) = (b : Int) := by rw [IntKind.wrap_i64]; omega
      have k5 : IntKind.i64.wrap (c : Int) = (c : Int) := by rw [IntKind.wrap_i64]; omega
      have k6 : IntKind.i64.wrap (e : Int) = (e : Int) := by rw [IntKind.wrap_i64]; omega
      have k7 : IntKind.i64.wrap (f : Int) = (f : Int) := by rw [IntKind.wrap_i64]; omega
      go_quiet ((first
        | (go_at_call 36; with_reducible exact Calls.quiet_of_same (DY.out _))
        | (go_at_call 36; with_reducible exact Calls.quiet_of_same (DA.out _))
        | (go_at_call 36; with_reducible exact Calls.quiet_of_same (DB.out _))
        | (go_at_call 36; with_reducible exact Calls.quiet_of_same (DC.out _))
        | (go_at_call 36; with_reducible exact Calls.quiet_of_same (DE.out _))
        | (go_at_call 36; with_reducible exact Calls.quiet_of_same (DF.out _))))
      go_wp2
      go_ret
      refine ⟨?_, bq HB.out nq⟩
      rw [← HOUT.out]
      refine congrArg (fun x => Ending.returned (Value.string x)) ?_
      exact str_join15 G ml Y La Lb Lc [43] Le Lf
end Go.Proofs.YtkjlkkaoaiphcaaDoor
