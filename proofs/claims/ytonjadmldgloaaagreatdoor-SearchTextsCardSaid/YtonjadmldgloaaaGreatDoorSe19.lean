/-
  SearchTexts: the walk. A part of the proof: see the head of the text that ends in 'Law'.
-/
import Derived.Test.YtonjadmldgloaaaGreatDoorSe18
namespace Go.Proofs.YtonjadmldgloaaaGreatDoor
open Go.RowKit Go.Shelf
set_option linter.unusedVariables false
set_option maxRecDepth 100000
attribute [local go_sem] Oper.semAt_some

/-- A letter the other way round. -/
def turnU (x : UInt8) : UInt8 := if 97 ≤ x.toNat ∧ x.toNat ≤ 122 then UInt8.ofNat (x.toNat - 32) else if 65 ≤ x.toNat ∧ x.toNat ≤ 90 then UInt8.ofNat (x.toNat + 32) else x
def turnL (l : List UInt8) : List UInt8 := l.map turnU
theorem turn_nat (x : UInt8) : (turnU x).toNat = if 97 ≤ x.toNat ∧ x.toNat ≤ 122 then x.toNat - 32 else if 65 ≤ x.toNat ∧ x.toNat ≤ 90 then x.toNat + 32 else x.toNat := by
  have hx := x.toNat_lt
  unfold turnU
  split
  · rw [UInt8.toNat_ofNat', Nat.mod_eq_of_lt (by omega)]
  · split
    · rw [UInt8.toNat_ofNat', Nat.mod_eq_of_lt (by omega)]
    · rfl
theorem small_nat (x : UInt8) : (D16.smallU x).toNat = if 65 ≤ x.toNat ∧ x.toNat ≤ 90 then x.toNat + 32 else x.toNat := by
  have hx := x.toNat_lt
  unfold D16.smallU
  split
  · rw [UInt8.toNat_ofNat', Nat.mod_eq_of_lt (by omega)]
  · rfl
theorem small_turn (x : UInt8) : D16.smallU (turnU x) = D16.smallU x := by
  apply UInt8.toNat_inj.1
  have hx := x.toNat_lt
  rw [small_nat, small_nat, turn_nat]
  repeat' split
  all_goals omega
theorem smallL_turn (l : List UInt8) : smallL (turnL l) = smallL l := by
  unfold smallL turnL
  rw [List.map_map]
  exact List.map_congr_left fun x _ => small_turn x
theorem alike_turn (l : List UInt8) : D16.alikeL l (turnL l) = true := by
  show (smallL l == smallL (turnL l)) = true
  rw [smallL_turn]
  simp
theorem has_mid (a t b : List UInt8) : hasL (a ++ t ++ b) (turnL t) = true := by
  unfold hasL
  rw [smallL_turn]
  have e : smallL (a ++ t ++ b) = smallL a ++ smallL t ++ smallL b := by simp [smallL]
  rw [e]
  unfold Lib.contains
  rw [decide_eq_true_iff]
  rcases Lib.index_spec (smallL a ++ smallL t ++ smallL b) (smallL t) with ⟨_, h⟩ | ⟨i, h, _⟩
  · have h1 := h (smallL a).length (by simp)
    have h2 : Lib.occAt (smallL a ++ smallL t ++ smallL b) (smallL t) (smallL a).length = true := by
      unfold Lib.occAt
      rw [List.append_assoc, List.drop_left]
      exact List.isPrefixOf_iff_prefix.2 (List.prefix_append _ _)
    rw [h1] at h2
    cases h2
  · rw [h]
    omega
theorem split_feed (s : List UInt8) : D17.splitL (10 :: s) = 1 := rfl
/-- A message that is octets alone. -/
def hv0 (A : Option Addr) (n c : Nat) (l : List UInt8) : HitV := ⟨0, 0, 0, 0, 0, none, 0, 0, [], 0, 0, 0, A, n, c, l⟩
def plt (k : Int) (s : List UInt8) : KeyT := ⟨k, s, [], 0, none, 0, 0, [], none, 0, 0, []⟩
theorem mt12 (h : HitV) (s : List UInt8) : (mayB (plt 12 s) && meansF 9 h (plt 12 s)) = hasL h.b s := by kernel_rfl
theorem mt11 (h : HitV) (s : List UInt8) : (mayB (plt 11 s) && meansF 9 h (plt 11 s)) = hasL (h.b.drop (D17.splitL h.b)) s := by kernel_rfl
theorem tv12 (A : Option Addr) (n c : Nat) (a t b : List UInt8) : (mayB (plt 12 (turnL t)) && meansF 9 (hv0 A n c (a ++ t ++ b)) (plt 12 (turnL t))) = true := by
  rw [mt12]
  exact has_mid a t b
theorem tv11 (A : Option Addr) (n c : Nat) (a t b : List UInt8) : (mayB (plt 11 (turnL t)) && meansF 9 (hv0 A n c ((10 :: a) ++ t ++ b)) (plt 11 (turnL t))) = true := by
  rw [mt11]
  have e : (hv0 A n c ((10 :: a) ++ t ++ b)).b = 10 :: (a ++ t ++ b) := by show (10 :: a) ++ t ++ b = _; simp
  rw [e, split_feed]
  exact has_mid a t b
theorem hit_plain {X : World} {A : Option Addr} {n c : Nat} {l : List UInt8} (ho : Oct X A n l) (hn : n ≤ 600) (hc : n ≤ c) : HitIn X (hv0 A n c l) :=
  ⟨⟨z64, z64, z64, z64, z64, z64, z64⟩, Nat.zero_le _, rfl, Nat.zero_le _, Nat.le_refl _, fun h => absurd rfl h, ho, hn, hc⟩
theorem txt_match (kd : Int) (s : List UInt8) (A : Option Addr) (n c : Nat) (l : List UInt8) (X : World) (hk : in64 kd) (hs : s.length ≤ 100) (hh : HitIn X (hv0 A n c l)) (ht : Tabs X) (hv : (mayB (plt kd s) && meansF 9 (hv0 A n c l) (plt kd s)) = true) :
    Calls Tryz.prog 9 #[.agg #[.int .i64 kd, .string (str s), .string ⟨#[]⟩, .int .i64 0, .slice none 0 0, .slice none 0 0], .agg #[.int .i64 0, .int .i64 0, .int .i64 0, .int .i64 0, .int .u64 0, .slice none 0 0, .int .i64 0, .int .i64 0, .int .i64 0, .slice A n c]] X fun e w' => e = .returned (.bool true) ∧ Below X.heap.size X w' := by
  have := match_any (plt kd s) (hv0 A n c l) X (key_plain hk z64 hs (Nat.zero_le _)) hh ht
  rw [hv] at this
  exact this
theorem hit_built0 (A : Option Addr) (n c : Nat) : Tryz.prog.built 30 [(4, .slice A n c)] = some #[.int .i64 0, .int .i64 0, .int .i64 0, .int .i64 0, .int .u64 0, .slice none 0 0, .int .i64 0, .int .i64 0, .int .i64 0, .slice A n c] := by
  rw [hit_fill]
  kernel_rfl
theorem bytes_ge (w : World) (l : List UInt8) : ∃ c, (str l).size ≤ c ∧ (convert 9 28 (.string (str l))).run Tryz.prog w = .ok (.slice (some ⟨w.heap.size, 0, none⟩) (str l).size c) (bytesW w 5 l) :=
  ⟨_, grownCap_ge _ _ _ _, run_bytes_of_string w 9 28 5 (str l) Tryz.underlying9 Tryz.underlying28 Tryz.underlying5⟩
theorem tx_box {w wr : World} {n c : Nat} {l : List UInt8} (ht : Tabs w) (hb : Below w.heap.size w wr) (hl : l.length = n) (hn : n ≤ 600) (hc : n ≤ c) :
    DayM w ((bytesW wr 5 l).alloc (.cells #[.int .i64 0, .int .i64 0, .int .i64 0, .int .i64 0, .int .u64 0, .slice none 0 0, .int .i64 0, .int .i64 0, .int .i64 0, .slice (some ⟨wr.heap.size, 0, none⟩) n c] 30)) (wr.heap.size + 1) (hv0 (some ⟨wr.heap.size, 0, none⟩) n c l) := by
  have b1 : Below w.heap.size w (bytesW wr 5 l) := hb.trans ((bytesW_below wr 5 l).mono hb.size)
  have o1 : Oct (bytesW wr 5 l) (some ⟨wr.heap.size, 0, none⟩) n l := by rw [← hl]; exact (bytesW_own wr 5 l).oct
  have k1 : Below (bytesW wr 5 l).heap.size (bytesW wr 5 l) ((bytesW wr 5 l).alloc (.cells #[.int .i64 0, .int .i64 0, .int .i64 0, .int .i64 0, .int .u64 0, .slice none 0 0, .int .i64 0, .int .i64 0, .int .i64 0, .slice (some ⟨wr.heap.size, 0, none⟩) n c] 30)) := (Below.refl _ _).alloc (Nat.le_refl _) _
  have o2 := OwnE.new_ (bytesW wr 5 l) [.int .i64 0, .int .i64 0, .int .i64 0, .int .i64 0, .int .u64 0, .slice none 0 0, .int .i64 0, .int .i64 0, .int .i64 0, .slice (some ⟨wr.heap.size, 0, none⟩) n c] 30
  rw [bytesW_size] at o2
  exact ⟨o2, hit_plain (o1.below k1) hn hc, ht.below (past b1 k1), past b1 k1⟩
set_option maxHeartbeats 16000000 in
theorem walkSearchTexts (a0 t0 b0 : List UInt8) (w : World) (ha0 : a0.length ≤ maxLen) (ht0 : t0.length ≤ maxLen) (hb0 : b0.length ≤ maxLen) (ht : Tabs w) :
    Calls Tryz.prog 6 #[.string (str a0), .string (str t0), .string (str b0)] w fun e w' => e = .returned (.bool true) ∧ Below w.heap.size w w' := by
  have HT := hid ht
  have HF := hid few_any
  have HA := hid awake_any
  obtain ⟨a, ha⟩ : ∃ a, a0.take 60 = a := ⟨_, rfl⟩
  obtain ⟨t, htt⟩ : ∃ t, t0.take 60 = t := ⟨_, rfl⟩
  obtain ⟨bh, hbh⟩ : ∃ b, b0.take 60 = b := ⟨_, rfl⟩
  have HLA : Hid (a.length ≤ 60) := hid (by rw [← ha, List.length_take]; omega)
  have HLT : Hid (t.length ≤ 60) := hid (by rw [← htt, List.length_take]; omega)
  have HLB : Hid (bh.length ≤ 60) := hid (by rw [← hbh, List.length_take]; omega)
  have F1 := hid (HF.out a0)
  have F2 := hid (HF.out t0)
  have F3 := hid (HF.out b0)
  rw [ha] at F1
  rw [htt] at F2
  rw [hbh] at F3
  clear ha htt hbh ha0 ht0 hb0 ht HF
  go_enter Tryz.func6, Tryz.ntmps6
  go_upto_region 2 with first
    | (go_at_call 16; (with_reducible refine (F1.out _).mono ?_); rintro e w4 ⟨rfl, rfl⟩)
    | (go_at_call 16; (with_reducible refine (F2.out _).mono ?_); rintro e w4 ⟨rfl, rfl⟩)
    | (go_at_call 16; (with_reducible refine (F3.out _).mono ?_); rintro e w4 ⟨rfl, rfl⟩)
  clear F1 F2 F3
  have hsz : (str t).size ≤ 60 := HLT.out
  have HL : Hid ((str t).size = t.length) := hid rfl
  go_wp2_with fail
  go_loopw [7, 8, 9] (fun v7 v8 v9 wx => ∃ k : Nat, k ≤ (str t).size ∧ v8 = .int .i64 (k : Int) ∧ v7 = .string (str (turnL (t.take k))) ∧ Hid (Below w.heap.size w wx)) (fun v7 v8 v9 wx => (str t).size - (intOf v8).toNat)
  case atStart => exact ⟨0, by omega, rfl, rfl, hid (Below.refl _ _)⟩
  case round =>
    obtain ⟨k, hk, rfl, rfl, hB⟩ := hrel
    rename World => wr
    by_cases hlt : k < (str t).size
    · have hd : decide (k < (str t).size) = true := by simpa using hlt
      have hll : k < t.length := by rwa [HL.out] at hlt
      obtain ⟨x, hx⟩ : ∃ x, (str t)[k]'hlt = x := ⟨_, rfl⟩
      have hgx : t[k]'hll = x := hx
      obtain ⟨y, hy⟩ : ∃ y, turnU x = y := ⟨_, rfl⟩
      have HST : Hid (turnL (t.take (k + 1)) = turnL (t.take k) ++ [y]) := hid (by rw [← hy, ← hgx, List.take_succ_eq_append_getElem hll]; unfold turnL; rw [List.map_append]; rfl)
      have hxl := x.toNat_lt
      obtain ⟨z, hz⟩ : ∃ z, y.toNat = z := ⟨_, rfl⟩
      have HZ := hid hz
      obtain ⟨u, hu⟩ : ∃ u, x.toNat = u := ⟨_, rfl⟩
      have hub : u < 256 := by omega
      have hzu : z = if 97 ≤ u ∧ u ≤ 122 then u - 32 else if 65 ≤ u ∧ u ≤ 90 then u + 32 else u := by rw [← hz, ← hy, ← hu, turn_nat]
      have i0 : (0 : Int) ≤ (k : Int) := by omega
      have i1 : (k : Int) < ((str t).size : Int) := by omega
      have i2 : (k : Int).toNat = k := by omega
      clear hgx hz hy hxl
      obtain ⟨tt, htt⟩ : ∃ s, turnL (t.take k) = s := ⟨_, rfl⟩
      have htl : (str tt).size ≤ 60 := by rw [← htt]; show (turnL (t.take k)).length ≤ 60; unfold turnL; rw [List.length_map, List.length_take]; have := HLT.out; omega
      rw [htt] at HST ⊢
      clear htt
      obtain ⟨t1, ht1⟩ : ∃ b, decide (97 ≤ u) = b := ⟨_, rfl⟩
      obtain ⟨t2, ht2⟩ : ∃ b, decide (u ≤ 122) = b := ⟨_, rfl⟩
      obtain ⟨tq, htq⟩ : ∃ b, (t1 && t2) = b := ⟨_, rfl⟩
      have j1 : decide ((97 : Int) ≤ (u : Int)) = t1 := by rw [← ht1, decide_eq_decide]; omega
      have j2 : decide ((u : Int) ≤ 122) = t2 := by rw [← ht2, decide_eq_decide]; omega
      go_upto_region 7 with fail
      go_cut [31] (fun t wx => t = .bool tq ∧ wr = wx)
      case first =>
        go_wp2_with fail
        all_goals (go_meet; exact ⟨by rw [← htq]; simp [*], rfl⟩)
      case rest =>
      obtain ⟨rfl, hw9⟩ := hcut
      subst hw9
      go_upto_if 31 with fail
      go_cut [9] (fun c wx => c = .int .u8 (z : Int) ∧ wr = wx)
      case first =>
        cases tq with
        | true =>
          rw [Bool.and_eq_true] at htq
          have hz2 : z = u - 32 := by rw [hzu, if_pos ⟨of_decide_eq_true (ht1.trans htq.1), of_decide_eq_true (ht2.trans htq.2)⟩]
          have hb1 : 97 ≤ u := of_decide_eq_true (ht1.trans htq.1)
          have hb2 : u ≤ 122 := of_decide_eq_true (ht2.trans htq.2)
          have HZ2 := hid hz2
          clear hzu hz2 ht1 ht2 htq j1 j2
          go_wp2_with fail
          go_meet
          exact ⟨by rw [HZ2.out]; go_num, rfl⟩
        | false =>
          have hno : ¬ (97 ≤ u ∧ u ≤ 122) := by
            rintro ⟨h1, h2⟩
            rw [← ht1, ← ht2, decide_eq_true h1, decide_eq_true h2] at htq
            cases htq
          rw [if_neg hno] at hzu
          clear ht1 ht2 htq j1 j2
          by_cases h65 : 65 ≤ u
          · have d3 : decide (65 ≤ u) = true := by simpa using h65
            have d3i : decide ((65 : Int) ≤ (u : Int)) = true := by rw [decide_eq_true_iff]; omega
            by_cases h90 : u ≤ 90
            · have d4 : decide (u ≤ 90) = true := by simpa using h90
              have d4i : decide ((u : Int) ≤ 90) = true := by rw [decide_eq_true_iff]; omega
              rw [if_pos ⟨h65, h90⟩] at hzu
              have HZ2 := hid hzu
              clear hzu hno
              go_wp2_with fail
              go_meet
              exact ⟨by rw [HZ2.out]; go_num, rfl⟩
            · have d4 : decide (u ≤ 90) = false := by simpa using h90
              have d4i : decide ((u : Int) ≤ 90) = false := by rw [decide_eq_false_iff_not]; omega
              rw [if_neg (fun e => h90 e.2)] at hzu
              have HZ2 := hid hzu
              clear hzu hno
              go_wp2_with fail
              go_meet
              exact ⟨by rw [HZ2.out], rfl⟩
          · have d3 : decide (65 ≤ u) = false := by simpa using h65
            have d3i : decide ((65 : Int) ≤ (u : Int)) = false := by rw [decide_eq_false_iff_not]; omega
            rw [if_neg (fun e => h65 e.1)] at hzu
            have HZ2 := hid hzu
            clear hzu hno
            go_wp2_with fail
            go_meet
            exact ⟨by rw [HZ2.out], rfl⟩
      case rest =>
      obtain ⟨rfl, hw9⟩ := hcut
      subst hw9
      clear hzu ht1 ht2 htq hu hub hx j1 j2
      have hcv : (convert 28 9 (.slice (some ⟨wr.heap.size, 0, none⟩) 1 1)).run Tryz.prog (wr.alloc (.cells #[.int .u8 (z : Int)] 5)) = .ok (.string (str [y])) (wr.alloc (.cells #[.int .u8 (z : Int)] 5)) := by
        rw [← HZ.out]
        exact D16.strP 1 (Oct.of_block [y] (heap_alloc_new wr _) rfl)
      have HB2 := hid (next hB.out ((Below.refl _ wr).alloc (Nat.le_refl _) (.cells #[.int .u8 (z : Int)] 5)))
      have hx1 : (str [y]).size = 1 := rfl
      have hno : ¬ 9223372036854775807 < (str tt).size + 1 := by omega
      have hap : str tt ++ str [y] = str (tt ++ [y]) := str_append tt [y]
      go_wp2_with fail
      go_roundw
      case rel => exact ⟨k + 1, by omega, by go_num, by rw [HST.out], HB2⟩
      case measure => simp [intOf]; omega
    · have hd : decide (k < (str t).size) = false := by simpa using hlt
      have e2 : t.take k = t := List.take_of_length_le (by have := HL.out; omega)
      rw [e2]
      have HB := hB
      clear hB e2 hk
      have HTL : Hid ((turnL t).length ≤ 100) := hid (by unfold turnL; rw [List.length_map]; have := HLT.out; omega)
      have AL : Hid (∀ X, Calls Tryz.prog 17 #[.string (str t), .string (str (turnL t))] X fun e w' => e = .returned (.bool true) ∧ Below X.heap.size X w') := hid (fun X => by have := D16.alike_any t (turnL t) X (by have := HLT.out; omega); rw [alike_turn] at this; exact this)
      have V12 := hid (fun A n c => tv12 A n c a t bh)
      have V11 := hid (fun A n c => tv11 A n c a t bh)
      have ap1 : str a ++ str t = str (a ++ t) := str_append a t
      have ap2 : str (a ++ t) ++ str bh = str (a ++ t ++ bh) := str_append (a ++ t) bh
      have ap3 : (⟨#[10]⟩ : ByteArray) ++ str a = str (10 :: a) := str_append [10] a
      have ap4 : str (10 :: a) ++ str t = str ((10 :: a) ++ t) := str_append (10 :: a) t
      have ap5 : str ((10 :: a) ++ t) ++ str bh = str ((10 :: a) ++ t ++ bh) := str_append ((10 :: a) ++ t) bh
      have s1 : (str a).size ≤ 60 := HLA.out
      have s2 : (str bh).size ≤ 60 := HLB.out
      have s3 : (str (a ++ t)).size ≤ 120 := by show (a ++ t).length ≤ 120; have := HLA.out; have := HLT.out; rw [List.length_append]; omega
      have s4 : (str (10 :: a)).size ≤ 61 := by show (10 :: a).length ≤ 61; have := HLA.out; rw [List.length_cons]; omega
      have s5 : (str ((10 :: a) ++ t)).size ≤ 121 := by show ((10 :: a) ++ t).length ≤ 121; have := HLA.out; have := HLT.out; rw [List.length_append, List.length_cons]; omega
      obtain ⟨n1, hn1⟩ : ∃ n, (str (a ++ t ++ bh)).size = n := ⟨_, rfl⟩
      obtain ⟨n2, hn2⟩ : ∃ n, (str ((10 :: a) ++ t ++ bh)).size = n := ⟨_, rfl⟩
      have N1 : Hid (n1 ≤ 600 ∧ (a ++ t ++ bh).length = n1) := hid ⟨by rw [← hn1]; show (a ++ t ++ bh).length ≤ 600; have := HLA.out; have := HLT.out; have := HLB.out; rw [List.length_append, List.length_append]; omega, hn1⟩
      have N2 : Hid (n2 ≤ 600 ∧ ((10 :: a) ++ t ++ bh).length = n2) := hid ⟨by rw [← hn2]; show ((10 :: a) ++ t ++ bh).length ≤ 600; have := HLA.out; have := HLT.out; have := HLB.out; rw [List.length_append, List.length_append, List.length_cons]; omega, hn2⟩
      obtain ⟨c1, hc1, hcv1⟩ := bytes_ge wr (a ++ t ++ bh)
      rw [hn1] at hc1 hcv1
      have HBX := hid (fun (X : World) => bytes_ge X ((10 :: a) ++ t ++ bh))
      simp only [hn2] at HBX
      have TB := hid (tx_box (c := c1) HT.out HB.out N1.out.2 N1.out.1 hc1)
      have hw1 : (bytesW wr 5 (a ++ t ++ bh)).heap.size = wr.heap.size + 1 := bytesW_size ..
      obtain ⟨l1, hl1⟩ : ∃ l, a ++ t = l := ⟨_, rfl⟩
      obtain ⟨l2, hl2⟩ : ∃ l, l1 ++ bh = l := ⟨_, rfl⟩
      obtain ⟨m0, hm0⟩ : ∃ l, (10 : UInt8) :: a = l := ⟨_, rfl⟩
      obtain ⟨m1, hm1⟩ : ∃ l, m0 ++ t = l := ⟨_, rfl⟩
      obtain ⟨m2, hm2⟩ : ∃ l, m1 ++ bh = l := ⟨_, rfl⟩
      obtain ⟨tn, htn⟩ : ∃ l, turnL t = l := ⟨_, rfl⟩
      simp only [hl1, hl2, hm0, hm1, hm2, htn] at *
      clear hl1 hl2 hm0 hm1 hm2 htn hn1 hn2
      go_upto_region 12 with fail
      go_cut [10] (fun b wx => b = .pointer (some ⟨wr.heap.size + 1, 0, none⟩) ∧ Hid (DayM w wx (wr.heap.size + 1) (hv0 (some ⟨wr.heap.size, 0, none⟩) n1 c1 l2)))
      case first =>
        go_wp2_with first
          | (refine wpList_build_to rfl 30 _ rfl [(4, .slice (some ⟨wr.heap.size, 0, none⟩) n1 c1)] rfl _ (hit_built0 ..) ?_)
        go_meet
        exact ⟨rfl, TB⟩
      case rest =>
      obtain ⟨rfl, M⟩ := hcut
      clear hcv1 hw1 TB hc1
      rename World => W0
      have HM1 := hid (fun (X : World) (m : DayM w X (wr.heap.size + 1) (hv0 (some ⟨wr.heap.size, 0, none⟩) n1 c1 l2)) => txt_match 12 tn (some ⟨wr.heap.size, 0, none⟩) n1 c1 l2 X (in64_lit (by decide) (by decide)) HTL.out m.hi m.t (V12.out _ _ _))
      have HM2 := hid (fun (X : World) (A : Option Addr) (n c : Nat) (hh : HitIn X (hv0 A n c m2)) (h : Tabs X) => txt_match 11 tn A n c m2 X (in64_lit (by decide) (by decide)) HTL.out hh h (V11.out _ _ _))
      clear V12 V11
      have y0 := M.out.box.cell (j := 0) (u := .int .i64 0) rfl
      have y1 := M.out.box.cell (j := 1) (u := .int .i64 0) rfl
      have y2 := M.out.box.cell (j := 2) (u := .int .i64 0) rfl
      have y3 := M.out.box.cell (j := 3) (u := .int .i64 0) rfl
      have y4 := M.out.box.cell (j := 4) (u := .int .u64 0) rfl
      have y5 := M.out.box.cell (j := 5) (u := .slice none 0 0) rfl
      have y6 := M.out.box.cell (j := 6) (u := .int .i64 0) rfl
      have y7 := M.out.box.cell (j := 7) (u := .int .i64 0) rfl
      have y8 := M.out.box.cell (j := 8) (u := .int .i64 0) rfl
      have y9 := M.out.box.cell (j := 9) (u := .slice (some ⟨wr.heap.size, 0, none⟩) n1 c1) rfl
      go_wp2_with first
        | (refine wpList_build_to rfl 30 _ rfl [(4, .slice (some ⟨w5.heap.size, 0, none⟩) n2 c2)] rfl _ (hit_built0 ..) ?_)
        | (go_at_call 17; (with_reducible refine (AL.out _).mono ?_); rintro e w4 ⟨rfl, b4⟩; have M := hid (M.out.below b4); clear b4 y0 y1 y2 y3 y4 y5 y6 y7 y8 y9
           have y0 := M.out.box.cell (j := 0) (u := .int .i64 0) rfl
           have y1 := M.out.box.cell (j := 1) (u := .int .i64 0) rfl
           have y2 := M.out.box.cell (j := 2) (u := .int .i64 0) rfl
           have y3 := M.out.box.cell (j := 3) (u := .int .i64 0) rfl
           have y4 := M.out.box.cell (j := 4) (u := .int .u64 0) rfl
           have y5 := M.out.box.cell (j := 5) (u := .slice none 0 0) rfl
           have y6 := M.out.box.cell (j := 6) (u := .int .i64 0) rfl
           have y7 := M.out.box.cell (j := 7) (u := .int .i64 0) rfl
           have y8 := M.out.box.cell (j := 8) (u := .int .i64 0) rfl
           have y9 := M.out.box.cell (j := 9) (u := .slice (some ⟨wr.heap.size, 0, none⟩) n1 c1) rfl
           skip)
        | (go_at_call 9; (with_reducible refine (HM1.out _ M.out).mono ?_); rintro e w5 ⟨rfl, b5⟩; have M := hid (M.out.below b5); clear b5 y0 y1 y2 y3 y4 y5 y6 y7 y8 y9 HM1; obtain ⟨c2, hc2, hcv2⟩ := HBX.out w5; have HH6 := hid (HM2.out (bytesW w5 5 m2) (some ⟨w5.heap.size, 0, none⟩) n2 c2 (hit_plain (by rw [← N2.out.2]; exact (bytesW_own w5 _ m2).oct) N2.out.1 hc2) (M.out.t.below (bytesW_below w5 _ m2))); have M6 := hid (M.out.below (bytesW_below w5 5 m2)); clear hc2)
        | (go_at_call 9; (with_reducible refine HH6.out.mono ?_); rintro e w7 ⟨rfl, b7⟩; have M := hid (M6.out.below b7); clear b7 hcv2 HH6 M6)
        | (go_at_call 8; (with_reducible refine (HA.out _ M.out.t).mono ?_); rintro e w8 ⟨rfl, b8⟩; have B8 := hid (past M.out.b b8); clear b8)
      go_ret
      exact ⟨rfl, B8.out⟩
end Go.Proofs.YtonjadmldgloaaaGreatDoor
