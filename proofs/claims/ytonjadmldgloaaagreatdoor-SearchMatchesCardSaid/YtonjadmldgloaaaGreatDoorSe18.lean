/-
  SearchDays: the walk. A part of the proof: see the head of the text that ends in 'Law'.
-/
import Derived.Test.YtonjadmldgloaaaGreatDoorSe16
namespace Go.Proofs.YtonjadmldgloaaaGreatDoor
open Go.RowKit Go.Shelf
set_option linter.unusedVariables false
set_option maxRecDepth 100000
attribute [local go_sem] Oper.semAt_some

/-- A row stays where a block is changed that has none of its values. -/
theorem row_past {w w' : World} {g : Nat} {T : TypeId} {ys xs : List Value} {A : Option Addr} (h : Row w A xs) (o : OwnE w g T ys) (hd : ∀ x ∈ xs, x ∉ ys) (hO : Only (fun b => b = g) w w') : Row w' A xs := fun hx => by
  obtain ⟨b, off, rfl, hc⟩ := h hx
  refine ⟨b, off, rfl, fun j v hv => ?_⟩
  have h1 := hc j v hv
  refine hO.cell (fun hb => ?_) h1
  have hb' : b = g := hb
  subst hb'
  rw [cell_of_row w b (off + j) _ _ _ o] at h1
  exact hd v (List.mem_of_getElem? hv) (List.mem_of_getElem? (by simpa using h1))
/-- A message that is looked at stays where a message's own block is changed. -/
theorem hit_past {w w' : World} {g : Nat} {T : TypeId} {h h0 : HitV} (hi : HitIn w h) (o : OwnE w g T (hitC h0)) (hO : Only (fun b => b = g) w w') : HitIn w' h := by
  refine ⟨hi.i64, hi.blob, hi.fl, hi.fm, hi.fc, row_past hi.fr o ?_ hO, ⟨hi.bl.1, row_past hi.bl.2 o ?_ hO⟩, hi.bm, hi.bc⟩
  · intro x hx
    obtain ⟨s, -, rfl⟩ := List.mem_map.1 hx
    simp [hitC, strV]
  · intro x hx
    obtain ⟨s, -, rfl⟩ := List.mem_map.1 hx
    simp [hitC, B8]
/-- A message put into a block. -/
def setH (w : World) (g : Nat) (h : HitV) : World := (((((((((w.setCell ⟨g, 0, none⟩ (.int .i64 h.uid)).setCell ⟨g, 1, none⟩ (.int .i64 h.sec)).setCell ⟨g, 2, none⟩ (.int .i64 h.zone)).setCell ⟨g, 3, none⟩ (.int .i64 h.size)).setCell ⟨g, 4, none⟩ (.int .u64 (h.blob : Int))).setCell ⟨g, 5, none⟩ (.slice h.FA h.fn h.fc)).setCell ⟨g, 6, none⟩ (.int .i64 h.place)).setCell ⟨g, 7, none⟩ (.int .i64 h.many)).setCell ⟨g, 8, none⟩ (.int .i64 h.great)).setCell ⟨g, 9, none⟩ (.slice h.BA h.bn h.bc)
theorem setH_own {w : World} {g : Nat} {T : TypeId} {h0 : HitV} (o : OwnE w g T (hitC h0)) (h : HitV) : OwnE (setH w g h) g T (hitC h) :=
  (((((((((o.set 0 _).set 1 _).set 2 _).set 3 _).set 4 _).set 5 _).set 6 _).set 7 _).set 8 _).set 9 _
theorem Only.put {T : Nat → Prop} {a b : World} (h : Only T a b) (p : Addr) (v : Value) (hp : T p.block) : Only T a (b.setCell p v) := h.trans (Only.of_set (T := T) b p v hp) (fun _ t => .inl t)
theorem setH_only (w : World) (g : Nat) (h : HitV) : Only (fun b => b = g) w (setH w g h) :=
  (((((((((Only.of_set (T := fun b => b = g) w ⟨g, 0, none⟩ _ rfl).put ⟨g, 1, none⟩ _ rfl).put ⟨g, 2, none⟩ _ rfl).put ⟨g, 3, none⟩ _ rfl).put ⟨g, 4, none⟩ _ rfl).put ⟨g, 5, none⟩ _ rfl).put ⟨g, 6, none⟩ _ rfl).put ⟨g, 7, none⟩ _ rfl).put ⟨g, 8, none⟩ _ rfl).put ⟨g, 9, none⟩ _ rfl
/-- What lies in memory while a message is asked. -/
structure DayM (w0 W : World) (g : Nat) (h : HitV) : Prop where
  box : OwnE W g 30 (hitC h)
  hi : HitIn W h
  t : Tabs W
  b : Below w0.heap.size w0 W
theorem DayM.below {w0 W X : World} {g : Nat} {h : HitV} (m : DayM w0 W g h) (b : Below W.heap.size W X) : DayM w0 X g h := ⟨m.box.below b, m.hi.below b, m.t.below b, past m.b b⟩
theorem dm_put {w0 W X : World} {g : Nat} {h0 h : HitV} (ht : Tabs w0) (hg : w0.heap.size ≤ g) (o : OwnE W g 30 (hitC h0)) (hb : Below w0.heap.size w0 W) (hi : HitIn X h) (b : Below W.heap.size W X) : DayM w0 (setH X g h) g h := by
  have o2 := o.below b
  have bb : Below w0.heap.size w0 (setH X g h) := (past hb b).trans ((setH_only X g h).below (past hb b).size (fun k hk => by rw [hk]; exact hg))
  exact ⟨setH_own o2 h, hit_past hi o2 (setH_only X g h), ht.below bb, bb⟩
/-- Is a message of, before or behind a day? -/
def dayV (kd n : Int) (h : HitV) : Bool := mayB (plk kd n []) && meansF 9 h (plk kd n [])
theorem dv2 (n : Int) (h : HitV) : dayV 2 n h = dayF 0 (dayN h) n := by kernel_rfl
theorem dv3 (n : Int) (h : HitV) : dayV 3 n h = dayF 1 (dayN h) n := by kernel_rfl
theorem dv4 (n : Int) (h : HitV) : dayV 4 n h = dayF 2 (dayN h) n := by kernel_rfl
theorem dv5 (n : Int) (h : HitV) : dayV 5 n h = sentB 0 h.b n := by kernel_rfl
theorem dv6 (n : Int) (h : HitV) : dayV 6 n h = sentB 1 h.b n := by kernel_rfl
theorem dv7 (n : Int) (h : HitV) : dayV 7 n h = sentB 2 h.b n := by kernel_rfl
theorem df_law (d n : Int) : (dayF 0 d n = true ∧ dayF 1 d n = false ∧ dayF 2 d n = false ∧ dayF 0 d (n + 1) = true) ∨ (dayF 0 d n = false ∧ dayF 1 d n = true ∧ dayF 2 d n = true ∧ dayF 0 d (n + 1) = true) ∨ (dayF 0 d n = false ∧ dayF 1 d n = false ∧ dayF 2 d n = true ∧ dayF 0 d (n + 1) = false) := by
  unfold dayF
  simp
  omega
theorem day_law (n : Int) (h : HitV) : (dayV 2 n h = true ∧ dayV 3 n h = false ∧ dayV 4 n h = false ∧ dayV 2 (n + 1) h = true) ∨ (dayV 2 n h = false ∧ dayV 3 n h = true ∧ dayV 4 n h = true ∧ dayV 2 (n + 1) h = true) ∨ (dayV 2 n h = false ∧ dayV 3 n h = false ∧ dayV 4 n h = true ∧ dayV 2 (n + 1) h = false) := by
  rw [dv2, dv3, dv4, dv2]
  exact df_law _ n
theorem sent_law (n : Int) (h : HitV) : (dayV 5 n h = true ∧ dayV 6 n h = false ∧ dayV 7 n h = false ∧ dayV 5 (n + 1) h = true) ∨ (dayV 5 n h = false ∧ dayV 6 n h = true ∧ dayV 7 n h = true ∧ dayV 5 (n + 1) h = true) ∨ (dayV 5 n h = false ∧ dayV 6 n h = false ∧ dayV 7 n h = true ∧ dayV 5 (n + 1) h = false) ∨ (dayV 5 n h = false ∧ dayV 6 n h = false ∧ dayV 7 n h = false ∧ dayV 5 (n + 1) h = false) := by
  rw [dv5, dv6, dv7, dv5]
  unfold sentB
  cases sentF h.b with
  | none => exact .inr (.inr (.inr ⟨rfl, rfl, rfl, rfl⟩))
  | some d =>
    rcases df_law d n with h | h | h
    · exact .inl h
    · exact .inr (.inl h)
    · exact .inr (.inr (.inl h))
/-- One question of a day. -/
theorem day_match (w0 : World) (g : Nat) (uid sec zone size : Int) (blob : Nat) (FA : Option Addr) (fn fc : Nat) (fl : List (List UInt8)) (place many great : Int) (BA : Option Addr) (bn bc : Nat) (b : List UInt8) (kd n : Int) (hk : in64 kd) (hn : in64 n) (X : World) (m : DayM w0 X g ⟨uid, sec, zone, size, blob, FA, fn, fc, fl, place, many, great, BA, bn, bc, b⟩) :
    Calls Tryz.prog 9 #[.agg #[.int .i64 kd, .string ⟨#[]⟩, .string ⟨#[]⟩, .int .i64 n, .slice none 0 0, .slice none 0 0], .agg #[.int .i64 uid, .int .i64 sec, .int .i64 zone, .int .i64 size, .int .u64 (blob : Int), .slice FA fn fc, .int .i64 place, .int .i64 many, .int .i64 great, .slice BA bn bc]] X fun e w' => e = .returned (.bool (dayV kd n ⟨uid, sec, zone, size, blob, FA, fn, fc, fl, place, many, great, BA, bn, bc, b⟩)) ∧ Below X.heap.size X w' :=
  match_any (plk kd n []) ⟨uid, sec, zone, size, blob, FA, fn, fc, fl, place, many, great, BA, bn, bc, b⟩ X (key_plain hk hn (Nat.zero_le _) (Nat.zero_le _)) m.hi m.t
set_option maxHeartbeats 8000000 in
theorem walkSearchDays (h : HitV) (n : Int) (w : World) (hb : HitBig w h) (hn : in64 n) (ht : Tabs w) :
    Calls Tryz.prog 3 #[.agg (hitC h).toArray, .int .i64 n] w fun e w' => e = .returned (.bool true) ∧ Below w.heap.size w w' := by
  have HT := hid ht
  have hal : Below w.heap.size w (w.alloc (.cells (hitC h).toArray 30)) := (Below.refl _ _).alloc (Nat.le_refl _) _
  have HH := hid (hit_any h _ (hb.below hal))
  have M0 := hid (OwnE.new_ w (hitC h) 30)
  have HAL := hid hal
  have HA := hid awake_any
  obtain ⟨uid, sec, zone, size, blob, FA, fn, fc, fl, place, many, great, BA, bn, bc, b⟩ := h
  obtain ⟨W3, hW3⟩ : ∃ W3, (w.alloc (.cells #[.int .i64 uid, .int .i64 sec, .int .i64 zone, .int .i64 size, .int .u64 (blob : Int), .slice FA fn fc, .int .i64 place, .int .i64 many, .int .i64 great, .slice BA bn bc] 30)) = W3 := ⟨_, rfl⟩
  have HH2 : Hid (Calls Tryz.prog 7 #[.agg #[.int .i64 uid, .int .i64 sec, .int .i64 zone, .int .i64 size, .int .u64 (blob : Int), .slice FA fn fc, .int .i64 place, .int .i64 many, .int .i64 great, .slice BA bn bc]] W3 fun e w' => ∃ h' : HitV, e = .returned (.agg #[.int .i64 h'.uid, .int .i64 h'.sec, .int .i64 h'.zone, .int .i64 h'.size, .int .u64 (h'.blob : Int), .slice h'.FA h'.fn h'.fc, .int .i64 h'.place, .int .i64 h'.many, .int .i64 h'.great, .slice h'.BA h'.bn h'.bc]) ∧ HitIn w' h' ∧ Below W3.heap.size W3 w') := hid (by rw [← hW3]; exact HH.out)
  have M : Hid (OwnE W3 w.heap.size 30 (hitC ⟨uid, sec, zone, size, blob, FA, fn, fc, fl, place, many, great, BA, bn, bc, b⟩)) := hid (by rw [← hW3]; exact M0.out)
  have HAL2 : Hid (Below w.heap.size w W3) := hid (by rw [← hW3]; exact HAL.out)
  clear HH M0 HAL hb hal ht
  have n0 := M.out.frozen 0
  have n1 := M.out.frozen 1
  have n2 := M.out.frozen 2
  have n3 := M.out.frozen 3
  have n4 := M.out.frozen 4
  have n5 := M.out.frozen 5
  have n6 := M.out.frozen 6
  have n7 := M.out.frozen 7
  have n8 := M.out.frozen 8
  have n9 := M.out.frozen 9
  have y0 := M.out.cell (j := 0) rfl
  have y1 := M.out.cell (j := 1) rfl
  have y2 := M.out.cell (j := 2) rfl
  have y3 := M.out.cell (j := 3) rfl
  have y4 := M.out.cell (j := 4) rfl
  have y5 := M.out.cell (j := 5) rfl
  have y6 := M.out.cell (j := 6) rfl
  have y7 := M.out.cell (j := 7) rfl
  have y8 := M.out.cell (j := 8) rfl
  have y9 := M.out.cell (j := 9) rfl
  show Calls Tryz.prog 3 #[.agg #[.int .i64 uid, .int .i64 sec, .int .i64 zone, .int .i64 size, .int .u64 (blob : Int), .slice FA fn fc, .int .i64 place, .int .i64 many, .int .i64 great, .slice BA bn bc], .int .i64 n] w fun e w' => e = .returned (.bool true) ∧ Below w.heap.size w w'
  go_enter Tryz.func3, Tryz.ntmps3
  go_upto_region 1 with fail
  clear hW3
  go_cut [11, 12] (fun a b wx => ∃ h' : HitV, Hid (DayM w wx w.heap.size h'))
  case first =>
    go_wp2_with first
    | (go_at_call 7; (with_reducible refine HH2.out.mono ?_); rintro e w4 ⟨h', he, hi4, b4⟩; have HI4 := hid hi4; have HB4 := hid b4; have M4 := hid (M.out.below b4); clear hi4 b4 n0 n1 n2 n3 n4 n5 n6 n7 n8 n9 y0 y1 y2 y3 y4 y5 y6 y7 y8 y9 HH2; obtain ⟨uid', sec', zone', size', blob', FA', fn', fc', fl', place', many', great', BA', bn', bc', b'⟩ := h'; dsimp only at he; subst he
       have n0 := M4.out.frozen 0
       have n1 := M4.out.frozen 1
       have n2 := M4.out.frozen 2
       have n3 := M4.out.frozen 3
       have n4 := M4.out.frozen 4
       have n5 := M4.out.frozen 5
       have n6 := M4.out.frozen 6
       have n7 := M4.out.frozen 7
       have n8 := M4.out.frozen 8
       have n9 := M4.out.frozen 9
       have y0 := M4.out.cell (j := 0) rfl
       have y1 := M4.out.cell (j := 1) rfl
       have y2 := M4.out.cell (j := 2) rfl
       have y3 := M4.out.cell (j := 3) rfl
       have y4 := M4.out.cell (j := 4) rfl
       have y5 := M4.out.cell (j := 5) rfl
       have y6 := M4.out.cell (j := 6) rfl
       have y7 := M4.out.cell (j := 7) rfl
       have y8 := M4.out.cell (j := 8) rfl
       have y9 := M4.out.cell (j := 9) rfl
       skip)
    go_meet
    have MD := hid (dm_put HT.out (Nat.le_refl _) M.out HAL2.out HI4.out HB4.out)
    refine ⟨⟨uid', sec', zone', size', blob', FA', fn', fc', fl', place', many', great', BA', bn', bc', b'⟩, ?_⟩
    exact MD
  case rest =>
  obtain ⟨h', M1⟩ := hcut
  clear y0 y1 y2 y3 y4 y5 y6 y7 y8 y9 n0 n1 n2 n3 n4 n5 n6 n7 n8 n9 M HH2 HAL2
  rename World => X
  have M := M1
  clear M1
  have HN := hid hn
  obtain ⟨uid, sec, zone, size, blob, FA, fn, fc, fl, place, many, great, BA, bn, bc, b⟩ := h'
  have DM := hid (fun (kd m : Int) (hk : in64 kd) (hm : in64 m) (X : World) mm => day_match w w.heap.size uid sec zone size blob FA fn fc fl place many great BA bn bc b kd m hk hm X mm)
  by_cases big1 : 1099511627776 < n
  · have g1 : decide (1099511627776 < n) = true := by simpa using big1
    go_wp2_with (go_at_call 8; (with_reducible refine (HA.out _ M.out.t).mono ?_); rintro e w5 ⟨rfl, b5⟩; have B5 := hid b5; clear b5)
    go_ret
    exact ⟨rfl, past M.out.b B5.out⟩
  by_cases big2 : n < -1099511627776
  · have g1 : decide (1099511627776 < n) = false := by simpa using big1
    have g2 : decide (n < -1099511627776) = true := by simpa using big2
    go_wp2_with (go_at_call 8; (with_reducible refine (HA.out _ M.out.t).mono ?_); rintro e w5 ⟨rfl, b5⟩; have B5 := hid b5; clear b5)
    go_ret
    exact ⟨rfl, past M.out.b B5.out⟩
  have g1 : decide (1099511627776 < n) = false := by simpa using big1
  have g2 : decide (n < -1099511627776) = false := by simpa using big2
  have HN1 : Hid (in64 (n + 1)) := hid (in64_lit (by omega) (by omega))
  have wr1 : IntKind.i64.wrap (n + 1) = n + 1 := by rw [IntKind.wrap_i64]; omega
  have nb1 : -9223372036854775808 ≤ n + 1 := by omega
  have nb2 : n + 1 < 9223372036854775808 := by omega
  go_wp2_with fail
  go_loopw [5] (fun v5 wr => (v5 = .int .i64 0 ∨ v5 = .int .i64 1 ∨ v5 = .int .i64 2) ∧ Hid (DayM w wr w.heap.size ⟨uid, sec, zone, size, blob, FA, fn, fc, fl, place, many, great, BA, bn, bc, b⟩)) (fun v5 wr => 2 - (intOf v5).toNat)
  case atStart => exact ⟨.inl rfl, M⟩
  case round =>
    obtain ⟨h5, MR⟩ := hrel
    clear M g1 g2
    rename World => wr
    have M := MR
    clear MR
    rcases h5 with rfl | rfl | rfl
    · have C1 := hid (fun X m => DM.out 2 n (in64_lit (by decide) (by decide)) HN.out X m)
      have C2 := hid (fun X m => DM.out 3 n (in64_lit (by decide) (by decide)) HN.out X m)
      have C3 := hid (fun X m => DM.out 4 n (in64_lit (by decide) (by decide)) HN.out X m)
      have C4 := hid (fun X m => DM.out 2 (n + 1) (in64_lit (by decide) (by decide)) HN1.out X m)
      have L := hid (day_law n ⟨uid, sec, zone, size, blob, FA, fn, fc, fl, place, many, great, BA, bn, bc, b⟩)
      obtain ⟨v1, hv1⟩ : ∃ v, dayV 2 n ⟨uid, sec, zone, size, blob, FA, fn, fc, fl, place, many, great, BA, bn, bc, b⟩ = v := ⟨_, rfl⟩
      obtain ⟨v2, hv2⟩ : ∃ v, dayV 3 n ⟨uid, sec, zone, size, blob, FA, fn, fc, fl, place, many, great, BA, bn, bc, b⟩ = v := ⟨_, rfl⟩
      obtain ⟨v3, hv3⟩ : ∃ v, dayV 4 n ⟨uid, sec, zone, size, blob, FA, fn, fc, fl, place, many, great, BA, bn, bc, b⟩ = v := ⟨_, rfl⟩
      obtain ⟨v4, hv4⟩ : ∃ v, dayV 2 (n + 1) ⟨uid, sec, zone, size, blob, FA, fn, fc, fl, place, many, great, BA, bn, bc, b⟩ = v := ⟨_, rfl⟩
      rw [hv1, hv2, hv3, hv4] at L
      rw [hv1] at C1
      rw [hv2] at C2
      rw [hv3] at C3
      rw [hv4] at C4
      clear hv1 hv2 hv3 hv4
      have y0 := M.out.box.cell (j := 0) rfl
      have y1 := M.out.box.cell (j := 1) rfl
      have y2 := M.out.box.cell (j := 2) rfl
      have y3 := M.out.box.cell (j := 3) rfl
      have y4 := M.out.box.cell (j := 4) rfl
      have y5 := M.out.box.cell (j := 5) rfl
      have y6 := M.out.box.cell (j := 6) rfl
      have y7 := M.out.box.cell (j := 7) rfl
      have y8 := M.out.box.cell (j := 8) rfl
      have y9 := M.out.box.cell (j := 9) rfl
      go_upto_region 12 with first
        | (go_at_call 9; (with_reducible refine (C1.out _ M.out).mono ?_); rintro e w4 ⟨rfl, b4⟩; have M := hid (M.out.below b4); clear b4 y0 y1 y2 y3 y4 y5 y6 y7 y8 y9 C1
           have y0 := M.out.box.cell (j := 0) rfl
           have y1 := M.out.box.cell (j := 1) rfl
           have y2 := M.out.box.cell (j := 2) rfl
           have y3 := M.out.box.cell (j := 3) rfl
           have y4 := M.out.box.cell (j := 4) rfl
           have y5 := M.out.box.cell (j := 5) rfl
           have y6 := M.out.box.cell (j := 6) rfl
           have y7 := M.out.box.cell (j := 7) rfl
           have y8 := M.out.box.cell (j := 8) rfl
           have y9 := M.out.box.cell (j := 9) rfl
           skip)
        | (go_at_call 9; (with_reducible refine (C2.out _ M.out).mono ?_); rintro e w5 ⟨rfl, b5⟩; have M := hid (M.out.below b5); clear b5 y0 y1 y2 y3 y4 y5 y6 y7 y8 y9 C2
           have y0 := M.out.box.cell (j := 0) rfl
           have y1 := M.out.box.cell (j := 1) rfl
           have y2 := M.out.box.cell (j := 2) rfl
           have y3 := M.out.box.cell (j := 3) rfl
           have y4 := M.out.box.cell (j := 4) rfl
           have y5 := M.out.box.cell (j := 5) rfl
           have y6 := M.out.box.cell (j := 6) rfl
           have y7 := M.out.box.cell (j := 7) rfl
           have y8 := M.out.box.cell (j := 8) rfl
           have y9 := M.out.box.cell (j := 9) rfl
           skip)
        | (go_at_call 9; (with_reducible refine (C3.out _ M.out).mono ?_); rintro e w6 ⟨rfl, b6⟩; have M := hid (M.out.below b6); clear b6 y0 y1 y2 y3 y4 y5 y6 y7 y8 y9 C3
           have y0 := M.out.box.cell (j := 0) rfl
           have y1 := M.out.box.cell (j := 1) rfl
           have y2 := M.out.box.cell (j := 2) rfl
           have y3 := M.out.box.cell (j := 3) rfl
           have y4 := M.out.box.cell (j := 4) rfl
           have y5 := M.out.box.cell (j := 5) rfl
           have y6 := M.out.box.cell (j := 6) rfl
           have y7 := M.out.box.cell (j := 7) rfl
           have y8 := M.out.box.cell (j := 8) rfl
           have y9 := M.out.box.cell (j := 9) rfl
           skip)
        | (go_at_call 9; (with_reducible refine (C4.out _ M.out).mono ?_); rintro e w7 ⟨rfl, b7⟩; have M := hid (M.out.below b7); clear b7 y0 y1 y2 y3 y4 y5 y6 y7 y8 y9 C4)
      rcases L.out with ⟨rfl, rfl, rfl, rfl⟩ | ⟨rfl, rfl, rfl, rfl⟩ | ⟨rfl, rfl, rfl, rfl⟩
      all_goals (go_wp2_with fail)
      all_goals go_roundw
      all_goals first
        | exact ⟨.inr (.inl (by go_num)), M⟩
        | (simp [intOf])
    · have C1 := hid (fun X m => DM.out 5 n (in64_lit (by decide) (by decide)) HN.out X m)
      have C2 := hid (fun X m => DM.out 6 n (in64_lit (by decide) (by decide)) HN.out X m)
      have C3 := hid (fun X m => DM.out 7 n (in64_lit (by decide) (by decide)) HN.out X m)
      have C4 := hid (fun X m => DM.out 5 (n + 1) (in64_lit (by decide) (by decide)) HN1.out X m)
      have L := hid (sent_law n ⟨uid, sec, zone, size, blob, FA, fn, fc, fl, place, many, great, BA, bn, bc, b⟩)
      obtain ⟨v1, hv1⟩ : ∃ v, dayV 5 n ⟨uid, sec, zone, size, blob, FA, fn, fc, fl, place, many, great, BA, bn, bc, b⟩ = v := ⟨_, rfl⟩
      obtain ⟨v2, hv2⟩ : ∃ v, dayV 6 n ⟨uid, sec, zone, size, blob, FA, fn, fc, fl, place, many, great, BA, bn, bc, b⟩ = v := ⟨_, rfl⟩
      obtain ⟨v3, hv3⟩ : ∃ v, dayV 7 n ⟨uid, sec, zone, size, blob, FA, fn, fc, fl, place, many, great, BA, bn, bc, b⟩ = v := ⟨_, rfl⟩
      obtain ⟨v4, hv4⟩ : ∃ v, dayV 5 (n + 1) ⟨uid, sec, zone, size, blob, FA, fn, fc, fl, place, many, great, BA, bn, bc, b⟩ = v := ⟨_, rfl⟩
      rw [hv1, hv2, hv3, hv4] at L
      rw [hv1] at C1
      rw [hv2] at C2
      rw [hv3] at C3
      rw [hv4] at C4
      clear hv1 hv2 hv3 hv4
      have y0 := M.out.box.cell (j := 0) rfl
      have y1 := M.out.box.cell (j := 1) rfl
      have y2 := M.out.box.cell (j := 2) rfl
      have y3 := M.out.box.cell (j := 3) rfl
      have y4 := M.out.box.cell (j := 4) rfl
      have y5 := M.out.box.cell (j := 5) rfl
      have y6 := M.out.box.cell (j := 6) rfl
      have y7 := M.out.box.cell (j := 7) rfl
      have y8 := M.out.box.cell (j := 8) rfl
      have y9 := M.out.box.cell (j := 9) rfl
      go_upto_region 12 with first
        | (go_at_call 9; (with_reducible refine (C1.out _ M.out).mono ?_); rintro e w4 ⟨rfl, b4⟩; have M := hid (M.out.below b4); clear b4 y0 y1 y2 y3 y4 y5 y6 y7 y8 y9 C1
           have y0 := M.out.box.cell (j := 0) rfl
           have y1 := M.out.box.cell (j := 1) rfl
           have y2 := M.out.box.cell (j := 2) rfl
           have y3 := M.out.box.cell (j := 3) rfl
           have y4 := M.out.box.cell (j := 4) rfl
           have y5 := M.out.box.cell (j := 5) rfl
           have y6 := M.out.box.cell (j := 6) rfl
           have y7 := M.out.box.cell (j := 7) rfl
           have y8 := M.out.box.cell (j := 8) rfl
           have y9 := M.out.box.cell (j := 9) rfl
           skip)
        | (go_at_call 9; (with_reducible refine (C2.out _ M.out).mono ?_); rintro e w5 ⟨rfl, b5⟩; have M := hid (M.out.below b5); clear b5 y0 y1 y2 y3 y4 y5 y6 y7 y8 y9 C2
           have y0 := M.out.box.cell (j := 0) rfl
           have y1 := M.out.box.cell (j := 1) rfl
           have y2 := M.out.box.cell (j := 2) rfl
           have y3 := M.out.box.cell (j := 3) rfl
           have y4 := M.out.box.cell (j := 4) rfl
           have y5 := M.out.box.cell (j := 5) rfl
           have y6 := M.out.box.cell (j := 6) rfl
           have y7 := M.out.box.cell (j := 7) rfl
           have y8 := M.out.box.cell (j := 8) rfl
           have y9 := M.out.box.cell (j := 9) rfl
           skip)
        | (go_at_call 9; (with_reducible refine (C3.out _ M.out).mono ?_); rintro e w6 ⟨rfl, b6⟩; have M := hid (M.out.below b6); clear b6 y0 y1 y2 y3 y4 y5 y6 y7 y8 y9 C3
           have y0 := M.out.box.cell (j := 0) rfl
           have y1 := M.out.box.cell (j := 1) rfl
           have y2 := M.out.box.cell (j := 2) rfl
           have y3 := M.out.box.cell (j := 3) rfl
           have y4 := M.out.box.cell (j := 4) rfl
           have y5 := M.out.box.cell (j := 5) rfl
           have y6 := M.out.box.cell (j := 6) rfl
           have y7 := M.out.box.cell (j := 7) rfl
           have y8 := M.out.box.cell (j := 8) rfl
           have y9 := M.out.box.cell (j := 9) rfl
           skip)
        | (go_at_call 9; (with_reducible refine (C4.out _ M.out).mono ?_); rintro e w7 ⟨rfl, b7⟩; have M := hid (M.out.below b7); clear b7 y0 y1 y2 y3 y4 y5 y6 y7 y8 y9 C4)
      rcases L.out with ⟨rfl, rfl, rfl, rfl⟩ | ⟨rfl, rfl, rfl, rfl⟩ | ⟨rfl, rfl, rfl, rfl⟩ | ⟨rfl, rfl, rfl, rfl⟩
      all_goals (go_wp2_with fail)
      all_goals go_roundw
      all_goals first
        | exact ⟨.inr (.inr (by go_num)), M⟩
        | (simp [intOf])
    · go_wp2_with (go_at_call 8; (with_reducible refine (HA.out _ M.out.t).mono ?_); rintro e w5 ⟨rfl, b5⟩; have B5 := hid b5; clear b5)
      go_ret
      exact ⟨rfl, past M.out.b B5.out⟩
end Go.Proofs.YtonjadmldgloaaaGreatDoor
