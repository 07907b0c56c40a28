/-
  The fields of some names, or of others: the program's walk. A part of the proof: see the head of the text that ends in 'Law'.
-/
import Derived.Test.YthlofpofcpconaaDoorHe20
namespace Go.Proofs.YthlofpofcpconaaDoor
open Go.RowKit Go.Shelf
set_option linter.unusedVariables false
attribute [local go_sem] Oper.semAt_some

def pickF (l : List UInt8) (ns : List (List UInt8)) (no : Bool) (fs : List Fd) : List UInt8 := (fs.filter fun f => oneOf ns f.nm != no).flatMap fun f => lineL l (f.fr, f.te)
def pickL (l : List UInt8) (ns : List (List UInt8)) (no : Bool) : List UInt8 := pickF l ns no (fieldsL l) ++ endR (cutL l)
theorem pickF_step (l : List UInt8) (ns : List (List UInt8)) (no : Bool) (fs : List Fd) (k : Nat) (hk : k < fs.length) (f : Fd) (hf : fs[k] = f) : pickF l ns no (fs.drop k) = (if (oneOf ns f.nm != no) = true then lineL l (f.fr, f.te) else []) ++ pickF l ns no (fs.drop (k + 1)) := by
  unfold pickF
  rw [List.drop_eq_getElem_cons hk, hf, List.filter_cons]
  split
  · rw [List.flatMap_cons]
  · rfl
theorem endR_len : ∀ (ls : List (List UInt8)), (endR ls).length ≤ 2
  | [] => Nat.le_refl _
  | x :: r => by
    unfold endR
    split
    · rename_i h
      unfold emptyB at h
      rw [Bool.or_eq_true, decide_eq_true_iff, decide_eq_true_iff] at h
      rcases h with h | h <;> rw [h] <;> decide
    · exact endR_len r
/-- What is picked so far: j fields are looked at. -/
structure PkI (l : List UInt8) (ns : List (List UInt8)) (no : Bool) (j m : Nat) (out : List UInt8) : Prop where
  eq : out ++ pickF l ns no ((fieldsL l).drop j) = pickF l ns no (fieldsL l)
  len : out.length = m
  le : m ≤ j * 100000
set_option maxRecDepth 100000 in
set_option maxHeartbeats 8000000 in
theorem pick_any (A : Option Addr) (n c : Nat) (l : List UInt8) (A2 : Option Addr) (n2 c2 : Nat) (ns : List (List UInt8)) (no : Bool) (w : World) (ho : Oct w A n l) (hnc : n ≤ c) (hl : n ≤ 100000)
    (h2 : Row w A2 (ns.map SV)) (hn2 : ns.length = n2) (hl2 : n2 ≤ 100000) (hs : ∀ s ∈ ns, s.length ≤ 100000) :
    Calls Tryd.prog 15 #[.slice A n c, .slice A2 n2 c2, .bool no] w fun e w' => ∃ A' k c', e = .returned (.slice A' k c') ∧ k ≤ c' ∧ Oct w' A' k (pickL l ns no) ∧ Below w.heap.size w w' := by
  have HO := hid ho
  have HN : Hid (l.length = n) := hid ho.1
  have HNC := hid hnc
  have HR2 := hid h2
  have HN2 := hid hn2
  have HS := hid hs
  have hkl := fields_len l
  have HFA := hid (fields_any A n c l w HO.out HNC.out hl)
  obtain ⟨k, hk⟩ : ∃ k, (fieldsL l).length = k := ⟨_, rfl⟩
  rw [hk] at HFA hkl
  have hkn : k ≤ 100000 := by have := HN.out; omega
  have HK := hid hk
  clear ho hnc hkl hk h2 hn2 hs
  go_enter Tryd.func15, Tryd.ntmps15
  go_wp2_with (go_at_call 17; refine HFA.out.mono ?_; rintro e w5 ⟨v, rfl, ho5, b5⟩; have B5 := hid b5; obtain ⟨A5, c5, rfl, -⟩ := own_slice ho5; have HR5 := hid (Row.of_own ho5); clear b5 ho5)
  clear HFA
  go_loopw [7, 14] (fun v7 i wr => ∃ (j : Nat) (A' : Option Addr) (m c' : Nat) (out : List UInt8), j ≤ k ∧ v7 = .slice A' m c' ∧ i = .int .i64 (j : Int) ∧ Hid (PkI l ns no j m out) ∧ Hid (wr.ownsRow w5.heap.size 5 1 (.slice A' m c') m (out.map B8)) ∧ Hid (Below w5.heap.size w5 wr)) (fun v7 i wr => k - (intOf i).toNat)
  case atStart => exact ⟨0, none, 0, 0, [], by omega, rfl, rfl, hid ⟨by rw [List.drop_zero]; rfl, rfl, Nat.zero_le _⟩, hid (World.ownsRow_nil _ _ _ _), hid (Below.refl _ _)⟩
  case round =>
    obtain ⟨j, A', m, c', out, hj, rfl, rfl, HI, HOW, HB1⟩ := hrel
    by_cases hlt : j < k
    · have d1 : decide ((j : Int) < (k : Int)) = true := by simp; omega
      have d1' : decide (j < k) = true := by simpa using hlt
      have hkl : j < (fieldsL l).length := by rw [HK.out]; exact hlt
      obtain ⟨b, off, rfl, hc⟩ := fd_at HR5.out hkl
      have hmem : (fieldsL l)[j]'hkl ∈ fieldsL l := List.getElem_mem hkl
      obtain ⟨f, hf⟩ : ∃ f, (fieldsL l)[j]'hkl = f := ⟨_, rfl⟩
      have hst := pickF_step l ns no (fieldsL l) j hkl f hf
      have p0 := cells_keep HB1.out (hc j hkl).1
      have p1 := cells_keep HB1.out (hc j hkl).2.1
      have p2 := cells_keep HB1.out (hc j hkl).2.2.1
      have p3 := cells_keep HB1.out (hc j hkl).2.2.2
      rw [hf] at p0 p1 p2 p3 hmem
      have i0 : (0 : Int) ≤ (j : Int) := by omega
      have i1 : (j : Int) < (k : Int) := by omega
      have i2 : (j : Int).toNat = j := by omega
      have hb := field_bounds hmem
      have hfo := (field_ok hmem).1.h1
      have hln := HN.out
      have hml := HI.out.le
      obtain ⟨b0, off0, rfl, -⟩ := HO.out.at_ (by omega)
      have e1 : f.fr < f.te := by omega
      have e2 : f.te ≤ n := by omega
      have g0 : (0 : Int) ≤ (f.fr : Int) := by omega
      have g1 : (f.fr : Int) ≤ (f.te : Int) := by omega
      have g2 : (f.te : Int) ≤ (c : Int) := by have := HNC.out; omega
      have g3 : (f.fr : Int).toNat = f.fr := by omega
      have g4 : (f.te : Int).toNat = f.te := by omega
      have g5 : ¬ c = f.fr := by have := HNC.out; omega
      have HOM := hid (fun X (hX : Below w.heap.size w X) => oct_mid (HO.out.below hX) f.fr f.te e1 e2)
      have HCF := hid (fun X g (hX : Below w.heap.size w X) (hg : X.cell? ⟨g, 0, none⟩ = some (.string (str f.nm))) => containsFunc_any A2 n2 c2 ns f.nm g X HN2.out (HR2.out.below hX) hl2 HS.out hg)
      obtain ⟨t, ht⟩ : ∃ t, oneOf ns f.nm = t := ⟨_, rfl⟩
      rw [ht] at HCF hst
      have HST := hid hst
      clear hc hkl hf ht hst hb hmem hln hfo
      go_upto_region 5 with fail
      obtain ⟨W, hW⟩ : ∃ W, wr.alloc (.cells #[.string (str f.nm), .int .i64 (f.fr : Int), .int .i64 (f.te : Int), .int .i64 (f.at_ : Int)] 39) = W := ⟨_, rfl⟩
      have hE : OwnE W wr.heap.size 39 [.string (str f.nm), .int .i64 (f.fr : Int), .int .i64 (f.te : Int), .int .i64 (f.at_ : Int)] := by rw [← hW]; exact OwnE.new_ wr _ _
      have hbW : Below wr.heap.size wr W := by rw [← hW]; exact (Below.refl _ wr).alloc (Nat.le_refl _) _
      have q0 := hE.cell (j := 0) rfl
      have q1 := hE.cell (j := 1) rfl
      have q2 := hE.cell (j := 2) rfl
      have HBW := hid (past HB1.out hbW)
      have HOW2 := hid (own_below HOW.out hbW)
      rw [hW]
      clear hW hE hbW p0 p1 p2 p3 HB1 HOW
      cases no with
      | false =>
        cases t with
        | false =>
          have HF : Hid (PkI l ns false (j + 1) m out) := hid ⟨by rw [← HI.out.eq, HST.out, if_neg (by decide), List.nil_append], HI.out.len, Nat.le_trans hml (Nat.mul_le_mul_right _ (Nat.le_succ j))⟩
          clear HST HI
          go_wp2_with (go_at_call 29; refine (HCF.out _ _ (past B5.out HBW.out) q0).mono ?_; rintro e w7 ⟨rfl, b7⟩; have HB7 := hid (past HBW.out b7); have HOW7 := hid (own_below HOW2.out b7); clear b7)
          go_roundw
          case rel => exact ⟨j + 1, A', m, c', out, by omega, rfl, by go_num, HF, HOW7, HB7⟩
          case measure => simp [intOf]; omega
        | true =>
          have HF : Hid (PkI l ns false (j + 1) (m + (f.te - f.fr)) (out ++ lineL l (f.fr, f.te))) := hid ⟨by rw [← HI.out.eq, HST.out, if_pos (by decide), List.append_assoc], by rw [List.length_append, HI.out.len]; congr 1; exact (HOM.out w (Below.refl _ _)).1, by omega⟩
          clear HST HI
          go_wp2_with (first
            | (go_at_call 29; refine (HCF.out _ _ (past B5.out HBW.out) q0).mono ?_; rintro e w7 ⟨rfl, b7⟩; have k1 := cells_keep b7 q1; have k2 := cells_keep b7 q2; have HB7 := hid (past HBW.out b7); have HOW7 := hid (own_below HOW2.out b7); clear b7)
            | (refine wpList_append_row _ rfl (.tmp 24) (.tmp 30) u8S rfl w5.heap.size (.slice A' m c') m (out.map B8) rfl HOW7.out (some ⟨b0, off0 + f.fr, none⟩) (f.te - f.fr) (c - f.fr) ((lineL l (f.fr, f.te)).map B8) rfl (HOM.out w (Below.refl _ _)).cells_len (HOM.out _ (past B5.out HB7.out)).2 (one_B8 _) (by simp only [maxLen]; omega) (by omega) HB7.out.size ?_
               intro A3 c3 w6 ho2 hg2 hh2
               have HB8 := hid (HB7.out.grown hg2 HB7.out.size (own_base HOW7.out))
               have HO8 : Hid (w6.ownsRow w5.heap.size 5 1 (.slice A3 (m + (f.te - f.fr)) c3) (m + (f.te - f.fr)) ((out ++ lineL l (f.fr, f.te)).map B8)) := hid (by rw [List.map_append]; exact ho2)
               clear ho2 hg2 hh2))
          go_roundw
          case rel => exact ⟨j + 1, A3, m + (f.te - f.fr), c3, out ++ lineL l (f.fr, f.te), by omega, rfl, by go_num, HF, HO8, HB8⟩
          case measure => simp [intOf]; omega
      | true =>
        cases t with
        | false =>
          have HF : Hid (PkI l ns true (j + 1) (m + (f.te - f.fr)) (out ++ lineL l (f.fr, f.te))) := hid ⟨by rw [← HI.out.eq, HST.out, if_pos (by decide), List.append_assoc], by rw [List.length_append, HI.out.len]; congr 1; exact (HOM.out w (Below.refl _ _)).1, by omega⟩
          clear HST HI
          go_wp2_with (first
            | (go_at_call 29; refine (HCF.out _ _ (past B5.out HBW.out) q0).mono ?_; rintro e w7 ⟨rfl, b7⟩; have k1 := cells_keep b7 q1; have k2 := cells_keep b7 q2; have HB7 := hid (past HBW.out b7); have HOW7 := hid (own_below HOW2.out b7); clear b7)
            | (refine wpList_append_row _ rfl (.tmp 24) (.tmp 30) u8S rfl w5.heap.size (.slice A' m c') m (out.map B8) rfl HOW7.out (some ⟨b0, off0 + f.fr, none⟩) (f.te - f.fr) (c - f.fr) ((lineL l (f.fr, f.te)).map B8) rfl (HOM.out w (Below.refl _ _)).cells_len (HOM.out _ (past B5.out HB7.out)).2 (one_B8 _) (by simp only [maxLen]; omega) (by omega) HB7.out.size ?_
               intro A3 c3 w6 ho2 hg2 hh2
               have HB8 := hid (HB7.out.grown hg2 HB7.out.size (own_base HOW7.out))
               have HO8 : Hid (w6.ownsRow w5.heap.size 5 1 (.slice A3 (m + (f.te - f.fr)) c3) (m + (f.te - f.fr)) ((out ++ lineL l (f.fr, f.te)).map B8)) := hid (by rw [List.map_append]; exact ho2)
               clear ho2 hg2 hh2))
          go_roundw
          case rel => exact ⟨j + 1, A3, m + (f.te - f.fr), c3, out ++ lineL l (f.fr, f.te), by omega, rfl, by go_num, HF, HO8, HB8⟩
          case measure => simp [intOf]; omega
        | true =>
          have HF : Hid (PkI l ns true (j + 1) m out) := hid ⟨by rw [← HI.out.eq, HST.out, if_neg (by decide), List.nil_append], HI.out.len, Nat.le_trans hml (Nat.mul_le_mul_right _ (Nat.le_succ j))⟩
          clear HST HI
          go_wp2_with (go_at_call 29; refine (HCF.out _ _ (past B5.out HBW.out) q0).mono ?_; rintro e w7 ⟨rfl, b7⟩; have HB7 := hid (past HBW.out b7); have HOW7 := hid (own_below HOW2.out b7); clear b7)
          go_roundw
          case rel => exact ⟨j + 1, A', m, c', out, by omega, rfl, by go_num, HF, HOW7, HB7⟩
          case measure => simp [intOf]; omega
    · have d1 : decide ((j : Int) < (k : Int)) = false := by simp; omega
      have d1' : decide (j < k) = false := by simpa using hlt
      have HF : Hid (pickL l ns no = out ++ endR (cutL l)) := hid (by unfold pickL; rw [← HI.out.eq, List.drop_of_length_le (by rw [HK.out]; omega)]; unfold pickF; simp)
      have hml := HI.out.le
      have hjk : j = k := by omega
      have HEN := hid (end_any A n c l wr (HO.out.below (past B5.out HB1.out)) HNC.out hl)
      obtain ⟨en, hen⟩ : ∃ en, endR (cutL l) = en := ⟨_, rfl⟩
      have hel : en.length ≤ 2 := by rw [← hen]; exact endR_len _
      rw [hen] at HF HEN
      clear HI hen
      subst hjk
      go_wp2_with (first
        | (go_at_call 31; refine HEN.out.mono ?_; rintro e w7 ⟨A7, m7, c7, rfl, hm7, ho7, b7⟩; have HO7 := hid ho7; have hl7 : m7 ≤ 2 := by have := ho7.1; omega
           have HB7 := hid (past HB1.out b7); have HOW7 := hid (own_below HOW.out b7); clear b7 ho7)
        | (refine wpList_append_row _ rfl (.tmp 33) (.tmp 35) u8S rfl w5.heap.size (.slice A' m c') m (out.map B8) rfl HOW7.out A7 m7 c7 (en.map B8) rfl HO7.out.cells_len HO7.out.2 (one_B8 _) (by simp only [maxLen]; omega) (by omega) HB7.out.size ?_
           intro A3 c3 w6 ho2 hg2 hh2
           have HB8 := hid (HB7.out.grown hg2 HB7.out.size (own_base HOW7.out))
           have HO8 : Hid (w6.ownsRow w5.heap.size 5 1 (.slice A3 (m + m7) c3) (m + m7) ((out ++ en).map B8)) := hid (by rw [List.map_append]; exact ho2)
           clear ho2 hg2 hh2))
      go_ret
      refine ⟨A3, m + m7, c3, rfl, (own_cap HO8.out).1, ?_, past B5.out HB8.out⟩
      rw [HF.out]
      exact ⟨by have := HO8.out.1; simpa using this, Row.of_own HO8.out⟩
end Go.Proofs.YthlofpofcpconaaDoor
