/-
  The walk of turn over a space that may be. A part of the proof: see the head of the text that ends in 'Law'.
-/
import Derived.Test.YtccdgfacdohknaaSp6
namespace Go.Proofs.Ytccdgfacdohknaa
open Go.RowKit
set_option linter.unusedVariables false

/-- A slice of the call's own that holds cells, where there are any. -/
def OwnS (w : World) (base : Nat) (A : Option Addr) (n : Nat) (T : TypeId) (xs : List Value) : Prop := 0 < n → ∃ g, A = some ⟨g, 0, none⟩ ∧ base ≤ g ∧ OwnC w g T xs
theorem OwnS.of_own {w : World} {base n c : Nat} {A : Option Addr} {e : TypeId} {xs : List Value} (h : w.ownsRow base e 1 (.slice A n c) n xs) : OwnS w base A n e xs := fun h0 => own_row h h0
theorem OwnS.oct {w : World} {base n : Nat} {A : Option Addr} {T : TypeId} {l : List UInt8} (h : OwnS w base A n T (l.map B8)) (hl : l.length = n) : Oct w A n l := by
  rcases Nat.eq_zero_or_pos n with h0 | h0
  · subst h0
    rw [List.eq_nil_of_length_eq_zero hl]
    exact Oct.nil _ _
  · obtain ⟨g, rfl, _, ho⟩ := h h0
    have := ho.oct
    rwa [hl] at this
theorem OwnS.below {w w' : World} {base n : Nat} {A : Option Addr} {T : TypeId} {xs : List Value} (h : OwnS w base A n T xs) (hb : Below w.heap.size w w') : OwnS w' base A n T xs := fun h0 => by
  obtain ⟨g, hA, hg, ho⟩ := h h0
  exact ⟨g, hA, hg, ho.below hb⟩
theorem OwnS.far {w : World} {base n : Nat} {A : Option Addr} {T : TypeId} {xs : List Value} (h : OwnS w base A n T xs) {b i : Nat} (hne : b < base) (v : Value) : OwnS (w.setCell ⟨b, i, none⟩ v) base A n T xs := fun h0 => by
  obtain ⟨g, hA, hg, ho⟩ := h h0
  exact ⟨g, hA, hg, ho.far (by omega) v⟩

theorem OwnS.mono {w : World} {base base' n : Nat} {A : Option Addr} {T : TypeId} {xs : List Value} (h : OwnS w base A n T xs) (hb : base' ≤ base) : OwnS w base' A n T xs := fun h0 => by
  obtain ⟨g, hA, hg, ho⟩ := h h0
  exact ⟨g, hA, by omega, ho⟩
/-- The loop of turn, behind k of its pages: the box, the result's cell, the octets. -/
structure TuI (w0 wr : World) (m n : Nat) (A : Option Addr) (c : Nat) (lk : List Bool) : Prop where
  bx : OwnC wr w0.heap.size 24 [.int .i64 m, .slice A n c]
  rs : ∃ u v, OwnC wr (w0.heap.size + 1) 24 [u, v]
  row : OwnS wr (w0.heap.size + 2) A n 5 ((packL lk).map B8)
  len : lk.length = m
  n : n = (m + 7) / 8
  b : Below w0.heap.size w0 wr
theorem TuI.oct {w0 wr : World} {m n c : Nat} {A : Option Addr} {lk : List Bool} (h : TuI w0 wr m n A c lk) : Oct wr A n (packL lk) := h.row.oct (by rw [packL_length, h.len, h.n])
theorem TuI.keep {w0 wr w' : World} {m n c : Nat} {A : Option Addr} {lk : List Bool} (h : TuI w0 wr m n A c lk) (hb : Below wr.heap.size wr w') : TuI w0 w' m n A c lk := by
  obtain ⟨u, v, hr⟩ := h.rs
  exact ⟨h.bx.below hb, ⟨u, v, hr.below hb⟩, h.row.below hb, h.len, h.n, next h.b hb⟩
theorem TuI.ok {w0 wr : World} {m n c : Nat} {A : Option Addr} {lk : List Bool} (h : TuI w0 wr m n A c lk) (hm : m ≤ 2048) : Ok5 m (packL lk) lk := ⟨by rw [h.len], by rw [h.len]; exact hm, rfl⟩
theorem turnF_cons (l : List Bool) (p : Int) (r : List Int) (used : Bool) (e : Nat) : turnF l (p :: r) used e = if p < 0 ∨ (l.length : Int) ≤ p then ([], 4) else if l.getD p.toNat false != used then ([], e) else turnF (l.set p.toNat (!used)) r used e := rfl

set_option maxHeartbeats 4000000 in
theorem turn_good (l : List Bool) (A : Option Addr) (n c : Nat) (w : World) (B : Option Addr) (nb cb : Nat) (ps : List Int) (used : Bool) (e : Nat) (ho : Oct w A n (packL l)) (hm : l.length ≤ 2048) (hB : Row w B (ps.map (Value.int .i64))) (hps : ps.length = nb) (hnb : nb ≤ 100000) :
    Calls Try.prog 24 #[.agg #[.int .i64 l.length, .slice A n c], .slice B nb cb, .bool used, .int .i64 e] w (SpPost w (turnF l ps used e)) := by
  have hn : n = (l.length + 7) / 8 := by have := ho.len; rw [packL_length] at this; omega
  have o1 := hid ((ho.alloc (Obj.cells #[.int .i64 l.length, .slice A n c] 24)).alloc (Obj.cells #[.int .i64 0, .slice none 0 0] 24))
  have hn2 : n ≤ 4096 := by omega
  have HN := hid hn
  have HM := hid (mayB_ok (N := l.length) (bits := packL l) ⟨rfl, hm, rfl⟩)
  have HP := hid hps
  have HR := hid hB
  have hb0 : Below w.heap.size w ((w.alloc (Obj.cells #[.int .i64 l.length, .slice A n c] 24)).alloc (Obj.cells #[.int .i64 0, .slice none 0 0] 24)) := ((Below.refl _ w).alloc (Nat.le_refl _) _).alloc (by simp) _
  have HB0 := hid hb0
  have c0 := hid (OwnC.new_ w #[.int .i64 l.length, .slice A n c] 24)
  have c1 := hid (OwnC.new_ (w.alloc (Obj.cells #[.int .i64 l.length, .slice A n c] 24)) #[.int .i64 0, .slice none 0 0] 24)
  clear ho hn hps hB hb0
  generalize hM : l.length = m at *
  go_enter Try.func24, Try.ntmps24
  go_wp2_with (first
    | (go_at_call 21; refine (may_any m A n c (packL l) _ o1.out (by omega) (by omega)).mono ?_; rw [HM.out]; rintro e w1 ⟨rfl, hb1⟩; have C0 := hid ((c0.out.alloc _).below hb1); have C1 := hid (c1.out.below hb1); have O1 := hid (o1.out.below hb1); have B1 := hid (past HB0.out hb1); have k0 := C0.out.cell (j := 0) (u := .int .i64 m) rfl; have k1 := C0.out.cell (j := 1) (u := .slice A n c) rfl; have hz1 : w.heap.size + 2 ≤ w1.heap.size := (by have := hb1.size; simp at this; omega); clear hb1)
    | (go_at_call 31; refine (clone_any A n c (packL l) _ O1.out hn2).mono ?_; rintro e w2 ⟨A2, c2, rfl, own2, hb2⟩; have D0 := hid (C0.out.below hb2); have D1 := hid (C1.out.below hb2); have B2 := hid (past B1.out hb2); have OS := hid (OwnS.of_own own2); have k0' := D0.out.cell (j := 0) (u := .int .i64 m) rfl; have k1' := D0.out.cell (j := 1) (u := .slice A n c) rfl; have kf := D0.out.frozen 1; have HZ := hid hz1; clear k0 k1 hz1 hb2 own2))
  go_loopw [22] (fun i wr => ∃ (k : Nat) (lk : List Bool), k ≤ nb ∧ i = .int .i64 k ∧ Hid (turnF l ps used e = turnF lk (ps.drop k) used e ∧ TuI w wr m n A2 c2 lk)) (fun i wr => nb - (intOf i).toNat)
  case atStart =>
    have hz : (w.alloc (Obj.cells #[.int .i64 m, .slice A n c] 24)).heap.size = w.heap.size + 1 := by simp
    have D1' := D1.out
    rw [hz] at D1'
    refine ⟨0, l, by omega, rfl, hid ⟨rfl, D0.out.set 1 _, ⟨_, _, D1'.far (by omega) _⟩, (OS.out.mono HZ.out).far (by omega) _, hM, HN.out, B2.out.setCell (by simp) _⟩⟩
  case round =>
    obtain ⟨k, lk, hk, rfl, hI⟩ := hrel
    clear k0' k1' kf
    have k0 := hI.out.2.bx.cell (j := 0) (u := .int .i64 m) rfl
    have k1 := hI.out.2.bx.cell (j := 1) (u := .slice A2 n c2) rfl
    by_cases hlt : k < nb
    · have hkp : k < ps.length := by rw [HP.out]; exact hlt
      have hd := hid (List.drop_eq_getElem_cons hkp)
      obtain ⟨b, off, rfl, hc⟩ := HR.out (by intro h; have := congrArg List.length h; simp at this; rw [this] at hkp; simp at hkp)
      have hck := cells_keep hI.out.2.b (hc k (.int .i64 ps[k]) (by rw [List.getElem?_map, List.getElem?_eq_getElem hkp]; rfl))
      clear hc
      generalize ps[k] = p at hd hck
      have HML := hid hM
      clear o1 HM HB0 c0 c1 C0 C1 O1 B1 D0 D1 B2 OS HZ hM
      by_cases hr : p < 0 ∨ (m : Int) ≤ p
      · have E0 : Hid ((decide (0 ≤ p) && decide (p < (m : Int))) = false) := hid (by rcases hr with h | h <;> simp <;> omega)
        go_wp2_with (go_at_call 25; refine (is_any m p A2 n c2 _).mono ?_; rw [E0.out]; rintro e' w3 ⟨rfl, hb3⟩; have I3 := hid (hI.out.2.keep hb3); obtain ⟨u3, v3, r3⟩ := I3.out.rs; have rc0 := r3.cell (j := 0) (u := u3) rfl; have rc1 := r3.cell (j := 1) (u := v3) rfl; have rf0 := r3.frozen 0; have rf1 := r3.frozen 1; have R3 := hid r3; clear r3; clear hb3)
        have z1 := (R3.out.set 0 (.int .i64 0)).set 1 (.slice none 0 0)
        have z0 := z1.cell (j := 0) (u := .int .i64 0) rfl
        have z2 := z1.cell (j := 1) (u := .slice none 0 0) rfl
        refine bodyPost_ret (v := .tuple #[.agg #[.int .i64 0, .slice none 0 0], .int .i64 4]) (by simp [results, Try.results24, go_sem, z0, z2]) rfl ?_
        rw [hI.out.1, hd.out, turnF_cons, if_pos (by rw [hI.out.2.len]; exact hr)]
        exact SpPost.none_ 4 ((I3.out.b.setCell (by simp) _).setCell (by simp) _)
      · have hr' := hid hr
        obtain ⟨q, rfl⟩ : ∃ q : Nat, p = q := ⟨p.toNat, by omega⟩
        have hqm : q < m := by omega
        have E0 : Hid ((decide ((0 : Int) ≤ q) && decide ((q : Int) < (m : Int))) = true) := hid (by simp; omega)
        clear hr
        obtain ⟨g, rfl, hg, _⟩ := hI.out.2.row (by have := HN.out; omega)
        have hq8 : q / 8 < n := by have := HN.out; omega
        have hqx : q / 8 < (lk.length + 7) / 8 := by rw [hI.out.2.len]; omega
        obtain ⟨bq, hbq⟩ : ∃ bq, Hid (lk.getD q false = bq) := ⟨_, hid rfl⟩
        obtain ⟨x, hx⟩ : ∃ x, Hid (octAt lk (q / 8) = x) := ⟨_, hid rfl⟩
        have hxb : x < 256 := by rw [← hx.out]; exact octAt_lt _ _
        by_cases hu : bq = used
        · subst hu
          have htm : Int.tmod (q : Int) 8 = (q : Int) % 8 := Int.tmod_eq_emod_of_nonneg (by omega)
          have hm0 : (0 : Int) ≤ (q : Int) % 8 := by omega
          have hm1 : (q : Int) % 8 < 8 := by omega
          have hi0 : (0 : Int) ≤ (q : Int) / 8 := by omega
          have hi1 : (q : Int) / 8 < n := by omega
          go_wp2_with (first
            | (go_at_call 25; refine (is_any m q (some ⟨g, 0, none⟩) n c2 _).mono ?_; rw [E0.out]; rintro e' w3 ⟨rfl, hb3⟩; have I3 := hid (hI.out.2.keep hb3); have k30 := I3.out.bx.cell (j := 0) (u := .int .i64 m) rfl; have k31 := I3.out.bx.cell (j := 1) (u := .slice (some ⟨g, 0, none⟩) n c2) rfl; clear hb3 k0 k1)
            | (go_at_call 26; refine (bit_any m q (some ⟨g, 0, none⟩) n c2 (packL lk) _ I3.out.oct hq8 (by omega)).mono ?_; rw [bitL_pack, hbq.out]; rintro e' w4 ⟨rfl, hb4⟩; have I4 := hid (I3.out.keep hb4); have k40 := I4.out.bx.cell (j := 0) (u := .int .i64 m) rfl; have k41 := I4.out.bx.cell (j := 1) (u := .slice (some ⟨g, 0, none⟩) n c2) rfl; clear hb4 k30 k31))
          obtain ⟨g', hgg, hg', og⟩ := I4.out.row (by omega)
          obtain rfl : g = g' := by injection hgg with h; injection h
          have x0 : w4.cell? ⟨g, q / 8, none⟩ = some (.int .u8 (x : Int)) := og.cell (by
            rw [List.getElem?_map, List.getElem?_eq_getElem (by rw [packL_length]; exact hqx), packL_get lk _ hqx, hx.out]
            simp only [Option.map_some, B8, toNat_ofNat_lt hxb])
          have x1 := og.frozen (q / 8)
          have OG := hid og
          clear hgg og
          go_wp2
          go_region
          go_wp2
          have hql : q < lk.length := by rw [hI.out.2.len]; exact hqm
          have hlq : lk[q] = bq := by have := hbq.out; rwa [List.getD_eq_getElem?_getD, List.getElem?_eq_getElem hql] at this
          have hxx : (UInt8.ofNat (x ^^^ 2 ^ (q % 8))).toNat = x ^^^ 2 ^ (q % 8) := toNat_ofNat_lt (Nat.xor_lt_two_pow (n := 8) hxb (Nat.pow_lt_pow_right (by omega) (by omega)))
          have hfl := pack_flip lk q hql (UInt8.ofNat (x ^^^ 2 ^ (q % 8))) (by rw [hxx, hx.out])
          have hst := OG.out.set (q / 8) (B8 (UInt8.ofNat (x ^^^ 2 ^ (q % 8))))
          rw [← List.map_set, hfl, hlq] at hst
          have hval : bits BinOp.xor IntKind.u8 (x : Int) (2 ^ (q % 8) % 256) = (((UInt8.ofNat (x ^^^ 2 ^ (q % 8))).toNat : Nat) : Int) := by rw [xor_val x (q % 8) hxb (by omega), hxx]
          rw [hval]
          have HST := hid hst
          clear hval hst hfl hxx
          go_roundw
          case rel =>
            obtain ⟨u4, v4, r4⟩ := I4.out.rs
            refine ⟨k + 1, lk.set q (!bq), by omega, by go_num, hid ⟨?_, (I4.out.bx.far (by omega) _), ⟨u4, v4, r4.far (by omega) _⟩, fun _ => ⟨g, rfl, hg, HST.out⟩, by rw [List.length_set]; exact hI.out.2.len, HN.out, (I4.out.b.setCell (by show w.heap.size ≤ g; omega) _).drew⟩⟩
            rw [hI.out.1, hd.out, turnF_cons, if_neg (by rw [hI.out.2.len]; exact hr'.out), Int.toNat_natCast, hbq.out, if_neg (by simp)]
          case measure => simp [intOf]; omega
        · have hu' : (bq != used) = true := by simpa using hu
          have hu2 : (!(bq == used)) = true := by simpa using hu
          have hu3 : (bq == used) = false := by simpa using hu
          go_wp2_with (first
            | (go_at_call 25; refine (is_any m q (some ⟨g, 0, none⟩) n c2 _).mono ?_; rw [E0.out]; rintro e' w3 ⟨rfl, hb3⟩; have I3 := hid (hI.out.2.keep hb3); have k30 := I3.out.bx.cell (j := 0) (u := .int .i64 m) rfl; have k31 := I3.out.bx.cell (j := 1) (u := .slice (some ⟨g, 0, none⟩) n c2) rfl; clear hb3 k0 k1)
            | (go_at_call 26; refine (bit_any m q (some ⟨g, 0, none⟩) n c2 (packL lk) _ I3.out.oct hq8 (by omega)).mono ?_; rw [bitL_pack, hbq.out]; rintro e' w4 ⟨rfl, hb4⟩; have I4 := hid (I3.out.keep hb4); obtain ⟨u4, v4, r4⟩ := I4.out.rs; have rc0 := r4.cell (j := 0) (u := u4) rfl; have rc1 := r4.cell (j := 1) (u := v4) rfl; have rf0 := r4.frozen 0; have rf1 := r4.frozen 1; have R4 := hid r4; clear r4; clear hb4 k30 k31))
          have z1 := (R4.out.set 0 (.int .i64 0)).set 1 (.slice none 0 0)
          have z0 := z1.cell (j := 0) (u := .int .i64 0) rfl
          have z2 := z1.cell (j := 1) (u := .slice none 0 0) rfl
          refine bodyPost_ret (v := .tuple #[.agg #[.int .i64 0, .slice none 0 0], .int .i64 e]) (by simp [results, Try.results24, go_sem, z0, z2]) rfl ?_
          rw [hI.out.1, hd.out, turnF_cons, if_neg (by rw [hI.out.2.len]; exact hr'.out), Int.toNat_natCast, hbq.out, if_pos hu']
          exact SpPost.none_ e ((I4.out.b.setCell (by simp) _).setCell (by simp) _)
    · have hkn : k = nb := by omega
      obtain ⟨u, v, r3⟩ := hI.out.2.rs
      have rc0 := r3.cell (j := 0) (u := u) rfl
      have rc1 := r3.cell (j := 1) (u := v) rfl
      have rf0 := r3.frozen 0
      have rf1 := r3.frozen 1
      have R3 := hid r3
      have HK := hid hkn
      clear r3 o1 HM HB0 c0 c1 C0 C1 O1 B1 D0 D1 B2 OS HZ hM hkn
      go_wp2
      have z1 := (R3.out.set 0 (.int .i64 m)).set 1 (.slice A2 n c2)
      have z0 := z1.cell (j := 0) (u := .int .i64 m) rfl
      have z2 := z1.cell (j := 1) (u := .slice A2 n c2) rfl
      refine bodyPost_ret (v := .tuple #[.agg #[.int .i64 m, .slice A2 n c2], .int .i64 0]) (by simp [results, Try.results24, go_sem, z0, z2]) rfl ?_
      rw [hI.out.1, List.drop_of_length_le (by rw [HP.out, HK.out]; exact Nat.le_refl _)]
      refine ⟨A2, c2, ?_, ?_, (hI.out.2.b.setCell (by simp) _).setCell (by simp) _⟩
      · simp only [turnF, hI.out.2.len, HN.out]
        rfl
      · simp only [turnF, hI.out.2.len, ← HN.out]
        exact ((hI.out.2.row.far (by omega) _).far (by omega) _).oct (by rw [packL_length, hI.out.2.len, HN.out])
end Go.Proofs.Ytccdgfacdohknaa
