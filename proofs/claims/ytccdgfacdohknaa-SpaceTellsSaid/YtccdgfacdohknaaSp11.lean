/-
  The walk of the document's Of. A part of the proof: see the head of the text that ends in 'Law'.
-/
import Derived.Test.YtccdgfacdohknaaSp10
import Derived.Test.YtccdgfacdohknaaSpPlain2
namespace Go.Proofs.Ytccdgfacdohknaa
open Go.RowKit
set_option linter.unusedVariables false

/-- The space that is made: its box, its octets, the result's cell. -/
structure OfI (w0 wr : World) (n n1 : Nat) (A : Option Addr) (c : Nat) (bits : List UInt8) : Prop where
  bx : OwnC wr (w0.heap.size + 1) 24 [.int .i64 n, .slice A n1 c]
  rs : ∃ u v, OwnC wr w0.heap.size 24 [u, v]
  row : wr.ownsRow (w0.heap.size + 2) 5 1 (.slice A n1 c) n1 (bits.map B8)
  b : Below w0.heap.size w0 wr
def OfPost (w : World) (l : List Bool) (e : Ending) (w' : World) : Prop :=
  ∃ A' c', e = .returned (.agg #[.int .i64 l.length, .slice A' ((l.length + 7) / 8 : Nat) c']) ∧ Oct w' A' ((l.length + 7) / 8) (packL l) ∧ Below w.heap.size w w'

theorem own_far {w : World} {base n : Nat} {e : TypeId} {v : Value} {xs : List Value} (h : w.ownsRow base e 1 v n xs) {b i : Nat} (hb : b < base) (u : Value) : (w.setCell ⟨b, i, none⟩ u).ownsRow base e 1 v n xs := by
  refine ⟨h.1, ?_⟩
  rcases h.2 with h2 | ⟨g, cap, cur, hv, hg, hh, r⟩
  · exact Or.inl h2
  · exact Or.inr ⟨g, cap, cur, hv, hg, (heap_setCell_other w ⟨b, i, none⟩ g u (by show g ≠ b; omega)).trans hh, r⟩

set_option maxHeartbeats 4000000 in
theorem of_any (l : List Bool) (A : Option Addr) (n c : Nat) (w : World) (ho : BRow w A n l) (hn : n ≤ 100000) :
    Calls Try.prog 15 #[.slice A n c] w (OfPost w l) := by
  have HL := hid ho.1
  have HR := hid ho
  have c0 := hid (OwnC.new_ w #[.int .i64 0, .slice none 0 0] 24)
  have c1 := hid (OwnC.new_ (w.alloc (Obj.cells #[.int .i64 0, .slice none 0 0] 24)) #[.int .i64 n, .slice none 0 0] 24)
  have B0 := hid (((Below.refl _ w).alloc (Nat.le_refl _) (Obj.cells #[.int .i64 0, .slice none 0 0] 24)).alloc (by simp) (Obj.cells #[.int .i64 n, .slice none 0 0] 24))
  clear ho
  go_enter Try.func15, Try.ntmps15
  go_wp2
  go_loopw [4, 5] (fun t i wr => ∃ (k y n1 : Nat) (A1 : Option Addr) (c1 : Nat), k ≤ n ∧ i = .int .i64 k ∧ t = .int .u8 y ∧ y ≤ 255 ∧ Hid ((k % 8 ≠ 0 → y = 2 ^ (k % 8)) ∧ n1 = (k + 7) / 8 ∧ OfI w wr n n1 A1 c1 (packL (l.take k)))) (fun t i wr => n - (intOf i).toNat)
  case atStart =>
    have c1' := c1.out
    rw [World.size_alloc] at c1'
    exact ⟨0, 1, 0, none, 0, by omega, rfl, rfl, by omega, hid ⟨by simp, rfl, c1', ⟨_, _, c0.out.alloc _⟩, by rw [List.take_zero]; exact World.ownsRow_nil _ _ _ _, B0.out⟩⟩
  case round =>
    obtain ⟨k, y, n1, A1, d1, hk, rfl, rfl, hy, hI⟩ := hrel
    clear c0 c1 B0
    have k0 := hI.out.2.2.bx.cell (j := 0) (u := .int .i64 n) rfl
    have k1 := hI.out.2.2.bx.cell (j := 1) (u := .slice A1 n1 d1) rfl
    have kf := hI.out.2.2.bx.frozen 1
    by_cases hlt : k < n
    · have hd : decide (k < n) = true := by simpa using hlt
      have hkl : k < l.length := by rw [HL.out]; exact hlt
      have htm : Int.tmod (k : Int) 8 = (k : Int) % 8 := Int.tmod_eq_emod_of_nonneg (by omega)
      go_upto_if 17 with fail
      go_cut [4] (fun t4 wx => ∃ (y n2 : Nat) (A2 : Option Addr) (c2 : Nat), t4 = .int .u8 y ∧ y ≤ 128 ∧ Hid (y = 2 ^ (k % 8) ∧ n2 = k / 8 + 1 ∧ OfI w wx n n2 A2 c2 (roomL l k)))
      case first =>
        have hpw : 2 ^ (k % 8) ≤ 2 ^ 7 := Nat.pow_le_pow_right (by omega) (by omega)
        by_cases h8 : k % 8 = 0
        · have hd1 : ((k : Int) % 8 == 0) = true := by simp; omega
          have hn1 : n1 ≤ 20000 := by have := hI.out.2.1; omega
          have o1 := own_alloc hI.out.2.2.row (Obj.cells #[.int .u8 0] 5)
          have H8 := hid h8
          have hr : Row (wr.alloc (Obj.cells #[.int .u8 0] 5)) (some ⟨wr.heap.size, 0, none⟩) [.int .u8 0] := Row.of_block (heap_alloc_new wr (Obj.cells #[.int .u8 0] 5))
          have hs := hI.out.2.2.b.size
          have hs2 := lt_of_heap (hI.out.2.2.bx.choose_spec.1)
          clear h8 hpw
          go_wp2_with (
            at_builtin
            refine wpList_append_row _ rfl (.tmp 19) (.tmp 20) bytesT rfl (w.heap.size + 2) (.slice A1 n1 d1) n1 ((packL (l.take k)).map B8) rfl o1 (some ⟨wr.heap.size, 0, none⟩) 1 1 [.int .u8 0] rfl rfl hr (by simp [Value.oneCell']) (by simp only [maxLen]; omega) (by omega) (by simp; omega) ?_
            intro A2 c2 w2 hown2 hgr2 hat2
            have g2 : Below (w.heap.size + 2) wr w2 := ((Below.refl (w.heap.size + 2) wr).alloc (by omega) _).grown hgr2 (by simp; omega) (own_base o1)
            have G2 := hid g2
            have O2 := hid hown2
            have x2 := hI.out.2.2.bx.upto g2 (by omega)
            have k20 := x2.cell (j := 0) (u := .int .i64 n) rfl
            have k21 := x2.cell (j := 1) (u := .slice A1 n1 d1) rfl
            have kf2 := x2.frozen 1
            have X2 := hid x2
            clear hgr2 hat2 hown2 g2 x2 k0 k1 kf)
          go_meet
          obtain ⟨u, v, r2⟩ := hI.out.2.2.rs
          refine ⟨1, n1 + 1, A2, c2, rfl, by omega, hid ⟨by rw [H8.out], by have := hI.out.2.1; have := H8.out; omega, X2.out.set 1 _, ⟨u, v, (r2.upto G2.out (by omega)).far (by omega) _⟩, ?_, (hI.out.2.2.b.trans (G2.out.mono (by omega))).setCell (by simp) _⟩⟩
          have hrm : roomL l k = packL (l.take k) ++ [0] := by unfold roomL; rw [if_pos H8.out]
          rw [hrm, List.map_append]
          exact own_far O2.out (by omega) _
        · have hd1 : ((k : Int) % 8 == 0) = false := by simp; omega
          have H8 := hid h8
          clear h8
          go_wp2
          go_meet
          refine ⟨y, n1, A1, d1, rfl, by have := hI.out.1 H8.out; omega, hid ⟨hI.out.1 H8.out, by have := hI.out.2.1; have := H8.out; omega, ?_⟩⟩
          have hrm : roomL l k = packL (l.take k) := by unfold roomL; rw [if_neg H8.out]
          rw [hrm]
          exact hI.out.2.2
      case rest =>
        obtain ⟨y, n2, A2, c2, rfl, hy, hJ⟩ := hcut
        clear hI k0 k1 kf hy
        have hy : y ≤ 128 := by
          have hpw : 2 ^ (k % 8) ≤ 2 ^ 7 := Nat.pow_le_pow_right (by omega) (by omega)
          have := hJ.out.1
          omega
        obtain ⟨b, off, rfl, hc⟩ := HR.out.at_ (by omega)
        obtain ⟨bx, hbx, hck⟩ : ∃ bx, Hid (l[k] = bx) ∧ wc.cell? ⟨b, off + k, none⟩ = some (.bool bx) := ⟨_, hid rfl, cells_keep hJ.out.2.2.b (hc k hkl)⟩
        clear hc
        obtain ⟨g, rfl, hg, og⟩ := own_row hJ.out.2.2.row (by have := hJ.out.2.1; omega)
        obtain ⟨x, hx⟩ : ∃ x, Hid (octAt (l.take k) (k / 8) = x) := ⟨_, hid rfl⟩
        have hxy : x + y < 256 := by
          have h1 := octAt_take_lt l k
          rw [hx.out, ← hJ.out.1] at h1
          omega
        have hx8 : x < 256 := by omega
        have hn2 : n2 - 1 = k / 8 := by have := hJ.out.2.1; omega
        have x0 : wc.cell? ⟨g, n2 - 1, none⟩ = some (.int .u8 (x : Int)) := og.cell (by
          rw [List.getElem?_map, hn2, roomL_get l k hkl, hx.out]
          simp only [Option.map_some, B8, toNat_ofNat_lt hx8])
        have x1 := og.frozen (n2 - 1)
        have OG := hid og
        have HN2 := hid hn2
        have k0 := hJ.out.2.2.bx.cell (j := 0) (u := .int .i64 n) rfl
        have k1 := hJ.out.2.2.bx.cell (j := 1) (u := .slice (some ⟨g, 0, none⟩) n2 c2) rfl
        have hn2b : n2 ≤ 20000 := by have := hJ.out.2.1; omega
        have hi0 : (0 : Int) ≤ (n2 : Int) - 1 := by have := hJ.out.2.1; omega
        have hi2 : (1 : Int) ≤ (n2 : Int) := by omega
        have hi3 : (n2 : Int) - 1 < n2 := by omega
        have hi1 : ((n2 : Int) - 1).toNat = n2 - 1 := by omega
        clear og hn2
        have hw2 : Hid (IntKind.u8.wrap ((y : Int) * 2) = ((y * 2 % 256 : Nat) : Int)) := hid (by rw [IntKind.wrap_u8]; omega)
        have hnx : Hid ((k + 1) % 8 ≠ 0 → y * 2 % 256 = 2 ^ ((k + 1) % 8)) := hid (fun h => by
          have h1 := hJ.out.1
          have h2 : (k + 1) % 8 = k % 8 + 1 := by omega
          have h3 : 2 ^ (k % 8 + 1) ≤ 2 ^ 7 := Nat.pow_le_pow_right (by omega) (by omega)
          rw [h2, Nat.pow_succ, ← h1]
          rw [Nat.pow_succ, ← h1] at h3
          omega)
        obtain ⟨u, v, r2⟩ := hJ.out.2.2.rs
        have R2 := hid r2
        clear r2
        cases bx with
        | true =>
          go_wp2
          have hxx : (UInt8.ofNat (x + y)).toNat = x + y := toNat_ofNat_lt hxy
          have hval : ((x : Int) + (y : Int)) = (((UInt8.ofNat (x + y)).toNat : Nat) : Int) := by rw [hxx]; omega
          rw [hval]
          have hst := (hJ.out.2.2.row.stored (n2 - 1) (B8 (UInt8.ofNat (x + y)))).1
          rw [← List.map_set, HN2.out] at hst
          have hpy := pack_yes l k hkl hbx.out
          rw [hx.out, ← hJ.out.1] at hpy
          rw [← hpy] at hst
          have HST := hid hst
          have HG := hid hg
          clear hst hpy hval hxx
          go_roundw
          case rel =>
            refine ⟨k + 1, y * 2 % 256, n2, some ⟨g, 0, none⟩, c2, by omega, by go_num, by simp, by omega, hid ⟨hnx.out, by have := hJ.out.2.1; omega, hJ.out.2.2.bx.far (by have := HG.out; omega) _, ⟨u, v, R2.out.far (by have := HG.out; omega) _⟩, ?_, hJ.out.2.2.b.setCell (by show w.heap.size ≤ g; have := HG.out; omega) _⟩⟩
            rw [HN2.out]
            exact HST.out
          case measure => simp [intOf]; omega
        | false =>
          go_wp2
          go_roundw
          case rel =>
            refine ⟨k + 1, y * 2 % 256, n2, some ⟨g, 0, none⟩, c2, by omega, by go_num, by simp, by omega, hid ⟨hnx.out, by have := hJ.out.2.1; omega, ?_⟩⟩
            rw [pack_no l k hkl hbx.out]
            exact hJ.out.2.2
          case measure => simp [intOf]; omega
    · have hd : decide (k < n) = false := by simpa using hlt
      have hkn := hid (show k = n by omega)
      obtain ⟨u, v, r3⟩ := hI.out.2.2.rs
      have rc0 := r3.cell (j := 0) (u := u) rfl
      have rc1 := r3.cell (j := 1) (u := v) rfl
      have rf0 := r3.frozen 0
      have rf1 := r3.frozen 1
      have R3 := hid r3
      clear r3
      go_wp2
      have z1 := (R3.out.set 0 (.int .i64 n)).set 1 (.slice A1 n1 d1)
      have z0 := z1.cell (j := 0) (u := .int .i64 n) rfl
      have z2 := z1.cell (j := 1) (u := .slice A1 n1 d1) rfl
      refine bodyPost_ret (v := .agg #[.int .i64 n, .slice A1 n1 d1]) (by simp [results, Try.results15, go_sem, z0, z2]) rfl ?_
      have hrow := own_far (own_far hI.out.2.2.row (i := 0) (show w.heap.size < w.heap.size + 2 by omega) (.int .i64 n)) (i := 1) (show w.heap.size < w.heap.size + 2 by omega) (.slice A1 n1 d1)
      have hoct := Oct.of_own hrow
      rw [hkn.out, List.take_of_length_le (by rw [HL.out]; exact Nat.le_refl _)] at hoct
      refine ⟨A1, d1, by rw [HL.out, hI.out.2.1, hkn.out], ?_, (hI.out.2.2.b.setCell (Nat.le_refl _) _).setCell (Nat.le_refl _) _⟩
      rw [HL.out, show (n + 7) / 8 = n1 by rw [hI.out.2.1, hkn.out]]
      exact hoct
end Go.Proofs.Ytccdgfacdohknaa
