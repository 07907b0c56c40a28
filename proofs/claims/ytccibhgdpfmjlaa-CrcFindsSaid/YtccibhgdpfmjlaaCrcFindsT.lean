/-
  The walk of the law CrcFinds where bits are turned. A part of the proof: see the head of the text that ends in 'Law'.
-/
import Derived.Test.YtccibhgdpfmjlaaCrcFinds
namespace Go.Proofs.Ytccibhgdpfmjlaa
open Go.RowKit
set_option linter.unusedVariables false

theorem Oct.of_own {w : World} {base : Nat} {e : TypeId} {A : Option Addr} {n c : Nat} {l : List UInt8} (h : w.ownsRow base e 1 (.slice A n c) n (l.map B8)) : Oct w A n l := ⟨by simpa using h.1, Row.of_own h⟩

theorem own_addr {w : World} {base : Nat} {e : TypeId} {n c : Nat} {A : Option Addr} {xs : List Value} (h : w.ownsRow base e 1 (.slice A n c) n xs) (hn : 0 < n) : ∃ g, A = some ⟨g, 0, none⟩ ∧ base ≤ g ∧ g < w.heap.size := by
  rcases h.2 with ⟨_, h0⟩ | ⟨g, cap, cur, hv, hb, hh, _⟩
  · omega
  · injection hv with hA
    refine ⟨g, hA, hb, ?_⟩
    rcases Nat.lt_or_ge g w.heap.size with hlt | hge
    · exact hlt
    · rw [Array.getElem?_eq_none hge] at hh
      cases hh
theorem own_apart {w : World} {base : Nat} {e : TypeId} {size n c : Nat} {A : Option Addr} {xs : List Value} (h : w.ownsRow base e size (.slice A n c) n xs) (g : Nat) (hg : g < base) : Value.ownBlock (.slice A n c) ≠ some g := by
  intro hk
  have := (h.lt g hk).1
  omega
theorem xorB (x : UInt8) (W j : Nat) : bits .xor .u8 (x.toNat : Int) ((W : Int) / 2 ^ (8 * j) % 256) = (((x ^^^ UInt8.ofNat (W / 2 ^ (8 * j) % 256)).toNat : Nat) : Int) := by
  have hx := x.toNat_lt
  have e : ((W : Int) / 2 ^ (8 * j) % 256) = ((W / 2 ^ (8 * j) % 256 : Nat) : Int) := by simp
  rw [e, u8_xor_nat _ _ (by omega) (by omega), UInt8.toNat_xor, UInt8.toNat_ofNat', Nat.mod_eq_of_lt (show W / 2 ^ (8 * j) % 256 < 2 ^ 8 by omega)]
theorem keep4S {w0 w w' : World} {A B C : Option Addr} {n m k : Nat} {l l' l'' : List UInt8} (h : Below w0.heap.size w0 w ∧ Oct w A n l ∧ Oct w B m l' ∧ Oct w C k l'') (hx : Below w.heap.size w w') :
    Below w0.heap.size w0 w' ∧ Oct w' A n l ∧ Oct w' B m l' ∧ Oct w' C k l'' := ⟨next h.1 hx, h.2.1.below hx, h.2.2.1.below hx, h.2.2.2.below hx⟩
theorem B8_xor (x : UInt8) (n : Nat) (h : n < 256) : B8 (x ^^^ UInt8.ofNat n) = .int .u8 ((x.toNat ^^^ n : Nat) : Int) := by
  unfold B8
  rw [UInt8.toNat_xor, UInt8.toNat_ofNat', Nat.mod_eq_of_lt (by omega)]
theorem wrapW (turn K : Nat) (h : turn < 4294967296) : IntKind.u64.wrap ((turn : Int) * 2 ^ (K % 8)) = ((turn * 2 ^ (K % 8) : Nat) : Int) := by
  rw [IntKind.wrap_u64]
  have h1 : (2 : Nat) ^ (K % 8) ≤ 2 ^ 7 := Nat.pow_le_pow_right (by omega) (by omega)
  have h2 : turn * 2 ^ (K % 8) ≤ turn * 2 ^ 7 := Nat.mul_le_mul_left _ h1
  have h3 : ((turn : Int) * 2 ^ (K % 8)) = ((turn * 2 ^ (K % 8) : Nat) : Int) := by simp
  rw [h3]
  omega
theorem turned_succ (wide q : Nat) (s : List UInt8) (j : Nat) : turned wide q s (j + 1) = (turned wide q s j).set (q + j) ((turned wide q s j).getD (q + j) 0 ^^^ UInt8.ofNat (wide / 2 ^ (8 * j) % 256)) := rfl

set_option maxHeartbeats 1000000 in
theorem findsTurn (A0 : Option Addr) (n0 c0 : Nat) (l0 : List UInt8) (at_ turn : Nat) (w : World) (ho0 : Oct w A0 n0 l0) (hn0 : n0 ≤ c0) (hat : (at_ : Int) ≤ 18446744073709551615) (ht : (turn : Int) ≤ 4294967295) (h0 : turn ≠ 0) :
    Calls Try.prog 6 #[.slice A0 n0 c0, .int .u64 at_, .int .u32 turn] w fun e w' => e = .returned (.bool true) ∧ Below w.heap.size w w' := by
  have m0 := min_len ho0
  have hs0 : min n0 500 ≤ 500 := Nat.min_le_right _ _
  have hq := sealed_ok (l0.take 500)
  rw [m0.len] at hq
  have htk : (l0.take 500 ++ le4 (sumL (l0.take 500))).take (min n0 500) = l0.take 500 := by rw [List.take_left' m0.len]
  have HT := hid htk
  have HQ := hid hq
  have htz : (((turn : Nat) : Int) == 0) = false := by simp; omega
  have hfw := fun w' : World => few_any A0 n0 c0 l0 w'
  have HF := hid hfw
  obtain ⟨K, hK, hKb⟩ : ∃ K : Nat, (at_ : Int) % (8 * (((min n0 500 : Nat) : Int) + 4) - 31) = K ∧ K ≤ 8 * min n0 500 := ⟨at_ % (8 * (min n0 500 + 4) - 31), by
    rw [show (8 * (((min n0 500 : Nat) : Int) + 4) - 31) = ((8 * (min n0 500 + 4) - 31 : Nat) : Int) by omega]
    rfl, by
    have := Nat.mod_lt at_ (show 0 < 8 * (min n0 500 + 4) - 31 by omega)
    omega⟩
  have hKt : (at_ : Int).tmod (8 * (((min n0 500 : Nat) : Int) + 4) - 31) = K := by rw [Int.tmod_eq_emod_of_nonneg (by omega)]; exact hK
  have hshl := wrapW turn K (by omega)
  have H0 := hid h0
  have hK64 : (K : Int) ≤ 4000 := by omega
  clear hq htk hfw h0
  go_enter Try.func6, Try.ntmps6
  go_wp2_with (first
    | (go_at_call 14; with_reducible refine (seal_own A0 (min n0 500) c0 (l0.take 500) _ m0 (by omega)).mono ?_; rintro e w5 ⟨A5, c5, rfl, ho5, hx⟩; have oo5 := ho0.below hx; have r5 := Oct.of_own ho5)
    | (go_at_call 16; with_reducible refine (open_own A5 (min n0 500) c5 _ _ r5 (own_cap ho5).1 (by omega) HQ.out).mono ?_; rintro e w6 ⟨A6, c6, rfl, ho6, hx6⟩; rw [HT.out] at ho6; have hy6 := next hx hx6; have oo := ho0.below hy6)
    | (go_at_call 7; with_reducible refine (HF.out _ (by assumption) hn0).mono ?_; rintro e w' ⟨rfl, rfl⟩))
  obtain ⟨g, rfl, hg1, hg2⟩ := own_addr ho5 (by omega)
  have ho5' := own_below ho5 hx6
  clear hK hKt hshl r5 oo5 ho5 htz
  have hW : turn * 2 ^ (K % 8) < 1099511627776 := by
    have h1 : (2 : Nat) ^ (K % 8) ≤ 2 ^ 7 := Nat.pow_le_pow_right (by omega) (by omega)
    have h2 : turn * 2 ^ (K % 8) ≤ turn * 2 ^ 7 := Nat.mul_le_mul_left _ h1
    omega
  rw [wrapW turn K (by omega)]
  generalize hWW : turn * 2 ^ (K % 8) = V at *
  have HWW := hid hWW
  clear hWW
  go_loopw [12] (fun i wr => ∃ j : Nat, j ≤ 5 ∧ K / 8 + j ≤ min n0 500 + 4 ∧ i = .int .u64 j ∧ wr.ownsRow w.heap.size 5 1 (.slice (some ⟨g, 0, none⟩) (min n0 500 + 4) c5) (min n0 500 + 4) ((turned V (K / 8) (l0.take 500 ++ le4 (sumL (l0.take 500))) j).map B8) ∧
      wr.ownsRow w5.heap.size 5 1 (.slice A6 (min n0 500) c6) (min n0 500) ((l0.take 500).map B8) ∧ Below w.heap.size w wr) (fun i wr => 5 - (intOf i).toNat)
  case atStart => exact ⟨0, by omega, by omega, rfl, ho5', ho6, hy6⟩
  case round =>
    obtain ⟨j, hj5, hjp, rfl, hs, hxr, hb⟩ := hrel
    clear ho5' ho6 hy6
    by_cases hlt : j < 5 ∧ K / 8 + j < min n0 500 + 4
    · obtain ⟨hlt, hlp⟩ := hlt
      have hlen := turned_length V (K / 8) (l0.take 500 ++ le4 (sumL (l0.take 500))) j
      have hsl : (l0.take 500 ++ le4 (sumL (l0.take 500))).length = min n0 500 + 4 := by rw [List.length_append, m0.len, le4_length]
      rw [hsl] at hlen
      have hpos : K / 8 + j < (turned V (K / 8) (l0.take 500 ++ le4 (sumL (l0.take 500))) j).length := by rw [hlen]; exact hlp
      have hst := hid (turned_succ V (K / 8) (l0.take 500 ++ le4 (sumL (l0.take 500))) j)
      have hcell := (hs.cellAt (K / 8 + j) (by omega)).trans (show _ = some (B8 ((turned V (K / 8) (l0.take 500 ++ le4 (sumL (l0.take 500))) j).getD (K / 8 + j) 0)) by simp [hpos])
      have hfr := hs.frozenAt (K / 8 + j)
      have Hs := hid hs
      clear hs hlen hsl
      generalize hT : turned V (K / 8) (l0.take 500 ++ le4 (sumL (l0.take 500))) j = T at *
      have hT2 := hid hT
      clear hT
      generalize hxx : T.getD (K / 8 + j) 0 = x at *
      have Hxx := hid hxx
      clear hxx hpos
      unfold B8 at hcell
      have hbx := xorB x V j
      go_wp2
      have hstore := Hs.out.stored (K / 8 + j) (B8 (x ^^^ UInt8.ofNat (V / 2 ^ (8 * j) % 256)))
      have hx2 := ownsRow_setCell_other hxr (a := ⟨g, K / 8 + j, none⟩) (own_apart hxr g hg2) (B8 (x ^^^ UInt8.ofNat (V / 2 ^ (8 * j) % 256)))
      have hb2 : Below w.heap.size w (wr.setCell ⟨g, K / 8 + j, none⟩ (B8 (x ^^^ UInt8.ofNat (V / 2 ^ (8 * j) % 256)))) := hb.setCell hg1 _
      rw [← List.map_set, ← hst.out] at hstore
      have e8 := B8_xor x (V / 2 ^ (8 * j) % 256) (by omega)
      rw [e8] at hstore hx2 hb2
      go_roundw
      case rel => exact ⟨j + 1, by omega, by omega, by go_num, hstore.1, hx2, hb2⟩
      case measure => simp [intOf]; omega
    · have hj54 : j = 5 ∨ j = 4 ∧ K / 8 = min n0 500 := by omega
      have hsl : (l0.take 500 ++ le4 (sumL (l0.take 500))).length = min n0 500 + 4 := by rw [List.length_append, m0.len, le4_length]
      have hfound := turned_found (l0.take 500 ++ le4 (sumL (l0.take 500))) (min n0 500) K turn j (residue _) hsl hKb (by omega) H0.out (by rw [hsl]; exact hjp) hj54
      rw [HWW.out] at hfound
      have rs := Oct.of_own hs
      have rx := Oct.of_own hxr
      have hcs := (own_cap hs).1
      have oo2 := ho0.below hb
      clear hs hxr hsl hj54
      have hcases : (¬ j < 5) ∨ (j < 5 ∧ ¬ K / 8 + j < min n0 500 + 4) := by omega
      clear hlt
      rcases hcases with hA | ⟨hA, hB⟩
      · go_upto_region 12 with (go_at_call 16; with_reducible refine (open_bad (some ⟨g, 0, none⟩) (min n0 500) c5 _ _ rs hcs (by omega) hfound).mono ?_; rintro e w7 ⟨rfl, hx7⟩; have hy7 := next hb hx7; have S7 : Below w.heap.size w w7.drew ∧ Oct w7.drew A6 (min n0 500) (l0.take 500) ∧ Oct w7.drew A0 (min n0 500) (l0.take 500) ∧ Oct w7.drew A0 n0 l0 := ⟨hy7.drew, (rx.below hx7).drew, (m0.below hy7).drew, (ho0.below hy7).drew⟩)
        have h6 : ∀ W, Oct W A6 (min n0 500) (l0.take 500) → (convert 22 9 (.slice A6 (min n0 500) c6)).run Try.prog W = .ok (.string (str (l0.take 500))) W := fun W h => strP c6 h
        have h00 : ∀ W, Oct W A0 (min n0 500) (l0.take 500) → (convert 22 9 (.slice A0 (min n0 500) c0)).run Try.prog W = .ok (.string (str (l0.take 500))) W := fun W h => strP c0 h
        clear hfound rs rx hcs oo2 ho0 m0 hb hy7 hx7 oo hx6 hx H0 HWW
        go_region_held3 (fun w' => Below w.heap.size w w' ∧ Oct w' A6 (min n0 500) (l0.take 500) ∧ Oct w' A0 (min n0 500) (l0.take 500) ∧ Oct w' A0 n0 l0) (assumption) (first
          | (go_at_call 7; with_reducible refine (HF.out _ (And.right (And.right (And.right (by assumption)))) hn0).mono ?_; rintro e w' ⟨rfl, rfl⟩)
          | (go_at_call 13; refine (awake_any _).mono ?_; rintro e w9 ⟨rfl, hx9⟩; have hS9 := keep4S (by assumption) hx9; clear hx9))
        go_wp2
        go_ret
        exact ⟨rfl, And.left (by assumption)⟩
      · go_upto_region 12 with (go_at_call 16; with_reducible refine (open_bad (some ⟨g, 0, none⟩) (min n0 500) c5 _ _ rs hcs (by omega) hfound).mono ?_; rintro e w7 ⟨rfl, hx7⟩; have hy7 := next hb hx7; have S7 : Below w.heap.size w w7.drew ∧ Oct w7.drew A6 (min n0 500) (l0.take 500) ∧ Oct w7.drew A0 (min n0 500) (l0.take 500) ∧ Oct w7.drew A0 n0 l0 := ⟨hy7.drew, (rx.below hx7).drew, (m0.below hy7).drew, (ho0.below hy7).drew⟩)
        have h6 : ∀ W, Oct W A6 (min n0 500) (l0.take 500) → (convert 22 9 (.slice A6 (min n0 500) c6)).run Try.prog W = .ok (.string (str (l0.take 500))) W := fun W h => strP c6 h
        have h00 : ∀ W, Oct W A0 (min n0 500) (l0.take 500) → (convert 22 9 (.slice A0 (min n0 500) c0)).run Try.prog W = .ok (.string (str (l0.take 500))) W := fun W h => strP c0 h
        clear hfound rs rx hcs oo2 ho0 m0 hb hy7 hx7 oo hx6 hx H0 HWW
        go_region_held3 (fun w' => Below w.heap.size w w' ∧ Oct w' A6 (min n0 500) (l0.take 500) ∧ Oct w' A0 (min n0 500) (l0.take 500) ∧ Oct w' A0 n0 l0) (assumption) (first
          | (go_at_call 7; with_reducible refine (HF.out _ (And.right (And.right (And.right (by assumption)))) hn0).mono ?_; rintro e w' ⟨rfl, rfl⟩)
          | (go_at_call 13; refine (awake_any _).mono ?_; rintro e w9 ⟨rfl, hx9⟩; have hS9 := keep4S (by assumption) hx9; clear hx9))
        go_wp2
        go_ret
        exact ⟨rfl, And.left (by assumption)⟩

theorem walkCrcFinds (A0 : Option Addr) (n0 c0 : Nat) (l0 : List UInt8) (at_ turn : Nat) (w : World) (ho0 : Oct w A0 n0 l0) (hn0 : n0 ≤ c0) (_ : c0 ≤ maxLen) (hat : (at_ : Int) ≤ IntKind.u64.max) (ht : (turn : Int) ≤ IntKind.u32.max) :
    Calls Try.prog 6 #[.slice A0 n0 c0, .int .u64 at_, .int .u32 turn] w fun e w' => e = .returned (.bool true) ∧ Below w.heap.size w w' := by
  by_cases h0 : turn = 0
  · subst h0
    exact findsZero A0 n0 c0 l0 at_ w ho0 hn0
  · exact findsTurn A0 n0 c0 l0 at_ turn w ho0 hn0 hat ht h0
end Go.Proofs.Ytccibhgdpfmjlaa
