/-
  A transaction's head, in plain Lean; the sum of its octets. A part of the proof: see the head of the text that ends in 'Law'.
-/
import Derived.Test.YtpppmijohfjigaaJn3
namespace Go.Proofs.Ytpppmijohfjigaa
open Go.RowKit
set_option linter.unusedVariables false
set_option maxRecDepth 100000
attribute [local go_sem] Oper.semAt_some

def sumJ (l : List Iss) : Nat := sumL (l.flatMap fun p => p.2)
def atsJ (l : List Iss) : List UInt8 := l.flatMap fun p => putL p.1.toNat 2
def preJ (l : List Iss) : List UInt8 := putL 1785491060 4 ++ putL l.length 2 ++ putL (sumJ l) 4
def headB (l : List Iss) : List UInt8 := preJ l ++ atsJ l
def padJ (l : List UInt8) : List UInt8 := l ++ List.replicate (128 - l.length) 0
/-- The head of a transaction. -/
def headL (l : List Iss) : List UInt8 := padJ (headB l ++ le4 (sumL (headB l)))
theorem atsJ_len : ∀ l : List Iss, (atsJ l).length = l.length * 2
  | [] => rfl
  | p :: r => by
    show (putL p.1.toNat 2 ++ atsJ r).length = _
    rw [List.length_append, putL_length, atsJ_len r, List.length_cons]
    omega
theorem preJ_len (l : List Iss) : (preJ l).length = 10 := by unfold preJ; rw [List.length_append, List.length_append, putL_length, putL_length, putL_length]
theorem headB_len (l : List Iss) : (headB l).length = 10 + l.length * 2 := by unfold headB; rw [List.length_append, preJ_len, atsJ_len]
theorem headL_len (l : List Iss) (h : l.length ≤ 40) : (headL l).length = 128 := by
  unfold headL padJ
  rw [List.length_append, List.length_replicate, List.length_append, le4_length, headB_len]
  omega
theorem sum_more (a b : List UInt8) : 4294967295 - goL (4294967295 - sumL a) b = sumL (a ++ b) := by
  unfold sumL
  rw [goL_append]
  have := goL_lt a (show 4294967295 < 4294967296 by omega)
  congr 2
  omega
theorem sumJ_succ (l : List Iss) (j : Nat) (h : j < l.length) : 4294967295 - goL (4294967295 - sumJ (l.take j)) (l[j]).2 = sumJ (l.take (j + 1)) := by
  unfold sumJ
  rw [sum_more, List.take_succ_eq_append_getElem h, List.flatMap_append]
  simp
theorem atsJ_succ (l : List Iss) (j : Nat) (h : j < l.length) : atsJ (l.take (j + 1)) = atsJ (l.take j) ++ putL (l[j]).1.toNat 2 := by
  unfold atsJ
  rw [List.take_succ_eq_append_getElem h, List.flatMap_append]
  simp
theorem okK_get (l : List Iss) (size : Int) (k : Nat) (h : okK l size k = true) (j : Nat) (hj : j < k) (hl : j < l.length) : oneJ size (l.take j) l[j] = true := by
  unfold okK at h
  have := List.all_eq_true.1 h j (List.mem_range.2 hj)
  rwa [List.getD_eq_getElem?_getD, List.getElem?_eq_getElem hl] at this
theorem oneJ_true {size : Int} {pre : List Iss} {p : Iss} (h : oneJ size pre p = true) : 41 ≤ p.1 ∧ p.1 < size ∧ p.2.length = 128 ∧ ∀ q ∈ pre, q.1 ≠ p.1 := by
  unfold oneJ at h
  simp only [Bool.and_eq_true, Bool.not_eq_true', decide_eq_false_iff_not, decide_eq_true_eq, List.any_eq_false, beq_iff_eq] at h
  obtain ⟨⟨⟨h1, h2⟩, h3⟩, h4⟩ := h
  exact ⟨by omega, by omega, h4, fun q hq => h3 q hq⟩
structure MayJ (l : List Iss) (size : Int) : Prop where
  l1 : 1 ≤ l.length
  l40 : l.length ≤ 40
  one : ∀ p ∈ l, 41 ≤ p.1 ∧ p.1 < size ∧ p.2.length = 128
  dif : l.Pairwise fun p q => p.1 ≠ q.1
theorem mayJ_true {l : List Iss} {size : Int} (h : mayJ l size = true) : MayJ l size := by
  unfold mayJ at h
  simp only [Bool.and_eq_true, decide_eq_true_eq] at h
  obtain ⟨h1, h2, h3⟩ := h
  refine ⟨h2, h3, fun p hp => ?_, List.pairwise_iff_getElem.2 (fun i j hi hj hij => ?_)⟩
  · obtain ⟨j, hj, rfl⟩ := List.getElem_of_mem hp
    have := oneJ_true (okK_get l size _ h1 j hj hj)
    exact ⟨this.1, this.2.1, this.2.2.1⟩
  · have := (oneJ_true (okK_get l size _ h1 j hj hj)).2.2.2
    refine this _ ?_
    rw [List.mem_take_iff_getElem]
    exact ⟨i, by omega, rfl⟩
theorem jput_any (v k : Nat) (w : World) (hv : v < 18446744073709551616) (h1 : 1 ≤ k) (h8 : k ≤ 8) (h0 : v / 256 ^ k = 0) :
    Calls Try.prog 37 #[.int .u64 (v : Int), .int .i64 (k : Int)] w fun e w' => ∃ A c, e = .returned (.slice A k c) ∧ Oct w' A k (putL v k) ∧ Below w.heap.size w w' := by
  have HP := hid (put_fits v k w hv h1 h8 h0)
  clear hv h1 h8 h0
  go_enter Try.func37, Try.ntmps37
  go_wp2_with (go_at_call 69; refine HP.out.mono ?_; rintro e w1 ⟨A1, c1, rfl, ho, b1⟩; have HO := hid (Oct.of_own ho); have HB := hid b1; clear ho b1)
  go_ret
  exact ⟨A1, c1, rfl, HO.out, HB.out⟩
theorem holds_of_oct {W : World} {A : Option Addr} {n c : Nat} {l : List UInt8} (h : Oct W A n l) : Lib.HoldsBytes W (.slice A n c) l := by
  refine ⟨A, c, by rw [h.len], fun e => ?_, fun a ha j x hx => ?_⟩
  · subst e
    rcases Nat.eq_zero_or_pos n with h0 | h0
    · exact List.eq_nil_of_length_eq_zero (by rw [h.len, h0])
    · obtain ⟨b, off, e, -⟩ := h.at_ h0; cases e
  · obtain ⟨b, off, e, hc⟩ := h.at_ (by rw [← h.len]; exact Nat.pos_of_ne_zero (fun e => by rw [List.eq_nil_of_length_eq_zero e] at hx; simp at hx))
    rw [ha] at e
    injection e with e
    subst e
    obtain ⟨hj, rfl⟩ := List.getElem?_eq_some_iff.1 hx
    rw [Addr.add_mid]
    exact hc j hj
theorem FrB.of_fresh {base : Nat} {W : World} {v : Value} {l : List UInt8} (h : Lib.FreshBytes base W v l) : ∃ g cap, v = .slice (some ⟨g, 0, none⟩) l.length cap ∧ FrB base W g cap l := by
  obtain ⟨g, cap, zs, rfl, h1, h2, h3, h4, h5, h6, h7, h8⟩ := h
  refine ⟨g, cap, rfl, h1, h2, h3, fun j u hu => ?_, fun i hi => ⟨by rw [h7 i hi]; rfl, h8 i hi⟩⟩
  have hm := map_nums (zs.take l.length) (fun x hx => h5 x (List.mem_of_mem_take hx))
  have e : (zs.take l.length).map (fun z => UInt8.ofNat z.toNat) = l := h6
  rw [e] at hm
  rw [hm] at hu
  obtain ⟨hj, hu2⟩ := List.getElem?_eq_some_iff.1 hu
  rw [List.length_map, List.length_take] at hj
  rw [h7 j (by omega)]
  rw [List.getElem_map, List.getElem_take] at hu2
  rw [← hu2, List.getD_eq_getElem?_getD, List.getElem?_eq_getElem (by omega)]
  rfl
theorem join3 (a b c : List UInt8) : Lib.join [a, b, c] [] = a ++ b ++ c := by simp [Lib.join, List.intercalate]
end Go.Proofs.Ytpppmijohfjigaa
