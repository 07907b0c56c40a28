/-
  The walks of octet.PutText, octet.Pad and the reference of a text. A part of the proof: see the head of the text that ends in 'Law'.
-/
import Derived.Test.YtnloooakfhjggaaOctRef
import Derived.Lib.AppendStr
import Derived.Laws.CopyOwn
namespace Go.Proofs.Ytnloooakfhjggaa
open Go.RowKit
set_option linter.unusedVariables false

theorem strCells_str (l : List UInt8) : Lib.strCells (str l) = l.map B8 := by
  unfold Lib.strCells
  rw [str_toList]
  rfl
theorem own_shape {w : World} {base : Nat} {e : TypeId} {size n : Nat} {v : Value} {xs : List Value} (h : w.ownsRow base e size v n xs) : ∃ A c, v = .slice A n c := by
  rcases h.2 with ⟨rfl, rfl⟩ | ⟨g, cap, cur, rfl, _⟩
  · exact ⟨none, 0, rfl⟩
  · exact ⟨_, _, rfl⟩
theorem two_fits (n : Nat) (h : n ≤ 65535) : n / 256 ^ 2 = 0 := Nat.div_eq_of_lt (by omega)

theorem put_fits (v k : Nat) (w : World) (hv : v < 18446744073709551616) (h1 : 1 ≤ k) (h8 : k ≤ 8) (h0 : v / 256 ^ k = 0) :
    Calls Try.prog 8 #[.int .u64 v, .int .i64 k] w fun e w' => ∃ A c, e = .returned (.tuple #[.slice A k c, .int .i64 0]) ∧ w'.ownsRow w.heap.size 5 1 (.slice A k c) k ((putL v k).map B8) ∧ Below w.heap.size w w' :=
  (put_any v k w hv h1 h8).mono fun e w' hp => by
    rw [if_pos h0] at hp
    exact hp
theorem put_over (v k : Nat) (w : World) (hv : v < 18446744073709551616) (h1 : 1 ≤ k) (h8 : k ≤ 8) (h0 : ¬ v / 256 ^ k = 0) :
    Calls Try.prog 8 #[.int .u64 v, .int .i64 k] w fun e w' => e = .returned (.tuple #[.slice none 0 0, .int .i64 8]) ∧ Below w.heap.size w w' :=
  (put_any v k w hv h1 h8).mono fun e w' hp => by
    rw [if_neg h0] at hp
    exact hp
theorem refPut_fits (v k : Nat) (w : World) (hv : v < 18446744073709551616) (h1 : 1 ≤ k) (h8 : k ≤ 8) (h0 : v / 256 ^ k = 0) :
    Calls Try.prog 9 #[.int .u64 v, .int .i64 k] w fun e w' => e = .returned (.tuple #[.string (str (putL v k)), .int .i64 0]) ∧ Below w.heap.size w w' :=
  (refPut_any v k w hv h1 h8).mono fun e w' hp => by
    unfold RefPutPost at hp
    rw [if_pos h0] at hp
    exact hp
theorem refPut_over (v k : Nat) (w : World) (hv : v < 18446744073709551616) (h1 : 1 ≤ k) (h8 : k ≤ 8) (h0 : ¬ v / 256 ^ k = 0) :
    Calls Try.prog 9 #[.int .u64 v, .int .i64 k] w fun e w' => e = .returned (.tuple #[.string (str []), .int .i64 8]) ∧ Below w.heap.size w w' :=
  (refPut_any v k w hv h1 h8).mono fun e w' hp => by
    unfold RefPutPost at hp
    rw [if_neg h0] at hp
    exact hp

set_option maxHeartbeats 400000 in
theorem putText_long (l : List UInt8) (w : World) (h : 65535 < l.length) (hm : l.length ≤ maxLen) :
    Calls Try.prog 10 #[.string (str l)] w fun e w' => e = .returned (.tuple #[.slice none 0 0, .int .i64 8]) ∧ w = w' := by
  have hsz := str_size l
  have hd : decide ((65535 : Int) < l.length) = true := by simp; omega
  go_enter Try.func10, Try.ntmps10
  go_wp2
  go_ret2
  exact ⟨rfl, rfl⟩

set_option maxHeartbeats 400000 in
theorem putText_any (l : List UInt8) (w : World) (h : l.length ≤ 65535) :
    Calls Try.prog 10 #[.string (str l)] w fun e w' => ∃ A c, e = .returned (.tuple #[.slice A (2 + l.length) c, .int .i64 0]) ∧ w'.ownsRow w.heap.size 5 1 (.slice A (2 + l.length) c) (2 + l.length) ((putL l.length 2 ++ l).map B8) ∧ Below w.heap.size w w' := by
  have hsz := str_size l
  have hd : decide ((65535 : Int) < l.length) = false := by simp; omega
  obtain ⟨i0, hi0, hz0, hz1, hz2⟩ := info_parts bytesT.info
  have Hz1 := hid hz1
  have Hz2 := hid hz2
  have Hi0 := hid hi0
  have Hz0 := hid hz0
  clear hz1 hz2 hi0 hz0
  go_enter Try.func10, Try.ntmps10
  go_wp2_with (first
    | (go_at_call 8; refine (put_fits l.length 2 _ (by omega) (by omega) (by omega) (two_fits _ h)).mono ?_; rintro e w1 ⟨A1, c1, rfl, ho1, hb1⟩)
    | (at_builtin
       refine Lib.wpList_append_own_string _ rfl (.tmp 16) (.tmp 17) 23 9 rfl w.heap.size 5 i0 Try.underlying23 Try.underlying9 Hi0.out Hz0.out Hz1.out Hz2.out (.slice A1 2 c1) 2 ((putL l.length 2).map B8) rfl ho1 (str l) rfl (by rw [str_size]; simp only [maxLen]; omega) (by rw [str_size]; omega) hb1.size ?_
       intro v2 w2 ho2 hg2 _
       have hb2 := hb1.grown hg2 hb1.size (fun k hk => (ho1.lt k hk).1)
       rw [strCells_str, ← List.map_append, str_size] at ho2
       obtain ⟨A2, c2, rfl⟩ := own_shape ho2
       clear hg2))
  go_ret2
  exact ⟨A2, c2, rfl, ho2, hb2⟩

set_option maxHeartbeats 400000 in
theorem of_two (n : Nat) (w : World) (h : n ≤ 65535) :
    Calls Try.prog 27 #[.int .u64 n, .int .i64 2] w fun e w' => e = .returned (.string (str (putL n 2))) ∧ Below w.heap.size w w' := by
  go_enter Try.func27, Try.ntmps27
  go_wp2_with (go_at_call 9; refine (refPut_fits n 2 _ (by omega) (by omega) (by omega) (two_fits _ h)).mono ?_; rintro e w1 ⟨rfl, hb1⟩)
  go_ret
  exact ⟨rfl, hb1⟩

set_option maxHeartbeats 400000 in
theorem text_any (l : List UInt8) (w : World) (h : l.length ≤ 65535) :
    Calls Try.prog 12 #[.string (str l)] w fun e w' => e = .returned (.string (str (putL l.length 2 ++ l))) ∧ Below w.heap.size w w' := by
  have hsz := str_size l
  have hz2 : (str (putL l.length 2)).size ≤ 2147483648 := by rw [str_size, putL_length]; omega
  have hz1 : (str l).size ≤ 2147483648 := by rw [str_size]; omega
  go_enter Try.func12, Try.ntmps12
  go_wp2_with (go_at_call 27; refine (of_two l.length _ h).mono ?_; rintro e w1 ⟨rfl, hb1⟩)
  go_ret
  exact ⟨by rw [← str_append]; rfl, hb1⟩
end Go.Proofs.Ytnloooakfhjggaa
