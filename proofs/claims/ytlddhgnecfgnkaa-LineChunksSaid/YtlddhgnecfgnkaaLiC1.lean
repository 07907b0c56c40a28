/-
  chunks: no more octets than are looked at. A part of the proof: see the head of the text that ends in 'Law'.
-/
import Derived.Test.YtlddhgnecfgnkaaLiTwo
import Derived.Test.YtlddhgnecfgnkaaLiLen
import Derived.SizedLaws
namespace Go.Proofs.Ytlddhgnecfgnkaa
open Go.RowKit
set_option linter.unusedVariables false
attribute [local go_sem] Oper.semAt_some

def catS (L : List Sl) : List UInt8 := L.flatMap (fun s => s.l)
theorem catS_snoc (L : List Sl) (s : Sl) : catS (L ++ [s]) = catS L ++ s.l := by simp [catS]
theorem octsS : SliceT Try.prog 23 28 (.slice none 0 0) 1 24 := ⟨Try.underlying23, by kernel_rfl, rfl, by decide⟩
/-- The chunks that are looked at. -/
structure ChkI (w X : World) (k tot : Nat) (A : Option Addr) (c : Nat) (L : List Sl) : Prop where
  len : L.length = k
  total : (catS L).length = tot
  small : tot ≤ 9000
  row : X.ownsRow w.heap.size 28 1 (.slice A k c) k (L.map Sl.v)
  ok : ∀ s ∈ L, Sl.ok w s
  bel : Below w.heap.size w X
def ChkP (w : World) (e : Ending) (w' : World) : Prop := ∃ A n c tot L, e = .returned (.slice A n c) ∧ n ≤ 40 ∧ ChkI w w' n tot A c L
theorem ChkI.more {w X X' : World} {k tot n : Nat} {A A2 : Option Addr} {c c2 : Nat} {L : List Sl} (h : ChkI w X k tot A c L) (s : Sl) (hs : Sl.ok w s) (hn : s.n = n) (ht : tot + n ≤ 9000) (v : Value) (hv : s.v = v) (ho : X'.ownsRow w.heap.size 28 1 (.slice A2 (k + 1) c2) (k + 1) (L.map Sl.v ++ [v])) (hg : (X.alloc (.cells #[v] 28)).grownBy X' (Value.ownBlock (.slice A k c))) : ChkI w X' (k + 1) (tot + n) A2 c2 (L ++ [s]) := by
  subst hv
  have hb := below_alloc h.bel (.cells #[s.v] 28)
  refine ⟨by rw [List.length_append, h.len]; rfl, ?_, ht, by rw [List.map_append]; exact ho, fun x hx => ?_, hb.grown hg hb.size (fun g hg => own_base h.row g hg)⟩
  · rw [catS_snoc, List.length_append, h.total, hs.2.2.1, hn]
  · rcases List.mem_append.1 hx with h1 | h1
    · exact h.ok x h1
    · rw [List.mem_singleton] at h1
      rw [h1]
      exact hs

theorem row_take {X : World} {A : Option Addr} {L : List Value} (h : Row X A L) (n : Nat) : Row X A (L.take n) := by
  intro hne
  obtain ⟨b, off, hA, hc⟩ := h (by intro e; rw [e] at hne; simp at hne)
  refine ⟨b, off, hA, fun j v hj => hc j v ?_⟩
  rw [List.getElem?_take] at hj
  split at hj
  · exact hj
  · cases hj


set_option maxRecDepth 100000 in
set_option maxHeartbeats 4000000 in
theorem chunks_any (A0 : Option Addr) (n0 c0 : Nat) (L0 : List Sl) (w : World) (hn0 : n0 ≤ c0) (hc0 : c0 ≤ maxLen) (hL0 : L0.length = n0) (hr0 : Row w A0 (L0.map Sl.v)) (hk0 : ∀ a ∈ L0, Sl.ok w a ∧ a.c ≤ reachBytes) :
    Calls Try.prog 8 #[.slice A0 n0 c0] w (ChkP w) := by
  have HR0 := hid hr0
  have HK0 := hid hk0
  have HL0 := hid hL0
  clear hr0 hk0 hL0
  go_enter Try.func8, Try.ntmps8
  go_upto_if 9 with fail
  go_cut [0] (fun s0 wx => (∃ (n : Nat) (L : List Sl), s0 = .slice A0 n c0 ∧ n ≤ 40 ∧ Hid (L.length = n ∧ Row w A0 (L.map Sl.v) ∧ ∀ a ∈ L, Sl.ok w a ∧ a.c ≤ reachBytes)) ∧ w = wx)
  case first =>
    by_cases h : 40 < n0
    · have hd : decide ((40 : Int) < n0) = true := by simp; omega
      have hd' : decide (40 < n0) = true := by simpa using h
      have hc1 : (40 : Int) ≤ c0 := by omega
      have hc2 : ¬ c0 = 0 := by omega
      have HO : Hid ((L0.take 40).length = 40 ∧ Row w A0 ((L0.take 40).map Sl.v) ∧ ∀ a ∈ L0.take 40, Sl.ok w a ∧ a.c ≤ reachBytes) := hid ⟨by rw [List.length_take, HL0.out]; omega, by rw [List.map_take]; exact row_take HR0.out 40, fun a ha => HK0.out a (List.mem_of_mem_take ha)⟩
      go_wp2_with fail
      go_meet
      exact ⟨⟨40, _, rfl, by omega, HO⟩, rfl⟩
    · have hd : decide ((40 : Int) < n0) = false := by simp; omega
      have hd' : decide (40 < n0) = false := by simpa using h
      have HN : n0 ≤ 40 := by omega
      go_wp2_with fail
      go_meet
      exact ⟨⟨n0, L0, rfl, HN, hid ⟨HL0.out, HR0.out, HK0.out⟩⟩, rfl⟩
  case rest =>
  obtain ⟨⟨n, L, rfl, hn40, HO⟩, rfl⟩ := hcut
  clear HR0 HK0 HL0 hn0 hc0
  have I0 : Hid (ChkI w w 0 0 none 0 []) := hid ⟨rfl, rfl, by omega, World.ownsRow_nil _ _ _ _, (fun s hs => by cases hs), Below.refl _ _⟩
  go_wp2_with fail
  go_loopw [3, 4, 5] (fun o a i X => ∃ (k tot c' : Nat) (A' : Option Addr) (L' : List Sl), k ≤ n ∧ i = .int .i64 (k : Int) ∧ o = .slice A' k c' ∧ a = .int .i64 (tot : Int) ∧ Hid (ChkI w X k tot A' c' L')) (fun o a i X => n - (intOf i).toNat)
  case atStart => exact ⟨0, 0, 0, none, [], by omega, rfl, rfl, rfl, I0⟩
  case round =>
    clear I0
    obtain ⟨k, tot, c', A', L', hk, rfl, rfl, rfl, HI⟩ := hrel
    by_cases hlt : k < n
    · have d1 : decide ((k : Int) < (n : Int)) = true := by simp; omega
      have d1' : decide (k < n) = true := by simpa using hlt
      have hkL : k < L.length := by rw [HO.out.1]; exact hlt
      obtain ⟨b, off, rfl, hcell⟩ := HO.out.2.1 (by intro e; have := congrArg List.length e; simp at this; subst this; simp at hkL)
      have hck := hcell k _ (by rw [List.getElem?_map, List.getElem?_eq_getElem hkL]; rfl)
      have hs0 := (HO.out.2.2 L[k] (List.getElem_mem hkL)).1
      have hs4 := (HO.out.2.2 L[k] (List.getElem_mem hkL)).2
      clear hcell
      generalize L[k] = s at *
      obtain ⟨sA, sn, sc, sl⟩ := s
      have HS := hid hs0
      obtain ⟨hs1, hs2, hs3⟩ := hs0
      simp only [Sl.v] at hck hs1 hs2 hs3
      have hs5 : sc ≤ 140737488355328 := Nat.le_trans hs4 (by have := reachBytes_lt; omega)
      clear hs4
      have p0 := cells_keep HI.out.bel hck
      have i0 : (0 : Int) ≤ (k : Int) := by omega
      have i1 : (k : Int) < (n : Int) := by omega
      have i2 : (k : Int).toNat = k := by omega
      have ht := HI.out.small
      simp only [maxLen] at hs2
      clear hck hs3 hkL
      by_cases hbig : 9000 < tot + sn
      · have d2 : decide ((9000 : Int) < (tot : Int) + (sn : Int)) = true := by simp; omega
        have d2' : decide (9000 < tot + sn) = true := by simpa using hbig
        obtain ⟨m, hm⟩ : ∃ m, 9000 - tot = m := ⟨_, rfl⟩
        have hm1 : (9000 : Int) - (tot : Int) = (m : Int) := by omega
        have hm2 : (m : Int) ≤ (sc : Int) := by omega
        have hm3 : ¬ sc = 0 := by omega
        have hm4 : (0 : Int) ≤ (m : Int) := by omega
        have hm5 : (m : Int).toNat = m := by omega
        have HSL : Hid (Sl.ok w ⟨sA, m, sc, sl.take m⟩) := hid ⟨by show m ≤ sc; omega, HS.out.2.1, HS.out.2.2.take m (by show m ≤ sn; omega)⟩
        have HTM : Hid (tot + m ≤ 9000) := hid (by omega)
        have HKL := hid hlt
        clear hbig hm hlt
        go_wp2_with (
          refine wpList_append_row _ rfl (.tmp 35) (.tmp 37) octsS rfl w.heap.size (.slice A' k c') k (L'.map Sl.v) rfl (own_alloc HI.out.row (.cells #[.slice sA m sc] 28)) (some ⟨wr.heap.size, 0, none⟩) 1 1 [.slice sA m sc] rfl rfl (Row.of_block (heap_alloc_new wr (Obj.cells #[.slice sA m sc] 28))) (by simp [Value.oneCell']) (by simp only [maxLen]; omega) (by omega) (by have := HI.out.bel.size; simp; omega) ?_
          intro A6 c6 w6 ho6 hg6 hh6
          have K := hid (HI.out.more ⟨sA, m, sc, sl.take m⟩ HSL.out rfl HTM.out _ rfl ho6 hg6)
          clear ho6 hg6 hh6)
        go_roundw
        case rel => exact ⟨k + 1, tot + m, c6, A6, _, by have := HKL.out; omega, by go_num, rfl, by go_num, K⟩
        case measure => have := HKL.out; simp [intOf]; omega
      · have d2 : decide ((9000 : Int) < (tot : Int) + (sn : Int)) = false := by simp; omega
        have d2' : decide (9000 < tot + sn) = false := by simpa using hbig
        have HTM : Hid (tot + sn ≤ 9000) := hid (by omega)
        have HSL := HS
        have HKL := hid hlt
        have hsn : sn ≤ 9000 := by omega
        clear hbig hlt
        go_wp2_with (
          refine wpList_append_row _ rfl (.tmp 35) (.tmp 37) octsS rfl w.heap.size (.slice A' k c') k (L'.map Sl.v) rfl (own_alloc HI.out.row (.cells #[.slice sA sn sc] 28)) (some ⟨wr.heap.size, 0, none⟩) 1 1 [.slice sA sn sc] rfl rfl (Row.of_block (heap_alloc_new wr (Obj.cells #[.slice sA sn sc] 28))) (by simp [Value.oneCell']) (by simp only [maxLen]; omega) (by omega) (by have := HI.out.bel.size; simp; omega) ?_
          intro A6 c6 w6 ho6 hg6 hh6
          have K := hid (HI.out.more ⟨sA, sn, sc, sl⟩ HSL.out rfl HTM.out _ rfl ho6 hg6)
          clear ho6 hg6 hh6)
        go_roundw
        case rel => exact ⟨k + 1, tot + sn, c6, A6, _, by have := HKL.out; omega, by go_num, rfl, by go_num, K⟩
        case measure => have := HKL.out; simp [intOf]; omega
    · have d1 : decide ((k : Int) < (n : Int)) = false := by simp; omega
      have d1' : decide (k < n) = false := by simpa using hlt
      have HN := hid (show k ≤ 40 by omega)
      clear hlt
      go_wp2_with fail
      go_ret
      exact ⟨A', k, c', tot, L', rfl, HN.out, HI.out⟩
end Go.Proofs.Ytlddhgnecfgnkaa
