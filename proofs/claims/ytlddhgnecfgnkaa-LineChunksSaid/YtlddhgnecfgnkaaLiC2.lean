/-
  LineChunks: what stands in memory while the pieces are fed. A part of the proof: see the head of the text that ends in 'Law'.
-/
import Derived.Test.YtlddhgnecfgnkaaLiC1
namespace Go.Proofs.Ytlddhgnecfgnkaa
open Go.RowKit
set_option linter.unusedVariables false
attribute [local go_sem] Oper.semAt_some

def ownU (V : Value) (g : Nat) : Prop := V.ownBlock = some g
/-- k pieces are fed to r; all of their octets stand in V; s is as it was made. -/
structure ChL (w X : World) (r s : Nat) (A : Option Addr) (n c : Nat) (L : List Sl) (k : Nat) (Aa : Option Addr) (na ca : Nat) (V : Value) (nl : Nat) : Prop where
  two : Two w X r s (feedR nilR (catS (L.take k))).1 nilR (ownU V)
  out : OutS X w.heap.size Aa na ca (feedR nilR (catS (L.take k))).2
  len : (catS (L.take k)).length = nl
  all : X.ownsRow w.heap.size 5 1 V nl ((catS (L.take k)).map B8)
  pcs : X.ownsRow w.heap.size 28 1 (.slice A n c) n (L.map Sl.v)
  bel : Below w.heap.size w X
theorem catS_take (L : List Sl) (k : Nat) (hk : k < L.length) : catS (L.take (k + 1)) = catS (L.take k) ++ (L[k]'hk).l := by
  rw [List.take_succ_eq_append_getElem hk, catS_snoc]
theorem catS_le (L : List Sl) (k : Nat) : (catS (L.take k)).length ≤ (catS L).length := by
  have e : catS L = catS (L.take k) ++ catS (L.drop k) := by
    unfold catS
    rw [← List.flatMap_append, List.take_append_drop]
  rw [e, List.length_append]
  omega
/-- A piece is fed. -/
structure FdP (w w' : World) (r s : Nat) (A : Option Addr) (n c : Nat) (L : List Sl) (k : Nat) (Aa : Option Addr) (na ca : Nat) (V : Value) (nl : Nat) (l : List UInt8) (A' : Option Addr) (n' c' : Nat) : Prop where
  two : Two w w' r s (feedR (feedR nilR (catS (L.take k))).1 l).1 nilR (ownU V)
  new : OutS w' w.heap.size A' n' c' (feedR (feedR nilR (catS (L.take k))).1 l).2
  out : OutS w' w.heap.size Aa na ca (feedR nilR (catS (L.take k))).2
  len : (catS (L.take k)).length = nl
  all : w'.ownsRow w.heap.size 5 1 V nl ((catS (L.take k)).map B8)
  pcs : w'.ownsRow w.heap.size 28 1 (.slice A n c) n (L.map Sl.v)
  bel : Below w.heap.size w w'
theorem feed_c (w X : World) (r s : Nat) (A : Option Addr) (n c : Nat) (L : List Sl) (k : Nat) (Aa : Option Addr) (na ca : Nat) (V : Value) (nl : Nat) (h : ChL w X r s A n c L k Aa na ca V nl) (B : Option Addr) (m d : Nat) (l : List UInt8) (hG : GM w) (hl : Oct w B m l) (hm : m ≤ 100000) (hB : ∀ a, B = some a → l ≠ [] → a.block < w.heap.size) :
    Calls Try.prog 10 #[.pointer (some ⟨r, 0, none⟩), .slice B m d] X fun e w' => ∃ A' n' c', e = .returned (.slice A' n' c') ∧ FdP w w' r s A n c L k Aa na ca V nl l A' n' c' := by
  obtain ⟨VP, VH, VQ, HQ, h1, h2, h3, h4⟩ := h.two
  refine (feed_any w X r VP VH _ B m d l h1 h.bel hG (feed_ok _ _ nilR_ok) (hl.below h.bel) hm (fun a ha hne hm => by
    have := (h1.mine _ hm).1
    have := hB a ha hne
    omega)).mono ?_
  rintro e w' ⟨A', n', c', vs, he, hn', ho', hi, VP', VH', k1, k2⟩
  have kp : ∀ b A n c xs, OutS X b A n c xs → OutS w' b A n c xs := fun b A n c xs k => by
    obtain ⟨e1, us, e2, e3⟩ := k
    exact ⟨e1, us, h1.row k2 e2 (by decide) (by decide) (by decide), e3.keep (fun v n ys q => h1.row k2 q (by decide) (by decide) (by decide))⟩
  refine ⟨A', n', c', he, ⟨VP', VH', VQ, HQ, k1, h2.only k2.o h3, fun g hg hq => ?_, fun g hg => ⟨?_, fun h6 => ?_, (h4 g hg).2.2⟩⟩, ⟨hn', vs, own_low ho' h.bel.size, hi.low h.bel.size⟩, kp _ _ _ _ _ h.out, h.len, own_only h.all k2.o (fun g hg hr => (h4 g hg).2.1 hr), h1.row k2 h.pcs (by decide) (by decide) (by decide), h.bel.trans (k2.below h1 h.bel.size)⟩
  · rcases k2.n g hg with h5 | h5
    · exact h3 g h5 hq
    · have := (h2.mine g hq).2
      omega
  · have := (h4 g hg).1
    have := k2.o.size
    omega
  · rcases k2.n g h6 with h5 | h5
    · exact (h4 g hg).2.1 h5
    · have := (h4 g hg).1
      omega
/-- Two readers, where a row of another type grows. -/
theorem Two.grown {w X X' : World} {r s : Nat} {R Q : Rdr} {U : Nat → Prop} (h : Two w X r s R Q U) {b0 : Nat} {T : TypeId} {sz : Nat} {V : Value} {n : Nat} {xs : List Value} (hV : X.ownsRow b0 T sz V n xs) (hg : X.grownBy X' V.ownBlock) (h1 : T ≠ 48) (h2 : T ≠ 40) (h3 : T ≠ 5) : Two w X' r s R Q U := by
  obtain ⟨VP, VH, VQ, HQ, k1, k2, k3, k4⟩ := h
  have hO : Only (fun g => V.ownBlock = some g) X X' := Only.of_grown hg (fun g e => e)
  have hne : ∀ {q : Nat} {P H : Value} {R : Rdr}, RdAt X w.heap.size q P H R → ∀ g, V.ownBlock = some g → ¬ RM q P H g := fun hq g hg hr => by
    rcases hr with rfl | hr | hr
    · exact hq.cells.row_ne hV h1.symm hg
    · exact own_types hV hq.ps h2 g hg hr
    · exact own_types hV hq.hv h3 g hg hr
  refine ⟨VP, VH, VQ, HQ, k1.only hO (hne k1), k2.only hO (hne k2), k3, fun g hg => ⟨?_, (k4 g hg).2⟩⟩
  have := (k4 g hg).1
  have := hO.size
  omega
/-- What was told is put behind the rest. -/
structure FdQ (w w' : World) (r s : Nat) (A : Option Addr) (n c : Nat) (L : List Sl) (k : Nat) (V : Value) (nl : Nat) (l : List UInt8) (A' : Option Addr) (n' c' : Nat) : Prop where
  two : Two w w' r s (feedR nilR (catS (L.take k) ++ l)).1 nilR (ownU V)
  out : OutS w' w.heap.size A' n' c' (feedR nilR (catS (L.take k) ++ l)).2
  len : (catS (L.take k)).length = nl
  all : w'.ownsRow w.heap.size 5 1 V nl ((catS (L.take k)).map B8)
  pcs : w'.ownsRow w.heap.size 28 1 (.slice A n c) n (L.map Sl.v)
  bel : Below w.heap.size w w'
theorem FdP.outs {w w' w6 : World} {r s : Nat} {A : Option Addr} {n c : Nat} {L : List Sl} {k : Nat} {Aa : Option Addr} {na ca : Nat} {V : Value} {nl : Nat} {l : List UInt8} {A' A6 : Option Addr} {n' c' c6 : Nat} {vs us : List Value} (h : FdP w w' r s A n c L k Aa na ca V nl l A' n' c')
    (h1 : w'.ownsRow w.heap.size 45 3 (.slice Aa na ca) na vs) (h2 : InsC w' w.heap.size vs (feedR nilR (catS (L.take k))).2) (h3 : InsC w' w.heap.size us (feedR (feedR nilR (catS (L.take k))).1 l).2)
    (ho : w6.ownsRow w.heap.size 45 3 (.slice A6 (na + n') c6) (na + n') (vs ++ us)) (hg : w'.grownBy w6 (Value.ownBlock (.slice Aa na ca))) : FdQ w w6 r s A n c L k V nl l A6 (na + n') c6 := by
  have hO : Only (fun g => Value.ownBlock (.slice Aa na ca) = some g) w' w6 := Only.of_grown hg (fun g e => e)
  have kI : ∀ {vs : List Value} {xs : List Inp}, InsC w' w.heap.size vs xs → InsC w6 w.heap.size vs xs := fun k => k.keep (fun v n ys q => own_only q hO (fun g hg hr => own_types h1 q (by decide) g hr hg))
  have e := feedR_append (catS (L.take k)) l nilR
  refine ⟨?_, ?_, h.len, own_only h.all hO (fun g hg hr => own_types h1 h.all (by decide) g hr hg), own_only h.pcs hO (fun g hg hr => own_types h1 h.pcs (by decide) g hr hg), h.bel.grown hg h.bel.size (fun g hg => own_base h1 g hg)⟩
  · rw [e]
    exact h.two.grown h1 hg (by decide) (by decide) (by decide)
  · rw [e]
    refine ⟨?_, _, ho, (kI h2).append (kI h3)⟩
    rw [List.length_append, h.out.1, h.new.1]
/-- .. and the piece's octets behind all. -/
theorem FdQ.bytes {w w' w6 : World} {r s : Nat} {A : Option Addr} {n c : Nat} {L : List Sl} {k : Nat} {Al A6 : Option Addr} {cl c6 m : Nat} {nl : Nat} {A' : Option Addr} {n' c' : Nat} (hk : k < L.length) (h : FdQ w w' r s A n c L k (.slice Al nl cl) nl (L[k]'hk).l A' n' c') (hm : (L[k]'hk).l.length = m)
    (ho : w6.ownsRow w.heap.size 5 1 (.slice A6 (nl + m) c6) (nl + m) ((catS (L.take k)).map B8 ++ (L[k]'hk).l.map B8)) (hg : w'.grownBy w6 (Value.ownBlock (.slice Al nl cl))) (hh : Value.ownBlock (.slice A6 (nl + m) c6) = Value.ownBlock (.slice Al nl cl) ∨ Value.ownBlock (.slice A6 (nl + m) c6) = some w'.heap.size) : ChL w w6 r s A n c L (k + 1) A' n' c' (.slice A6 (nl + m) c6) (nl + m) := by
  have hO : Only (ownU (.slice Al nl cl)) w' w6 := Only.of_grown hg (fun g e => e)
  have e := catS_take L k hk
  have kI : ∀ {b : Nat} {A : Option Addr} {n c : Nat} {xs : List Inp}, OutS w' b A n c xs → OutS w6 b A n c xs := fun k => by
    obtain ⟨e1, us, e2, e3⟩ := k
    exact ⟨e1, us, own_only e2 hO (fun g hg hr => own_types h.all e2 (by decide) g hr hg), e3.keep (fun v n ys q => own_only q hO (fun g hg hr => own_types h.all q (by decide) g hr hg))⟩
  refine ⟨?_, ?_, ?_, ?_, own_only h.pcs hO (fun g hg hr => own_types h.all h.pcs (by decide) g hr hg), h.bel.grown hg h.bel.size (fun g hg => own_base h.all g hg)⟩
  · rw [e]
    refine h.two.only hO (fun g hg => ?_)
    unfold ownU at hg ⊢
    rcases hh with h1 | h1
    · exact .inl (h1 ▸ hg)
    · have := (own_lt ho g hg).2
      rw [h1] at hg
      injection hg with hg
      exact .inr ⟨by omega, this⟩
  · rw [e]
    exact kI h.out
  · rw [e, List.length_append, h.len, hm]
  · rw [e, List.map_append]
    exact ho
end Go.Proofs.Ytlddhgnecfgnkaa
