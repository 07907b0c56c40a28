/-
  A tree's pages: the walk. A part of the proof: see the head of the text that ends in 'Law'.
-/
import Derived.Test.YtlhngieinmgooaaTr6
import Derived.Test.YtlhngieinmgooaaHeldIn
namespace Go.Proofs.Ytlhngieinmgooaa
open Go.RowKit Go.Shelf
set_option linter.unusedVariables false
set_option linter.unusedSimpArgs false
attribute [local go_sem] Oper.semAt_some

/-- A level lies; what of it is laid down. -/
structure LvI (w : World) (l : List Pa) (mo : Nat) (Ao : Option Addr) (m co bo : Nat) (wr : World) (ds : List Nat) (B : Option Addr) (d : Nat) : Prop where
  lv : ∃ (vs : List Value) (pgs : List (List UInt8)) (lv : List Kd) (f : Nat), OutI w.heap.size wr Ao mo co vs pgs ∧ wr.ownsRow w.heap.size 57 2 (.slice B m d) m (lv.flatMap kdC) ∧ lv.length = m ∧ m ≤ f ∧ levF f pgs lv = buildP l ∧ (∀ k ∈ lv, k.least < 18446744073709551616 ∧ k.at_ ≤ 200)
  box : Boxed wr bo 24 (.slice Ao mo co)
  low : w.heap.size ≤ bo
  few : mo + m ≤ 200
  one : m ≤ 100
  bel : Below w.heap.size w wr
  dfs : DefI w.heap.size ds wr
def sLen : Value → Nat
  | .slice _ m _ => m
  | _ => 0
theorem lit_aux (ts : List Value) (n : Nat) (h : ts.length = n) : ts = (List.range n).map (fun i => ts.getD i undef) := by
  refine List.ext_getElem (by rw [List.length_map, List.length_range, h]) (fun i h1 h2 => ?_)
  rw [List.getElem_map, List.getElem_range, List.getD_eq_getElem?_getD, List.getElem?_eq_getElem h1]
  rfl
theorem lit63 (ts : List Value) (h : ts.length = 63) : ∃ uz : Nat → Value, ts = [uz 0, uz 1, uz 2, uz 3, uz 4, uz 5, uz 6, uz 7, uz 8, uz 9, uz 10, uz 11, uz 12, uz 13, uz 14, uz 15, uz 16, uz 17, uz 18, uz 19, uz 20, uz 21, uz 22, uz 23, uz 24, uz 25, uz 26, uz 27, uz 28, uz 29, uz 30, uz 31, uz 32, uz 33, uz 34, uz 35, uz 36, uz 37, uz 38, uz 39, uz 40, uz 41, uz 42, uz 43, uz 44, uz 45, uz 46, uz 47, uz 48, uz 49, uz 50, uz 51, uz 52, uz 53, uz 54, uz 55, uz 56, uz 57, uz 58, uz 59, uz 60, uz 61, uz 62] ∧ ∀ (i : Nat) (v : Value), ts[i]? = some v → uz i = v :=
  ⟨fun i => ts.getD i undef, lit_aux ts 63 h, fun i v hv => by show ts.getD i undef = v; rw [List.getD_eq_getElem?_getD, hv]; rfl⟩
theorem kidsP_ok : ∀ (cs : List (List Pa)) (i : Nat), (∀ c ∈ cs, ∀ p ∈ c, p.ok) → ∀ k ∈ kidsP i cs, k.least < 18446744073709551616 ∧ k.at_ < i + cs.length
  | [], i, _, k, hk => by cases hk
  | c :: r, i, h, k, hk => by
    rw [kidsP] at hk
    rw [List.length_cons]
    rcases List.mem_cons.1 hk with rfl | hk
    · refine ⟨?_, by show i < _; omega⟩
      have := h c (List.mem_cons_self ..)
      cases c with
      | nil => show 0 < _; omega
      | cons p r => exact (this p (List.mem_cons_self ..)).1
    · have := kidsP_ok r (i + 1) (fun c hc => h c (List.mem_cons_of_mem _ hc)) k hk
      exact ⟨this.1, by omega⟩
theorem kidsK_ok : ∀ (cs : List (List Kd)) (i : Nat), (∀ c ∈ cs, ∀ p ∈ c, p.least < 18446744073709551616) → ∀ k ∈ kidsK i cs, k.least < 18446744073709551616 ∧ k.at_ < i + cs.length
  | [], i, _, k, hk => by cases hk
  | c :: r, i, h, k, hk => by
    rw [kidsK] at hk
    rw [List.length_cons]
    rcases List.mem_cons.1 hk with rfl | hk
    · refine ⟨?_, by show i < _; omega⟩
      have := h c (List.mem_cons_self ..)
      cases c with
      | nil => show 0 < _; omega
      | cons p r => exact this p (List.mem_cons_self ..)
    · have := kidsK_ok r (i + 1) (fun c hc => h c (List.mem_cons_of_mem _ hc)) k hk
      exact ⟨this.1, by omega⟩
theorem chunks_in {α : Type} (k : Nat) (hk : 0 < k) (l : List α) (c : List α) (hc : c ∈ chunks k l) (p : α) (hp : p ∈ c) : p ∈ l := by
  rw [← chunks_flat k hk l]
  exact List.mem_flatten.2 ⟨c, hc, hp⟩
theorem leafC_in (l : List Pa) (c : List Pa) (hc : c ∈ leafC l) (p : Pa) (hp : p ∈ c) : p ∈ l := by
  unfold leafC at hc
  split at hc
  · rw [List.mem_singleton] at hc
    subst hc
    cases hp
  · exact chunks_in 7 (by omega) l c hc p hp
def ckL (lv : List Kd) {m : Nat} (x : Ps m) : List Kd := (lv.drop x.val).take 12
theorem ckL_all (lv : List Kd) {m : Nat} (hm : lv.length = m) (q : List (Ps m)) (h : q.map (·.val) = stL m) : q.map (ckL lv) = chunks 12 lv := by
  rw [← chunks_stL lv, hm, ← h, List.map_map]
  rfl
/-- A level more. -/
theorem LvI.next {w ws W : World} {l : List Pa} {mo m bo bn Bf gl : Nat} {cur : Array Value} {sl : Value} {pgs : List (List UInt8)} {lv : List Kd} {f : Nat} {A : Option Addr} {c : Nat} {vs : List Value} {B : Option Addr} {d : Nat} {ds : List Nat} {D : Nat} (h : BrI w ws bo bn Bf gl mo cur sl pgs W (chunks 12 lv) (chunks 12 lv) A c vs B d)
    (hmo : pgs.length = mo) (hm : lv.length = m) (h1 : 1 < m) (hf : m ≤ f) (hlev : levF f pgs lv = buildP l) (hok : ∀ k ∈ lv, k.least < 18446744073709551616 ∧ k.at_ ≤ 200) (hlow : w.heap.size ≤ bo) (hfew : mo + m ≤ 200) (hone : m ≤ 100) (hws : w.heap.size ≤ ws.heap.size) (hd : DefI w.heap.size ds ws) (hD : ws.heap.size ≤ D) (hk : W.heap[D]? = some (.deferred (some []))) :
    LvI w l (mo + (chunks 12 lv).length) A (chunks 12 lv).length c bo W (D :: ds) B d := by
  have hcl : (chunks 12 lv).length = (m + 11) / 12 := by rw [chunks_len 12 (by omega), hm]; congr 1
  refine ⟨⟨vs, _, _, f, h.out, own_low h.nxt hws, kidsK_len _ _, by omega, ?_, ?_⟩, h.xo, hlow, by omega, by omega, h.bel, ⟨?_, ?_⟩⟩
  · rw [← hmo, ← levF_step f pgs lv (by omega) (by omega)]
    exact hlev
  · intro k hk
    have := kidsK_ok (chunks 12 lv) mo (fun c hc p hp => (hok p (chunks_in 12 (by omega) lv c hc p hp)).1) k hk
    exact ⟨this.1, by omega⟩
  · refine List.nodup_cons.2 ⟨fun hi => ?_, hd.1⟩
    have := lt_of_heap (hd.2 D hi).2
    omega
  · intro E hE
    rcases List.mem_cons.1 hE with rfl | hE
    · exact ⟨by omega, hk⟩
    · have := hd.2 E hE
      exact ⟨this.1, h.oth E _ (lt_of_heap this.2) this.2 rfl⟩
theorem lev_own {W : World} {base m d : Nat} {B : Option Addr} {lv : List Kd} (h : W.ownsRow base 57 2 (.slice B m d) m (lv.flatMap kdC)) (hm : 0 < m) : ∃ gl cur, B = some ⟨gl, 0, none⟩ ∧ LaidF W gl cur 57 (0, 0) ∧ m ≤ d ∧ cur.toList.take (m * 2) = lv.flatMap kdC := by
  rcases h.2 with ⟨h1, h2⟩ | ⟨g, cap, cur, h1, h2, h3, h4, h5, h6, h7⟩
  · omega
  · injection h1 with h1 _ h9
    exact ⟨g, cur, h1, h3, by omega, h7⟩
theorem lay_row {W : World} {gl m : Nat} {cur : Array Value} {lv : List Kd} (h : LaidF W gl cur 57 (0, 0)) (hc : cur.toList.take (m * 2) = lv.flatMap kdC) (x : Nat) (hx : x ≤ lv.length) : Row W (some ⟨gl, 0 + x * 2, none⟩) ((lv.drop x).flatMap kdC) := by
  have h1 : Row W (some ⟨gl, 0, none⟩) (lv.flatMap kdC) := fun _ => ⟨gl, 0, rfl, fun j v hv => by
    rw [← hc] at hv
    have hv2 : cur[j]? = some v := by
      rw [List.getElem?_take] at hv
      split at hv
      · simpa using hv
      · cases hv
    simp only [World.cell?, show W.heap[gl]? = _ from h, Nat.zero_add]
    simpa using hv2⟩
  have h2 := row_drop h1 (x * 2)
  have hd : (lv.drop x).flatMap kdC = (lv.flatMap kdC).drop (x * 2) := by
    conv => rhs; rw [← List.take_append_drop x lv, List.flatMap_append]
    have hl2 : ((lv.take x).flatMap kdC).length = x * 2 := by rw [kdC_len, List.length_take, Nat.min_eq_left hx]
    rw [← hl2, List.drop_left]
  rw [hd]
  exact h2
set_option maxRecDepth 100000 in
set_option maxHeartbeats 8000000 in
theorem build_any (A : Option Addr) (n c : Nat) (l : List Pa) (w : World) (hr : Row w A (l.flatMap paC)) (hn : l.length = n) (hnc : n ≤ c) (hl : n ≤ 700) (hok : ∀ p ∈ l, p.ok) :
    Calls Try.prog 7 #[.slice A n c] w fun e w' => Below w.heap.size w w' ∧ ((mayP l = false ∧ e = .returned (.tuple #[.slice none 0 0, .int .i64 1])) ∨
      (mayP l = true ∧ ∃ A' m c' vs, e = .returned (.tuple #[.slice A' m c', .int .i64 0]) ∧ OutI w.heap.size w' A' m c' vs (buildP l))) := by
  have HMA := hid (may_any A n c l w hr hn hl)
  obtain ⟨mb, hmb⟩ : ∃ mb, mayP l = mb := ⟨_, rfl⟩
  rw [hmb] at HMA
  have HLE := hid (fun (X : World) (hb : Below w.heap.size w X) => leaves_any A n c l X (fun h => by obtain ⟨b, off, h1, h2⟩ := hr h; exact ⟨b, off, h1, fun j v hv => cells_keep hb (h2 j v hv)⟩) hn hnc hl hok)
  have HMB := hid hmb
  have HL600 : Hid (mb = true → n ≤ 600) := hid (fun h => by rw [h] at hmb; unfold mayP at hmb; rw [hn] at hmb; simp at hmb; exact hmb.2)
  have HLC := hid (leafC_len l)
  have HN := hid hn
  have HKO := hid (kidsP_ok (leafC l) 0 (fun c hc p hp => hok p (leafC_in l c hc p hp)))
  clear hr hok hmb hn
  refine (callsIn_wide (n := 8)).1 (callsIn_of_wp_marks Try.func7 rfl trivial ?_ rfl)
  simp only [Try.ntmps7, List.size_toArray, List.length_cons, List.length_nil, Nat.reduceAdd, Nat.reduceSub, Array.replicate_succ, Array.replicate_zero, List.push_toArray, List.append_toArray, List.nil_append, List.cons_append]
  refine wpIn_wide.2 ?_
  cases mb with
  | false =>
    go_wp2_with (go_at_call 18; refine HMA.out.mono ?_; rintro e w1 ⟨rfl, b1⟩)
    exact ⟨_, results_tmp2 rfl _ _ _, b1, .inl ⟨HMB.out, rfl⟩⟩
  | true =>
    have hl6 := HL600.out rfl
    clear HL600
    go_wp2_with (first
      | (go_at_call 18; refine HMA.out.mono ?_; rintro e w1 ⟨rfl, b1⟩; have HB1 := hid b1; clear b1)
      | (go_at_call 19; refine (HLE.out w1 HB1.out).mono ?_; rintro e w2 ⟨A1, m, c1, B, d, vs, rfl, hm, ho, hk, hb⟩; have HO2 := hid ho; have HK2 := hid hk; have HB2 := hid hb; have HM := hid hm; clear ho hk hb hm))
    have I0 := hid (show LvI w l m A1 m c1 w2.heap.size (w2.alloc (.cells #[.slice A1 m c1] 24)) [] B d from by
      have hal : Below w2.heap.size w2 (w2.alloc (.cells #[.slice A1 m c1] 24)) := (Below.refl _ w2).alloc (Nat.le_refl _) _
      have hm86 : m ≤ 86 := by rw [HM.out, HLC.out, HN.out]; exact above7_le n hl6
      refine ⟨⟨vs, leavesL l, kidsP 0 (leafC l), (leafC l).length, (HO2.out.below hal).low HB1.out.size, own_low (own_below HK2.out hal) HB1.out.size, by rw [kidsP_len, HM.out], by rw [HM.out]; exact Nat.le_refl _, rfl, fun k hk => ?_⟩, Boxed.new w2 _ _, Nat.le_trans HB1.out.size HB2.out.size, by omega, by omega, past (past HB1.out HB2.out) hal, ⟨List.nodup_nil, fun D hD => by cases hD⟩⟩
      have := HKO.out k hk
      rw [← HM.out] at this
      exact ⟨this.1, by omega⟩)
    clear HO2 HK2 HKO HLC HMA HLE
    refine wp_loop (fun a wr => ∃ (ts : List Value) (ds : List Nat) (mo : Nat) (Ao : Option Addr) (co : Nat) (m : Nat) (B : Option Addr) (d : Nat), a = ⟨ts.toArray, defL ds⟩ ∧ ts.length = 63 ∧ ts[4]? = some (.pointer (some ⟨w2.heap.size, 0, none⟩)) ∧ ts[5]? = some (.slice B m d) ∧ Hid (LvI w l mo Ao m co w2.heap.size wr ds B d)) (fun a _ => sLen (a.tmps.getD 5 undef)) ?_ ?_
    · exact ⟨_, [], m, A1, c1, m, B, d, rfl, rfl, rfl, rfl, I0⟩
    · clear I0 HM HB1 HB2
      obtain ⟨bo, hbo⟩ : ∃ bo, w2.heap.size = bo := ⟨_, rfl⟩
      rw [hbo]
      clear hbo m vs B d A1 c1 w1 w2
      rintro a wr ⟨ts, ds, mo, Ao, co, m, B, d, rfl, hts, h4, h5, HI⟩
      obtain ⟨uz, rfl, hu⟩ := lit63 ts hts
      have e4 := hu _ _ h4
      have e5 := hu _ _ h5
      clear h4 h5 hu hts
      rw [e4, e5]
      clear e4 e5
      by_cases hm1 : 1 < m
      · have g1 : decide ((1 : Int) < (m : Int)) = true := lt_t (a := 1) hm1
        have g1' := lt_nt hm1
        obtain ⟨vs, pgs, lv, f, ho, hk, hlm, hmf, hlev, hlok⟩ := HI.out.lv
        have HOU := hid ho
        have HOW := hid hk
        have HLM := hid hlm
        have HLV := hid hlev
        have HLO := hid hlok
        have hm100 := HI.out.one
        have hmo2 := HI.out.few
        clear ho hk hlm hlev hlok
        obtain ⟨gl, cur, rfl, hlay, hmd, hcur⟩ := lev_own HOW.out (by omega)
        have HLAY := hid hlay
        have HCUR := hid hcur
        have HSZ := hid HI.out.bel.size
        have hgl : gl < wr.heap.size := lt_of_heap hlay
        have hbo : bo < wr.heap.size := HI.out.box.lt
        have hlow := HI.out.low
        clear hlay hcur
        go_wp2_with (go_at_call 20; refine (chunk_any (some ⟨gl, 0, none⟩) m d _).mono ?_; rintro e w3 ⟨rfl, rfl⟩)
        obtain ⟨ws, hws⟩ : ∃ ws, ((wr.alloc (.cells #[.slice none 0 0] 50)).alloc (.cells #[.slice (some ⟨gl, 0, none⟩) m d] 50)).alloc (.cells #[.int .i64 12] 3) = ws := ⟨_, rfl⟩
        have hss : ws.heap.size = wr.heap.size + 1 + 1 + 1 := by rw [← hws]; simp
        have hbs : Below wr.heap.size wr ws := by rw [← hws]; exact (((Below.refl _ wr).alloc (Nat.le_refl _) _).alloc (by simp) _).alloc (by simp; omega) _
        have hx0 : Boxed ws wr.heap.size 50 (.slice none 0 0) := by rw [← hws]; exact ((Boxed.new wr _ _).alloc _).alloc _
        have hx1 : Boxed ws (wr.heap.size + 1) 50 (.slice (some ⟨gl, 0, none⟩) m d) := by
          rw [← hws]
          have h := (Boxed.new (wr.alloc (.cells #[.slice none 0 0] 50)) 50 (.slice (some ⟨gl, 0, none⟩) m d)).alloc (.cells #[.int .i64 12] 3)
          rwa [World.size_alloc] at h
        have hx2 : Boxed ws (wr.heap.size + 1 + 1) 3 (.int .i64 12) := by
          rw [← hws]
          have h := Boxed.new ((wr.alloc (.cells #[.slice none 0 0] 50)).alloc (.cells #[.slice (some ⟨gl, 0, none⟩) m d] 50)) 3 (.int .i64 12)
          rwa [World.size_alloc, World.size_alloc] at h
        have J0 : BrI w ws bo wr.heap.size (wr.heap.size + 1) gl mo cur (.slice (some ⟨gl, 0, none⟩) m d) pgs ws [] [] Ao co vs none 0 :=
          ⟨HI.out.box.kept (grown_of_below hbs) (by simp), hx0, hx1, hx2, (hbs.block gl hgl).trans HLAY.out, by
            rw [List.map_nil, List.append_nil]
            exact HOU.out.below hbs, World.ownsRow_nil _ _ _ _, past HI.out.bel hbs, fun k o _ h _ => h⟩
        have hwsz : w.heap.size ≤ ws.heap.size := by omega
        have HDF := hid (show DefI w.heap.size ds ws from ⟨HI.out.dfs.1, fun D hD => ⟨(HI.out.dfs.2 D hD).1, (hbs.block D (lt_of_heap (HI.out.dfs.2 D hD).2)).trans (HI.out.dfs.2 D hD).2⟩⟩)
        have HBS := hid hbs
        have HBW := hid J0.bel
        have HPL := hid HOU.out.pl
        rw [hws]
        clear hws hbs
        refine (wpIn_wide (n := 8)).1 ?_
        refine wpIn_rangeFunc_ownG rfl (by omega) (gf := 35) (lb := #[.pointer (some ⟨wr.heap.size + 1, 0, none⟩), .pointer (some ⟨wr.heap.size + 1 + 1, 0, none⟩)]) rfl trivial (enters_of Try.func35 (by kernel_rfl) rfl)
          (chunk_stops (8 - 1) (by omega) (wr.heap.size + 1) gl 0 m d w (by omega) hmd (by omega) ws HBW.out hx1.cell hx2.cell (by omega)) kpf_t (kpf_b hwsz (by omega)) (Below.refl _ _) (fun _ => rfl)
          (fun (pre : List (Ps m)) W => ∃ A c vs B d', BrI w ws bo wr.heap.size (wr.heap.size + 1) gl mo cur (.slice (some ⟨gl, 0, none⟩) m d) pgs W (pre.map (ckL lv)) (pre.map (ckL lv)) A c vs B d')
          (fun c' (pre : List (Ps m)) W => False)
          (fun s X Y row hs hg hr => by obtain ⟨A, c, vs, B, d', h⟩ := hs; exact ⟨A, c, vs, B, d', h.turn hwsz hg hr⟩)
          (fun _ _ _ _ _ hs _ _ => hs)
          ⟨Ao, co, vs, none, 0, J0⟩
          ?a1 ?assign ?body ?done ?stop
        case a1 => exact (fun x => { tmps := #[uz 0, uz 1, uz 2, uz 3, .pointer (some ⟨bo, 0, none⟩), .slice (some ⟨gl, 0, none⟩) m d, .pointer (some ⟨wr.heap.size, 0, none⟩), ckV gl 0 m x.val, uz 8, uz 9, uz 10, uz 11, uz 12, uz 13, uz 14, uz 15, uz 16, uz 17, uz 18, .slice (some ⟨gl, 0, none⟩) m d, .int .i64 (m : Int), .bool true, .slice (some ⟨gl, 0, none⟩) m d, .func (.func 35) #[] #[.pointer (some ⟨wr.heap.size + 1, 0, none⟩), .pointer (some ⟨wr.heap.size + 1 + 1, 0, none⟩)], ckV gl 0 m x.val, uz 25, uz 26, uz 27, uz 28, uz 29, uz 30, uz 31, uz 32, uz 33, uz 34, uz 35, uz 36, uz 37, uz 38, uz 39, uz 40, uz 41, uz 42, uz 43, uz 44, uz 45, uz 46, uz 47, uz 48, uz 49, uz 50, uz 51, uz 52, uz 53, uz 54, uz 55, uz 56, uz 57, uz 58, uz 59, uz 60, uz 61, uz 62], defers := [] })
        case assign =>
          intro lq x W K hK
          dsimp only [ckV] at hK ⊢
          simp only [Nat.zero_add] at hK
          gi_wp2
          exact hK
        case done =>
          rintro D q W hD hys ⟨Aq, cq, vq, Bq, dq, hJ⟩ hK
          rw [ckL_all lv HLM.out q hys] at hJ
          have cn := hJ.xn.cell
          have HNX := hid (LvI.next hJ HPL.out HLM.out hm1 hmf HLV.out HLO.out hlow hmo2 hm100 hwsz HDF.out hD hK)
          have HCL : Hid ((chunks 12 lv).length < m) := hid (by rw [chunks_len 12 (by omega), HLM.out]; omega)
          clear hJ
          go_wp2
          exact ⟨⟨_, D :: ds, mo + (chunks 12 lv).length, Aq, cq, (chunks 12 lv).length, Bq, dq, rfl, rfl, rfl, rfl, HNX⟩, HCL.out⟩
        case stop =>
          rintro D c' pre W _ _ h _
          exact h.elim
        case body =>
          rintro lq pre ⟨x, hx⟩ W ⟨Aq, cq, vq, Bq, dq, hJ⟩ hlt
          have HJ := hid hJ
          have HLN : Hid (pre.length ≤ 8) := hid (by rw [stL_len] at hlt; omega)
          obtain ⟨cs, hcs⟩ : ∃ cs, ckL lv (⟨x, hx⟩ : Ps m) = cs := ⟨_, rfl⟩
          have hcg : cs = (lv.drop x).take 12 := by rw [← hcs]; rfl
          have HPM : Hid ((pre ++ [(⟨x, hx⟩ : Ps m)]).map (ckL lv) = pre.map (ckL lv) ++ [cs]) := hid (by rw [List.map_append, ← hcs]; rfl)
          obtain ⟨cp, hcp⟩ : ∃ cp, pre.map (ckL lv) = cp := ⟨_, rfl⟩
          rw [hcp] at HJ HPM
          have hcl : cp.length ≤ 8 := by rw [← hcp, List.length_map]; exact HLN.out
          obtain ⟨q, hq⟩ : ∃ q, ceN m x = q := ⟨_, rfl⟩
          have hqv : q = if m - x < 12 then m - x else 12 := by rw [← hq]; rfl
          have hql : cs.length = q := by
            rw [hcg, List.length_take, List.length_drop, HLM.out, hqv]
            split <;> omega
          have hq1 : 1 ≤ q ∧ q ≤ 12 := by rw [hqv]; split <;> omega
          have HKS : Hid (∀ k ∈ cs, k.least < 18446744073709551616 ∧ k.at_ ≤ 200) := hid (fun k hk => by
            rw [hcg] at hk
            exact HLO.out k (List.mem_of_mem_drop (List.mem_of_mem_take hk)))
          have hrow := lay_row HJ.out.lay HCUR.out x (by rw [HLM.out]; omega)
          rw [Nat.zero_add] at hrow
          have HROW := hid hrow
          have HCG := hid hcg
          have HQ := hid hql
          have hmo3 : mo + cp.length ≤ 220 := by omega
          have HCUR2 := HCUR
          clear hJ hx0 hx1 hx2 J0 HI HOU HOW HDF HPL HLV HLO hcs hcp HLN hcg hqv hql hrow HLAY HCUR HMB HN
          obtain ⟨hqa, hqb⟩ := hq1
          have hq0 : (0 : Int) ≤ (q : Int) := by omega
          have hq2 : (q : Int) ≤ 12 := by omega
          dsimp only [ckV]
          simp only [Nat.zero_add]
          rw [hq]
          gi_wp2
          obtain ⟨W0, hW0⟩ : ∃ W0, W.alloc (.cells #[.int .u8 2, .int .u8 (q : Int)] 5) = W0 := ⟨_, rfl⟩
          have hB0 : Below W.heap.size W W0 := by rw [← hW0]; exact (Below.refl _ W).alloc (Nat.le_refl _) _
          have hO0 : W0.ownsRow W.heap.size 5 1 (.slice (some ⟨W.heap.size, 0, none⟩) 2 2) 2 (([2, UInt8.ofNat q] : List UInt8).map B8) := by
            have h := own_new W W.heap.size 5 1 2 [.int .u8 2, .int .u8 (q : Int)] (Nat.le_refl _) rfl (by decide)
            rw [show ([Value.int .u8 2, .int .u8 (q : Int)] : List Value).toArray = #[.int .u8 2, .int .u8 (q : Int)] from rfl, hW0] at h
            have e : (([2, UInt8.ofNat q] : List UInt8).map B8) = [.int .u8 2, .int .u8 (q : Int)] := by
              show [B8 2, B8 (UInt8.ofNat q)] = _
              unfold B8
              rw [UInt8.toNat_ofNat_of_lt' (show q < 256 by omega)]
              rfl
            rw [e]
            exact h
          have HB0 := hid hB0
          have HO0 := hid hO0
          rw [hW0]
          clear hW0 hB0 hO0
          gi_loopw [8, 31] (fun v8 v31 wq => ∃ (j nb : Nat) (Ab : Option Addr) (cb : Nat), j ≤ q ∧ nb = 2 + j * 10 ∧ v8 = .slice Ab nb cb ∧ v31 = .int .i64 (j : Int) ∧ Hid (wq.ownsRow W.heap.size 5 1 (.slice Ab nb cb) nb (([2, UInt8.ofNat q] ++ (cs.take j).flatMap Kd.o).map B8)) ∧ Hid (Below W.heap.size W wq)) (fun v8 v31 wq => q - (intOf v31).toNat)
          case atStart => exact ⟨0, 2, _, 2, Nat.zero_le _, rfl, rfl, rfl, HO0, HB0⟩
          case round =>
            clear HO0 HB0
            obtain ⟨j, nb, Ab, cb, hj, hnb, rfl, rfl, HOB, HBB⟩ := hrel
            rename World => wq
            by_cases hlt2 : j < q
            · have g2 := lt_t hlt2
              have g2' := lt_nt hlt2
              have j0 : (0 : Int) ≤ (j : Int) := by omega
              have j1 : (j : Int) < (q : Int) := by omega
              have j3 : (j : Int).toNat = j := by omega
              have hjc : j < cs.length := by rw [HQ.out]; exact hlt2
              have hjd : j < (lv.drop x).length := by
                have h := congrArg List.length HCG.out
                rw [List.length_take] at h
                omega
              obtain ⟨b', off', hA, hc⟩ := kd_at HROW.out hjd
              cases hA
              have hp2 : (lv.drop x)[j]'hjd = cs[j]'hjc := by simp only [HCG.out, List.getElem_take]
              obtain ⟨kd, hp⟩ : ∃ kd, cs[j]'hjc = kd := ⟨_, rfl⟩
              have hpo := HKS.out kd (hp ▸ List.getElem_mem hjc)
              have x0 := cells_keep HBB.out (hc j hjd).1
              have x1 := cells_keep HBB.out (hc j hjd).2
              rw [hp2, hp] at x0 x1
              have hst : (cs.take (j + 1)).flatMap Kd.o = (cs.take j).flatMap Kd.o ++ (putsL [kd.least] 8 ++ putsL [kd.at_] 2) := by
                rw [List.take_succ_eq_append_getElem hjc, List.flatMap_append, hp]
                congr 1
              have HST := hid hst
              have hnb2 : nb ≤ 122 := by omega
              have HNB := hid hnb
              have HNU := hid (fun (X : World) (gn : Nat) (h1 : X.ownsRow W.heap.size 5 1 (.slice Ab nb cb) nb (([2, UInt8.ofNat q] ++ (cs.take j).flatMap Kd.o).map B8)) (h2 : OwnE X gn 44 [.int .u64 (kd.least : Int)]) (h3 : W.heap.size ≤ X.heap.size) =>
                number_any 8 8 rfl (by omega) (by omega) W.heap.size Ab nb cb ([2, UInt8.ofNat q] ++ (cs.take j).flatMap Kd.o) gn 1 1 [kd.least] X h1 h2 rfl (fun v hv => by
                  rw [List.mem_singleton] at hv
                  subst hv
                  exact ⟨hpo.1, Nat.div_eq_of_lt (by have := hpo.1; omega)⟩) h3 (by omega) (by omega))
              have HNV := hid (fun (X : World) (A5 : Option Addr) (c5 gn : Nat) (h1 : X.ownsRow W.heap.size 5 1 (.slice A5 (nb + 1 * 8) c5) (nb + 1 * 8) ((([2, UInt8.ofNat q] ++ (cs.take j).flatMap Kd.o) ++ putsL [kd.least] 8).map B8)) (h2 : OwnE X gn 44 [.int .u64 (kd.at_ : Int)]) (h3 : W.heap.size ≤ X.heap.size) =>
                number_any 2 2 rfl (by omega) (by omega) W.heap.size A5 (nb + 1 * 8) c5 (([2, UInt8.ofNat q] ++ (cs.take j).flatMap Kd.o) ++ putsL [kd.least] 8) gn 1 1 [kd.at_] X h1 h2 rfl (fun v hv => by
                  rw [List.mem_singleton] at hv
                  subst hv
                  exact ⟨by have := hpo.2; omega, Nat.div_eq_of_lt (by have := hpo.2; omega)⟩) h3 (by omega) (by omega))
              have t0 : (0 : Int) ≤ (kd.at_ : Int) := by omega
              have t1 : (kd.at_ : Int) ≤ 200 := by have := hpo.2; omega
              clear hc hjd hp2 hp hst hjc hnb hpo
              gi_wp2
              obtain ⟨W1, hW1⟩ : ∃ W1, wq.alloc (.cells #[.int .u64 (kd.least : Int), .int .i64 (kd.at_ : Int)] 57) = W1 := ⟨_, rfl⟩
              have hE1 : OwnE W1 wq.heap.size 57 [.int .u64 (kd.least : Int), .int .i64 (kd.at_ : Int)] := by rw [← hW1]; exact OwnE.new_ wq _ _
              have hB1 : Below wq.heap.size wq W1 := by rw [← hW1]; exact (Below.refl _ wq).alloc (Nat.le_refl _) _
              obtain ⟨W2, hW2⟩ : ∃ W2, W1.drew = W2 := ⟨_, rfl⟩
              have hB2 : Below W1.heap.size W1 W2 := by rw [← hW2]; exact bq (Below.refl _ W1) 1
              have HRW2 := hid (own_below (own_below HOB.out hB1) hB2)
              have BWW2 := hid (past (past HBB.out hB1) hB2)
              have HSS : Hid (∀ X, Kept8 W2 X → X.cell? ⟨wq.heap.size, 0, none⟩ = some (.int .u64 (kd.least : Int)) ∧ X.cell? ⟨wq.heap.size, 1, none⟩ = some (.int .i64 (kd.at_ : Int))) := hid (fun X hX => by
                have hE := hX.own (by decide) (hE1.below hB2)
                exact ⟨hE.cell (j := 0) rfl, hE.cell (j := 1) rfl⟩)
              have hS2 := HSS.out W2 (Kept8.refl _)
              have hwr : IntKind.u64.wrap (kd.at_ : Int) = (kd.at_ : Int) := by rw [IntKind.wrap_u64]; omega
              rw [hW1]
              clear hW1 hE1 hB1 hB2 x0 x1 HOB
              have hS1 : W1.drew.cell? ⟨wq.heap.size, 0, none⟩ = some (.int .u64 (kd.least : Int)) ∧ W1.drew.cell? ⟨wq.heap.size, 1, none⟩ = some (.int .i64 (kd.at_ : Int)) := by rw [hW2]; exact hS2
              refine wpIn_region_held (S := (fun X => X.cell? ⟨wq.heap.size, 0, none⟩ = some (.int .u64 (kd.least : Int)) ∧ X.cell? ⟨wq.heap.size, 1, none⟩ = some (.int .i64 (kd.at_ : Int)))) (by kernel_rfl) (by kernel_rfl) (by first | assumption | trivial) (fun hHeld => ?_)
              rw [hW2]
              clear hHeld hS1
              refine wpAnyH_take (i := 0) (v := ?_) rfl (by kernel_rfl) (by kernel_rfl) (by kernel_rfl) (fun _ _ _ h => h) (Or.inl ⟨by kernel_rfl, ?_⟩) (by first | assumption | trivial) ?_
              rotate_left
              · (intro wS hSw; (try dsimp only at hSw); go_simp; try with_reducible rfl)
              (try simp only [List.append_eq, List.cons_append, List.nil_append, List.getElem_toArray, List.getElem_cons_succ, List.getElem_cons_zero, Act.put, List.setIfInBounds_toArray, List.set_cons_zero, List.set_cons_succ])
              refine wpAnyH_take (i := 1) (v := ?_) rfl (by kernel_rfl) (by kernel_rfl) (by kernel_rfl) (fun _ _ _ h => h) (Or.inl ⟨by kernel_rfl, ?_⟩) (by first | assumption | trivial) ?_
              rotate_left
              · (intro wS hSw; (try dsimp only at hSw); go_simp; try with_reducible rfl)
              (try simp only [List.append_eq, List.cons_append, List.nil_append, List.getElem_toArray, List.getElem_cons_succ, List.getElem_cons_zero, Act.put, List.setIfInBounds_toArray, List.set_cons_zero, List.set_cons_succ])
              refine wpAnyH_take (i := 2) (v := ?_) rfl (by kernel_rfl) (by kernel_rfl) (by kernel_rfl) (fun _ _ _ h => h) (Or.inl ⟨by kernel_rfl, ?_⟩) (by first | assumption | trivial) ?_
              rotate_left
              · (intro wS hSw; (try dsimp only at hSw); go_simp; try with_reducible rfl)
              (try simp only [List.append_eq, List.cons_append, List.nil_append, List.getElem_toArray, List.getElem_cons_succ, List.getElem_cons_zero, Act.put, List.setIfInBounds_toArray, List.set_cons_zero, List.set_cons_succ])
              refine wpAnyH_take (i := 5) (v := ?_) rfl (by kernel_rfl) (by kernel_rfl) (by kernel_rfl) (fun _ _ _ h => h) (Or.inl ⟨by kernel_rfl, ?_⟩) (by first | assumption | trivial) ?_
              rotate_left
              · (intro wS hSw; (try dsimp only at hSw); go_simp; try with_reducible rfl)
              (try simp only [List.append_eq, List.cons_append, List.nil_append, List.getElem_toArray, List.getElem_cons_succ, List.getElem_cons_zero, Act.put, List.setIfInBounds_toArray, List.set_cons_zero, List.set_cons_succ])
              refine wpAnyH_take (i := 6) (v := ?_) rfl (by kernel_rfl) (by kernel_rfl) (by kernel_rfl) (fun _ _ _ h => h) (Or.inl ⟨by kernel_rfl, ?_⟩) (by first | assumption | trivial) ?_
              rotate_left
              · (intro wS hSw; (try dsimp only at hSw); go_simp; try with_reducible rfl)
              (try simp only [List.append_eq, List.cons_append, List.nil_append, List.getElem_toArray, List.getElem_cons_succ, List.getElem_cons_zero, Act.put, List.setIfInBounds_toArray, List.set_cons_zero, List.set_cons_succ])
              refine wpAnyH_take (i := 7) (v := ?_) rfl (by kernel_rfl) (by kernel_rfl) (by kernel_rfl) (fun _ _ _ h => h) (Or.inl ⟨by kernel_rfl, ?_⟩) (by first | assumption | trivial) ?_
              rotate_left
              · (intro wS hSw; (try dsimp only at hSw); go_simp; try with_reducible rfl)
              (try simp only [List.append_eq, List.cons_append, List.nil_append, List.getElem_toArray, List.getElem_cons_succ, List.getElem_cons_zero, Act.put, List.setIfInBounds_toArray, List.set_cons_zero, List.set_cons_succ])
              have KKW2 := hid (Kept8.refl W2)
              refine wpAnyH_ready (rs := [3, 8]) (by kernel_rfl) (by simp) ?_
              refine AllReadyH.cons rfl (fun K hK => ?_) (AllReadyH.cons rfl (fun K hK => ?_) AllReadyH.nil)
              · go_simp
                (try simp only [hwr])
                have hSn := HSS.out (W2.alloc (.cells #[.int .u64 (kd.least : Int)] 44)) (KKW2.out.trans (Kept8.below ((Below.refl _ W2).alloc (Nat.le_refl _) _)))
                go_wp2_with fail
                refine hK.out _ _ (by first | assumption | trivial) (fun hHeld => ?_)
                clear hK K hSn
                obtain ⟨Y1, hY⟩ : ∃ Y1, W2.alloc (.cells #[.int .u64 (kd.least : Int)] 44) = Y1 := ⟨_, rfl⟩
                have hb : Below W2.heap.size W2 Y1 := by rw [← hY]; exact (Below.refl _ W2).alloc (Nat.le_refl _) _
                have HNY1 : Hid (OwnE Y1 W2.heap.size 44 [.int .u64 (kd.least : Int)]) := hid (by rw [← hY]; exact OwnE.new_ W2 _ _)
                have KKY1 := hid (KKW2.out.trans (Kept8.below hb))
                have BWY1 := hid (past BWW2.out hb)
                have HRY1 := hid (own_below HRW2.out hb)
                have HBLY1 := hid hb
                rw [hY] at hHeld ⊢
                clear hY hb
                (try simp only [List.append_eq, List.cons_append, List.nil_append, List.getElem_toArray, List.getElem_cons_succ, List.getElem_cons_zero, Act.put, List.setIfInBounds_toArray, List.set_cons_zero, List.set_cons_succ])
                refine wpAnyH_ready (rs := [4, 8]) (by kernel_rfl) (by simp) ?_
                refine AllReadyH.cons rfl (fun K hK => ?_) (AllReadyH.cons rfl (fun K hK => ?_) AllReadyH.nil)
                · go_simp
                  go_at_call 21
                  refine (HNU.out Y1 W2.heap.size HRY1.out HNY1.out BWY1.out.size).mono ?_
                  rintro e w5 ⟨A5, c5, rfl, ho5, hk5, hb5⟩
                  have HRw5 := hid ho5
                  have KKw5 := hid (KKY1.out.trans hk5)
                  have HK5 := hid hk5
                  have BWw5 : Hid (Below W.heap.size W w5) := hid (BWY1.out.trans hb5)
                  clear ho5 hk5 hb5
                  have hSn := HSS.out w5 KKw5.out
                  go_wp2_with fail
                  refine hK.out _ _ (by first | assumption | trivial) (fun hHeld => ?_)
                  clear hK K hSn
                  (try simp only [List.append_eq, List.cons_append, List.nil_append, List.getElem_toArray, List.getElem_cons_succ, List.getElem_cons_zero, Act.put, List.setIfInBounds_toArray, List.set_cons_zero, List.set_cons_succ])
                  refine wpAnyH_ready (rs := [8]) (by kernel_rfl) (by simp) ?_
                  refine AllReadyH.cons rfl (fun K hK => ?_) AllReadyH.nil
                  go_simp
                  (try simp only [hwr])
                  have hSn := HSS.out (w5.alloc (.cells #[.int .u64 (kd.at_ : Int)] 44)) (KKw5.out.trans (Kept8.below ((Below.refl _ w5).alloc (Nat.le_refl _) _)))
                  go_wp2_with fail
                  refine hK.out _ _ (by first | assumption | trivial) (fun hHeld => ?_)
                  clear hK K hSn
                  obtain ⟨Y2, hY⟩ : ∃ Y2, w5.alloc (.cells #[.int .u64 (kd.at_ : Int)] 44) = Y2 := ⟨_, rfl⟩
                  have hb : Below w5.heap.size w5 Y2 := by rw [← hY]; exact (Below.refl _ w5).alloc (Nat.le_refl _) _
                  have HNY2 : Hid (OwnE Y2 w5.heap.size 44 [.int .u64 (kd.at_ : Int)]) := hid (by rw [← hY]; exact OwnE.new_ w5 _ _)
                  have KKY2 := hid (KKw5.out.trans (Kept8.below hb))
                  have BWY2 := hid (past BWw5.out hb)
                  have HRY2 := hid (own_below HRw5.out hb)
                  have HBLY2 := hid hb
                  rw [hY] at hHeld ⊢
                  clear hY hb
                  (try simp only [List.append_eq, List.cons_append, List.nil_append, List.getElem_toArray, List.getElem_cons_succ, List.getElem_cons_zero, Act.put, List.setIfInBounds_toArray, List.set_cons_zero, List.set_cons_succ])
                  refine wpAnyH_ready (rs := [9]) (by kernel_rfl) (by simp) ?_
                  refine AllReadyH.cons rfl (fun K hK => ?_) AllReadyH.nil
                  go_simp
                  go_at_call 21
                  refine (HNV.out Y2 A5 c5 w5.heap.size HRY2.out HNY2.out BWY2.out.size).mono ?_
                  rintro e w6 ⟨A6, c6, rfl, ho6, hk6, hb6⟩
                  have HR6 := hid ho6
                  have hSn := HSS.out w6 (KKY2.out.trans hk6)
                  have BW6 : Hid (Below W.heap.size W w6) := hid (BWY2.out.trans hb6)
                  clear ho6 hk6 hb6
                  go_wp2_with fail
                  refine hK.out _ _ (by first | assumption | trivial) (fun hHeld => ?_)
                  clear hK K hSn
                  (try simp only [List.append_eq, List.cons_append, List.nil_append, List.getElem_toArray, List.getElem_cons_succ, List.getElem_cons_zero, Act.put, List.setIfInBounds_toArray, List.set_cons_zero, List.set_cons_succ])
                  refine wpAnyH_take (i := 10) (v := ?_) rfl (by kernel_rfl) (by kernel_rfl) (by kernel_rfl) (fun _ _ _ h => h) (Or.inl ⟨by kernel_rfl, ?_⟩) (by first | assumption | trivial) ?_
                  rotate_left
                  · (intro wS hSw; (try dsimp only at hSw); go_simp; try with_reducible rfl)
                  (try simp only [List.append_eq, List.cons_append, List.nil_append, List.getElem_toArray, List.getElem_cons_succ, List.getElem_cons_zero, Act.put, List.setIfInBounds_toArray, List.set_cons_zero, List.set_cons_succ])
                  refine wpAnyH_done (by kernel_rfl) ?_ _
                  refine QN.normal ?_
                  clear hHeld
                  gi_wp2
                  go_roundw
                  case rel => exact ⟨j + 1, nb + 1 * 8 + 1 * 2, A6, c6, by omega, by rw [HNB.out]; omega, rfl, by go_num, hid (by rw [HST.out]; have h := HR6.out; rw [List.append_assoc, List.append_assoc] at h; exact h), BW6⟩
                  case measure => simp [intOf]; omega
                · go_simp
                  (try simp only [hwr])
                  have hSn := HSS.out (Y1.alloc (.cells #[.int .u64 (kd.at_ : Int)] 44)) (KKY1.out.trans (Kept8.below ((Below.refl _ Y1).alloc (Nat.le_refl _) _)))
                  go_wp2_with fail
                  refine hK.out _ _ (by first | assumption | trivial) (fun hHeld => ?_)
                  clear hK K hSn
                  obtain ⟨Y2, hY⟩ : ∃ Y2, Y1.alloc (.cells #[.int .u64 (kd.at_ : Int)] 44) = Y2 := ⟨_, rfl⟩
                  have hb : Below Y1.heap.size Y1 Y2 := by rw [← hY]; exact (Below.refl _ Y1).alloc (Nat.le_refl _) _
                  have HNY2 : Hid (OwnE Y2 Y1.heap.size 44 [.int .u64 (kd.at_ : Int)]) := hid (by rw [← hY]; exact OwnE.new_ Y1 _ _)
                  have KKY2 := hid (KKY1.out.trans (Kept8.below hb))
                  have BWY2 := hid (past BWY1.out hb)
                  have HRY2 := hid (own_below HRY1.out hb)
                  have HBLY2 := hid hb
                  rw [hY] at hHeld ⊢
                  clear hY hb
                  (try simp only [List.append_eq, List.cons_append, List.nil_append, List.getElem_toArray, List.getElem_cons_succ, List.getElem_cons_zero, Act.put, List.setIfInBounds_toArray, List.set_cons_zero, List.set_cons_succ])
                  refine wpAnyH_ready (rs := [4]) (by kernel_rfl) (by simp) ?_
                  refine AllReadyH.cons rfl (fun K hK => ?_) AllReadyH.nil
                  go_simp
                  go_at_call 21
                  refine (HNU.out Y2 W2.heap.size HRY2.out (HNY1.out.below HBLY2.out) BWY2.out.size).mono ?_
                  rintro e w5 ⟨A5, c5, rfl, ho5, hk5, hb5⟩
                  have HRw5 := hid ho5
                  have KKw5 := hid (KKY2.out.trans hk5)
                  have HK5 := hid hk5
                  have BWw5 : Hid (Below W.heap.size W w5) := hid (BWY2.out.trans hb5)
                  clear ho5 hk5 hb5
                  have hSn := HSS.out w5 KKw5.out
                  go_wp2_with fail
                  refine hK.out _ _ (by first | assumption | trivial) (fun hHeld => ?_)
                  clear hK K hSn
                  (try simp only [List.append_eq, List.cons_append, List.nil_append, List.getElem_toArray, List.getElem_cons_succ, List.getElem_cons_zero, Act.put, List.setIfInBounds_toArray, List.set_cons_zero, List.set_cons_succ])
                  refine wpAnyH_ready (rs := [9]) (by kernel_rfl) (by simp) ?_
                  refine AllReadyH.cons rfl (fun K hK => ?_) AllReadyH.nil
                  go_simp
                  go_at_call 21
                  refine (HNV.out w5 A5 c5 Y1.heap.size HRw5.out (HK5.out.own (by decide) HNY2.out) BWw5.out.size).mono ?_
                  rintro e w6 ⟨A6, c6, rfl, ho6, hk6, hb6⟩
                  have HR6 := hid ho6
                  have hSn := HSS.out w6 (KKw5.out.trans hk6)
                  have BW6 : Hid (Below W.heap.size W w6) := hid (BWw5.out.trans hb6)
                  clear ho6 hk6 hb6
                  go_wp2_with fail
                  refine hK.out _ _ (by first | assumption | trivial) (fun hHeld => ?_)
                  clear hK K hSn
                  (try simp only [List.append_eq, List.cons_append, List.nil_append, List.getElem_toArray, List.getElem_cons_succ, List.getElem_cons_zero, Act.put, List.setIfInBounds_toArray, List.set_cons_zero, List.set_cons_succ])
                  refine wpAnyH_take (i := 10) (v := ?_) rfl (by kernel_rfl) (by kernel_rfl) (by kernel_rfl) (fun _ _ _ h => h) (Or.inl ⟨by kernel_rfl, ?_⟩) (by first | assumption | trivial) ?_
                  rotate_left
                  · (intro wS hSw; (try dsimp only at hSw); go_simp; try with_reducible rfl)
                  (try simp only [List.append_eq, List.cons_append, List.nil_append, List.getElem_toArray, List.getElem_cons_succ, List.getElem_cons_zero, Act.put, List.setIfInBounds_toArray, List.set_cons_zero, List.set_cons_succ])
                  refine wpAnyH_done (by kernel_rfl) ?_ _
                  refine QN.normal ?_
                  clear hHeld
                  gi_wp2
                  go_roundw
                  case rel => exact ⟨j + 1, nb + 1 * 8 + 1 * 2, A6, c6, by omega, by rw [HNB.out]; omega, rfl, by go_num, hid (by rw [HST.out]; have h := HR6.out; rw [List.append_assoc, List.append_assoc] at h; exact h), BW6⟩
                  case measure => simp [intOf]; omega
              · go_simp
                (try simp only [hwr])
                have hSn := HSS.out (W2.alloc (.cells #[.int .u64 (kd.at_ : Int)] 44)) (KKW2.out.trans (Kept8.below ((Below.refl _ W2).alloc (Nat.le_refl _) _)))
                go_wp2_with fail
                refine hK.out _ _ (by first | assumption | trivial) (fun hHeld => ?_)
                clear hK K hSn
                obtain ⟨Y1, hY⟩ : ∃ Y1, W2.alloc (.cells #[.int .u64 (kd.at_ : Int)] 44) = Y1 := ⟨_, rfl⟩
                have hb : Below W2.heap.size W2 Y1 := by rw [← hY]; exact (Below.refl _ W2).alloc (Nat.le_refl _) _
                have HNY1 : Hid (OwnE Y1 W2.heap.size 44 [.int .u64 (kd.at_ : Int)]) := hid (by rw [← hY]; exact OwnE.new_ W2 _ _)
                have KKY1 := hid (KKW2.out.trans (Kept8.below hb))
                have BWY1 := hid (past BWW2.out hb)
                have HRY1 := hid (own_below HRW2.out hb)
                have HBLY1 := hid hb
                rw [hY] at hHeld ⊢
                clear hY hb
                (try simp only [List.append_eq, List.cons_append, List.nil_append, List.getElem_toArray, List.getElem_cons_succ, List.getElem_cons_zero, Act.put, List.setIfInBounds_toArray, List.set_cons_zero, List.set_cons_succ])
                refine wpAnyH_ready (rs := [3]) (by kernel_rfl) (by simp) ?_
                refine AllReadyH.cons rfl (fun K hK => ?_) AllReadyH.nil
                go_simp
                (try simp only [hwr])
                have hSn := HSS.out (Y1.alloc (.cells #[.int .u64 (kd.least : Int)] 44)) (KKY1.out.trans (Kept8.below ((Below.refl _ Y1).alloc (Nat.le_refl _) _)))
                go_wp2_with fail
                refine hK.out _ _ (by first | assumption | trivial) (fun hHeld => ?_)
                clear hK K hSn
                obtain ⟨Y2, hY⟩ : ∃ Y2, Y1.alloc (.cells #[.int .u64 (kd.least : Int)] 44) = Y2 := ⟨_, rfl⟩
                have hb : Below Y1.heap.size Y1 Y2 := by rw [← hY]; exact (Below.refl _ Y1).alloc (Nat.le_refl _) _
                have HNY2 : Hid (OwnE Y2 Y1.heap.size 44 [.int .u64 (kd.least : Int)]) := hid (by rw [← hY]; exact OwnE.new_ Y1 _ _)
                have KKY2 := hid (KKY1.out.trans (Kept8.below hb))
                have BWY2 := hid (past BWY1.out hb)
                have HRY2 := hid (own_below HRY1.out hb)
                have HBLY2 := hid hb
                rw [hY] at hHeld ⊢
                clear hY hb
                (try simp only [List.append_eq, List.cons_append, List.nil_append, List.getElem_toArray, List.getElem_cons_succ, List.getElem_cons_zero, Act.put, List.setIfInBounds_toArray, List.set_cons_zero, List.set_cons_succ])
                refine wpAnyH_ready (rs := [4]) (by kernel_rfl) (by simp) ?_
                refine AllReadyH.cons rfl (fun K hK => ?_) AllReadyH.nil
                go_simp
                go_at_call 21
                refine (HNU.out Y2 Y1.heap.size HRY2.out HNY2.out BWY2.out.size).mono ?_
                rintro e w5 ⟨A5, c5, rfl, ho5, hk5, hb5⟩
                have HRw5 := hid ho5
                have KKw5 := hid (KKY2.out.trans hk5)
                have HK5 := hid hk5
                have BWw5 : Hid (Below W.heap.size W w5) := hid (BWY2.out.trans hb5)
                clear ho5 hk5 hb5
                have hSn := HSS.out w5 KKw5.out
                go_wp2_with fail
                refine hK.out _ _ (by first | assumption | trivial) (fun hHeld => ?_)
                clear hK K hSn
                (try simp only [List.append_eq, List.cons_append, List.nil_append, List.getElem_toArray, List.getElem_cons_succ, List.getElem_cons_zero, Act.put, List.setIfInBounds_toArray, List.set_cons_zero, List.set_cons_succ])
                refine wpAnyH_ready (rs := [9]) (by kernel_rfl) (by simp) ?_
                refine AllReadyH.cons rfl (fun K hK => ?_) AllReadyH.nil
                go_simp
                go_at_call 21
                refine (HNV.out w5 A5 c5 W2.heap.size HRw5.out (HK5.out.own (by decide) (HNY1.out.below HBLY2.out)) BWw5.out.size).mono ?_
                rintro e w6 ⟨A6, c6, rfl, ho6, hk6, hb6⟩
                have HR6 := hid ho6
                have hSn := HSS.out w6 (KKw5.out.trans hk6)
                have BW6 : Hid (Below W.heap.size W w6) := hid (BWw5.out.trans hb6)
                clear ho6 hk6 hb6
                go_wp2_with fail
                refine hK.out _ _ (by first | assumption | trivial) (fun hHeld => ?_)
                clear hK K hSn
                (try simp only [List.append_eq, List.cons_append, List.nil_append, List.getElem_toArray, List.getElem_cons_succ, List.getElem_cons_zero, Act.put, List.setIfInBounds_toArray, List.set_cons_zero, List.set_cons_succ])
                refine wpAnyH_take (i := 10) (v := ?_) rfl (by kernel_rfl) (by kernel_rfl) (by kernel_rfl) (fun _ _ _ h => h) (Or.inl ⟨by kernel_rfl, ?_⟩) (by first | assumption | trivial) ?_
                rotate_left
                · (intro wS hSw; (try dsimp only at hSw); go_simp; try with_reducible rfl)
                (try simp only [List.append_eq, List.cons_append, List.nil_append, List.getElem_toArray, List.getElem_cons_succ, List.getElem_cons_zero, Act.put, List.setIfInBounds_toArray, List.set_cons_zero, List.set_cons_succ])
                refine wpAnyH_done (by kernel_rfl) ?_ _
                refine QN.normal ?_
                clear hHeld
                gi_wp2
                go_roundw
                case rel => exact ⟨j + 1, nb + 1 * 8 + 1 * 2, A6, c6, by omega, by rw [HNB.out]; omega, rfl, by go_num, hid (by rw [HST.out]; have h := HR6.out; rw [List.append_assoc, List.append_assoc] at h; exact h), BW6⟩
                case measure => simp [intOf]; omega
            · have g2 := lt_f hlt2
              have g2' := lt_nf hlt2
              have hjq : j = q := by omega
              have hbl : [2, UInt8.ofNat q] ++ (cs.take j).flatMap Kd.o = innerL cs := by
                unfold innerL
                rw [HQ.out, List.take_of_length_le (by rw [HQ.out]; omega)]
              have hob := HOB.out
              rw [hbl] at hob
              have HOL := hid hob
              have hnb2 : nb ≤ 122 := by omega
              clear hbl hob HOB hnb
              subst hjq
              gi_wp2
              have hcs0 : 0 < cs.length := by rw [HQ.out]; omega
              have HX0 : Hid (∀ X, LaidF X gl cur 57 (0, 0) → X.cell? ⟨gl, x * 2, none⟩ = some (.int .u64 (leastK cs : Int))) := hid (fun X hX => by
                have hrow := lay_row hX HCUR2.out x (by rw [HLM.out]; omega)
                rw [Nat.zero_add] at hrow
                have hjd : 0 < (lv.drop x).length := by rw [List.length_drop, HLM.out]; omega
                obtain ⟨b', off', hA, hc⟩ := kd_at hrow hjd
                cases hA
                have h := (hc 0 hjd).1
                have key : ∀ (ys : List Kd) (h : 0 < ys.length), (ys[0]'h).least = leastK (ys.take 12) := fun ys h => by
                  cases ys with
                  | nil => cases h
                  | cons p r => rfl
                rw [key, ← HCG.out, Nat.zero_mul, Nat.add_zero] at h
                exact h)
              obtain ⟨pc, hpc⟩ : ∃ pc, cp.length = pc := ⟨_, rfl⟩
              obtain ⟨oc, hoc⟩ : ∃ oc, mo + pc = oc := ⟨_, rfl⟩
              have HPC := hid hpc
              have HOC := hid hoc
              have hpc8 : pc ≤ 8 := by omega
              have hoc2 : oc ≤ 220 := by omega
              obtain ⟨wx, hwx⟩ : ∃ wx, wq.drew = wx := ⟨_, rfl⟩
              have hbx : Below wq.heap.size wq wx := by rw [← hwx]; exact bq (Below.refl _ wq) 1
              have HJX := hid ((HJ.out.below HBB.out).below hbx)
              have hsx : ws.heap.size ≤ wx.heap.size := by have := HJX.out.xf2.lt; omega
              have HRX := hid (own_below HOL.out hbx)
              have KOX : Hid (KeepsOthers W wx) := hid ((keeps_below HBB.out).trans (keeps_below hbx))
              have BWX : Hid (Below w.heap.size W wx) := hid ((past HBB.out hbx).mono HJ.out.bel.size)
              obtain ⟨wy, hwy⟩ : ∃ wy, wx.alloc (.cells #[.int .u64 (leastK cs : Int), .int .i64 (oc : Int)] 57) = wy := ⟨_, rfl⟩
              have hby : Below wx.heap.size wx wy := by rw [← hwy]; exact (Below.refl _ wx).alloc (Nat.le_refl _) _
              have hny : wy.heap[wx.heap.size]? = some (.cells #[.int .u64 (leastK cs : Int), .int .i64 (oc : Int)] 57) := by rw [← hwy]; exact heap_alloc_new wx _
              have HNY := hid hny
              have HJY := hid (HJX.out.below hby)
              have HRY := hid (own_below HRX.out hby)
              have KOY := hid (KOX.out.trans (keeps_below hby))
              have BWY : Hid (Below w.heap.size W wy) := hid (BWX.out.trans (hby.mono (by omega)))
              have hsy : ws.heap.size ≤ wy.heap.size := Nat.le_trans hsx hby.size
              have hSX : wx.cell? ⟨gl, x * 2, none⟩ = some (.int .u64 (leastK cs : Int)) ∧ wx.cell? ⟨bo, 0, none⟩ = some (.slice Aq oc cq) := ⟨HX0.out _ HJX.out.lay, by have h := HJX.out.xo.cell; rw [hpc, hoc] at h; exact h⟩
              have hSY : wy.cell? ⟨gl, x * 2, none⟩ = some (.int .u64 (leastK cs : Int)) ∧ wy.cell? ⟨bo, 0, none⟩ = some (.slice Aq oc cq) := ⟨HX0.out _ HJY.out.lay, by have h := HJY.out.xo.cell; rw [hpc, hoc] at h; exact h⟩
              have HJYN : Hid (wy.ownsRow ws.heap.size 57 2 (.slice Bq pc dq) pc ((kidsK mo cp).flatMap kdC)) := hid (by have h := HJY.out.nxt; rw [hpc] at h; exact h)
              have HCX : Hid (wx.cell? ⟨wr.heap.size, 0, none⟩ = some (.slice Bq pc dq)) := hid (by have h := HJX.out.xn.cell; rw [hpc] at h; exact h)
              have HCY : Hid (wy.cell? ⟨wr.heap.size, 0, none⟩ = some (.slice Bq pc dq)) := hid (by have h := HJY.out.xn.cell; rw [hpc] at h; exact h)
              have hSY' : (wx.alloc (.cells #[.int .u64 (leastK cs : Int), .int .i64 (oc : Int)] 57)).cell? ⟨gl, x * 2, none⟩ = some (.int .u64 (leastK cs : Int)) ∧ (wx.alloc (.cells #[.int .u64 (leastK cs : Int), .int .i64 (oc : Int)] 57)).cell? ⟨bo, 0, none⟩ = some (.slice Aq oc cq) := by rw [hwy]; exact hSY
              have hSQ : wq.drew.cell? ⟨gl, x * 2, none⟩ = some (.int .u64 (leastK cs : Int)) ∧ wq.drew.cell? ⟨bo, 0, none⟩ = some (.slice Aq oc cq) := by rw [hwx]; exact hSX
              clear hpc hoc hbx hby hny HOL HBB hcs0 HROW
              have jj0 : (0 : Int) < (j : Int) := by omega
              have jj1 : 0 < j := hqa
              refine wpIn_region_held (S := (fun X => X.cell? ⟨gl, x * 2, none⟩ = some (.int .u64 (leastK cs : Int)) ∧ X.cell? ⟨bo, 0, none⟩ = some (.slice Aq oc cq))) (by kernel_rfl) (by kernel_rfl) (by first | assumption | trivial) (fun hHeld => ?_)
              rw [hwx]
              clear hHeld hSQ hwx
              refine wpAnyH_take (i := 1) (v := ?_) rfl (by kernel_rfl) (by kernel_rfl) (by kernel_rfl) (fun _ _ _ h => h) (Or.inl ⟨by kernel_rfl, ?_⟩) (by first | assumption | trivial) ?_
              rotate_left
              · (intro wS hSw; (try dsimp only at hSw); go_simp; try with_reducible rfl)
              (try simp only [List.append_eq, List.cons_append, List.nil_append, List.getElem_toArray, List.getElem_cons_succ, List.getElem_cons_zero, Act.put, List.setIfInBounds_toArray, List.set_cons_zero, List.set_cons_succ])
              refine wpAnyH_take (i := 2) (v := ?_) rfl (by kernel_rfl) (by kernel_rfl) (by kernel_rfl) (fun _ _ _ h => h) (Or.inl ⟨by kernel_rfl, ?_⟩) (by first | assumption | trivial) ?_
              rotate_left
              · (intro wS hSw; (try dsimp only at hSw); go_simp; try with_reducible rfl)
              (try simp only [List.append_eq, List.cons_append, List.nil_append, List.getElem_toArray, List.getElem_cons_succ, List.getElem_cons_zero, Act.put, List.setIfInBounds_toArray, List.set_cons_zero, List.set_cons_succ])
              refine wpAnyH_take (i := 3) (v := ?_) rfl (by kernel_rfl) (by kernel_rfl) (by kernel_rfl) (fun _ _ _ h => h) (Or.inl ⟨by kernel_rfl, ?_⟩) (by first | assumption | trivial) ?_
              rotate_left
              · (intro wS hSw; (try dsimp only at hSw); go_simp; try with_reducible rfl)
              (try simp only [List.append_eq, List.cons_append, List.nil_append, List.getElem_toArray, List.getElem_cons_succ, List.getElem_cons_zero, Act.put, List.setIfInBounds_toArray, List.set_cons_zero, List.set_cons_succ])
              refine wpAnyH_take (i := 4) (v := ?_) rfl (by kernel_rfl) (by kernel_rfl) (by kernel_rfl) (fun _ _ _ h => h) (Or.inl ⟨by kernel_rfl, ?_⟩) (by first | assumption | trivial) ?_
              rotate_left
              · (intro wS hSw; (try dsimp only at hSw); go_simp; try with_reducible rfl)
              (try simp only [List.append_eq, List.cons_append, List.nil_append, List.getElem_toArray, List.getElem_cons_succ, List.getElem_cons_zero, Act.put, List.setIfInBounds_toArray, List.set_cons_zero, List.set_cons_succ])
              refine wpAnyH_take (i := 5) (v := ?_) rfl (by kernel_rfl) (by kernel_rfl) (by kernel_rfl) (fun _ _ _ h => h) (Or.inl ⟨by kernel_rfl, ?_⟩) (by first | assumption | trivial) ?_
              rotate_left
              · (intro wS hSw; (try dsimp only at hSw); go_simp; try with_reducible rfl)
              (try simp only [List.append_eq, List.cons_append, List.nil_append, List.getElem_toArray, List.getElem_cons_succ, List.getElem_cons_zero, Act.put, List.setIfInBounds_toArray, List.set_cons_zero, List.set_cons_succ])
              refine wpAnyH_ready (rs := [0, 6]) (by kernel_rfl) (by simp) ?_
              refine AllReadyH.cons rfl (fun K hK => ?_) (AllReadyH.cons rfl (fun K hK => ?_) AllReadyH.nil)
              · have cnx := HCX.out
                go_simp
                go_wp2_with fail
                refine hK.out _ _ (by first | assumption | trivial) (fun hHeld => ?_)
                clear hK K
                (try simp only [List.append_eq, List.cons_append, List.nil_append, List.getElem_toArray, List.getElem_cons_succ, List.getElem_cons_zero, Act.put, List.setIfInBounds_toArray, List.set_cons_zero, List.set_cons_succ])
                clear cnx
                refine wpAnyH_ready (rs := [6]) (by kernel_rfl) (by simp) ?_
                refine AllReadyH.cons rfl (fun K hK => ?_) AllReadyH.nil
                go_simp
                skip
                go_wp2_with fail
                refine hK.out _ _ (by first | assumption | trivial) (fun hHeld => ?_)
                clear hK K
                (try simp only [List.append_eq, List.cons_append, List.nil_append, List.getElem_toArray, List.getElem_cons_succ, List.getElem_cons_zero, Act.put, List.setIfInBounds_toArray, List.set_cons_zero, List.set_cons_succ])
                refine wpAnyH_take (i := 7) (v := ?_) rfl (by kernel_rfl) (by kernel_rfl) (by kernel_rfl) (fun _ _ _ h => h) (Or.inl ⟨by kernel_rfl, ?_⟩) (by first | assumption | trivial) ?_
                rotate_left
                · (intro wS hSw; (try dsimp only at hSw); go_simp; try with_reducible rfl)
                (try simp only [List.append_eq, List.cons_append, List.nil_append, List.getElem_toArray, List.getElem_cons_succ, List.getElem_cons_zero, Act.put, List.setIfInBounds_toArray, List.set_cons_zero, List.set_cons_succ])
                refine wpAnyH_ready (rs := [8]) (by kernel_rfl) (by simp) ?_
                refine AllReadyH.cons rfl (fun K hK => ?_) AllReadyH.nil
                go_simp
                skip
                go_wp2_with fail
                refine hK.out _ _ (by first | assumption | trivial) (fun hHeld => ?_)
                clear hK K
                (try simp only [List.append_eq, List.cons_append, List.nil_append, List.getElem_toArray, List.getElem_cons_succ, List.getElem_cons_zero, Act.put, List.setIfInBounds_toArray, List.set_cons_zero, List.set_cons_succ])
                (try rw [hwy] at hHeld)
                (try rw [hwy])
                refine wpAnyH_ready (rs := [9]) (by kernel_rfl) (by simp) ?_
                refine AllReadyH.cons rfl (fun K hK => ?_) AllReadyH.nil
                rw [if_pos (by kernel_rfl)]
                refine wp_append_row _ (.tmp 46) (.tmp 54) kdT rfl ws.heap.size (.slice Bq pc dq) pc ((kidsK mo cp).flatMap kdC) rfl HJYN.out (some ⟨wx.heap.size, 0, none⟩) 1 1 [.int .u64 (leastK cs : Int), .int .i64 (oc : Int)] rfl rfl (Row.of_block HNY.out) (by simp [Value.oneCell']) (by simp only [maxLen]; omega) (by omega) hsy ?_
                intro A5 c5 w5 ho5 hg5 hh5
                have HP5 : Hid (Boxed w5 wr.heap.size 50 (.slice Bq pc dq) ∧ (w5.cell? ⟨gl, x * 2, none⟩ = some (.int .u64 (leastK cs : Int)) ∧ w5.cell? ⟨bo, 0, none⟩ = some (.slice Aq oc cq)) ∧ (BrI w ws bo wr.heap.size (wr.heap.size + 1) gl mo cur (.slice (some ⟨gl, 0, none⟩) m d) pgs (w5.setCell ⟨wr.heap.size, 0, none⟩ (.slice A5 (pc + 1) c5)) (cp ++ [cs]) cp Aq cq vq A5 c5 ∧ KeepsOthers wy (w5.setCell ⟨wr.heap.size, 0, none⟩ (.slice A5 (pc + 1) c5)) ∧ Below w.heap.size wy (w5.setCell ⟨wr.heap.size, 0, none⟩ (.slice A5 (pc + 1) c5))) ∧ (w5.setCell ⟨wr.heap.size, 0, none⟩ (.slice A5 (pc + 1) c5)).ownsRow W.heap.size 5 1 (.slice Ab nb cb) nb ((innerL cs).map B8)) := hid (by
                  have e1 := HPC.out
                  have e2 := HOC.out
                  subst e1
                  subst e2
                  have k1 : KT 57 wy w5 := KT.grown HJY.out.nxt hg5
                  have b5 := k1.boxed (by decide) HJY.out.xn
                  refine ⟨b5, ⟨HX0.out _ ?_, (k1.boxed (by decide) HJY.out.xo).cell⟩, HJY.out.nput (by omega) (by omega) hwsz (by omega) hg5 ho5, (KT.set b5 _).owns (by decide) (own_grown HRY.out HJY.out.nxt (by decide) hg5)⟩
                  exact (hg5.block gl (lt_of_heap HJY.out.lay) (fun e => by have := own_base HJY.out.nxt gl e.symm; omega)).trans HJY.out.lay)
                clear ho5 hg5 hh5
                have hS5 := HP5.out.2.1
                refine hK.out _ _ (by first | assumption | trivial) (fun hHeld => ?_)
                clear hK K
                (try simp only [List.append_eq, List.cons_append, List.nil_append, List.getElem_toArray, List.getElem_cons_succ, List.getElem_cons_zero, Act.put, List.setIfInBounds_toArray, List.set_cons_zero, List.set_cons_succ])
                have c5n := HP5.out.1.cell
                have f5n := HP5.out.1.frozen
                have hS6 : (w5.setCell ⟨wr.heap.size, 0, none⟩ (.slice A5 (pc + 1) c5)).cell? ⟨gl, x * 2, none⟩ = some (.int .u64 (leastK cs : Int)) ∧ (w5.setCell ⟨wr.heap.size, 0, none⟩ (.slice A5 (pc + 1) c5)).cell? ⟨bo, 0, none⟩ = some (.slice Aq oc cq) := ⟨HX0.out _ HP5.out.2.2.1.1.lay, by have h := HP5.out.2.2.1.1.xo.cell; rw [HPC.out, HOC.out] at h; exact h⟩
                refine wpAnyH_ready (rs := [10]) (by kernel_rfl) (by simp) ?_
                refine AllReadyH.cons rfl (fun K hK => ?_) AllReadyH.nil
                go_simp
                skip
                go_wp2_with fail
                refine hK.out _ _ (by first | assumption | trivial) (fun hHeld => ?_)
                clear hK K
                (try simp only [List.append_eq, List.cons_append, List.nil_append, List.getElem_toArray, List.getElem_cons_succ, List.getElem_cons_zero, Act.put, List.setIfInBounds_toArray, List.set_cons_zero, List.set_cons_succ])
                refine wpAnyH_done (by kernel_rfl) ?_ _
                refine QN.normal ?_
                clear hHeld
                obtain ⟨w6, hw6⟩ : ∃ w6, (w5.setCell ⟨wr.heap.size, 0, none⟩ (.slice A5 (pc + 1) c5)) = w6 := ⟨_, rfl⟩
                obtain ⟨wz, hwz⟩ : ∃ wz, w6.drew = wz := ⟨_, rfl⟩
                have hbz : Below w6.heap.size w6 wz := by rw [← hwz]; exact bq (Below.refl _ w6) 1
                have HJ6 := HP5.out.2.2.1.1
                have KO6 := HP5.out.2.2.1.2.1
                have BW6 := HP5.out.2.2.1.2.2
                have HR6 := HP5.out.2.2.2
                rw [hw6] at HJ6 KO6 BW6 HR6
                rw [hw6]
                clear hw6 HP5 hS5 c5n f5n hS6
                have HJZ := hid (HJ6.below hbz)
                have KOZ := hid ((KOY.out.trans KO6).trans (keeps_below hbz))
                have BWZ : Hid (Below w.heap.size W wz) := hid ((BWY.out.trans BW6).trans (hbz.mono HJ6.bel.size))
                have HRZ := hid (own_below HR6 hbz)
                have hsz : w.heap.size ≤ wz.heap.size := HJZ.out.bel.size
                have HPG := hid (page_any Ab nb cb (innerL cs) wz ⟨by have := HRZ.out.1; simpa using this, Row.of_own HRZ.out⟩ (by omega))
                have HCZ : Hid (wz.cell? ⟨bo, 0, none⟩ = some (.slice Aq oc cq)) := hid (by have h := HJZ.out.xo.cell; rw [HPC.out, HOC.out] at h; exact h)
                clear hbz HJ6 KO6 BW6 HR6 KOY BWY HRY HJY HCX HCY HNY KOX BWX HRX HJX hSX hSY hSY' hsx hsy
                gi_wp2
                refine wpIn_region_held (S := (fun X => True)) (by kernel_rfl) (by kernel_rfl) (by first | assumption | trivial) (fun hHeld => ?_)
                rw [hwz]
                clear hwz
                refine wpAnyH_take (i := 1) (v := ?_) rfl (by kernel_rfl) (by kernel_rfl) (by kernel_rfl) (fun _ _ _ h => h) (Or.inl ⟨by kernel_rfl, ?_⟩) (by first | assumption | trivial) ?_
                rotate_left
                · (intro wS hSw; (try dsimp only at hSw); go_simp; try with_reducible rfl)
                (try simp only [List.append_eq, List.cons_append, List.nil_append, List.getElem_toArray, List.getElem_cons_succ, List.getElem_cons_zero, Act.put, List.setIfInBounds_toArray, List.set_cons_zero, List.set_cons_succ])
                refine wpAnyH_ready (rs := [0, 2]) (by kernel_rfl) (by simp) ?_
                refine AllReadyH.cons rfl (fun K hK => ?_) (AllReadyH.cons rfl (fun K hK => ?_) AllReadyH.nil)
                · have czx := HCZ.out
                  go_simp
                  go_wp2_with fail
                  refine hK.out _ _ (by first | assumption | trivial) (fun hHeld => ?_)
                  clear hK K
                  (try simp only [List.append_eq, List.cons_append, List.nil_append, List.getElem_toArray, List.getElem_cons_succ, List.getElem_cons_zero, Act.put, List.setIfInBounds_toArray, List.set_cons_zero, List.set_cons_succ])
                  clear czx
                  refine wpAnyH_ready (rs := [2]) (by kernel_rfl) (by simp) ?_
                  refine AllReadyH.cons rfl (fun K hK => ?_) AllReadyH.nil
                  go_simp
                  (go_at_call 22; refine HPG.out.mono ?_; rintro e w7 ⟨g, rfl, hE, hg, b7⟩; have HE7 := hid hE; have HG7 := hid hg; have HB7 := hid b7; clear hE hg b7)
                  go_wp2_with fail
                  refine hK.out _ _ (by first | assumption | trivial) (fun hHeld => ?_)
                  clear hK K
                  (try simp only [List.append_eq, List.cons_append, List.nil_append, List.getElem_toArray, List.getElem_cons_succ, List.getElem_cons_zero, Act.put, List.setIfInBounds_toArray, List.set_cons_zero, List.set_cons_succ])
                  have HJ7 := hid (HJZ.out.below HB7.out)
                  have HC7 : Hid (w7.cell? ⟨bo, 0, none⟩ = some (.slice Aq oc cq)) := hid (by have h := HJ7.out.xo.cell; rw [HPC.out, HOC.out] at h; exact h)
                  obtain ⟨wv, hwv⟩ : ∃ wv, w7.alloc (.cells #[.slice (some ⟨g, 0, none⟩) 128 128] 34) = wv := ⟨_, rfl⟩
                  have hbv : Below w7.heap.size w7 wv := by rw [← hwv]; exact (Below.refl _ w7).alloc (Nat.le_refl _) _
                  have hnv : wv.heap[w7.heap.size]? = some (.cells #[.slice (some ⟨g, 0, none⟩) 128 128] 34) := by rw [← hwv]; exact heap_alloc_new w7 _
                  have HNV2 := hid hnv
                  have HJV := hid (HJ7.out.below hbv)
                  have HCV : Hid (wv.cell? ⟨bo, 0, none⟩ = some (.slice Aq oc cq)) := hid (by have h := HJV.out.xo.cell; rw [HPC.out, HOC.out] at h; exact h)
                  have KOV := hid ((KOZ.out.trans (keeps_below HB7.out)).trans (keeps_below hbv))
                  have BWV : Hid (Below w.heap.size W wv) := hid ((BWZ.out.trans (HB7.out.mono hsz)).trans (hbv.mono HJ7.out.bel.size))
                  have HJVO : Hid (wv.ownsRow w.heap.size 34 1 (.slice Aq oc cq) oc vq) := hid (by have h := HJV.out.out.own; rw [HPC.out, HOC.out] at h; exact h)
                  have HPV : Hid (PgOwn wv w.heap.size (.slice (some ⟨g, 0, none⟩) 128 128) (pageP (innerL cs))) := hid ⟨g, rfl, HE7.out.below hbv, Nat.le_trans hsz HG7.out, pageP_len _ (by rw [innerL_len, HQ.out]; omega)⟩
                  have hsv : w.heap.size ≤ wv.heap.size := HJV.out.bel.size
                  clear hbv hnv
                  refine wpAnyH_ready (rs := [3]) (by kernel_rfl) (by simp) ?_
                  refine AllReadyH.cons rfl (fun K hK => ?_) AllReadyH.nil
                  go_simp
                  skip
                  go_wp2_with fail
                  refine hK.out _ _ (by first | assumption | trivial) (fun hHeld => ?_)
                  clear hK K
                  (try simp only [List.append_eq, List.cons_append, List.nil_append, List.getElem_toArray, List.getElem_cons_succ, List.getElem_cons_zero, Act.put, List.setIfInBounds_toArray, List.set_cons_zero, List.set_cons_succ])
                  (try rw [hwv])
                  refine wpAnyH_ready (rs := [4]) (by kernel_rfl) (by simp) ?_
                  refine AllReadyH.cons rfl (fun K hK => ?_) AllReadyH.nil
                  rw [if_pos (by kernel_rfl)]
                  refine wp_append_row _ (.tmp 56) (.tmp 59) pgsT rfl w.heap.size (.slice Aq oc cq) oc vq rfl HJVO.out (some ⟨w7.heap.size, 0, none⟩) 1 1 [.slice (some ⟨g, 0, none⟩) 128 128] rfl rfl (Row.of_block HNV2.out) (by simp [Value.oneCell']) (by simp only [maxLen]; omega) (by omega) hsv ?_
                  intro A8 c8 w8 ho8 hg8 hh8
                  have HP8 : Hid (Boxed w8 bo 24 (.slice Aq oc cq) ∧ (BrI w ws bo wr.heap.size (wr.heap.size + 1) gl mo cur (.slice (some ⟨gl, 0, none⟩) m d) pgs (w8.setCell ⟨bo, 0, none⟩ (.slice A8 (oc + 1) c8)) (cp ++ [cs]) (cp ++ [cs]) A8 c8 (vq ++ [.slice (some ⟨g, 0, none⟩) 128 128]) A5 c5 ∧ KeepsOthers wv (w8.setCell ⟨bo, 0, none⟩ (.slice A8 (oc + 1) c8)) ∧ Below w.heap.size wv (w8.setCell ⟨bo, 0, none⟩ (.slice A8 (oc + 1) c8)))) := hid (by
                    have e1 := HPC.out
                    have e2 := HOC.out
                    subst e1
                    subst e2
                    have k1 : KT 34 wv w8 := KT.grown HJV.out.out.own hg8
                    exact ⟨k1.boxed (by decide) HJV.out.xo, HJV.out.oput hlow HPV.out hg8 ho8⟩)
                  clear ho8 hg8 hh8
                  refine hK.out _ _ (by first | assumption | trivial) (fun hHeld => ?_)
                  clear hK K
                  (try simp only [List.append_eq, List.cons_append, List.nil_append, List.getElem_toArray, List.getElem_cons_succ, List.getElem_cons_zero, Act.put, List.setIfInBounds_toArray, List.set_cons_zero, List.set_cons_succ])
                  have c8o := HP8.out.1.cell
                  have f8o := HP8.out.1.frozen
                  refine wpAnyH_ready (rs := [5]) (by kernel_rfl) (by simp) ?_
                  refine AllReadyH.cons rfl (fun K hK => ?_) AllReadyH.nil
                  go_simp
                  skip
                  go_wp2_with fail
                  refine hK.out _ _ (by first | assumption | trivial) (fun hHeld => ?_)
                  clear hK K
                  (try simp only [List.append_eq, List.cons_append, List.nil_append, List.getElem_toArray, List.getElem_cons_succ, List.getElem_cons_zero, Act.put, List.setIfInBounds_toArray, List.set_cons_zero, List.set_cons_succ])
                  refine wpAnyH_done (by kernel_rfl) ?_ _
                  refine QN.normal ?_
                  clear hHeld
                  gi_wp2
                  have HF := HP8.out.2.1
                  refine ⟨(KOV.out.trans HP8.out.2.2.1).from _, kpf_of (BWV.out.trans HP8.out.2.2.2) (HF.xf.trans HJ.out.xf.symm) (HF.xf2.trans HJ.out.xf2.symm), A8, c8, vq ++ [.slice (some ⟨g, 0, none⟩) 128 128], A5, c5, ?_⟩
                  rw [HPM.out]
                  exact HF
                · go_simp
                  (go_at_call 22; refine HPG.out.mono ?_; rintro e w7 ⟨g, rfl, hE, hg, b7⟩; have HE7 := hid hE; have HG7 := hid hg; have HB7 := hid b7; clear hE hg b7)
                  go_wp2_with fail
                  refine hK.out _ _ (by first | assumption | trivial) (fun hHeld => ?_)
                  clear hK K
                  (try simp only [List.append_eq, List.cons_append, List.nil_append, List.getElem_toArray, List.getElem_cons_succ, List.getElem_cons_zero, Act.put, List.setIfInBounds_toArray, List.set_cons_zero, List.set_cons_succ])
                  have HJ7 := hid (HJZ.out.below HB7.out)
                  have HC7 : Hid (w7.cell? ⟨bo, 0, none⟩ = some (.slice Aq oc cq)) := hid (by have h := HJ7.out.xo.cell; rw [HPC.out, HOC.out] at h; exact h)
                  obtain ⟨wv, hwv⟩ : ∃ wv, w7.alloc (.cells #[.slice (some ⟨g, 0, none⟩) 128 128] 34) = wv := ⟨_, rfl⟩
                  have hbv : Below w7.heap.size w7 wv := by rw [← hwv]; exact (Below.refl _ w7).alloc (Nat.le_refl _) _
                  have hnv : wv.heap[w7.heap.size]? = some (.cells #[.slice (some ⟨g, 0, none⟩) 128 128] 34) := by rw [← hwv]; exact heap_alloc_new w7 _
                  have HNV2 := hid hnv
                  have HJV := hid (HJ7.out.below hbv)
                  have HCV : Hid (wv.cell? ⟨bo, 0, none⟩ = some (.slice Aq oc cq)) := hid (by have h := HJV.out.xo.cell; rw [HPC.out, HOC.out] at h; exact h)
                  have KOV := hid ((KOZ.out.trans (keeps_below HB7.out)).trans (keeps_below hbv))
                  have BWV : Hid (Below w.heap.size W wv) := hid ((BWZ.out.trans (HB7.out.mono hsz)).trans (hbv.mono HJ7.out.bel.size))
                  have HJVO : Hid (wv.ownsRow w.heap.size 34 1 (.slice Aq oc cq) oc vq) := hid (by have h := HJV.out.out.own; rw [HPC.out, HOC.out] at h; exact h)
                  have HPV : Hid (PgOwn wv w.heap.size (.slice (some ⟨g, 0, none⟩) 128 128) (pageP (innerL cs))) := hid ⟨g, rfl, HE7.out.below hbv, Nat.le_trans hsz HG7.out, pageP_len _ (by rw [innerL_len, HQ.out]; omega)⟩
                  have hsv : w.heap.size ≤ wv.heap.size := HJV.out.bel.size
                  clear hbv hnv
                  refine wpAnyH_ready (rs := [0, 3]) (by kernel_rfl) (by simp) ?_
                  refine AllReadyH.cons rfl (fun K hK => ?_) (AllReadyH.cons rfl (fun K hK => ?_) AllReadyH.nil)
                  · have c7x := HC7.out
                    go_simp
                    go_wp2_with fail
                    refine hK.out _ _ (by first | assumption | trivial) (fun hHeld => ?_)
                    clear hK K
                    (try simp only [List.append_eq, List.cons_append, List.nil_append, List.getElem_toArray, List.getElem_cons_succ, List.getElem_cons_zero, Act.put, List.setIfInBounds_toArray, List.set_cons_zero, List.set_cons_succ])
                    clear c7x
                    refine wpAnyH_ready (rs := [3]) (by kernel_rfl) (by simp) ?_
                    refine AllReadyH.cons rfl (fun K hK => ?_) AllReadyH.nil
                    go_simp
                    skip
                    go_wp2_with fail
                    refine hK.out _ _ (by first | assumption | trivial) (fun hHeld => ?_)
                    clear hK K
                    (try simp only [List.append_eq, List.cons_append, List.nil_append, List.getElem_toArray, List.getElem_cons_succ, List.getElem_cons_zero, Act.put, List.setIfInBounds_toArray, List.set_cons_zero, List.set_cons_succ])
                    (try rw [hwv])
                    refine wpAnyH_ready (rs := [4]) (by kernel_rfl) (by simp) ?_
                    refine AllReadyH.cons rfl (fun K hK => ?_) AllReadyH.nil
                    rw [if_pos (by kernel_rfl)]
                    refine wp_append_row _ (.tmp 56) (.tmp 59) pgsT rfl w.heap.size (.slice Aq oc cq) oc vq rfl HJVO.out (some ⟨w7.heap.size, 0, none⟩) 1 1 [.slice (some ⟨g, 0, none⟩) 128 128] rfl rfl (Row.of_block HNV2.out) (by simp [Value.oneCell']) (by simp only [maxLen]; omega) (by omega) hsv ?_
                    intro A8 c8 w8 ho8 hg8 hh8
                    have HP8 : Hid (Boxed w8 bo 24 (.slice Aq oc cq) ∧ (BrI w ws bo wr.heap.size (wr.heap.size + 1) gl mo cur (.slice (some ⟨gl, 0, none⟩) m d) pgs (w8.setCell ⟨bo, 0, none⟩ (.slice A8 (oc + 1) c8)) (cp ++ [cs]) (cp ++ [cs]) A8 c8 (vq ++ [.slice (some ⟨g, 0, none⟩) 128 128]) A5 c5 ∧ KeepsOthers wv (w8.setCell ⟨bo, 0, none⟩ (.slice A8 (oc + 1) c8)) ∧ Below w.heap.size wv (w8.setCell ⟨bo, 0, none⟩ (.slice A8 (oc + 1) c8)))) := hid (by
                      have e1 := HPC.out
                      have e2 := HOC.out
                      subst e1
                      subst e2
                      have k1 : KT 34 wv w8 := KT.grown HJV.out.out.own hg8
                      exact ⟨k1.boxed (by decide) HJV.out.xo, HJV.out.oput hlow HPV.out hg8 ho8⟩)
                    clear ho8 hg8 hh8
                    refine hK.out _ _ (by first | assumption | trivial) (fun hHeld => ?_)
                    clear hK K
                    (try simp only [List.append_eq, List.cons_append, List.nil_append, List.getElem_toArray, List.getElem_cons_succ, List.getElem_cons_zero, Act.put, List.setIfInBounds_toArray, List.set_cons_zero, List.set_cons_succ])
                    have c8o := HP8.out.1.cell
                    have f8o := HP8.out.1.frozen
                    refine wpAnyH_ready (rs := [5]) (by kernel_rfl) (by simp) ?_
                    refine AllReadyH.cons rfl (fun K hK => ?_) AllReadyH.nil
                    go_simp
                    skip
                    go_wp2_with fail
                    refine hK.out _ _ (by first | assumption | trivial) (fun hHeld => ?_)
                    clear hK K
                    (try simp only [List.append_eq, List.cons_append, List.nil_append, List.getElem_toArray, List.getElem_cons_succ, List.getElem_cons_zero, Act.put, List.setIfInBounds_toArray, List.set_cons_zero, List.set_cons_succ])
                    refine wpAnyH_done (by kernel_rfl) ?_ _
                    refine QN.normal ?_
                    clear hHeld
                    gi_wp2
                    have HF := HP8.out.2.1
                    refine ⟨(KOV.out.trans HP8.out.2.2.1).from _, kpf_of (BWV.out.trans HP8.out.2.2.2) (HF.xf.trans HJ.out.xf.symm) (HF.xf2.trans HJ.out.xf2.symm), A8, c8, vq ++ [.slice (some ⟨g, 0, none⟩) 128 128], A5, c5, ?_⟩
                    rw [HPM.out]
                    exact HF
                  · go_simp
                    go_wp2_with fail
                    refine hK.out _ _ (by first | assumption | trivial) (fun hHeld => ?_)
                    clear hK K
                    (try simp only [List.append_eq, List.cons_append, List.nil_append, List.getElem_toArray, List.getElem_cons_succ, List.getElem_cons_zero, Act.put, List.setIfInBounds_toArray, List.set_cons_zero, List.set_cons_succ])
                    (try rw [hwv])
                    have cvx := HCV.out
                    refine wpAnyH_ready (rs := [0]) (by kernel_rfl) (by simp) ?_
                    refine AllReadyH.cons rfl (fun K hK => ?_) AllReadyH.nil
                    go_simp
                    skip
                    go_wp2_with fail
                    refine hK.out _ _ (by first | assumption | trivial) (fun hHeld => ?_)
                    clear hK K
                    (try simp only [List.append_eq, List.cons_append, List.nil_append, List.getElem_toArray, List.getElem_cons_succ, List.getElem_cons_zero, Act.put, List.setIfInBounds_toArray, List.set_cons_zero, List.set_cons_succ])
                    clear cvx
                    (try rw [hwv])
                    refine wpAnyH_ready (rs := [4]) (by kernel_rfl) (by simp) ?_
                    refine AllReadyH.cons rfl (fun K hK => ?_) AllReadyH.nil
                    rw [if_pos (by kernel_rfl)]
                    refine wp_append_row _ (.tmp 56) (.tmp 59) pgsT rfl w.heap.size (.slice Aq oc cq) oc vq rfl HJVO.out (some ⟨w7.heap.size, 0, none⟩) 1 1 [.slice (some ⟨g, 0, none⟩) 128 128] rfl rfl (Row.of_block HNV2.out) (by simp [Value.oneCell']) (by simp only [maxLen]; omega) (by omega) hsv ?_
                    intro A8 c8 w8 ho8 hg8 hh8
                    have HP8 : Hid (Boxed w8 bo 24 (.slice Aq oc cq) ∧ (BrI w ws bo wr.heap.size (wr.heap.size + 1) gl mo cur (.slice (some ⟨gl, 0, none⟩) m d) pgs (w8.setCell ⟨bo, 0, none⟩ (.slice A8 (oc + 1) c8)) (cp ++ [cs]) (cp ++ [cs]) A8 c8 (vq ++ [.slice (some ⟨g, 0, none⟩) 128 128]) A5 c5 ∧ KeepsOthers wv (w8.setCell ⟨bo, 0, none⟩ (.slice A8 (oc + 1) c8)) ∧ Below w.heap.size wv (w8.setCell ⟨bo, 0, none⟩ (.slice A8 (oc + 1) c8)))) := hid (by
                      have e1 := HPC.out
                      have e2 := HOC.out
                      subst e1
                      subst e2
                      have k1 : KT 34 wv w8 := KT.grown HJV.out.out.own hg8
                      exact ⟨k1.boxed (by decide) HJV.out.xo, HJV.out.oput hlow HPV.out hg8 ho8⟩)
                    clear ho8 hg8 hh8
                    refine hK.out _ _ (by first | assumption | trivial) (fun hHeld => ?_)
                    clear hK K
                    (try simp only [List.append_eq, List.cons_append, List.nil_append, List.getElem_toArray, List.getElem_cons_succ, List.getElem_cons_zero, Act.put, List.setIfInBounds_toArray, List.set_cons_zero, List.set_cons_succ])
                    have c8o := HP8.out.1.cell
                    have f8o := HP8.out.1.frozen
                    refine wpAnyH_ready (rs := [5]) (by kernel_rfl) (by simp) ?_
                    refine AllReadyH.cons rfl (fun K hK => ?_) AllReadyH.nil
                    go_simp
                    skip
                    go_wp2_with fail
                    refine hK.out _ _ (by first | assumption | trivial) (fun hHeld => ?_)
                    clear hK K
                    (try simp only [List.append_eq, List.cons_append, List.nil_append, List.getElem_toArray, List.getElem_cons_succ, List.getElem_cons_zero, Act.put, List.setIfInBounds_toArray, List.set_cons_zero, List.set_cons_succ])
                    refine wpAnyH_done (by kernel_rfl) ?_ _
                    refine QN.normal ?_
                    clear hHeld
                    gi_wp2
                    have HF := HP8.out.2.1
                    refine ⟨(KOV.out.trans HP8.out.2.2.1).from _, kpf_of (BWV.out.trans HP8.out.2.2.2) (HF.xf.trans HJ.out.xf.symm) (HF.xf2.trans HJ.out.xf2.symm), A8, c8, vq ++ [.slice (some ⟨g, 0, none⟩) 128 128], A5, c5, ?_⟩
                    rw [HPM.out]
                    exact HF
              · go_simp
                go_wp2_with fail
                refine hK.out _ _ (by first | assumption | trivial) (fun hHeld => ?_)
                clear hK K
                (try simp only [List.append_eq, List.cons_append, List.nil_append, List.getElem_toArray, List.getElem_cons_succ, List.getElem_cons_zero, Act.put, List.setIfInBounds_toArray, List.set_cons_zero, List.set_cons_succ])
                refine wpAnyH_take (i := 7) (v := ?_) rfl (by kernel_rfl) (by kernel_rfl) (by kernel_rfl) (fun _ _ _ h => h) (Or.inl ⟨by kernel_rfl, ?_⟩) (by first | assumption | trivial) ?_
                rotate_left
                · (intro wS hSw; (try dsimp only at hSw); go_simp; try with_reducible rfl)
                (try simp only [List.append_eq, List.cons_append, List.nil_append, List.getElem_toArray, List.getElem_cons_succ, List.getElem_cons_zero, Act.put, List.setIfInBounds_toArray, List.set_cons_zero, List.set_cons_succ])
                refine wpAnyH_ready (rs := [0, 8]) (by kernel_rfl) (by simp) ?_
                refine AllReadyH.cons rfl (fun K hK => ?_) (AllReadyH.cons rfl (fun K hK => ?_) AllReadyH.nil)
                · have cnx := HCX.out
                  go_simp
                  go_wp2_with fail
                  refine hK.out _ _ (by first | assumption | trivial) (fun hHeld => ?_)
                  clear hK K
                  (try simp only [List.append_eq, List.cons_append, List.nil_append, List.getElem_toArray, List.getElem_cons_succ, List.getElem_cons_zero, Act.put, List.setIfInBounds_toArray, List.set_cons_zero, List.set_cons_succ])
                  clear cnx
                  refine wpAnyH_ready (rs := [8]) (by kernel_rfl) (by simp) ?_
                  refine AllReadyH.cons rfl (fun K hK => ?_) AllReadyH.nil
                  go_simp
                  skip
                  go_wp2_with fail
                  refine hK.out _ _ (by first | assumption | trivial) (fun hHeld => ?_)
                  clear hK K
                  (try simp only [List.append_eq, List.cons_append, List.nil_append, List.getElem_toArray, List.getElem_cons_succ, List.getElem_cons_zero, Act.put, List.setIfInBounds_toArray, List.set_cons_zero, List.set_cons_succ])
                  (try rw [hwy] at hHeld)
                  (try rw [hwy])
                  refine wpAnyH_ready (rs := [9]) (by kernel_rfl) (by simp) ?_
                  refine AllReadyH.cons rfl (fun K hK => ?_) AllReadyH.nil
                  rw [if_pos (by kernel_rfl)]
                  refine wp_append_row _ (.tmp 46) (.tmp 54) kdT rfl ws.heap.size (.slice Bq pc dq) pc ((kidsK mo cp).flatMap kdC) rfl HJYN.out (some ⟨wx.heap.size, 0, none⟩) 1 1 [.int .u64 (leastK cs : Int), .int .i64 (oc : Int)] rfl rfl (Row.of_block HNY.out) (by simp [Value.oneCell']) (by simp only [maxLen]; omega) (by omega) hsy ?_
                  intro A5 c5 w5 ho5 hg5 hh5
                  have HP5 : Hid (Boxed w5 wr.heap.size 50 (.slice Bq pc dq) ∧ (w5.cell? ⟨gl, x * 2, none⟩ = some (.int .u64 (leastK cs : Int)) ∧ w5.cell? ⟨bo, 0, none⟩ = some (.slice Aq oc cq)) ∧ (BrI w ws bo wr.heap.size (wr.heap.size + 1) gl mo cur (.slice (some ⟨gl, 0, none⟩) m d) pgs (w5.setCell ⟨wr.heap.size, 0, none⟩ (.slice A5 (pc + 1) c5)) (cp ++ [cs]) cp Aq cq vq A5 c5 ∧ KeepsOthers wy (w5.setCell ⟨wr.heap.size, 0, none⟩ (.slice A5 (pc + 1) c5)) ∧ Below w.heap.size wy (w5.setCell ⟨wr.heap.size, 0, none⟩ (.slice A5 (pc + 1) c5))) ∧ (w5.setCell ⟨wr.heap.size, 0, none⟩ (.slice A5 (pc + 1) c5)).ownsRow W.heap.size 5 1 (.slice Ab nb cb) nb ((innerL cs).map B8)) := hid (by
                    have e1 := HPC.out
                    have e2 := HOC.out
                    subst e1
                    subst e2
                    have k1 : KT 57 wy w5 := KT.grown HJY.out.nxt hg5
                    have b5 := k1.boxed (by decide) HJY.out.xn
                    refine ⟨b5, ⟨HX0.out _ ?_, (k1.boxed (by decide) HJY.out.xo).cell⟩, HJY.out.nput (by omega) (by omega) hwsz (by omega) hg5 ho5, (KT.set b5 _).owns (by decide) (own_grown HRY.out HJY.out.nxt (by decide) hg5)⟩
                    exact (hg5.block gl (lt_of_heap HJY.out.lay) (fun e => by have := own_base HJY.out.nxt gl e.symm; omega)).trans HJY.out.lay)
                  clear ho5 hg5 hh5
                  have hS5 := HP5.out.2.1
                  refine hK.out _ _ (by first | assumption | trivial) (fun hHeld => ?_)
                  clear hK K
                  (try simp only [List.append_eq, List.cons_append, List.nil_append, List.getElem_toArray, List.getElem_cons_succ, List.getElem_cons_zero, Act.put, List.setIfInBounds_toArray, List.set_cons_zero, List.set_cons_succ])
                  have c5n := HP5.out.1.cell
                  have f5n := HP5.out.1.frozen
                  have hS6 : (w5.setCell ⟨wr.heap.size, 0, none⟩ (.slice A5 (pc + 1) c5)).cell? ⟨gl, x * 2, none⟩ = some (.int .u64 (leastK cs : Int)) ∧ (w5.setCell ⟨wr.heap.size, 0, none⟩ (.slice A5 (pc + 1) c5)).cell? ⟨bo, 0, none⟩ = some (.slice Aq oc cq) := ⟨HX0.out _ HP5.out.2.2.1.1.lay, by have h := HP5.out.2.2.1.1.xo.cell; rw [HPC.out, HOC.out] at h; exact h⟩
                  refine wpAnyH_ready (rs := [10]) (by kernel_rfl) (by simp) ?_
                  refine AllReadyH.cons rfl (fun K hK => ?_) AllReadyH.nil
                  go_simp
                  skip
                  go_wp2_with fail
                  refine hK.out _ _ (by first | assumption | trivial) (fun hHeld => ?_)
                  clear hK K
                  (try simp only [List.append_eq, List.cons_append, List.nil_append, List.getElem_toArray, List.getElem_cons_succ, List.getElem_cons_zero, Act.put, List.setIfInBounds_toArray, List.set_cons_zero, List.set_cons_succ])
                  refine wpAnyH_done (by kernel_rfl) ?_ _
                  refine QN.normal ?_
                  clear hHeld
                  obtain ⟨w6, hw6⟩ : ∃ w6, (w5.setCell ⟨wr.heap.size, 0, none⟩ (.slice A5 (pc + 1) c5)) = w6 := ⟨_, rfl⟩
                  obtain ⟨wz, hwz⟩ : ∃ wz, w6.drew = wz := ⟨_, rfl⟩
                  have hbz : Below w6.heap.size w6 wz := by rw [← hwz]; exact bq (Below.refl _ w6) 1
                  have HJ6 := HP5.out.2.2.1.1
                  have KO6 := HP5.out.2.2.1.2.1
                  have BW6 := HP5.out.2.2.1.2.2
                  have HR6 := HP5.out.2.2.2
                  rw [hw6] at HJ6 KO6 BW6 HR6
                  rw [hw6]
                  clear hw6 HP5 hS5 c5n f5n hS6
                  have HJZ := hid (HJ6.below hbz)
                  have KOZ := hid ((KOY.out.trans KO6).trans (keeps_below hbz))
                  have BWZ : Hid (Below w.heap.size W wz) := hid ((BWY.out.trans BW6).trans (hbz.mono HJ6.bel.size))
                  have HRZ := hid (own_below HR6 hbz)
                  have hsz : w.heap.size ≤ wz.heap.size := HJZ.out.bel.size
                  have HPG := hid (page_any Ab nb cb (innerL cs) wz ⟨by have := HRZ.out.1; simpa using this, Row.of_own HRZ.out⟩ (by omega))
                  have HCZ : Hid (wz.cell? ⟨bo, 0, none⟩ = some (.slice Aq oc cq)) := hid (by have h := HJZ.out.xo.cell; rw [HPC.out, HOC.out] at h; exact h)
                  clear hbz HJ6 KO6 BW6 HR6 KOY BWY HRY HJY HCX HCY HNY KOX BWX HRX HJX hSX hSY hSY' hsx hsy
                  gi_wp2
                  refine wpIn_region_held (S := (fun X => True)) (by kernel_rfl) (by kernel_rfl) (by first | assumption | trivial) (fun hHeld => ?_)
                  rw [hwz]
                  clear hwz
                  refine wpAnyH_take (i := 1) (v := ?_) rfl (by kernel_rfl) (by kernel_rfl) (by kernel_rfl) (fun _ _ _ h => h) (Or.inl ⟨by kernel_rfl, ?_⟩) (by first | assumption | trivial) ?_
                  rotate_left
                  · (intro wS hSw; (try dsimp only at hSw); go_simp; try with_reducible rfl)
                  (try simp only [List.append_eq, List.cons_append, List.nil_append, List.getElem_toArray, List.getElem_cons_succ, List.getElem_cons_zero, Act.put, List.setIfInBounds_toArray, List.set_cons_zero, List.set_cons_succ])
                  refine wpAnyH_ready (rs := [0, 2]) (by kernel_rfl) (by simp) ?_
                  refine AllReadyH.cons rfl (fun K hK => ?_) (AllReadyH.cons rfl (fun K hK => ?_) AllReadyH.nil)
                  · have czx := HCZ.out
                    go_simp
                    go_wp2_with fail
                    refine hK.out _ _ (by first | assumption | trivial) (fun hHeld => ?_)
                    clear hK K
                    (try simp only [List.append_eq, List.cons_append, List.nil_append, List.getElem_toArray, List.getElem_cons_succ, List.getElem_cons_zero, Act.put, List.setIfInBounds_toArray, List.set_cons_zero, List.set_cons_succ])
                    clear czx
                    refine wpAnyH_ready (rs := [2]) (by kernel_rfl) (by simp) ?_
                    refine AllReadyH.cons rfl (fun K hK => ?_) AllReadyH.nil
                    go_simp
                    (go_at_call 22; refine HPG.out.mono ?_; rintro e w7 ⟨g, rfl, hE, hg, b7⟩; have HE7 := hid hE; have HG7 := hid hg; have HB7 := hid b7; clear hE hg b7)
                    go_wp2_with fail
                    refine hK.out _ _ (by first | assumption | trivial) (fun hHeld => ?_)
                    clear hK K
                    (try simp only [List.append_eq, List.cons_append, List.nil_append, List.getElem_toArray, List.getElem_cons_succ, List.getElem_cons_zero, Act.put, List.setIfInBounds_toArray, List.set_cons_zero, List.set_cons_succ])
                    have HJ7 := hid (HJZ.out.below HB7.out)
                    have HC7 : Hid (w7.cell? ⟨bo, 0, none⟩ = some (.slice Aq oc cq)) := hid (by have h := HJ7.out.xo.cell; rw [HPC.out, HOC.out] at h; exact h)
                    obtain ⟨wv, hwv⟩ : ∃ wv, w7.alloc (.cells #[.slice (some ⟨g, 0, none⟩) 128 128] 34) = wv := ⟨_, rfl⟩
                    have hbv : Below w7.heap.size w7 wv := by rw [← hwv]; exact (Below.refl _ w7).alloc (Nat.le_refl _) _
                    have hnv : wv.heap[w7.heap.size]? = some (.cells #[.slice (some ⟨g, 0, none⟩) 128 128] 34) := by rw [← hwv]; exact heap_alloc_new w7 _
                    have HNV2 := hid hnv
                    have HJV := hid (HJ7.out.below hbv)
                    have HCV : Hid (wv.cell? ⟨bo, 0, none⟩ = some (.slice Aq oc cq)) := hid (by have h := HJV.out.xo.cell; rw [HPC.out, HOC.out] at h; exact h)
                    have KOV := hid ((KOZ.out.trans (keeps_below HB7.out)).trans (keeps_below hbv))
                    have BWV : Hid (Below w.heap.size W wv) := hid ((BWZ.out.trans (HB7.out.mono hsz)).trans (hbv.mono HJ7.out.bel.size))
                    have HJVO : Hid (wv.ownsRow w.heap.size 34 1 (.slice Aq oc cq) oc vq) := hid (by have h := HJV.out.out.own; rw [HPC.out, HOC.out] at h; exact h)
                    have HPV : Hid (PgOwn wv w.heap.size (.slice (some ⟨g, 0, none⟩) 128 128) (pageP (innerL cs))) := hid ⟨g, rfl, HE7.out.below hbv, Nat.le_trans hsz HG7.out, pageP_len _ (by rw [innerL_len, HQ.out]; omega)⟩
                    have hsv : w.heap.size ≤ wv.heap.size := HJV.out.bel.size
                    clear hbv hnv
                    refine wpAnyH_ready (rs := [3]) (by kernel_rfl) (by simp) ?_
                    refine AllReadyH.cons rfl (fun K hK => ?_) AllReadyH.nil
                    go_simp
                    skip
                    go_wp2_with fail
                    refine hK.out _ _ (by first | assumption | trivial) (fun hHeld => ?_)
                    clear hK K
                    (try simp only [List.append_eq, List.cons_append, List.nil_append, List.getElem_toArray, List.getElem_cons_succ, List.getElem_cons_zero, Act.put, List.setIfInBounds_toArray, List.set_cons_zero, List.set_cons_succ])
                    (try rw [hwv])
                    refine wpAnyH_ready (rs := [4]) (by kernel_rfl) (by simp) ?_
                    refine AllReadyH.cons rfl (fun K hK => ?_) AllReadyH.nil
                    rw [if_pos (by kernel_rfl)]
                    refine wp_append_row _ (.tmp 56) (.tmp 59) pgsT rfl w.heap.size (.slice Aq oc cq) oc vq rfl HJVO.out (some ⟨w7.heap.size, 0, none⟩) 1 1 [.slice (some ⟨g, 0, none⟩) 128 128] rfl rfl (Row.of_block HNV2.out) (by simp [Value.oneCell']) (by simp only [maxLen]; omega) (by omega) hsv ?_
                    intro A8 c8 w8 ho8 hg8 hh8
                    have HP8 : Hid (Boxed w8 bo 24 (.slice Aq oc cq) ∧ (BrI w ws bo wr.heap.size (wr.heap.size + 1) gl mo cur (.slice (some ⟨gl, 0, none⟩) m d) pgs (w8.setCell ⟨bo, 0, none⟩ (.slice A8 (oc + 1) c8)) (cp ++ [cs]) (cp ++ [cs]) A8 c8 (vq ++ [.slice (some ⟨g, 0, none⟩) 128 128]) A5 c5 ∧ KeepsOthers wv (w8.setCell ⟨bo, 0, none⟩ (.slice A8 (oc + 1) c8)) ∧ Below w.heap.size wv (w8.setCell ⟨bo, 0, none⟩ (.slice A8 (oc + 1) c8)))) := hid (by
                      have e1 := HPC.out
                      have e2 := HOC.out
                      subst e1
                      subst e2
                      have k1 : KT 34 wv w8 := KT.grown HJV.out.out.own hg8
                      exact ⟨k1.boxed (by decide) HJV.out.xo, HJV.out.oput hlow HPV.out hg8 ho8⟩)
                    clear ho8 hg8 hh8
                    refine hK.out _ _ (by first | assumption | trivial) (fun hHeld => ?_)
                    clear hK K
                    (try simp only [List.append_eq, List.cons_append, List.nil_append, List.getElem_toArray, List.getElem_cons_succ, List.getElem_cons_zero, Act.put, List.setIfInBounds_toArray, List.set_cons_zero, List.set_cons_succ])
                    have c8o := HP8.out.1.cell
                    have f8o := HP8.out.1.frozen
                    refine wpAnyH_ready (rs := [5]) (by kernel_rfl) (by simp) ?_
                    refine AllReadyH.cons rfl (fun K hK => ?_) AllReadyH.nil
                    go_simp
                    skip
                    go_wp2_with fail
                    refine hK.out _ _ (by first | assumption | trivial) (fun hHeld => ?_)
                    clear hK K
                    (try simp only [List.append_eq, List.cons_append, List.nil_append, List.getElem_toArray, List.getElem_cons_succ, List.getElem_cons_zero, Act.put, List.setIfInBounds_toArray, List.set_cons_zero, List.set_cons_succ])
                    refine wpAnyH_done (by kernel_rfl) ?_ _
                    refine QN.normal ?_
                    clear hHeld
                    gi_wp2
                    have HF := HP8.out.2.1
                    refine ⟨(KOV.out.trans HP8.out.2.2.1).from _, kpf_of (BWV.out.trans HP8.out.2.2.2) (HF.xf.trans HJ.out.xf.symm) (HF.xf2.trans HJ.out.xf2.symm), A8, c8, vq ++ [.slice (some ⟨g, 0, none⟩) 128 128], A5, c5, ?_⟩
                    rw [HPM.out]
                    exact HF
                  · go_simp
                    (go_at_call 22; refine HPG.out.mono ?_; rintro e w7 ⟨g, rfl, hE, hg, b7⟩; have HE7 := hid hE; have HG7 := hid hg; have HB7 := hid b7; clear hE hg b7)
                    go_wp2_with fail
                    refine hK.out _ _ (by first | assumption | trivial) (fun hHeld => ?_)
                    clear hK K
                    (try simp only [List.append_eq, List.cons_append, List.nil_append, List.getElem_toArray, List.getElem_cons_succ, List.getElem_cons_zero, Act.put, List.setIfInBounds_toArray, List.set_cons_zero, List.set_cons_succ])
                    have HJ7 := hid (HJZ.out.below HB7.out)
                    have HC7 : Hid (w7.cell? ⟨bo, 0, none⟩ = some (.slice Aq oc cq)) := hid (by have h := HJ7.out.xo.cell; rw [HPC.out, HOC.out] at h; exact h)
                    obtain ⟨wv, hwv⟩ : ∃ wv, w7.alloc (.cells #[.slice (some ⟨g, 0, none⟩) 128 128] 34) = wv := ⟨_, rfl⟩
                    have hbv : Below w7.heap.size w7 wv := by rw [← hwv]; exact (Below.refl _ w7).alloc (Nat.le_refl _) _
                    have hnv : wv.heap[w7.heap.size]? = some (.cells #[.slice (some ⟨g, 0, none⟩) 128 128] 34) := by rw [← hwv]; exact heap_alloc_new w7 _
                    have HNV2 := hid hnv
                    have HJV := hid (HJ7.out.below hbv)
                    have HCV : Hid (wv.cell? ⟨bo, 0, none⟩ = some (.slice Aq oc cq)) := hid (by have h := HJV.out.xo.cell; rw [HPC.out, HOC.out] at h; exact h)
                    have KOV := hid ((KOZ.out.trans (keeps_below HB7.out)).trans (keeps_below hbv))
                    have BWV : Hid (Below w.heap.size W wv) := hid ((BWZ.out.trans (HB7.out.mono hsz)).trans (hbv.mono HJ7.out.bel.size))
                    have HJVO : Hid (wv.ownsRow w.heap.size 34 1 (.slice Aq oc cq) oc vq) := hid (by have h := HJV.out.out.own; rw [HPC.out, HOC.out] at h; exact h)
                    have HPV : Hid (PgOwn wv w.heap.size (.slice (some ⟨g, 0, none⟩) 128 128) (pageP (innerL cs))) := hid ⟨g, rfl, HE7.out.below hbv, Nat.le_trans hsz HG7.out, pageP_len _ (by rw [innerL_len, HQ.out]; omega)⟩
                    have hsv : w.heap.size ≤ wv.heap.size := HJV.out.bel.size
                    clear hbv hnv
                    refine wpAnyH_ready (rs := [0, 3]) (by kernel_rfl) (by simp) ?_
                    refine AllReadyH.cons rfl (fun K hK => ?_) (AllReadyH.cons rfl (fun K hK => ?_) AllReadyH.nil)
                    · have c7x := HC7.out
                      go_simp
                      go_wp2_with fail
                      refine hK.out _ _ (by first | assumption | trivial) (fun hHeld => ?_)
                      clear hK K
                      (try simp only [List.append_eq, List.cons_append, List.nil_append, List.getElem_toArray, List.getElem_cons_succ, List.getElem_cons_zero, Act.put, List.setIfInBounds_toArray, List.set_cons_zero, List.set_cons_succ])
                      clear c7x
                      refine wpAnyH_ready (rs := [3]) (by kernel_rfl) (by simp) ?_
                      refine AllReadyH.cons rfl (fun K hK => ?_) AllReadyH.nil
                      go_simp
                      skip
                      go_wp2_with fail
                      refine hK.out _ _ (by first | assumption | trivial) (fun hHeld => ?_)
                      clear hK K
                      (try simp only [List.append_eq, List.cons_append, List.nil_append, List.getElem_toArray, List.getElem_cons_succ, List.getElem_cons_zero, Act.put, List.setIfInBounds_toArray, List.set_cons_zero, List.set_cons_succ])
                      (try rw [hwv])
                      refine wpAnyH_ready (rs := [4]) (by kernel_rfl) (by simp) ?_
                      refine AllReadyH.cons rfl (fun K hK => ?_) AllReadyH.nil
                      rw [if_pos (by kernel_rfl)]
                      refine wp_append_row _ (.tmp 56) (.tmp 59) pgsT rfl w.heap.size (.slice Aq oc cq) oc vq rfl HJVO.out (some ⟨w7.heap.size, 0, none⟩) 1 1 [.slice (some ⟨g, 0, none⟩) 128 128] rfl rfl (Row.of_block HNV2.out) (by simp [Value.oneCell']) (by simp only [maxLen]; omega) (by omega) hsv ?_
                      intro A8 c8 w8 ho8 hg8 hh8
                      have HP8 : Hid (Boxed w8 bo 24 (.slice Aq oc cq) ∧ (BrI w ws bo wr.heap.size (wr.heap.size + 1) gl mo cur (.slice (some ⟨gl, 0, none⟩) m d) pgs (w8.setCell ⟨bo, 0, none⟩ (.slice A8 (oc + 1) c8)) (cp ++ [cs]) (cp ++ [cs]) A8 c8 (vq ++ [.slice (some ⟨g, 0, none⟩) 128 128]) A5 c5 ∧ KeepsOthers wv (w8.setCell ⟨bo, 0, none⟩ (.slice A8 (oc + 1) c8)) ∧ Below w.heap.size wv (w8.setCell ⟨bo, 0, none⟩ (.slice A8 (oc + 1) c8)))) := hid (by
                        have e1 := HPC.out
                        have e2 := HOC.out
                        subst e1
                        subst e2
                        have k1 : KT 34 wv w8 := KT.grown HJV.out.out.own hg8
                        exact ⟨k1.boxed (by decide) HJV.out.xo, HJV.out.oput hlow HPV.out hg8 ho8⟩)
                      clear ho8 hg8 hh8
                      refine hK.out _ _ (by first | assumption | trivial) (fun hHeld => ?_)
                      clear hK K
                      (try simp only [List.append_eq, List.cons_append, List.nil_append, List.getElem_toArray, List.getElem_cons_succ, List.getElem_cons_zero, Act.put, List.setIfInBounds_toArray, List.set_cons_zero, List.set_cons_succ])
                      have c8o := HP8.out.1.cell
                      have f8o := HP8.out.1.frozen
                      refine wpAnyH_ready (rs := [5]) (by kernel_rfl) (by simp) ?_
                      refine AllReadyH.cons rfl (fun K hK => ?_) AllReadyH.nil
                      go_simp
                      skip
                      go_wp2_with fail
                      refine hK.out _ _ (by first | assumption | trivial) (fun hHeld => ?_)
                      clear hK K
                      (try simp only [List.append_eq, List.cons_append, List.nil_append, List.getElem_toArray, List.getElem_cons_succ, List.getElem_cons_zero, Act.put, List.setIfInBounds_toArray, List.set_cons_zero, List.set_cons_succ])
                      refine wpAnyH_done (by kernel_rfl) ?_ _
                      refine QN.normal ?_
                      clear hHeld
                      gi_wp2
                      have HF := HP8.out.2.1
                      refine ⟨(KOV.out.trans HP8.out.2.2.1).from _, kpf_of (BWV.out.trans HP8.out.2.2.2) (HF.xf.trans HJ.out.xf.symm) (HF.xf2.trans HJ.out.xf2.symm), A8, c8, vq ++ [.slice (some ⟨g, 0, none⟩) 128 128], A5, c5, ?_⟩
                      rw [HPM.out]
                      exact HF
                    · go_simp
                      go_wp2_with fail
                      refine hK.out _ _ (by first | assumption | trivial) (fun hHeld => ?_)
                      clear hK K
                      (try simp only [List.append_eq, List.cons_append, List.nil_append, List.getElem_toArray, List.getElem_cons_succ, List.getElem_cons_zero, Act.put, List.setIfInBounds_toArray, List.set_cons_zero, List.set_cons_succ])
                      (try rw [hwv])
                      have cvx := HCV.out
                      refine wpAnyH_ready (rs := [0]) (by kernel_rfl) (by simp) ?_
                      refine AllReadyH.cons rfl (fun K hK => ?_) AllReadyH.nil
                      go_simp
                      skip
                      go_wp2_with fail
                      refine hK.out _ _ (by first | assumption | trivial) (fun hHeld => ?_)
                      clear hK K
                      (try simp only [List.append_eq, List.cons_append, List.nil_append, List.getElem_toArray, List.getElem_cons_succ, List.getElem_cons_zero, Act.put, List.setIfInBounds_toArray, List.set_cons_zero, List.set_cons_succ])
                      clear cvx
                      (try rw [hwv])
                      refine wpAnyH_ready (rs := [4]) (by kernel_rfl) (by simp) ?_
                      refine AllReadyH.cons rfl (fun K hK => ?_) AllReadyH.nil
                      rw [if_pos (by kernel_rfl)]
                      refine wp_append_row _ (.tmp 56) (.tmp 59) pgsT rfl w.heap.size (.slice Aq oc cq) oc vq rfl HJVO.out (some ⟨w7.heap.size, 0, none⟩) 1 1 [.slice (some ⟨g, 0, none⟩) 128 128] rfl rfl (Row.of_block HNV2.out) (by simp [Value.oneCell']) (by simp only [maxLen]; omega) (by omega) hsv ?_
                      intro A8 c8 w8 ho8 hg8 hh8
                      have HP8 : Hid (Boxed w8 bo 24 (.slice Aq oc cq) ∧ (BrI w ws bo wr.heap.size (wr.heap.size + 1) gl mo cur (.slice (some ⟨gl, 0, none⟩) m d) pgs (w8.setCell ⟨bo, 0, none⟩ (.slice A8 (oc + 1) c8)) (cp ++ [cs]) (cp ++ [cs]) A8 c8 (vq ++ [.slice (some ⟨g, 0, none⟩) 128 128]) A5 c5 ∧ KeepsOthers wv (w8.setCell ⟨bo, 0, none⟩ (.slice A8 (oc + 1) c8)) ∧ Below w.heap.size wv (w8.setCell ⟨bo, 0, none⟩ (.slice A8 (oc + 1) c8)))) := hid (by
                        have e1 := HPC.out
                        have e2 := HOC.out
                        subst e1
                        subst e2
                        have k1 : KT 34 wv w8 := KT.grown HJV.out.out.own hg8
                        exact ⟨k1.boxed (by decide) HJV.out.xo, HJV.out.oput hlow HPV.out hg8 ho8⟩)
                      clear ho8 hg8 hh8
                      refine hK.out _ _ (by first | assumption | trivial) (fun hHeld => ?_)
                      clear hK K
                      (try simp only [List.append_eq, List.cons_append, List.nil_append, List.getElem_toArray, List.getElem_cons_succ, List.getElem_cons_zero, Act.put, List.setIfInBounds_toArray, List.set_cons_zero, List.set_cons_succ])
                      have c8o := HP8.out.1.cell
                      have f8o := HP8.out.1.frozen
                      refine wpAnyH_ready (rs := [5]) (by kernel_rfl) (by simp) ?_
                      refine AllReadyH.cons rfl (fun K hK => ?_) AllReadyH.nil
                      go_simp
                      skip
                      go_wp2_with fail
                      refine hK.out _ _ (by first | assumption | trivial) (fun hHeld => ?_)
                      clear hK K
                      (try simp only [List.append_eq, List.cons_append, List.nil_append, List.getElem_toArray, List.getElem_cons_succ, List.getElem_cons_zero, Act.put, List.setIfInBounds_toArray, List.set_cons_zero, List.set_cons_succ])
                      refine wpAnyH_done (by kernel_rfl) ?_ _
                      refine QN.normal ?_
                      clear hHeld
                      gi_wp2
                      have HF := HP8.out.2.1
                      refine ⟨(KOV.out.trans HP8.out.2.2.1).from _, kpf_of (BWV.out.trans HP8.out.2.2.2) (HF.xf.trans HJ.out.xf.symm) (HF.xf2.trans HJ.out.xf2.symm), A8, c8, vq ++ [.slice (some ⟨g, 0, none⟩) 128 128], A5, c5, ?_⟩
                      rw [HPM.out]
                      exact HF
                · go_simp
                  go_wp2_with fail
                  refine hK.out _ _ (by first | assumption | trivial) (fun hHeld => ?_)
                  clear hK K
                  (try simp only [List.append_eq, List.cons_append, List.nil_append, List.getElem_toArray, List.getElem_cons_succ, List.getElem_cons_zero, Act.put, List.setIfInBounds_toArray, List.set_cons_zero, List.set_cons_succ])
                  (try rw [hwy] at hHeld)
                  (try rw [hwy])
                  have cny := HCY.out
                  refine wpAnyH_ready (rs := [0]) (by kernel_rfl) (by simp) ?_
                  refine AllReadyH.cons rfl (fun K hK => ?_) AllReadyH.nil
                  go_simp
                  skip
                  go_wp2_with fail
                  refine hK.out _ _ (by first | assumption | trivial) (fun hHeld => ?_)
                  clear hK K
                  (try simp only [List.append_eq, List.cons_append, List.nil_append, List.getElem_toArray, List.getElem_cons_succ, List.getElem_cons_zero, Act.put, List.setIfInBounds_toArray, List.set_cons_zero, List.set_cons_succ])
                  clear cny
                  (try rw [hwy] at hHeld)
                  (try rw [hwy])
                  refine wpAnyH_ready (rs := [9]) (by kernel_rfl) (by simp) ?_
                  refine AllReadyH.cons rfl (fun K hK => ?_) AllReadyH.nil
                  rw [if_pos (by kernel_rfl)]
                  refine wp_append_row _ (.tmp 46) (.tmp 54) kdT rfl ws.heap.size (.slice Bq pc dq) pc ((kidsK mo cp).flatMap kdC) rfl HJYN.out (some ⟨wx.heap.size, 0, none⟩) 1 1 [.int .u64 (leastK cs : Int), .int .i64 (oc : Int)] rfl rfl (Row.of_block HNY.out) (by simp [Value.oneCell']) (by simp only [maxLen]; omega) (by omega) hsy ?_
                  intro A5 c5 w5 ho5 hg5 hh5
                  have HP5 : Hid (Boxed w5 wr.heap.size 50 (.slice Bq pc dq) ∧ (w5.cell? ⟨gl, x * 2, none⟩ = some (.int .u64 (leastK cs : Int)) ∧ w5.cell? ⟨bo, 0, none⟩ = some (.slice Aq oc cq)) ∧ (BrI w ws bo wr.heap.size (wr.heap.size + 1) gl mo cur (.slice (some ⟨gl, 0, none⟩) m d) pgs (w5.setCell ⟨wr.heap.size, 0, none⟩ (.slice A5 (pc + 1) c5)) (cp ++ [cs]) cp Aq cq vq A5 c5 ∧ KeepsOthers wy (w5.setCell ⟨wr.heap.size, 0, none⟩ (.slice A5 (pc + 1) c5)) ∧ Below w.heap.size wy (w5.setCell ⟨wr.heap.size, 0, none⟩ (.slice A5 (pc + 1) c5))) ∧ (w5.setCell ⟨wr.heap.size, 0, none⟩ (.slice A5 (pc + 1) c5)).ownsRow W.heap.size 5 1 (.slice Ab nb cb) nb ((innerL cs).map B8)) := hid (by
                    have e1 := HPC.out
                    have e2 := HOC.out
                    subst e1
                    subst e2
                    have k1 : KT 57 wy w5 := KT.grown HJY.out.nxt hg5
                    have b5 := k1.boxed (by decide) HJY.out.xn
                    refine ⟨b5, ⟨HX0.out _ ?_, (k1.boxed (by decide) HJY.out.xo).cell⟩, HJY.out.nput (by omega) (by omega) hwsz (by omega) hg5 ho5, (KT.set b5 _).owns (by decide) (own_grown HRY.out HJY.out.nxt (by decide) hg5)⟩
                    exact (hg5.block gl (lt_of_heap HJY.out.lay) (fun e => by have := own_base HJY.out.nxt gl e.symm; omega)).trans HJY.out.lay)
                  clear ho5 hg5 hh5
                  have hS5 := HP5.out.2.1
                  refine hK.out _ _ (by first | assumption | trivial) (fun hHeld => ?_)
                  clear hK K
                  (try simp only [List.append_eq, List.cons_append, List.nil_append, List.getElem_toArray, List.getElem_cons_succ, List.getElem_cons_zero, Act.put, List.setIfInBounds_toArray, List.set_cons_zero, List.set_cons_succ])
                  have c5n := HP5.out.1.cell
                  have f5n := HP5.out.1.frozen
                  have hS6 : (w5.setCell ⟨wr.heap.size, 0, none⟩ (.slice A5 (pc + 1) c5)).cell? ⟨gl, x * 2, none⟩ = some (.int .u64 (leastK cs : Int)) ∧ (w5.setCell ⟨wr.heap.size, 0, none⟩ (.slice A5 (pc + 1) c5)).cell? ⟨bo, 0, none⟩ = some (.slice Aq oc cq) := ⟨HX0.out _ HP5.out.2.2.1.1.lay, by have h := HP5.out.2.2.1.1.xo.cell; rw [HPC.out, HOC.out] at h; exact h⟩
                  refine wpAnyH_ready (rs := [10]) (by kernel_rfl) (by simp) ?_
                  refine AllReadyH.cons rfl (fun K hK => ?_) AllReadyH.nil
                  go_simp
                  skip
                  go_wp2_with fail
                  refine hK.out _ _ (by first | assumption | trivial) (fun hHeld => ?_)
                  clear hK K
                  (try simp only [List.append_eq, List.cons_append, List.nil_append, List.getElem_toArray, List.getElem_cons_succ, List.getElem_cons_zero, Act.put, List.setIfInBounds_toArray, List.set_cons_zero, List.set_cons_succ])
                  refine wpAnyH_done (by kernel_rfl) ?_ _
                  refine QN.normal ?_
                  clear hHeld
                  obtain ⟨w6, hw6⟩ : ∃ w6, (w5.setCell ⟨wr.heap.size, 0, none⟩ (.slice A5 (pc + 1) c5)) = w6 := ⟨_, rfl⟩
                  obtain ⟨wz, hwz⟩ : ∃ wz, w6.drew = wz := ⟨_, rfl⟩
                  have hbz : Below w6.heap.size w6 wz := by rw [← hwz]; exact bq (Below.refl _ w6) 1
                  have HJ6 := HP5.out.2.2.1.1
                  have KO6 := HP5.out.2.2.1.2.1
                  have BW6 := HP5.out.2.2.1.2.2
                  have HR6 := HP5.out.2.2.2
                  rw [hw6] at HJ6 KO6 BW6 HR6
                  rw [hw6]
                  clear hw6 HP5 hS5 c5n f5n hS6
                  have HJZ := hid (HJ6.below hbz)
                  have KOZ := hid ((KOY.out.trans KO6).trans (keeps_below hbz))
                  have BWZ : Hid (Below w.heap.size W wz) := hid ((BWY.out.trans BW6).trans (hbz.mono HJ6.bel.size))
                  have HRZ := hid (own_below HR6 hbz)
                  have hsz : w.heap.size ≤ wz.heap.size := HJZ.out.bel.size
                  have HPG := hid (page_any Ab nb cb (innerL cs) wz ⟨by have := HRZ.out.1; simpa using this, Row.of_own HRZ.out⟩ (by omega))
                  have HCZ : Hid (wz.cell? ⟨bo, 0, none⟩ = some (.slice Aq oc cq)) := hid (by have h := HJZ.out.xo.cell; rw [HPC.out, HOC.out] at h; exact h)
                  clear hbz HJ6 KO6 BW6 HR6 KOY BWY HRY HJY HCX HCY HNY KOX BWX HRX HJX hSX hSY hSY' hsx hsy
                  gi_wp2
                  refine wpIn_region_held (S := (fun X => True)) (by kernel_rfl) (by kernel_rfl) (by first | assumption | trivial) (fun hHeld => ?_)
                  rw [hwz]
                  clear hwz
                  refine wpAnyH_take (i := 1) (v := ?_) rfl (by kernel_rfl) (by kernel_rfl) (by kernel_rfl) (fun _ _ _ h => h) (Or.inl ⟨by kernel_rfl, ?_⟩) (by first | assumption | trivial) ?_
                  rotate_left
                  · (intro wS hSw; (try dsimp only at hSw); go_simp; try with_reducible rfl)
                  (try simp only [List.append_eq, List.cons_append, List.nil_append, List.getElem_toArray, List.getElem_cons_succ, List.getElem_cons_zero, Act.put, List.setIfInBounds_toArray, List.set_cons_zero, List.set_cons_succ])
                  refine wpAnyH_ready (rs := [0, 2]) (by kernel_rfl) (by simp) ?_
                  refine AllReadyH.cons rfl (fun K hK => ?_) (AllReadyH.cons rfl (fun K hK => ?_) AllReadyH.nil)
                  · have czx := HCZ.out
                    go_simp
                    go_wp2_with fail
                    refine hK.out _ _ (by first | assumption | trivial) (fun hHeld => ?_)
                    clear hK K
                    (try simp only [List.append_eq, List.cons_append, List.nil_append, List.getElem_toArray, List.getElem_cons_succ, List.getElem_cons_zero, Act.put, List.setIfInBounds_toArray, List.set_cons_zero, List.set_cons_succ])
                    clear czx
                    refine wpAnyH_ready (rs := [2]) (by kernel_rfl) (by simp) ?_
                    refine AllReadyH.cons rfl (fun K hK => ?_) AllReadyH.nil
                    go_simp
                    (go_at_call 22; refine HPG.out.mono ?_; rintro e w7 ⟨g, rfl, hE, hg, b7⟩; have HE7 := hid hE; have HG7 := hid hg; have HB7 := hid b7; clear hE hg b7)
                    go_wp2_with fail
                    refine hK.out _ _ (by first | assumption | trivial) (fun hHeld => ?_)
                    clear hK K
                    (try simp only [List.append_eq, List.cons_append, List.nil_append, List.getElem_toArray, List.getElem_cons_succ, List.getElem_cons_zero, Act.put, List.setIfInBounds_toArray, List.set_cons_zero, List.set_cons_succ])
                    have HJ7 := hid (HJZ.out.below HB7.out)
                    have HC7 : Hid (w7.cell? ⟨bo, 0, none⟩ = some (.slice Aq oc cq)) := hid (by have h := HJ7.out.xo.cell; rw [HPC.out, HOC.out] at h; exact h)
                    obtain ⟨wv, hwv⟩ : ∃ wv, w7.alloc (.cells #[.slice (some ⟨g, 0, none⟩) 128 128] 34) = wv := ⟨_, rfl⟩
                    have hbv : Below w7.heap.size w7 wv := by rw [← hwv]; exact (Below.refl _ w7).alloc (Nat.le_refl _) _
                    have hnv : wv.heap[w7.heap.size]? = some (.cells #[.slice (some ⟨g, 0, none⟩) 128 128] 34) := by rw [← hwv]; exact heap_alloc_new w7 _
                    have HNV2 := hid hnv
                    have HJV := hid (HJ7.out.below hbv)
                    have HCV : Hid (wv.cell? ⟨bo, 0, none⟩ = some (.slice Aq oc cq)) := hid (by have h := HJV.out.xo.cell; rw [HPC.out, HOC.out] at h; exact h)
                    have KOV := hid ((KOZ.out.trans (keeps_below HB7.out)).trans (keeps_below hbv))
                    have BWV : Hid (Below w.heap.size W wv) := hid ((BWZ.out.trans (HB7.out.mono hsz)).trans (hbv.mono HJ7.out.bel.size))
                    have HJVO : Hid (wv.ownsRow w.heap.size 34 1 (.slice Aq oc cq) oc vq) := hid (by have h := HJV.out.out.own; rw [HPC.out, HOC.out] at h; exact h)
                    have HPV : Hid (PgOwn wv w.heap.size (.slice (some ⟨g, 0, none⟩) 128 128) (pageP (innerL cs))) := hid ⟨g, rfl, HE7.out.below hbv, Nat.le_trans hsz HG7.out, pageP_len _ (by rw [innerL_len, HQ.out]; omega)⟩
                    have hsv : w.heap.size ≤ wv.heap.size := HJV.out.bel.size
                    clear hbv hnv
                    refine wpAnyH_ready (rs := [3]) (by kernel_rfl) (by simp) ?_
                    refine AllReadyH.cons rfl (fun K hK => ?_) AllReadyH.nil
                    go_simp
                    skip
                    go_wp2_with fail
                    refine hK.out _ _ (by first | assumption | trivial) (fun hHeld => ?_)
                    clear hK K
                    (try simp only [List.append_eq, List.cons_append, List.nil_append, List.getElem_toArray, List.getElem_cons_succ, List.getElem_cons_zero, Act.put, List.setIfInBounds_toArray, List.set_cons_zero, List.set_cons_succ])
                    (try rw [hwv])
                    refine wpAnyH_ready (rs := [4]) (by kernel_rfl) (by simp) ?_
                    refine AllReadyH.cons rfl (fun K hK => ?_) AllReadyH.nil
                    rw [if_pos (by kernel_rfl)]
                    refine wp_append_row _ (.tmp 56) (.tmp 59) pgsT rfl w.heap.size (.slice Aq oc cq) oc vq rfl HJVO.out (some ⟨w7.heap.size, 0, none⟩) 1 1 [.slice (some ⟨g, 0, none⟩) 128 128] rfl rfl (Row.of_block HNV2.out) (by simp [Value.oneCell']) (by simp only [maxLen]; omega) (by omega) hsv ?_
                    intro A8 c8 w8 ho8 hg8 hh8
                    have HP8 : Hid (Boxed w8 bo 24 (.slice Aq oc cq) ∧ (BrI w ws bo wr.heap.size (wr.heap.size + 1) gl mo cur (.slice (some ⟨gl, 0, none⟩) m d) pgs (w8.setCell ⟨bo, 0, none⟩ (.slice A8 (oc + 1) c8)) (cp ++ [cs]) (cp ++ [cs]) A8 c8 (vq ++ [.slice (some ⟨g, 0, none⟩) 128 128]) A5 c5 ∧ KeepsOthers wv (w8.setCell ⟨bo, 0, none⟩ (.slice A8 (oc + 1) c8)) ∧ Below w.heap.size wv (w8.setCell ⟨bo, 0, none⟩ (.slice A8 (oc + 1) c8)))) := hid (by
                      have e1 := HPC.out
                      have e2 := HOC.out
                      subst e1
                      subst e2
                      have k1 : KT 34 wv w8 := KT.grown HJV.out.out.own hg8
                      exact ⟨k1.boxed (by decide) HJV.out.xo, HJV.out.oput hlow HPV.out hg8 ho8⟩)
                    clear ho8 hg8 hh8
                    refine hK.out _ _ (by first | assumption | trivial) (fun hHeld => ?_)
                    clear hK K
                    (try simp only [List.append_eq, List.cons_append, List.nil_append, List.getElem_toArray, List.getElem_cons_succ, List.getElem_cons_zero, Act.put, List.setIfInBounds_toArray, List.set_cons_zero, List.set_cons_succ])
                    have c8o := HP8.out.1.cell
                    have f8o := HP8.out.1.frozen
                    refine wpAnyH_ready (rs := [5]) (by kernel_rfl) (by simp) ?_
                    refine AllReadyH.cons rfl (fun K hK => ?_) AllReadyH.nil
                    go_simp
                    skip
                    go_wp2_with fail
                    refine hK.out _ _ (by first | assumption | trivial) (fun hHeld => ?_)
                    clear hK K
                    (try simp only [List.append_eq, List.cons_append, List.nil_append, List.getElem_toArray, List.getElem_cons_succ, List.getElem_cons_zero, Act.put, List.setIfInBounds_toArray, List.set_cons_zero, List.set_cons_succ])
                    refine wpAnyH_done (by kernel_rfl) ?_ _
                    refine QN.normal ?_
                    clear hHeld
                    gi_wp2
                    have HF := HP8.out.2.1
                    refine ⟨(KOV.out.trans HP8.out.2.2.1).from _, kpf_of (BWV.out.trans HP8.out.2.2.2) (HF.xf.trans HJ.out.xf.symm) (HF.xf2.trans HJ.out.xf2.symm), A8, c8, vq ++ [.slice (some ⟨g, 0, none⟩) 128 128], A5, c5, ?_⟩
                    rw [HPM.out]
                    exact HF
                  · go_simp
                    (go_at_call 22; refine HPG.out.mono ?_; rintro e w7 ⟨g, rfl, hE, hg, b7⟩; have HE7 := hid hE; have HG7 := hid hg; have HB7 := hid b7; clear hE hg b7)
                    go_wp2_with fail
                    refine hK.out _ _ (by first | assumption | trivial) (fun hHeld => ?_)
                    clear hK K
                    (try simp only [List.append_eq, List.cons_append, List.nil_append, List.getElem_toArray, List.getElem_cons_succ, List.getElem_cons_zero, Act.put, List.setIfInBounds_toArray, List.set_cons_zero, List.set_cons_succ])
                    have HJ7 := hid (HJZ.out.below HB7.out)
                    have HC7 : Hid (w7.cell? ⟨bo, 0, none⟩ = some (.slice Aq oc cq)) := hid (by have h := HJ7.out.xo.cell; rw [HPC.out, HOC.out] at h; exact h)
                    obtain ⟨wv, hwv⟩ : ∃ wv, w7.alloc (.cells #[.slice (some ⟨g, 0, none⟩) 128 128] 34) = wv := ⟨_, rfl⟩
                    have hbv : Below w7.heap.size w7 wv := by rw [← hwv]; exact (Below.refl _ w7).alloc (Nat.le_refl _) _
                    have hnv : wv.heap[w7.heap.size]? = some (.cells #[.slice (some ⟨g, 0, none⟩) 128 128] 34) := by rw [← hwv]; exact heap_alloc_new w7 _
                    have HNV2 := hid hnv
                    have HJV := hid (HJ7.out.below hbv)
                    have HCV : Hid (wv.cell? ⟨bo, 0, none⟩ = some (.slice Aq oc cq)) := hid (by have h := HJV.out.xo.cell; rw [HPC.out, HOC.out] at h; exact h)
                    have KOV := hid ((KOZ.out.trans (keeps_below HB7.out)).trans (keeps_below hbv))
                    have BWV : Hid (Below w.heap.size W wv) := hid ((BWZ.out.trans (HB7.out.mono hsz)).trans (hbv.mono HJ7.out.bel.size))
                    have HJVO : Hid (wv.ownsRow w.heap.size 34 1 (.slice Aq oc cq) oc vq) := hid (by have h := HJV.out.out.own; rw [HPC.out, HOC.out] at h; exact h)
                    have HPV : Hid (PgOwn wv w.heap.size (.slice (some ⟨g, 0, none⟩) 128 128) (pageP (innerL cs))) := hid ⟨g, rfl, HE7.out.below hbv, Nat.le_trans hsz HG7.out, pageP_len _ (by rw [innerL_len, HQ.out]; omega)⟩
                    have hsv : w.heap.size ≤ wv.heap.size := HJV.out.bel.size
                    clear hbv hnv
                    refine wpAnyH_ready (rs := [0, 3]) (by kernel_rfl) (by simp) ?_
                    refine AllReadyH.cons rfl (fun K hK => ?_) (AllReadyH.cons rfl (fun K hK => ?_) AllReadyH.nil)
                    · have c7x := HC7.out
                      go_simp
                      go_wp2_with fail
                      refine hK.out _ _ (by first | assumption | trivial) (fun hHeld => ?_)
                      clear hK K
                      (try simp only [List.append_eq, List.cons_append, List.nil_append, List.getElem_toArray, List.getElem_cons_succ, List.getElem_cons_zero, Act.put, List.setIfInBounds_toArray, List.set_cons_zero, List.set_cons_succ])
                      clear c7x
                      refine wpAnyH_ready (rs := [3]) (by kernel_rfl) (by simp) ?_
                      refine AllReadyH.cons rfl (fun K hK => ?_) AllReadyH.nil
                      go_simp
                      skip
                      go_wp2_with fail
                      refine hK.out _ _ (by first | assumption | trivial) (fun hHeld => ?_)
                      clear hK K
                      (try simp only [List.append_eq, List.cons_append, List.nil_append, List.getElem_toArray, List.getElem_cons_succ, List.getElem_cons_zero, Act.put, List.setIfInBounds_toArray, List.set_cons_zero, List.set_cons_succ])
                      (try rw [hwv])
                      refine wpAnyH_ready (rs := [4]) (by kernel_rfl) (by simp) ?_
                      refine AllReadyH.cons rfl (fun K hK => ?_) AllReadyH.nil
                      rw [if_pos (by kernel_rfl)]
                      refine wp_append_row _ (.tmp 56) (.tmp 59) pgsT rfl w.heap.size (.slice Aq oc cq) oc vq rfl HJVO.out (some ⟨w7.heap.size, 0, none⟩) 1 1 [.slice (some ⟨g, 0, none⟩) 128 128] rfl rfl (Row.of_block HNV2.out) (by simp [Value.oneCell']) (by simp only [maxLen]; omega) (by omega) hsv ?_
                      intro A8 c8 w8 ho8 hg8 hh8
                      have HP8 : Hid (Boxed w8 bo 24 (.slice Aq oc cq) ∧ (BrI w ws bo wr.heap.size (wr.heap.size + 1) gl mo cur (.slice (some ⟨gl, 0, none⟩) m d) pgs (w8.setCell ⟨bo, 0, none⟩ (.slice A8 (oc + 1) c8)) (cp ++ [cs]) (cp ++ [cs]) A8 c8 (vq ++ [.slice (some ⟨g, 0, none⟩) 128 128]) A5 c5 ∧ KeepsOthers wv (w8.setCell ⟨bo, 0, none⟩ (.slice A8 (oc + 1) c8)) ∧ Below w.heap.size wv (w8.setCell ⟨bo, 0, none⟩ (.slice A8 (oc + 1) c8)))) := hid (by
                        have e1 := HPC.out
                        have e2 := HOC.out
                        subst e1
                        subst e2
                        have k1 : KT 34 wv w8 := KT.grown HJV.out.out.own hg8
                        exact ⟨k1.boxed (by decide) HJV.out.xo, HJV.out.oput hlow HPV.out hg8 ho8⟩)
                      clear ho8 hg8 hh8
                      refine hK.out _ _ (by first | assumption | trivial) (fun hHeld => ?_)
                      clear hK K
                      (try simp only [List.append_eq, List.cons_append, List.nil_append, List.getElem_toArray, List.getElem_cons_succ, List.getElem_cons_zero, Act.put, List.setIfInBounds_toArray, List.set_cons_zero, List.set_cons_succ])
                      have c8o := HP8.out.1.cell
                      have f8o := HP8.out.1.frozen
                      refine wpAnyH_ready (rs := [5]) (by kernel_rfl) (by simp) ?_
                      refine AllReadyH.cons rfl (fun K hK => ?_) AllReadyH.nil
                      go_simp
                      skip
                      go_wp2_with fail
                      refine hK.out _ _ (by first | assumption | trivial) (fun hHeld => ?_)
                      clear hK K
                      (try simp only [List.append_eq, List.cons_append, List.nil_append, List.getElem_toArray, List.getElem_cons_succ, List.getElem_cons_zero, Act.put, List.setIfInBounds_toArray, List.set_cons_zero, List.set_cons_succ])
                      refine wpAnyH_done (by kernel_rfl) ?_ _
                      refine QN.normal ?_
                      clear hHeld
                      gi_wp2
                      have HF := HP8.out.2.1
                      refine ⟨(KOV.out.trans HP8.out.2.2.1).from _, kpf_of (BWV.out.trans HP8.out.2.2.2) (HF.xf.trans HJ.out.xf.symm) (HF.xf2.trans HJ.out.xf2.symm), A8, c8, vq ++ [.slice (some ⟨g, 0, none⟩) 128 128], A5, c5, ?_⟩
                      rw [HPM.out]
                      exact HF
                    · go_simp
                      go_wp2_with fail
                      refine hK.out _ _ (by first | assumption | trivial) (fun hHeld => ?_)
                      clear hK K
                      (try simp only [List.append_eq, List.cons_append, List.nil_append, List.getElem_toArray, List.getElem_cons_succ, List.getElem_cons_zero, Act.put, List.setIfInBounds_toArray, List.set_cons_zero, List.set_cons_succ])
                      (try rw [hwv])
                      have cvx := HCV.out
                      refine wpAnyH_ready (rs := [0]) (by kernel_rfl) (by simp) ?_
                      refine AllReadyH.cons rfl (fun K hK => ?_) AllReadyH.nil
                      go_simp
                      skip
                      go_wp2_with fail
                      refine hK.out _ _ (by first | assumption | trivial) (fun hHeld => ?_)
                      clear hK K
                      (try simp only [List.append_eq, List.cons_append, List.nil_append, List.getElem_toArray, List.getElem_cons_succ, List.getElem_cons_zero, Act.put, List.setIfInBounds_toArray, List.set_cons_zero, List.set_cons_succ])
                      clear cvx
                      (try rw [hwv])
                      refine wpAnyH_ready (rs := [4]) (by kernel_rfl) (by simp) ?_
                      refine AllReadyH.cons rfl (fun K hK => ?_) AllReadyH.nil
                      rw [if_pos (by kernel_rfl)]
                      refine wp_append_row _ (.tmp 56) (.tmp 59) pgsT rfl w.heap.size (.slice Aq oc cq) oc vq rfl HJVO.out (some ⟨w7.heap.size, 0, none⟩) 1 1 [.slice (some ⟨g, 0, none⟩) 128 128] rfl rfl (Row.of_block HNV2.out) (by simp [Value.oneCell']) (by simp only [maxLen]; omega) (by omega) hsv ?_
                      intro A8 c8 w8 ho8 hg8 hh8
                      have HP8 : Hid (Boxed w8 bo 24 (.slice Aq oc cq) ∧ (BrI w ws bo wr.heap.size (wr.heap.size + 1) gl mo cur (.slice (some ⟨gl, 0, none⟩) m d) pgs (w8.setCell ⟨bo, 0, none⟩ (.slice A8 (oc + 1) c8)) (cp ++ [cs]) (cp ++ [cs]) A8 c8 (vq ++ [.slice (some ⟨g, 0, none⟩) 128 128]) A5 c5 ∧ KeepsOthers wv (w8.setCell ⟨bo, 0, none⟩ (.slice A8 (oc + 1) c8)) ∧ Below w.heap.size wv (w8.setCell ⟨bo, 0, none⟩ (.slice A8 (oc + 1) c8)))) := hid (by
                        have e1 := HPC.out
                        have e2 := HOC.out
                        subst e1
                        subst e2
                        have k1 : KT 34 wv w8 := KT.grown HJV.out.out.own hg8
                        exact ⟨k1.boxed (by decide) HJV.out.xo, HJV.out.oput hlow HPV.out hg8 ho8⟩)
                      clear ho8 hg8 hh8
                      refine hK.out _ _ (by first | assumption | trivial) (fun hHeld => ?_)
                      clear hK K
                      (try simp only [List.append_eq, List.cons_append, List.nil_append, List.getElem_toArray, List.getElem_cons_succ, List.getElem_cons_zero, Act.put, List.setIfInBounds_toArray, List.set_cons_zero, List.set_cons_succ])
                      have c8o := HP8.out.1.cell
                      have f8o := HP8.out.1.frozen
                      refine wpAnyH_ready (rs := [5]) (by kernel_rfl) (by simp) ?_
                      refine AllReadyH.cons rfl (fun K hK => ?_) AllReadyH.nil
                      go_simp
                      skip
                      go_wp2_with fail
                      refine hK.out _ _ (by first | assumption | trivial) (fun hHeld => ?_)
                      clear hK K
                      (try simp only [List.append_eq, List.cons_append, List.nil_append, List.getElem_toArray, List.getElem_cons_succ, List.getElem_cons_zero, Act.put, List.setIfInBounds_toArray, List.set_cons_zero, List.set_cons_succ])
                      refine wpAnyH_done (by kernel_rfl) ?_ _
                      refine QN.normal ?_
                      clear hHeld
                      gi_wp2
                      have HF := HP8.out.2.1
                      refine ⟨(KOV.out.trans HP8.out.2.2.1).from _, kpf_of (BWV.out.trans HP8.out.2.2.2) (HF.xf.trans HJ.out.xf.symm) (HF.xf2.trans HJ.out.xf2.symm), A8, c8, vq ++ [.slice (some ⟨g, 0, none⟩) 128 128], A5, c5, ?_⟩
                      rw [HPM.out]
                      exact HF
      · have g1 : decide ((1 : Int) < (m : Int)) = false := lt_f (a := 1) hm1
        have g1' := lt_nf hm1
        have HBX := hid HI.out.box
        have cb := HBX.out.cell
        obtain ⟨vs, pgs, lv, f, ho, hk, hlm, hmf, hlev, hlok⟩ := HI.out.lv
        have HF : Hid (OutI w.heap.size wr Ao mo co vs (buildP l)) := hid (by
          rw [levF_done _ _ _ (by omega)] at hlev
          rw [← hlev]
          exact ho)
        clear ho hk hlm hlev hlok
        go_wp2_with fail
        refine leaves_all w.heap.size ds wr HI.out.dfs (fun W' k1 k2 => ⟨_, results_tmp2 rfl _ _ _, ?_⟩)
        exact ⟨HI.out.bel.trans k2, .inr ⟨HMB.out, Ao, mo, co, vs, rfl, k1.out (by decide) (by decide) HF.out⟩⟩
end Go.Proofs.Ytlhngieinmgooaa
