/- FormulaJoins: the law's body. -/
import Derived.Test.YtddpojinlapmfaaJoinA
import Derived.Test.YtddpojinlapmfaaLinkA
import Derived.Test.YtddpojinlapmfaaRefR
import Derived.Test.YtddpojinlapmfaaAwake
import Derived.Test.YtddpojinlapmfaaOpen
namespace Go.Proofs.Ytddpojinlapmfaa.PRef
set_option linter.unusedVariables false
set_option linter.unusedSimpArgs false
open Go.RowKit Go.Proofs.YtddpojinlapmfaaW.PrintWords Go.Proofs.YtddpojinlapmfaaW.PrintLast Go.Proofs.YtddpojinlapmfaaW.PrintMore

theorem RowP.seq {w : World} {base : Nat} {v : Value} {n : Nat} {vs : List Value} (h : RowP w base 43 1 v n vs) : ∃ A c, v = .slice A n c ∧ n ≤ c ∧ (0 < n → ∃ g, A = some ⟨g, 0, none⟩ ∧ ∀ j (h : j < vs.length), w.cell? ⟨g, j, none⟩ = some vs[j]) := by
  obtain ⟨A, c, e, hc⟩ := h.slice
  refine ⟨A, c, e, hc, fun h0 => ?_⟩
  have hl := h.1
  obtain ⟨g, c', e', _⟩ := h.cell 0 (by omega)
  rw [e] at e'
  cases e'
  refine ⟨g, rfl, fun j hj => ?_⟩
  obtain ⟨g', c', e', h2⟩ := h.cell j hj
  rw [e] at e'
  cases e'
  exact h2
/-- Rows of cells of trees that read in w. -/
def CellsR (w : World) (cs : List Value) (rs : List S29) : Prop := cs.length = rs.length * 9 ∧ ∀ j (h : j < rs.length), ∃ c, c.length = 9 ∧ k29.K w rs[j] c ∧ ∀ i u, c[i]? = some u → cs[j * 9 + i]? = some u
theorem CellsR.snoc {w : World} {cs : List Value} {rs : List S29} (h : CellsR w cs rs) {x : S29} {c : List Value} (hc : c.length = 9) (hK : k29.K w x c) : CellsR w (cs ++ c) (rs ++ [x]) := by
  refine ⟨by rw [List.length_append, List.length_append, h.1, hc]; simp; omega, fun j hj => ?_⟩
  by_cases hlt : j < rs.length
  · obtain ⟨d, d1, d2, d3⟩ := h.2 j hlt
    refine ⟨d, d1, by rw [List.getElem_append_left hlt]; exact d2, fun i u hu => ?_⟩
    have := d3 i u hu
    rw [List.getElem?_append_left (by have := List.getElem?_eq_some_iff.1 this; exact this.1)]
    exact this
  · obtain rfl : j = rs.length := by simp at hj; omega
    refine ⟨c, hc, by simpa using hK, fun i u hu => ?_⟩
    rw [← h.1, List.getElem?_append_right (by omega)]
    simpa using hu
theorem CellsR.reads {w w' : World} {base : Nat} {v : Value} {cs : List Value} {rs : List S29} (h : CellsR w cs rs) (hb : Below w.heap.size w w') (hr : RowP w' base 29 9 v rs.length cs) (hl : rs.length ≤ 1000) : ∃ A c, v = .slice A rs.length c ∧ rs.length ≤ c ∧ k29.C w' A rs.length rs := by
  obtain ⟨A, c, e, hc⟩ := hr.slice
  refine ⟨A, c, e, hc, rfl, by omega, fun h0 => ?_⟩
  have hl := h.1
  obtain ⟨g, c', e', _⟩ := hr.cell 0 (by omega)
  rw [e] at e'
  cases e'
  refine ⟨_, rfl, fun j p hp => ?_⟩
  obtain ⟨hj, rfl⟩ := List.getElem?_eq_some_iff.1 hp
  obtain ⟨d, d1, d2, d3⟩ := h.2 j hj
  refine ⟨d, d1, k29.K_below hb d2, fun i u hu => ?_⟩
  have := d3 i u hu
  obtain ⟨hx, rfl⟩ := List.getElem?_eq_some_iff.1 this
  obtain ⟨g', c', e', h2⟩ := hr.cell (j * 9 + i) hx
  rw [e] at e'
  cases e'
  rw [add_plain]
  exact h2
theorem info43 : (Try.prog.info? 43).map (fun i => (i.zero, i.size, i.bytes)) = some (some .nilIface, 1, 16) := by kernel_rfl
theorem belowE {w a b : World} (h : Below w.heap.size w a) (k : Below a.heap.size a b) : Below w.heap.size w b := h.trans (k.mono h.size)
theorem few_of {l : List S29} (h : fewL l = true) : l.length ≤ 20 ∧ ∀ x ∈ l, SmallS x ∧ sizeS x ≤ 21 := by
  simp only [fewL, Bool.and_eq_true, decide_eq_true_eq, List.all_eq_true] at h
  exact ⟨h.1, fun x hx => ⟨(few_short (h.2 x hx)).small, by have := few_size (by omega) (h.2 x hx); omega⟩⟩
/-- tree_at, with the cells as a row of the kind. -/
theorem tree_atK {w : World} {A : Option Addr} {l : List S29} (h : k29.C w A l.length l) (i : Nat) (hi : i < l.length) :
    ∃ ad A2 c2 A8 c8, A = some ad ∧ k29.K w l[i] [.int .i64 l[i].f0, .bool l[i].f1.f0, .slice A2 l[i].f1.f1.length c2, .string l[i].f2, .int .i64 l[i].f3, .int .i64 l[i].f4, .bool l[i].f5, .bool l[i].f6, .slice A8 l[i].f7.length c8] ∧ ReadR w l[i] A2 c2 A8 c8 ∧ ∀ W, Below w.heap.size w W → W.cell? (ad.add (i * 9)) = some (.int .i64 l[i].f0) ∧ W.cell? ⟨(ad.add (i * 9)).block, (ad.add (i * 9)).off + 1, none⟩ = some (.bool l[i].f1.f0) ∧
      W.cell? ⟨(ad.add (i * 9)).block, (ad.add (i * 9)).off + 2, none⟩ = some (.slice A2 l[i].f1.f1.length c2) ∧ W.cell? ⟨(ad.add (i * 9)).block, (ad.add (i * 9)).off + 3, none⟩ = some (.string l[i].f2) ∧
      W.cell? ⟨(ad.add (i * 9)).block, (ad.add (i * 9)).off + 4, none⟩ = some (.int .i64 l[i].f3) ∧ W.cell? ⟨(ad.add (i * 9)).block, (ad.add (i * 9)).off + 5, none⟩ = some (.int .i64 l[i].f4) ∧
      W.cell? ⟨(ad.add (i * 9)).block, (ad.add (i * 9)).off + 6, none⟩ = some (.bool l[i].f5) ∧ W.cell? ⟨(ad.add (i * 9)).block, (ad.add (i * 9)).off + 7, none⟩ = some (.bool l[i].f6) ∧
      W.cell? ⟨(ad.add (i * 9)).block, (ad.add (i * 9)).off + 8, none⟩ = some (.slice A8 l[i].f7.length c8) := by
  have hrd : rd_T29 l (i : Int) = l[i] := by simp [rd_T29, hi]
  obtain ⟨ad, c, e, _, hK, hc0⟩ := Kd.C_get h z29 (i : Int) (by omega) (by omega)
  have hK2 : k29.K w l[i] c := by rw [← hrd]; exact hK
  have hc : ∀ j u, c[j]? = some u → w.cell? (ad.add (i * 9 + j)) = some u := hc0
  obtain ⟨A2, c2, A8, c8, rfl, l2, g2, l8, g8⟩ := k29_open hK2
  refine ⟨ad, A2, c2, A8, c8, e, hK2, ⟨l2, g2, l8, g8⟩, fun W hW => ⟨pw_cell_below hW (hc 0 _ rfl), pw_cell_below hW (by rw [← add_field _ _ 1 (by omega)]; exact hc 1 _ rfl), pw_cell_below hW (by rw [← add_field _ _ 2 (by omega)]; exact hc 2 _ rfl), pw_cell_below hW (by rw [← add_field _ _ 3 (by omega)]; exact hc 3 _ rfl), pw_cell_below hW (by rw [← add_field _ _ 4 (by omega)]; exact hc 4 _ rfl), pw_cell_below hW (by rw [← add_field _ _ 5 (by omega)]; exact hc 5 _ rfl), pw_cell_below hW (by rw [← add_field _ _ 6 (by omega)]; exact hc 6 _ rfl), pw_cell_below hW (by rw [← add_field _ _ 7 (by omega)]; exact hc 7 _ rfl), pw_cell_below hW (by rw [← add_field _ _ 8 (by omega)]; exact hc 8 _ rfl)⟩⟩
theorem form_iface {x : S29} (ho : (formOf x).2 = true) {w : World} {v : Value} (h : IsFm w (formOf x).1 v) : ∃ (a : Nat) (y : Value), v = .iface a y := by
  rcases form_inv x ho with ⟨h0, h7, e⟩ | ⟨a, b, h7, ha, hb, h0, -, e⟩ | ⟨a, h7, ha, h0⟩ | ⟨a, b, h7, ha, hb, h0⟩
  · rw [e] at h; cases h; exact ⟨_, _, rfl⟩
  · rw [e] at h; obtain ⟨vl, vr, rfl, h1, h2⟩ := h; exact ⟨_, _, rfl⟩
  · rcases h0 with ⟨h0, e⟩ | ⟨h0, e⟩ <;> rw [e] at h
    · obtain ⟨_, rfl, _⟩ := h; exact ⟨_, _, rfl⟩
    · obtain ⟨_, rfl, _⟩ := h; exact ⟨_, _, rfl⟩
  · rcases h0 with ⟨h0, e⟩ | ⟨h0, e⟩ | ⟨h0, e⟩ | ⟨h0, e⟩ <;> rw [e] at h <;> (obtain ⟨_, _, rfl, _⟩ := h; exact ⟨_, _, rfl⟩)
theorem zN43 : ∀ u ∈ (Value.nilIface).cells.toList, NotU u := by
  intro u hu x h
  subst h
  simp [Value.cells] at hu
theorem zN29 : ∀ u ∈ (Value.agg #[(.int .i64 0), (.bool false), (.slice none 0 0), (.string ⟨#[]⟩), (.int .i64 0), (.int .i64 0), (.bool false), (.bool false), (.slice none 0 0)]).cells.toList, NotU u := by
  intro u hu x h
  subst h
  simp [Value.cells] at hu
/-- What a push onto one row does to another row, and to the rest. -/
theorem row_push {w W W1 : World} {B e s n : Nat} {v : Value} {xs : List Value} {e' s' n' : Nat} {v' : Value} {xs' : List Value} {o : Obj} (hb : Below B w W) (hB : B ≤ W.heap.size) (h : RowP W B e s v n xs) (h' : RowP W B e' s' v' n' xs') (hne : e' ≠ e)
    (hg : (W.alloc o).grownBy W1 v.ownBlock) (hk : KeepsU (W.alloc o) W1) : Below B w W1 ∧ RowP W1 B e' s' v' n' xs' ∧ KeepsU W W1 := by
  have hal : Below W.heap.size W (W.alloc o) := (Below.refl _ W).alloc (Nat.le_refl _) o
  refine ⟨(hb.trans (hal.mono hB)).grown hg (by simp; omega) (fun k hk => (h.lt hk).1), ?_, (KeepsU.of_below hal).trans hk⟩
  exact (h'.below hal).grown hg (fun k hk => h'.apart h hne k hk)
/-- What the loop has gathered. -/
structure Gath (w : World) (rs : List S29) (vl vr : Value) (wr : World) : Prop where
  bel : Below w.heap.size w wr
  fms : ∃ vs, RowP wr w.heap.size 43 1 vl rs.length vs ∧ ∀ j (h : j < rs.length) (h' : j < vs.length), IsFm wr (formOf rs[j]).1 vs[j]
  trs : ∃ cs, RowP wr w.heap.size 29 9 vr rs.length cs ∧ CellsR w cs rs
theorem Gath.below {w : World} {rs : List S29} {vl vr : Value} {wr w' : World} (h : Gath w rs vl vr wr) (hb : Below wr.heap.size wr w') : Gath w rs vl vr w' := by
  obtain ⟨vs, h1, h2⟩ := h.fms
  obtain ⟨cs, h3, h4⟩ := h.trs
  exact ⟨belowE h.bel hb, ⟨vs, h1.below hb, fun j a b => (h2 j a b).below hb⟩, ⟨cs, h3.below hb, h4⟩⟩

theorem small_joinAll (rs : List S29) (h : ∀ x ∈ rs, SmallS x) : SmallF (joinAll (rs.map (fun x => (formOf x).1))) := by
  cases rs with
  | nil => exact trivial
  | cons x rs =>
    have key : ∀ (l : List S29) (F : Fm), (∀ x ∈ l, SmallS x) → SmallF F → SmallF ((l.map (fun x => (formOf x).1)).foldl Fm.and F) := by
      intro l
      induction l with
      | nil => intro F _ h; exact h
      | cons y l ih => intro F hl hF; exact ih _ (fun x hx => hl x (by simp [hx])) ⟨hF, small_form y (hl y (by simp))⟩
    exact key rs _ (fun y hy => h y (by simp [hy])) (small_form x (h x (by simp)))
theorem small_joinAny (rs : List S29) (h : ∀ x ∈ rs, SmallS x) : SmallF (joinAny (rs.map (fun x => (formOf x).1))) := by
  cases rs with
  | nil => exact trivial
  | cons x rs =>
    have key : ∀ (l : List S29) (F : Fm), (∀ x ∈ l, SmallS x) → SmallF F → SmallF ((l.map (fun x => (formOf x).1)).foldl Fm.or F) := by
      intro l
      induction l with
      | nil => intro F _ h; exact h
      | cons y l ih => intro F hl hF; exact ih _ (fun x hx => hl x (by simp [hx])) ⟨hF, small_form y (hl y (by simp))⟩
    exact key rs _ (fun y hy => h y (by simp [hy])) (small_form x (h x (by simp)))
set_option maxRecDepth 100000 in
set_option maxHeartbeats 4000000 in
theorem law8 (l : List S29) (A : Option Addr) (c : Nat) (w : World) (hC : k29.C w A l.length l) (hc : l.length ≤ c) (_ : ∀ y ∈ l, WfS y) :
    Calls Try.prog 8 #[.slice A l.length c] w fun e w' => e = .returned (.bool true) ∧ Below w.heap.size w w' := by
  have hu29 := Try.underlying29
  cases hf : fewL l with
  | false =>
    go_enter Try.func8, Try.ntmps8
    go_wp2_with (first
      | (go_at_call 37; refine (fewList_any A c l _ (Kd.C_below hC hB1) hc).mono ?_; rw [hf]; rintro e w2 ⟨rfl, hB2⟩; have hBw2 := belowE hB1 hB2)
      | (go_at_call 16; refine (awake_any _).mono ?_; rintro e w3 ⟨rfl, hB3⟩; have hBw3 := belowE hBw2 hB3)
      | (go_at_call 16; refine (awake_any _).mono ?_; rintro e w1 ⟨rfl, hB1⟩))
    go_ret
    exact ⟨rfl, hBw3⟩
  | true =>
    obtain ⟨h20, hsm⟩ := few_of hf
    have HSM := Lib.hid hsm
    have H20 := Lib.hid h20
    have HCC := Lib.hid hC
    have hl64 : (l.length : Int) < 1000 := by omega
    clear hsm
    go_enter Try.func8, Try.ntmps8
    go_wp2_with (first
      | (go_at_call 37; refine (fewList_any A c l _ (Kd.C_below hC hB1) hc).mono ?_; rw [hf]; rintro e w2 ⟨rfl, hB2⟩; have hBw2 := belowE hB1 hB2)
      | (go_at_call 16; refine (awake_any _).mono ?_; rintro e w1 ⟨rfl, hB1⟩))
    clear hC hB1 hB2
    go_loopw [18, 3, 4] (fun i vl vr wr => ∃ k : Nat, k ≤ l.length ∧ i = .int .i64 k ∧ Gath w ((l.take k).filter (fun x => (formOf x).2)) vl vr wr) (fun i _ _ _ => l.length - (intOf i).toNat)
    case atStart => exact ⟨0, by omega, rfl, hBw2, ⟨[], RowP.nil _ _ _ _, fun j h => by simp at h⟩, ⟨[], RowP.nil _ _ _ _, by simp [CellsR]⟩⟩
    case round =>
      obtain ⟨k, hk, rfl, hG⟩ := hrel
      by_cases hlt : k < l.length
      · obtain ⟨hs, hz⟩ := HSM.out l[k] (List.getElem_mem hlt)
        have hz6 : sizeS l[k] ≤ 1000000 := by omega
        have hk64 : (k : Int) < 1000 := by omega
        obtain ⟨ad, A2, c2, A8, c8, hA, hKx, hRw, hq⟩ := tree_atK HCC.out k hlt
        obtain ⟨y, hy⟩ : ∃ y, l[k] = y := ⟨_, rfl⟩
        rw [hy] at hs hz hz6 hKx hRw hq
        subst hA
        have HKX := Lib.hid hKx
        have HQ := Lib.hid hq
        have HZ := Lib.hid hz6
        have HCC := 0
        clear hKx hq hz hz6 HCC
        have hRr := hRw.below hG.bel
        have hnx : (l.take (k + 1)).filter (fun x => (formOf x).2) = (l.take k).filter (fun x => (formOf x).2) ++ (if (formOf y).2 then [y] else []) := by
          rw [List.take_succ_eq_append_getElem hlt, List.filter_append, hy]
          by_cases h : (formOf y).2 = true <;> simp [h]
        obtain ⟨rs, hrs⟩ : ∃ rs, (l.take k).filter (fun x => (formOf x).2) = rs := ⟨_, rfl⟩
        have hrl : rs.length ≤ 20 := by rw [← hrs]; exact Nat.le_trans (List.length_filter_le _ _) (by rw [List.length_take]; have := H20.out; omega)
        rw [hrs] at hG hnx
        have hmx : rs.length + 1 ≤ maxLen := by simp only [maxLen]; omega
        have hb16 : (rs.length + 1) * 16 ≤ 140737488355328 := by omega
        have hb88 : (rs.length + 1) * 104 ≤ 140737488355328 := by omega
        have HNX := Lib.hid hnx
        have HM := Lib.hid (And.intro hmx (And.intro hb16 hb88))
        have hkc : (k : Int) < (l.length : Int) := by omega
        have hkl : (l.length : Int) ≤ (c : Int) := by omega
        clear hnx hrs hrl hmx hb16 hb88
        obtain ⟨q0, q1, q2, q3, q4, q5, q6, q7, q8⟩ := HQ.out _ hG.bel
        cases hok : (formOf y).2 with
        | false =>
          go_wp2_with (go_at_call 19; refine (is_any hRr HZ.out false).mono ?_; rw [isS_false, hok]; rintro e w1 ⟨rfl, hB1⟩; have hG1 := hG.below hB1)
          go_roundw
          case rel => exact ⟨k + 1, by omega, by go_num, by rw [HNX.out, hok]; simpa using hG1⟩
          case measure => simp [intOf]; omega
        | true =>
          go_wp2_with (first
            | (go_at_call 19; refine (is_any hRr HZ.out false).mono ?_; rw [isS_false, hok]; rintro e w1 ⟨rfl, hB1⟩; have hG1 := hG.below hB1; have hR1 := hRr.below hB1; clear q0 q1 q2 q3 q4 q5 q6 q7 q8; obtain ⟨q0, q1, q2, q3, q4, q5, q6, q7, q8⟩ := HQ.out _ hG1.bel)
            | (go_at_call 23; refine (of_any y hs A2 c2 A8 c8 _ hR1).mono ?_; rw [hok, if_pos rfl, if_pos rfl]; rintro e w2 ⟨vf, rfl, hT, hB2⟩; obtain ⟨ta, ty, rfl⟩ := form_iface hok hT; have hG2 := hG1.below hB2; obtain ⟨vs, hV, hVF⟩ := hG2.fms; obtain ⟨cs, hU, hUC⟩ := hG2.trs; clear q0 q1 q2 q3 q4 q5 q6 q7 q8; obtain ⟨q0, q1, q2, q3, q4, q5, q6, q7, q8⟩ := HQ.out _ hG2.bel)
            | (at_builtin; refine wpList_push rfl (.tmp 34) (.tmp 36) 64 43 rfl w.heap.size .nilIface 1 16 Try.underlying64 info43 rfl (by decide) zN43 _ rs.length vs rfl hV [.iface ta ty] rfl rfl (by simp [Value.oneCell']) (by intro u hu x h; subst h; simp at hu) HM.out.1 HM.out.2.1 hG2.bel.size ?_
               intro v1 w3 hV3 hg3 hk3 hat3
               obtain ⟨hb3, hU3, hku3⟩ := row_push hG2.bel hG2.bel.size hV hU (by decide) hg3 hk3
               clear q0 q1 q2 q3 q4 q5 q6 q7 q8
               obtain ⟨q0, q1, q2, q3, q4, q5, q6, q7, q8⟩ := HQ.out _ hb3)
            | (at_builtin; refine wpList_push rfl (.tmp 38) (.tmp 43) 27 29 rfl w.heap.size _ 9 104 Try.underlying27 info29 rfl (by decide) zN29 _ rs.length cs rfl hU3 [.int .i64 y.f0, .bool y.f1.f0, .slice A2 y.f1.f1.length c2, .string y.f2, .int .i64 y.f3, .int .i64 y.f4, .bool y.f5, .bool y.f6, .slice A8 y.f7.length c8] rfl rfl (by simp [Value.oneCell']) (by intro u hu x h; subst h; simp at hu) HM.out.1 HM.out.2.2 hb3.size ?_
               intro v2 w4 hU4 hg4 hk4 hat4
               obtain ⟨hb4, hV4, hku4⟩ := row_push hb3 hb3.size hU3 hV3 (by decide) hg4 hk4))
          have hG4 : Gath w (rs ++ [y]) v1 v2 w4 := by
            refine ⟨hb4, ⟨vs ++ [.iface ta ty], by simpa using hV4, fun j h1 h2 => ?_⟩, ⟨_, by simpa using hU4, hUC.snoc rfl HKX.out⟩⟩
            by_cases hlt : j < rs.length
            · have hlv : vs.length = rs.length := by simpa using hV.1
              rw [List.getElem_append_left hlt, List.getElem_append_left (by omega)]
              exact ((hVF j hlt (by omega)).keepsU hku3).keepsU hku4
            · have hlv : vs.length = rs.length := by simpa using hV.1
              obtain rfl : j = rs.length := by simp at h1; omega
              have e1 : (rs ++ [y])[rs.length] = y := by simp
              have e2 : (vs ++ [Value.iface ta ty])[rs.length] = .iface ta ty := by simp [← hlv]
              rw [e1, e2]
              exact (hT.keepsU hku3).keepsU hku4
          go_roundw
          case rel => exact ⟨k + 1, by omega, by go_num, by rw [HNX.out, hok]; exact hG4⟩
          case measure => simp [intOf]; omega
      · obtain rfl : k = l.length := by omega
        rw [List.take_length] at hG
        obtain ⟨rs, hrs⟩ : ∃ rs, l.filter (fun x => (formOf x).2) = rs := ⟨_, rfl⟩
        rw [hrs] at hG
        have hrl : rs.length ≤ 20 := by rw [← hrs]; exact Nat.le_trans (List.length_filter_le _ _) H20.out
        have hrf : ∀ x ∈ rs, (formOf x).2 = true := fun x hx => by rw [← hrs] at hx; simpa using (List.mem_filter.1 hx).2
        have hrm : ∀ x ∈ rs, SmallS x ∧ sizeS x ≤ 21 := fun x hx => by rw [← hrs] at hx; exact HSM.out x (List.mem_filter.1 hx).1
        have hrm6 : ∀ x ∈ rs, SmallS x ∧ sizeS x ≤ 1000000 := fun x hx => ⟨(hrm x hx).1, by have := (hrm x hx).2; omega⟩
        have hbw := hG.bel
        obtain ⟨vs, hV, hVF⟩ := hG.fms
        obtain ⟨cs, hU, hUC⟩ := hG.trs
        obtain ⟨AL, cL, rfl, hcL, hsq⟩ := hV.seq
        obtain ⟨AR, cR, rfl, hcR, hCR⟩ := hUC.reads hbw hU (by omega)
        have hvl : vs.length = rs.length := by simpa using hV.1
        have hSq : SeqF wr AL (rs.map (fun x => (formOf x).1)) vs := ⟨by rw [List.length_map]; exact hvl, fun j h1 h2 => by rw [List.getElem_map]; exact hVF j (by simpa using h1) h2, by rw [List.length_map]; exact hsq⟩
        have hml : (rs.map (fun x => (formOf x).1)).length = rs.length := by simp
        have hA1 := fun w' (hb : Below wr.heap.size wr w') => all_any AL cL (rs.map (fun x => (formOf x).1)) vs w' (by rw [hml]; exact hcL) (by rw [hml]; omega) (hSq.below hb)
        have hA2 := fun w' (hb : Below wr.heap.size wr w') => anyF_any AL cL (rs.map (fun x => (formOf x).1)) vs w' (by rw [hml]; exact hcL) (by rw [hml]; omega) (hSq.below hb)
        have hF := fun b w' (hb : Below wr.heap.size wr w') => fold_any AR cR rs b w' (Kd.C_below hCR hb) hcR hrm6 (by omega)
        rw [hml] at hA1 hA2
        have hj1 := joinAll_tree rs hrf
        have hj2 := joinAny_tree rs hrf
        obtain ⟨FA, hFA⟩ : ∃ FA, joinAll (rs.map (fun x => (formOf x).1)) = FA := ⟨_, rfl⟩
        obtain ⟨FB, hFB⟩ : ∃ FB, joinAny (rs.map (fun x => (formOf x).1)) = FB := ⟨_, rfl⟩
        have hsA : SmallF FA := by rw [← hFA]; exact small_joinAll rs (fun x hx => (hrm x hx).1)
        have hsB : SmallF FB := by rw [← hFB]; exact small_joinAny rs (fun x hx => (hrm x hx).1)
        obtain ⟨sA, zA⟩ := fold_small true rs hrl hrm
        obtain ⟨sB, zB⟩ := fold_small false rs hrl hrm
        rw [hFA] at hA1 hj1
        rw [hFB] at hA2 hj2
        obtain ⟨TA, hTA⟩ : ∃ TA, foldS true rs = TA := ⟨_, rfl⟩
        obtain ⟨TB, hTB⟩ : ∃ TB, foldS false rs = TB := ⟨_, rfl⟩
        have hFa := hF true
        have hFb := hF false
        rw [hTA] at hj1 sA zA hFa
        rw [hTB] at hj2 sB zB hFb
        have HSA := Lib.hid (And.intro sA zA)
        have HSB := Lib.hid (And.intro sB zB)
        have HJ1 := Lib.hid hj1
        have HJ2 := Lib.hid hj2
        have hb0 := Below.refl wr.heap.size wr
        have HG := Lib.hid hG
        clear hSq hml hF hG hrf hrm hrm6 hVF hV hU hUC hsq hCR sA zA sB zB hj1 hj2 hvl
        go_wp2_with (first
          | (go_at_call 20; refine (sameT_any (hP2.read) (hR2 _ (Below.refl _ _)) (by rw [HJ2.out]; exact HSB.out.1) (by rw [HJ2.out]; exact HSB.out.2) HJ2.out).mono ?_; rintro e w12 ⟨rfl, hb12⟩; have hB12 := belowE hB11 hb12)
          | (go_at_call 39; refine (hFb _ hB10).mono ?_; dsimp only [treeV]; rintro e w11 ⟨E2, e2, E8, e8, rfl, hR2, hb11⟩; have hB11 := belowE hB10 hb11; replace hP2 := hP2.below hb11)
          | (go_at_call 24; refine (plainF_any FB _ _ hsB hI2).mono ?_; dsimp only [treeV]; rintro e w10 ⟨v2, v8, rfl, hP2, hb10⟩; obtain ⟨G2, g2, G8, g8, rfl, rfl, -⟩ := hP2.forms; have hB10 := belowE hB9 hb10)
          | (go_at_call 40; refine (hA2 _ hB8).mono ?_; rintro e w9 ⟨fb, rfl, hI2, hb9⟩; have hB9 := belowE hB8 hb9)
          | (go_at_call 20; refine (sameT_any (hP1.read) (hR1 _ (Below.refl _ _)) (by rw [HJ1.out]; exact HSA.out.1) (by rw [HJ1.out]; exact HSA.out.2) HJ1.out).mono ?_; rintro e w8 ⟨rfl, hb8⟩; have hB8 := belowE hB7 hb8)
          | (go_at_call 39; refine (hFa _ hB6).mono ?_; dsimp only [treeV]; rintro e w7 ⟨D2, d2, D8, d8, rfl, hR1, hb7⟩; have hB7 := belowE hB6 hb7; replace hP1 := hP1.below hb7)
          | (go_at_call 24; refine (plainF_any FA _ _ hsA hI1).mono ?_; dsimp only [treeV]; rintro e w6 ⟨v2, v8, rfl, hP1, hb6⟩; obtain ⟨F2, f2, F8, f8, rfl, rfl, -⟩ := hP1.forms; have hB6 := belowE hB5 hb6)
          | (go_at_call 38; refine (hA1 _ hb0).mono ?_; rintro e w5 ⟨fa, rfl, hI1, hb5⟩; have hB5 := belowE hb0 hb5))
        go_ret
        exact ⟨rfl, belowE HG.out.bel hB12⟩
end Go.Proofs.Ytddpojinlapmfaa.PRef
