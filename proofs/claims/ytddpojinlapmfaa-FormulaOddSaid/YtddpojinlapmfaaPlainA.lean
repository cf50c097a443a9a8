/- formula.PlainTerm: the canonical tree of a term. -/
import Derived.Test.YtddpojinlapmfaaTaA
namespace Go.Proofs.Ytddpojinlapmfaa.PRef
set_option linter.unusedVariables false
set_option linter.unusedSimpArgs false
open Go.RowKit Go.Proofs.YtddpojinlapmfaaW.PrintWords Go.Proofs.YtddpojinlapmfaaW.PrintLast Go.Proofs.YtddpojinlapmfaaW.PrintMore
attribute [local go_sem] max2_int min2_int max_two min_two max_three min_three max_four min_four
attribute [local go_sem] taH80 taM80 taN80 taH82 taM82 taN82 taH88 taM88 taN88 taH75 taM75 taN75 taH70 taM70 taN70 taH74 taM74 taN74 taH72 taM72 taN72

/-- The numbers of a term are short. -/
def SmallT : Tm → Prop
  | .num _ xs => xs.length ≤ 1000
  | .name _ => True
  | .add a b => SmallT a ∧ SmallT b
  | .sub a b => SmallT a ∧ SmallT b
  | .mul a b => SmallT a ∧ SmallT b
  | .neg a => SmallT a
  | .pow a _ => SmallT a
  | .odd _ => True

/-- What an own row reads as: a slice of its length. -/
theorem own_reads {w : World} {base : Nat} {ok : Nat → Prop} {v : Value} {xs : List Int} (h : (Kd.int .u32).R 103 w base ok v xs) : ∃ A c, xs.length ≤ c ∧ v = .slice A xs.length c ∧ (Kd.int .u32).C w A xs.length xs := by
  obtain ⟨A, c, e, h1, h2⟩ := Kd.R_reads h
  exact ⟨A, c, h1, e, h2⟩
/-- What a block of nine cells gives a walk. -/
theorem nine_cells {w : World} {g t : Nat} {c0 c1 c2 c3 c4 c5 c6 c7 c8 : Value} (h : w.heap[g]? = some (.cells #[c0, c1, c2, c3, c4, c5, c6, c7, c8] t (0, 0))) :
    w.cell? ⟨g, 0, none⟩ = some c0 ∧ w.cell? ⟨g, 1, none⟩ = some c1 ∧ w.cell? ⟨g, 2, none⟩ = some c2 ∧ w.cell? ⟨g, 3, none⟩ = some c3 ∧ w.cell? ⟨g, 4, none⟩ = some c4 ∧ w.cell? ⟨g, 5, none⟩ = some c5 ∧ w.cell? ⟨g, 6, none⟩ = some c6 ∧ w.cell? ⟨g, 7, none⟩ = some c7 ∧ w.cell? ⟨g, 8, none⟩ = some c8 ∧ (∀ j, w.frozen? ⟨g, j, none⟩ = false) :=
  ⟨(blk_cell h 0).trans rfl, (blk_cell h 1).trans rfl, (blk_cell h 2).trans rfl, (blk_cell h 3).trans rfl, (blk_cell h 4).trans rfl, (blk_cell h 5).trans rfl, (blk_cell h 6).trans rfl, (blk_cell h 7).trans rfl, (blk_cell h 8).trans rfl, fun j => blk_frozen h j⟩
def put9 (w : World) (g : Nat) (d0 d1 d2 d3 d4 d5 d6 d7 d8 : Value) : World := (((((((((w.setCell ⟨g, 0, none⟩ d0).setCell ⟨g, 1, none⟩ d1).setCell ⟨g, 2, none⟩ d2).setCell ⟨g, 3, none⟩ d3).setCell ⟨g, 4, none⟩ d4).setCell ⟨g, 5, none⟩ d5).setCell ⟨g, 6, none⟩ d6).setCell ⟨g, 7, none⟩ d7).setCell ⟨g, 8, none⟩ d8)
theorem nine_put {w : World} {g t : Nat} {c0 c1 c2 c3 c4 c5 c6 c7 c8 : Value} (h : w.heap[g]? = some (.cells #[c0, c1, c2, c3, c4, c5, c6, c7, c8] t (0, 0))) (d0 d1 d2 d3 d4 d5 d6 d7 d8 : Value) :
    (put9 w g d0 d1 d2 d3 d4 d5 d6 d7 d8).heap[g]? = some (.cells #[d0, d1, d2, d3, d4, d5, d6, d7, d8] t (0, 0)) := by
  have h0 : (w.setCell ⟨g, 0, none⟩ d0).heap[g]? = some (.cells #[d0, c1, c2, c3, c4, c5, c6, c7, c8] t (0, 0)) := blk_put h 0 d0 rfl
  have h1 : ((w.setCell ⟨g, 0, none⟩ d0).setCell ⟨g, 1, none⟩ d1).heap[g]? = some (.cells #[d0, d1, c2, c3, c4, c5, c6, c7, c8] t (0, 0)) := blk_put h0 1 d1 rfl
  have h2 : (((w.setCell ⟨g, 0, none⟩ d0).setCell ⟨g, 1, none⟩ d1).setCell ⟨g, 2, none⟩ d2).heap[g]? = some (.cells #[d0, d1, d2, c3, c4, c5, c6, c7, c8] t (0, 0)) := blk_put h1 2 d2 rfl
  have h3 : ((((w.setCell ⟨g, 0, none⟩ d0).setCell ⟨g, 1, none⟩ d1).setCell ⟨g, 2, none⟩ d2).setCell ⟨g, 3, none⟩ d3).heap[g]? = some (.cells #[d0, d1, d2, d3, c4, c5, c6, c7, c8] t (0, 0)) := blk_put h2 3 d3 rfl
  have h4 : (((((w.setCell ⟨g, 0, none⟩ d0).setCell ⟨g, 1, none⟩ d1).setCell ⟨g, 2, none⟩ d2).setCell ⟨g, 3, none⟩ d3).setCell ⟨g, 4, none⟩ d4).heap[g]? = some (.cells #[d0, d1, d2, d3, d4, c5, c6, c7, c8] t (0, 0)) := blk_put h3 4 d4 rfl
  have h5 : ((((((w.setCell ⟨g, 0, none⟩ d0).setCell ⟨g, 1, none⟩ d1).setCell ⟨g, 2, none⟩ d2).setCell ⟨g, 3, none⟩ d3).setCell ⟨g, 4, none⟩ d4).setCell ⟨g, 5, none⟩ d5).heap[g]? = some (.cells #[d0, d1, d2, d3, d4, d5, c6, c7, c8] t (0, 0)) := blk_put h4 5 d5 rfl
  have h6 : (((((((w.setCell ⟨g, 0, none⟩ d0).setCell ⟨g, 1, none⟩ d1).setCell ⟨g, 2, none⟩ d2).setCell ⟨g, 3, none⟩ d3).setCell ⟨g, 4, none⟩ d4).setCell ⟨g, 5, none⟩ d5).setCell ⟨g, 6, none⟩ d6).heap[g]? = some (.cells #[d0, d1, d2, d3, d4, d5, d6, c7, c8] t (0, 0)) := blk_put h5 6 d6 rfl
  have h7 : ((((((((w.setCell ⟨g, 0, none⟩ d0).setCell ⟨g, 1, none⟩ d1).setCell ⟨g, 2, none⟩ d2).setCell ⟨g, 3, none⟩ d3).setCell ⟨g, 4, none⟩ d4).setCell ⟨g, 5, none⟩ d5).setCell ⟨g, 6, none⟩ d6).setCell ⟨g, 7, none⟩ d7).heap[g]? = some (.cells #[d0, d1, d2, d3, d4, d5, d6, d7, c8] t (0, 0)) := blk_put h6 7 d7 rfl
  have h8 : (((((((((w.setCell ⟨g, 0, none⟩ d0).setCell ⟨g, 1, none⟩ d1).setCell ⟨g, 2, none⟩ d2).setCell ⟨g, 3, none⟩ d3).setCell ⟨g, 4, none⟩ d4).setCell ⟨g, 5, none⟩ d5).setCell ⟨g, 6, none⟩ d6).setCell ⟨g, 7, none⟩ d7).setCell ⟨g, 8, none⟩ d8).heap[g]? = some (.cells #[d0, d1, d2, d3, d4, d5, d6, d7, d8] t (0, 0)) := blk_put h7 8 d8 rfl
  exact h8
theorem below_put9 {B : Nat} {a w : World} {g : Nat} (h : Below B a w) (hB : B ≤ g) (d0 d1 d2 d3 d4 d5 d6 d7 d8 : Value) : Below B a (put9 w g d0 d1 d2 d3 d4 d5 d6 d7 d8) := by
  have h0 := h.setCell (p := ⟨g, 0, none⟩) hB d0
  have h1 := h0.setCell (p := ⟨g, 1, none⟩) hB d1
  have h2 := h1.setCell (p := ⟨g, 2, none⟩) hB d2
  have h3 := h2.setCell (p := ⟨g, 3, none⟩) hB d3
  have h4 := h3.setCell (p := ⟨g, 4, none⟩) hB d4
  have h5 := h4.setCell (p := ⟨g, 5, none⟩) hB d5
  have h6 := h5.setCell (p := ⟨g, 6, none⟩) hB d6
  have h7 := h6.setCell (p := ⟨g, 7, none⟩) hB d7
  have h8 := h7.setCell (p := ⟨g, 8, none⟩) hB d8
  exact h8

theorem far_cell {w : World} {p a : Addr} {v u : Value} (hne : a.block ≠ p.block) (h : w.cell? a = some v) : (w.setCell p u).cell? a = some v := (World.cell?_of_block (Below.heap_setCell w p u a.block hne)).trans h
theorem R_put9 {α : Type} {d : Kd α} {e : Nat} {w : World} {base : Nat} {ok : Nat → Prop} {v : Value} {xs : List α} {g : Nat} (h : d.R e w base ok v xs) (hok : ∀ k, ok k → k ≠ g) (d0 d1 d2 d3 d4 d5 d6 d7 d8 : Value) : d.R e (put9 w g d0 d1 d2 d3 d4 d5 d6 d7 d8) base ok v xs := by
  have h0 := Kd.R_far (p := ⟨g, 0, none⟩) h (fun k hk => hok k hk) d0
  have h1 := Kd.R_far (p := ⟨g, 1, none⟩) h0 (fun k hk => hok k hk) d1
  have h2 := Kd.R_far (p := ⟨g, 2, none⟩) h1 (fun k hk => hok k hk) d2
  have h3 := Kd.R_far (p := ⟨g, 3, none⟩) h2 (fun k hk => hok k hk) d3
  have h4 := Kd.R_far (p := ⟨g, 4, none⟩) h3 (fun k hk => hok k hk) d4
  have h5 := Kd.R_far (p := ⟨g, 5, none⟩) h4 (fun k hk => hok k hk) d5
  have h6 := Kd.R_far (p := ⟨g, 6, none⟩) h5 (fun k hk => hok k hk) d6
  have h7 := Kd.R_far (p := ⟨g, 7, none⟩) h6 (fun k hk => hok k hk) d7
  have h8 := Kd.R_far (p := ⟨g, 8, none⟩) h7 (fun k hk => hok k hk) d8
  exact h8

theorem nil_C {α : Type} {d : Kd α} {w : World} : d.C w none ([] : List α).length [] := ⟨rfl, Nat.zero_le _, fun h => absurd h (Nat.lt_irrefl _)⟩
theorem nil_R {α : Type} {d : Kd α} {e : Nat} {w : World} {base : Nat} : d.R e w base (fun _ => True) (.slice none 0 0) [] := Kd.R_nil _ _ _ _ _
/-- A tree as a value: v2: the number's words; v8: the kids. -/
abbrev treeV (x : S29) (v2 v8 : Value) : Value :=
  .agg #[.int .i64 x.f0, .bool x.f1.f0, v2, .string x.f2, .int .i64 x.f3, .int .i64 x.f4, .bool x.f5, .bool x.f6, v8]
abbrev treeL (x : S29) (v2 v8 : Value) : List Value :=
  [.int .i64 x.f0, .bool x.f1.f0, v2, .string x.f2, .int .i64 x.f3, .int .i64 x.f4, .bool x.f5, .bool x.f6, v8]
/-- Both are rows of the call's own: from block 'base' on. -/
structure TreeR (w : World) (base : Nat) (x : S29) (v2 v8 : Value) : Prop where
  g2 : (Kd.int .u32).R 103 w base (fun _ => True) v2 x.f1.f1
  g8 : k29.R 29 w base (fun _ => True) v8 x.f7
theorem TreeR.below {w w' : World} {base : Nat} {x : S29} {v2 v8 : Value} (h : TreeR w base x v2 v8) (hb : Below w.heap.size w w') : TreeR w' base x v2 v8 :=
  ⟨Kd.R_below h.g2 hb, Kd.R_below h.g8 hb⟩
theorem TreeR.lower {w : World} {base base' : Nat} {x : S29} {v2 v8 : Value} (h : TreeR w base x v2 v8) (hb : base' ≤ base) : TreeR w base' x v2 v8 :=
  ⟨Kd.R_lower h.g2 hb, Kd.R_lower h.g8 hb⟩
theorem TreeR.put {w : World} {base : Nat} {x : S29} {v2 v8 : Value} {g : Nat} (h : TreeR w base x v2 v8) (hg : g < base) (d0 d1 d2 d3 d4 d5 d6 d7 d8 : Value) : TreeR (put9 w g d0 d1 d2 d3 d4 d5 d6 d7 d8) base x v2 v8 :=
  ⟨Kd.R_mono (R_put9 (Kd.R_mono (Kd.R_bound h.g2) (ok' := fun k => k ≠ g) (fun k hk => by have := hk.2.1; omega)) (fun k hk => hk) ..) (fun _ _ => trivial),
   Kd.R_mono (R_put9 (Kd.R_mono (Kd.R_bound h.g8) (ok' := fun k => k ≠ g) (fun k hk => by have := hk.2.1; omega)) (fun k hk => hk) ..) (fun _ _ => trivial)⟩
theorem TreeR.M {w : World} {base : Nat} {x : S29} {v2 v8 : Value} (h : TreeR w base x v2 v8) : k29.M w base (fun _ => True) x (treeL x v2 v8) := k29_mkM w base _ x h.g2 h.g8
theorem TreeR.forms {w : World} {base : Nat} {x : S29} {v2 v8 : Value} (h : TreeR w base x v2 v8) :
    ∃ A2 c2 A8 c8, v2 = .slice A2 x.f1.f1.length c2 ∧ v8 = .slice A8 x.f7.length c8 ∧ x.f1.f1.length ≤ c2 ∧ x.f7.length ≤ c8 ∧ (Kd.int .u32).C w A2 x.f1.f1.length x.f1.f1 ∧ k29.C w A8 x.f7.length x.f7 := by
  obtain ⟨A2, c2, e2, l2, g2⟩ := Kd.R_reads h.g2
  obtain ⟨A8, c8, e8, l8, g8⟩ := Kd.R_reads h.g8
  exact ⟨A2, c2, A8, c8, e2, e8, l2, l8, g2, g8⟩

theorem kids_row {w : World} {base k : Nat} {xs : List S29} {css : List Value} (hr : Reps (k29.M w base (fun j => j < k)) 9 xs css) (hk : w.heap[k]? = some (.cells css.toArray 29 (0, 0))) (hb : base ≤ k) (hx : xs.length ≤ 1000) :
    k29.R 29 w base (fun _ => True) (.slice (some ⟨k, 0, none⟩) xs.length xs.length) xs := by
  have hsz : k29.sz = 9 := rfl
  refine ⟨fun _ _ => trivial, css, ⟨by rw [hsz]; exact hr.1, .inr ⟨k, xs.length, _, rfl, hb, hk, Nat.le_refl _, by simp only [maxLen]; omega, by rw [hsz]; simpa using hr.1, by rw [hsz, List.take_of_length_le]; simp [hr.1]⟩⟩, ?_⟩
  exact hr.imp_ (fun p c hp => k29.M_mono (fun j hj => ⟨trivial, by simp only [Value.ownBlock, ne_eq, Option.some.injEq]; omega⟩) hp)
/-- A tree as an element of a row that is new. -/
theorem TreeR.elem {w : World} {base : Nat} {x : S29} {v2 v8 : Value} (h : TreeR w base x v2 v8) (o : Obj) : k29.M (w.alloc o) base (fun j => j < w.heap.size) x (treeL x v2 v8) := by
  have h1 := k29.M_bound h.M
  have h2 := k29.M_mono (ok' := fun j => j < w.heap.size) (fun j hj => hj.2.2.1) h1
  exact k29.M_move (fun j hj => Below.heap_alloc w o j hj) h2
theorem kids1 {w : World} {base : Nat} {x : S29} {v2 v8 : Value} (h : TreeR w base x v2 v8) (hb : base ≤ w.heap.size) :
    k29.R 29 (w.alloc (.cells (treeL x v2 v8).toArray 29)) base (fun _ => True) (.slice (some ⟨w.heap.size, 0, none⟩) 1 1) [x] :=
  kids_row (xs := [x]) (css := treeL x v2 v8) ((Reps.none _ 9).snoc (p := x) (c := treeL x v2 v8) (h.elem _) rfl) (blk_new _ _) hb (by simp)
theorem kids2 {w : World} {base : Nat} {x y : S29} {v2 v8 u2 u8 : Value} (h : TreeR w base x v2 v8) (k : TreeR w base y u2 u8) (hb : base ≤ w.heap.size) :
    k29.R 29 (w.alloc (.cells (treeL x v2 v8 ++ treeL y u2 u8).toArray 29)) base (fun _ => True) (.slice (some ⟨w.heap.size, 0, none⟩) 2 2) [x, y] :=
  kids_row (xs := [x, y]) (css := treeL x v2 v8 ++ treeL y u2 u8) (((Reps.none _ 9).snoc (p := x) (c := treeL x v2 v8) (h.elem _) rfl).snoc (p := y) (c := treeL y u2 u8) (k.elem _) rfl) (blk_new _ _) hb (by simp)

/-- The stored result is handed back. -/
theorem tree_ret {fn : Func} {R : Ending → World → Prop} {tmps : Array Value} {W : World} {g t : Nat} {c0 c1 c2 c3 c4 c5 c6 c7 c8 : Value} (hres : fn.results = #[.cell 2 29]) (ht : tmps[2]? = some (.pointer (some ⟨g, 0, none⟩)))
    (hb : W.heap[g]? = some (.cells #[c0, c1, c2, c3, c4, c5, c6, c7, c8] t (0, 0))) (hR : R (.returned (.agg #[c0, c1, c2, c3, c4, c5, c6, c7, c8])) W) :
    bodyPost Try.prog fn R Exit.ret { tmps := tmps, defers := [] } W := by
  obtain ⟨q0, q1, q2, q3, q4, q5, q6, q7, q8, _⟩ := nine_cells hb
  have hu29 := Try.underlying29
  have ha := Try.isAgg29
  have hz := Try.sizeOf29
  exact bodyPost_ret (v := .agg #[c0, c1, c2, c3, c4, c5, c6, c7, c8]) (by simp [results, hres, go_sem, ht, q0, q1, q2, q3, q4, q5, q6, q7, q8]) rfl hR

theorem IsTm.one {w : World} : ∀ {t : Tm} {v : Value}, IsTm w t v → v.oneCell' = true
  | .num .., v, h => by obtain ⟨_, _, rfl, _⟩ := h; rfl
  | .name _, v, h => by cases h; rfl
  | .add .., v, h => by obtain ⟨_, _, rfl, _⟩ := h; rfl
  | .sub .., v, h => by obtain ⟨_, _, rfl, _⟩ := h; rfl
  | .mul .., v, h => by obtain ⟨_, _, rfl, _⟩ := h; rfl
  | .neg _, v, h => by obtain ⟨_, rfl, _⟩ := h; rfl
  | .pow .., v, h => by obtain ⟨_, rfl, _⟩ := h; rfl
  | .odd _, v, h => by obtain ⟨rfl, rfl | ⟨_, rfl⟩⟩ := h <;> rfl
/-- (The frame first: its world is then the one that is meant.) -/
theorem blk_on {w w1 : World} (hb : Below w.heap.size w w1) {g : Nat} {o : Obj} (h : w.heap[g]? = some o) : w1.heap[g]? = some o := blk_below h hb
theorem IsTm.drew {w : World} {t : Tm} {v : Value} (h : IsTm w t v) : IsTm w.drew t v := h.below (below_drew (Below.refl _ _))
theorem IsTm.drewN {w : World} {t : Tm} {v : Value} (h : IsTm w t v) (n : Nat) : IsTm (w.drewN n) t v := h.below (pw_below_drewN (Below.refl _ _) n)
theorem one_store {v : Value} (h : v.oneCell' = true) (a : Addr) (m : Mode) (w : World) : (store a v m).run Try.prog w = stored Try.prog w a v m := run_store _ w a v m h

set_option maxRecDepth 100000 in
set_option maxHeartbeats 1600000 in
theorem plainT_any : ∀ (t : Tm) (v : Value) (w : World), SmallT t → IsTm w t v →
    Calls Try.prog 21 #[v] w fun e w' => ∃ v2 v8, e = .returned (treeV (plainT t) v2 v8) ∧ TreeR w' w.heap.size (plainT t) v2 v8 ∧ Below w.heap.size w w' := by
  have hu29 := Try.underlying29
  have hu25 := Try.underlying25
  have hu80 := Try.underlying80
  have hu82 := Try.underlying82
  intro t
  induction t with
  | num n xs =>
    rintro v w hs ⟨A, c, rfl, hc, hC⟩
    go_enter Try.func21, Try.ntmps21
    go_wp2_with (go_at_call 59; refine (normal_any n A c xs _ hs hc (by repeat (first | exact hC | refine Kd.C_alloc ?_ _))).mono ?_; rintro e w1 ⟨v1, rfl, hR1, hB1⟩; obtain ⟨A1, c1, hc1, rfl, hC1⟩ := own_reads hR1; have hb := blk_below (blk_alloc (blk_new w (.cells #[.int .i64 0, .bool false, .slice none 0 0, .string ⟨#[]⟩, .int .i64 0, .int .i64 0, .bool false, .bool false, .slice none 0 0] 29)) (.cells #[.bool n, .slice A xs.length c] 80)) hB1; obtain ⟨p0, p1, p2, p3, p4, p5, p6, p7, p8, pf⟩ := nine_cells hb)
    have hz := hB1.size
    simp only [World.size_alloc] at hz
    have hB2 : Below w.heap.size w w1 := (((Below.refl _ w).alloc (Nat.le_refl _) _).alloc (by rw [World.size_alloc]; omega) _).trans (hB1.mono (by simp only [World.size_alloc]; omega))
    have hT : TreeR w1 (w.heap.size + 1) (plainT (.num n xs)) (.slice A1 (normI n xs).f1.length c1) (.slice none 0 0) := ⟨Kd.R_lower hR1 (by simp only [World.size_alloc]; omega), nil_R⟩
    exact tree_ret Try.results21 rfl (nine_put hb _ _ _ _ _ _ _ _ _) ⟨_, _, rfl, (hT.put (Nat.lt_succ_self _) ..).lower (Nat.le_succ _), below_put9 hB2 (Nat.le_refl _) _ _ _ _ _ _ _ _ _⟩
  | name s =>
    rintro v w hs rfl
    go_enter Try.func21, Try.ntmps21
    go_wp2_with fail
    exact tree_ret Try.results21 rfl (blk_alloc (blk_new _ _) _) ⟨_, _, rfl, ⟨nil_R, nil_R⟩, ((Below.refl _ w).alloc (Nat.le_refl _) _).alloc (by rw [World.size_alloc]; omega) _⟩
  | odd u =>
    rintro v w hs ⟨rfl, hu⟩
    rcases hu with rfl | ⟨p, rfl⟩
    · go_enter Try.func21, Try.ntmps21
      go_wp2_with fail
      exact tree_ret Try.results21 rfl (blk_new _ _) ⟨_, _, rfl, ⟨nil_R, nil_R⟩, (Below.refl _ w).alloc (Nat.le_refl _) _⟩
    · go_enter Try.func21, Try.ntmps21
      go_wp2_with fail
      exact tree_ret Try.results21 rfl (blk_new _ _) ⟨_, _, rfl, ⟨nil_R, nil_R⟩, (Below.refl _ w).alloc (Nat.le_refl _) _⟩
  | neg a iha =>
    rintro v w hs ⟨va, rfl, ha⟩
    have hs' : SmallT a := hs
    have hst := one_store ha.one
    go_enter Try.func21, Try.ntmps21
    go_wp2_with (go_at_call 21; refine (iha va _ hs' (by repeat (first | exact ha | refine IsTm.below ((Below.refl _ _).alloc (Nat.le_refl _) _) ?_))).mono ?_; rintro e w1 ⟨v2, v8, rfl, hT1, hB1⟩; obtain ⟨A2, c2, A8, c8, rfl, rfl, -⟩ := hT1.forms; have hb := blk_below (blk_alloc (blk_new w (.cells #[.int .i64 0, .bool false, .slice none 0 0, .string ⟨#[]⟩, .int .i64 0, .int .i64 0, .bool false, .bool false, .slice none 0 0] 29)) (.cells #[va] 74)) hB1; have hb' := blk_alloc hb (.cells (treeL (plainT a) (.slice A2 (plainT a).f1.f1.length c2) (.slice A8 (plainT a).f7.length c8)).toArray 29); obtain ⟨p0, p1, p2, p3, p4, p5, p6, p7, p8, pf⟩ := nine_cells hb')
    have hz := hB1.size
    simp only [World.size_alloc] at hz
    have hB2 : Below w.heap.size w w1 := (((Below.refl _ w).alloc (Nat.le_refl _) _).alloc (by rw [World.size_alloc]; omega) _).trans (hB1.mono (by simp only [World.size_alloc]; omega))
    have hT2 : TreeR w1 (w.heap.size + 1) (plainT a) (.slice A2 (plainT a).f1.f1.length c2) (.slice A8 (plainT a).f7.length c8) := hT1.lower (by simp only [World.size_alloc]; omega)
    have hT3 : TreeR _ (w.heap.size + 1) (plainT (.neg a)) (.slice none 0 0) (.slice (some ⟨w1.heap.size, 0, none⟩) 1 1) := ⟨nil_R, kids1 hT2 (by omega)⟩
    exact tree_ret Try.results21 rfl (nine_put hb' _ _ _ _ _ _ _ _ _) ⟨_, _, rfl, (hT3.put (Nat.lt_succ_self _) ..).lower (Nat.le_succ _), below_put9 (hB2.alloc (by omega) _) (Nat.le_refl _) _ _ _ _ _ _ _ _ _⟩
  | add a b iha ihb =>
    rintro v w hs ⟨va, vb, rfl, ha, hb⟩
    have hsa : SmallT a := hs.1
    have hsb : SmallT b := hs.2
    have hst := one_store ha.one
    have hst2 := one_store hb.one
    go_enter Try.func21, Try.ntmps21
    go_upto_region 10 with (fail)
    obtain ⟨W0, hW0⟩ : ∃ W0, (w.alloc (.cells #[.int .i64 0, .bool false, .slice none 0 0, .string ⟨#[]⟩, .int .i64 0, .int .i64 0, .bool false, .bool false, .slice none 0 0] 29)).alloc (.cells #[va, vb] 88) = W0 := ⟨_, rfl⟩
    have hz : W0.heap.size = w.heap.size + 2 := by rw [← hW0]; simp
    have hB0 : Below w.heap.size w W0 := by rw [← hW0]; exact ((Below.refl _ w).alloc (Nat.le_refl _) _).alloc (by rw [World.size_alloc]; omega) _
    have hr0 : W0.heap[w.heap.size]? = some (.cells #[.int .i64 0, .bool false, .slice none 0 0, .string ⟨#[]⟩, .int .i64 0, .int .i64 0, .bool false, .bool false, .slice none 0 0] 29 (0, 0)) := by rw [← hW0]; exact blk_alloc (blk_new _ _) _
    have hc0 : W0.heap[w.heap.size + 1]? = some (.cells #[va, vb] 88 (0, 0)) := by
      rw [← hW0]
      have := blk_new (w.alloc (.cells #[.int .i64 0, .bool false, .slice none 0 0, .string ⟨#[]⟩, .int .i64 0, .int .i64 0, .bool false, .bool false, .slice none 0 0] 29)) (.cells #[va, vb] 88)
      rwa [World.size_alloc] at this
    obtain ⟨s0, s1, _, _⟩ := two_cells hc0
    have s0d : W0.drew.cell? ⟨w.heap.size + 1, 0, none⟩ = some va := s0
    have s1d : W0.drew.cell? ⟨w.heap.size + 1, 1, none⟩ = some vb := s1
    have ha0 := ha.below hB0
    have hb0 := hb.below hB0
    rw [hW0]
    clear hW0
    go_region_held3 (fun w' => w'.cell? ⟨w.heap.size + 1, 0, none⟩ = some va ∧ w'.cell? ⟨w.heap.size + 1, 1, none⟩ = some vb) (first | exact ⟨by with_reducible assumption, by with_reducible assumption⟩ | (refine ⟨?_, ?_⟩ <;> (repeat (with_reducible refine far_cell (by simp) ?_)) <;> with_reducible assumption))
      (first
        | (go_at_call_of 21 va; refine (iha va _ hsa ?_).mono ?_; (first | exact ha0 | exact ha0.drew | exact ha0.drewN _); rintro e w1 ⟨v2, v8, rfl, hT1, hB1⟩; obtain ⟨A2, c2, A8, c8, rfl, rfl, -⟩ := hT1.forms; have hb1 : IsTm w1 b vb := by first | exact hb0.below hB1 | exact hb0.drew.below hB1 | exact (hb0.drewN _).below hB1
           have t0 : w1.cell? ⟨w.heap.size + 1, 0, none⟩ = some va := pw_cell_below hB1 s0
           have t1 : w1.cell? ⟨w.heap.size + 1, 1, none⟩ = some vb := pw_cell_below hB1 s1
           have hr1 := blk_on hB1 hr0)
        | (go_at_call_of 21 vb; refine (ihb vb _ hsb ?_).mono ?_; (first | exact hb1 | exact hb1.drew | exact hb1.drewN _); rintro e w2 ⟨u2, u8, rfl, hT2, hB2⟩; obtain ⟨D2, d2, D8, d8, rfl, rfl, -⟩ := hT2.forms
           have t2 : w2.cell? ⟨w.heap.size + 1, 0, none⟩ = some va := pw_cell_below hB2 t0
           have t3 : w2.cell? ⟨w.heap.size + 1, 1, none⟩ = some vb := pw_cell_below hB2 t1
           have hr2 := blk_on hB2 hr1
           have hr3 := blk_alloc hr2 (.cells #[.int .i64 (plainT a).f0, .bool (plainT a).f1.f0, .slice A2 (plainT a).f1.f1.length c2, .string (plainT a).f2, .int .i64 (plainT a).f3, .int .i64 (plainT a).f4, .bool (plainT a).f5, .bool (plainT a).f6, .slice A8 (plainT a).f7.length c8, .int .i64 (plainT b).f0, .bool (plainT b).f1.f0, .slice D2 (plainT b).f1.f1.length d2, .string (plainT b).f2, .int .i64 (plainT b).f3, .int .i64 (plainT b).f4, .bool (plainT b).f5, .bool (plainT b).f6, .slice D8 (plainT b).f7.length d8] 29)
           have t4 := pw_cell_below ((Below.refl _ w2).alloc (Nat.le_refl _) (.cells #[.int .i64 (plainT a).f0, .bool (plainT a).f1.f0, .slice A2 (plainT a).f1.f1.length c2, .string (plainT a).f2, .int .i64 (plainT a).f3, .int .i64 (plainT a).f4, .bool (plainT a).f5, .bool (plainT a).f6, .slice A8 (plainT a).f7.length c8, .int .i64 (plainT b).f0, .bool (plainT b).f1.f0, .slice D2 (plainT b).f1.f1.length d2, .string (plainT b).f2, .int .i64 (plainT b).f3, .int .i64 (plainT b).f4, .bool (plainT b).f5, .bool (plainT b).f6, .slice D8 (plainT b).f7.length d8] 29)) t2
           have t5 := pw_cell_below ((Below.refl _ w2).alloc (Nat.le_refl _) (.cells #[.int .i64 (plainT a).f0, .bool (plainT a).f1.f0, .slice A2 (plainT a).f1.f1.length c2, .string (plainT a).f2, .int .i64 (plainT a).f3, .int .i64 (plainT a).f4, .bool (plainT a).f5, .bool (plainT a).f6, .slice A8 (plainT a).f7.length c8, .int .i64 (plainT b).f0, .bool (plainT b).f1.f0, .slice D2 (plainT b).f1.f1.length d2, .string (plainT b).f2, .int .i64 (plainT b).f3, .int .i64 (plainT b).f4, .bool (plainT b).f5, .bool (plainT b).f6, .slice D8 (plainT b).f7.length d8] 29)) t3
           obtain ⟨p0, p1, p2, p3, p4, p5, p6, p7, p8, pf⟩ := nine_cells hr3))
    go_wp2_with fail
    have hz1 := hB1.size
    have hz2 := hB2.size
    have hzd : W0.drew.heap.size = W0.heap.size := rfl
    rw [hzd] at hz1
    have hBB : Below w.heap.size w w2 := (hB0.drew.trans (hB1.mono (by rw [hzd]; omega))).trans (hB2.mono (by omega))
    have hT1' : TreeR w2 (w.heap.size + 1) (plainT a) (.slice A2 (plainT a).f1.f1.length c2) (.slice A8 (plainT a).f7.length c8) := (hT1.below hB2).lower (by rw [hzd]; omega)
    have hT2' : TreeR w2 (w.heap.size + 1) (plainT b) (.slice D2 (plainT b).f1.f1.length d2) (.slice D8 (plainT b).f7.length d8) := hT2.lower (by omega)
    have hT3 : TreeR _ (w.heap.size + 1) (plainT (.add a b)) (.slice none 0 0) (.slice (some ⟨w2.heap.size, 0, none⟩) 2 2) := ⟨nil_R, kids2 hT1' hT2' (by omega)⟩
    exact tree_ret Try.results21 rfl (nine_put hr3 _ _ _ _ _ _ _ _ _) ⟨_, _, rfl, (hT3.put (Nat.lt_succ_self _) ..).lower (Nat.le_succ _), below_put9 (hBB.alloc (by omega) _) (Nat.le_refl _) _ _ _ _ _ _ _ _ _⟩
  | sub a b iha ihb =>
    rintro v w hs ⟨va, vb, rfl, ha, hb⟩
    have hsa : SmallT a := hs.1
    have hsb : SmallT b := hs.2
    have hst := one_store ha.one
    have hst2 := one_store hb.one
    go_enter Try.func21, Try.ntmps21
    go_upto_region 13 with (fail)
    obtain ⟨W0, hW0⟩ : ∃ W0, (w.alloc (.cells #[.int .i64 0, .bool false, .slice none 0 0, .string ⟨#[]⟩, .int .i64 0, .int .i64 0, .bool false, .bool false, .slice none 0 0] 29)).alloc (.cells #[va, vb] 75) = W0 := ⟨_, rfl⟩
    have hz : W0.heap.size = w.heap.size + 2 := by rw [← hW0]; simp
    have hB0 : Below w.heap.size w W0 := by rw [← hW0]; exact ((Below.refl _ w).alloc (Nat.le_refl _) _).alloc (by rw [World.size_alloc]; omega) _
    have hr0 : W0.heap[w.heap.size]? = some (.cells #[.int .i64 0, .bool false, .slice none 0 0, .string ⟨#[]⟩, .int .i64 0, .int .i64 0, .bool false, .bool false, .slice none 0 0] 29 (0, 0)) := by rw [← hW0]; exact blk_alloc (blk_new _ _) _
    have hc0 : W0.heap[w.heap.size + 1]? = some (.cells #[va, vb] 75 (0, 0)) := by
      rw [← hW0]
      have := blk_new (w.alloc (.cells #[.int .i64 0, .bool false, .slice none 0 0, .string ⟨#[]⟩, .int .i64 0, .int .i64 0, .bool false, .bool false, .slice none 0 0] 29)) (.cells #[va, vb] 75)
      rwa [World.size_alloc] at this
    obtain ⟨s0, s1, _, _⟩ := two_cells hc0
    have s0d : W0.drew.cell? ⟨w.heap.size + 1, 0, none⟩ = some va := s0
    have s1d : W0.drew.cell? ⟨w.heap.size + 1, 1, none⟩ = some vb := s1
    have ha0 := ha.below hB0
    have hb0 := hb.below hB0
    rw [hW0]
    clear hW0
    go_region_held3 (fun w' => w'.cell? ⟨w.heap.size + 1, 0, none⟩ = some va ∧ w'.cell? ⟨w.heap.size + 1, 1, none⟩ = some vb) (first | exact ⟨by with_reducible assumption, by with_reducible assumption⟩ | (refine ⟨?_, ?_⟩ <;> (repeat (with_reducible refine far_cell (by simp) ?_)) <;> with_reducible assumption))
      (first
        | (go_at_call_of 21 va; refine (iha va _ hsa ?_).mono ?_; (first | exact ha0 | exact ha0.drew | exact ha0.drewN _); rintro e w1 ⟨v2, v8, rfl, hT1, hB1⟩; obtain ⟨A2, c2, A8, c8, rfl, rfl, -⟩ := hT1.forms; have hb1 : IsTm w1 b vb := by first | exact hb0.below hB1 | exact hb0.drew.below hB1 | exact (hb0.drewN _).below hB1
           have t0 : w1.cell? ⟨w.heap.size + 1, 0, none⟩ = some va := pw_cell_below hB1 s0
           have t1 : w1.cell? ⟨w.heap.size + 1, 1, none⟩ = some vb := pw_cell_below hB1 s1
           have hr1 := blk_on hB1 hr0)
        | (go_at_call_of 21 vb; refine (ihb vb _ hsb ?_).mono ?_; (first | exact hb1 | exact hb1.drew | exact hb1.drewN _); rintro e w2 ⟨u2, u8, rfl, hT2, hB2⟩; obtain ⟨D2, d2, D8, d8, rfl, rfl, -⟩ := hT2.forms
           have t2 : w2.cell? ⟨w.heap.size + 1, 0, none⟩ = some va := pw_cell_below hB2 t0
           have t3 : w2.cell? ⟨w.heap.size + 1, 1, none⟩ = some vb := pw_cell_below hB2 t1
           have hr2 := blk_on hB2 hr1
           have hr3 := blk_alloc hr2 (.cells #[.int .i64 (plainT a).f0, .bool (plainT a).f1.f0, .slice A2 (plainT a).f1.f1.length c2, .string (plainT a).f2, .int .i64 (plainT a).f3, .int .i64 (plainT a).f4, .bool (plainT a).f5, .bool (plainT a).f6, .slice A8 (plainT a).f7.length c8, .int .i64 (plainT b).f0, .bool (plainT b).f1.f0, .slice D2 (plainT b).f1.f1.length d2, .string (plainT b).f2, .int .i64 (plainT b).f3, .int .i64 (plainT b).f4, .bool (plainT b).f5, .bool (plainT b).f6, .slice D8 (plainT b).f7.length d8] 29)
           have t4 := pw_cell_below ((Below.refl _ w2).alloc (Nat.le_refl _) (.cells #[.int .i64 (plainT a).f0, .bool (plainT a).f1.f0, .slice A2 (plainT a).f1.f1.length c2, .string (plainT a).f2, .int .i64 (plainT a).f3, .int .i64 (plainT a).f4, .bool (plainT a).f5, .bool (plainT a).f6, .slice A8 (plainT a).f7.length c8, .int .i64 (plainT b).f0, .bool (plainT b).f1.f0, .slice D2 (plainT b).f1.f1.length d2, .string (plainT b).f2, .int .i64 (plainT b).f3, .int .i64 (plainT b).f4, .bool (plainT b).f5, .bool (plainT b).f6, .slice D8 (plainT b).f7.length d8] 29)) t2
           have t5 := pw_cell_below ((Below.refl _ w2).alloc (Nat.le_refl _) (.cells #[.int .i64 (plainT a).f0, .bool (plainT a).f1.f0, .slice A2 (plainT a).f1.f1.length c2, .string (plainT a).f2, .int .i64 (plainT a).f3, .int .i64 (plainT a).f4, .bool (plainT a).f5, .bool (plainT a).f6, .slice A8 (plainT a).f7.length c8, .int .i64 (plainT b).f0, .bool (plainT b).f1.f0, .slice D2 (plainT b).f1.f1.length d2, .string (plainT b).f2, .int .i64 (plainT b).f3, .int .i64 (plainT b).f4, .bool (plainT b).f5, .bool (plainT b).f6, .slice D8 (plainT b).f7.length d8] 29)) t3
           obtain ⟨p0, p1, p2, p3, p4, p5, p6, p7, p8, pf⟩ := nine_cells hr3))
    go_wp2_with fail
    have hz1 := hB1.size
    have hz2 := hB2.size
    have hzd : W0.drew.heap.size = W0.heap.size := rfl
    rw [hzd] at hz1
    have hBB : Below w.heap.size w w2 := (hB0.drew.trans (hB1.mono (by rw [hzd]; omega))).trans (hB2.mono (by omega))
    have hT1' : TreeR w2 (w.heap.size + 1) (plainT a) (.slice A2 (plainT a).f1.f1.length c2) (.slice A8 (plainT a).f7.length c8) := (hT1.below hB2).lower (by rw [hzd]; omega)
    have hT2' : TreeR w2 (w.heap.size + 1) (plainT b) (.slice D2 (plainT b).f1.f1.length d2) (.slice D8 (plainT b).f7.length d8) := hT2.lower (by omega)
    have hT3 : TreeR _ (w.heap.size + 1) (plainT (.sub a b)) (.slice none 0 0) (.slice (some ⟨w2.heap.size, 0, none⟩) 2 2) := ⟨nil_R, kids2 hT1' hT2' (by omega)⟩
    exact tree_ret Try.results21 rfl (nine_put hr3 _ _ _ _ _ _ _ _ _) ⟨_, _, rfl, (hT3.put (Nat.lt_succ_self _) ..).lower (Nat.le_succ _), below_put9 (hBB.alloc (by omega) _) (Nat.le_refl _) _ _ _ _ _ _ _ _ _⟩
  | mul a b iha ihb =>
    rintro v w hs ⟨va, vb, rfl, ha, hb⟩
    have hsa : SmallT a := hs.1
    have hsb : SmallT b := hs.2
    have hst := one_store ha.one
    have hst2 := one_store hb.one
    go_enter Try.func21, Try.ntmps21
    go_upto_region 16 with (fail)
    obtain ⟨W0, hW0⟩ : ∃ W0, (w.alloc (.cells #[.int .i64 0, .bool false, .slice none 0 0, .string ⟨#[]⟩, .int .i64 0, .int .i64 0, .bool false, .bool false, .slice none 0 0] 29)).alloc (.cells #[va, vb] 70) = W0 := ⟨_, rfl⟩
    have hz : W0.heap.size = w.heap.size + 2 := by rw [← hW0]; simp
    have hB0 : Below w.heap.size w W0 := by rw [← hW0]; exact ((Below.refl _ w).alloc (Nat.le_refl _) _).alloc (by rw [World.size_alloc]; omega) _
    have hr0 : W0.heap[w.heap.size]? = some (.cells #[.int .i64 0, .bool false, .slice none 0 0, .string ⟨#[]⟩, .int .i64 0, .int .i64 0, .bool false, .bool false, .slice none 0 0] 29 (0, 0)) := by rw [← hW0]; exact blk_alloc (blk_new _ _) _
    have hc0 : W0.heap[w.heap.size + 1]? = some (.cells #[va, vb] 70 (0, 0)) := by
      rw [← hW0]
      have := blk_new (w.alloc (.cells #[.int .i64 0, .bool false, .slice none 0 0, .string ⟨#[]⟩, .int .i64 0, .int .i64 0, .bool false, .bool false, .slice none 0 0] 29)) (.cells #[va, vb] 70)
      rwa [World.size_alloc] at this
    obtain ⟨s0, s1, _, _⟩ := two_cells hc0
    have s0d : W0.drew.cell? ⟨w.heap.size + 1, 0, none⟩ = some va := s0
    have s1d : W0.drew.cell? ⟨w.heap.size + 1, 1, none⟩ = some vb := s1
    have ha0 := ha.below hB0
    have hb0 := hb.below hB0
    rw [hW0]
    clear hW0
    go_region_held3 (fun w' => w'.cell? ⟨w.heap.size + 1, 0, none⟩ = some va ∧ w'.cell? ⟨w.heap.size + 1, 1, none⟩ = some vb) (first | exact ⟨by with_reducible assumption, by with_reducible assumption⟩ | (refine ⟨?_, ?_⟩ <;> (repeat (with_reducible refine far_cell (by simp) ?_)) <;> with_reducible assumption))
      (first
        | (go_at_call_of 21 va; refine (iha va _ hsa ?_).mono ?_; (first | exact ha0 | exact ha0.drew | exact ha0.drewN _); rintro e w1 ⟨v2, v8, rfl, hT1, hB1⟩; obtain ⟨A2, c2, A8, c8, rfl, rfl, -⟩ := hT1.forms; have hb1 : IsTm w1 b vb := by first | exact hb0.below hB1 | exact hb0.drew.below hB1 | exact (hb0.drewN _).below hB1
           have t0 : w1.cell? ⟨w.heap.size + 1, 0, none⟩ = some va := pw_cell_below hB1 s0
           have t1 : w1.cell? ⟨w.heap.size + 1, 1, none⟩ = some vb := pw_cell_below hB1 s1
           have hr1 := blk_on hB1 hr0)
        | (go_at_call_of 21 vb; refine (ihb vb _ hsb ?_).mono ?_; (first | exact hb1 | exact hb1.drew | exact hb1.drewN _); rintro e w2 ⟨u2, u8, rfl, hT2, hB2⟩; obtain ⟨D2, d2, D8, d8, rfl, rfl, -⟩ := hT2.forms
           have t2 : w2.cell? ⟨w.heap.size + 1, 0, none⟩ = some va := pw_cell_below hB2 t0
           have t3 : w2.cell? ⟨w.heap.size + 1, 1, none⟩ = some vb := pw_cell_below hB2 t1
           have hr2 := blk_on hB2 hr1
           have hr3 := blk_alloc hr2 (.cells #[.int .i64 (plainT a).f0, .bool (plainT a).f1.f0, .slice A2 (plainT a).f1.f1.length c2, .string (plainT a).f2, .int .i64 (plainT a).f3, .int .i64 (plainT a).f4, .bool (plainT a).f5, .bool (plainT a).f6, .slice A8 (plainT a).f7.length c8, .int .i64 (plainT b).f0, .bool (plainT b).f1.f0, .slice D2 (plainT b).f1.f1.length d2, .string (plainT b).f2, .int .i64 (plainT b).f3, .int .i64 (plainT b).f4, .bool (plainT b).f5, .bool (plainT b).f6, .slice D8 (plainT b).f7.length d8] 29)
           have t4 := pw_cell_below ((Below.refl _ w2).alloc (Nat.le_refl _) (.cells #[.int .i64 (plainT a).f0, .bool (plainT a).f1.f0, .slice A2 (plainT a).f1.f1.length c2, .string (plainT a).f2, .int .i64 (plainT a).f3, .int .i64 (plainT a).f4, .bool (plainT a).f5, .bool (plainT a).f6, .slice A8 (plainT a).f7.length c8, .int .i64 (plainT b).f0, .bool (plainT b).f1.f0, .slice D2 (plainT b).f1.f1.length d2, .string (plainT b).f2, .int .i64 (plainT b).f3, .int .i64 (plainT b).f4, .bool (plainT b).f5, .bool (plainT b).f6, .slice D8 (plainT b).f7.length d8] 29)) t2
           have t5 := pw_cell_below ((Below.refl _ w2).alloc (Nat.le_refl _) (.cells #[.int .i64 (plainT a).f0, .bool (plainT a).f1.f0, .slice A2 (plainT a).f1.f1.length c2, .string (plainT a).f2, .int .i64 (plainT a).f3, .int .i64 (plainT a).f4, .bool (plainT a).f5, .bool (plainT a).f6, .slice A8 (plainT a).f7.length c8, .int .i64 (plainT b).f0, .bool (plainT b).f1.f0, .slice D2 (plainT b).f1.f1.length d2, .string (plainT b).f2, .int .i64 (plainT b).f3, .int .i64 (plainT b).f4, .bool (plainT b).f5, .bool (plainT b).f6, .slice D8 (plainT b).f7.length d8] 29)) t3
           obtain ⟨p0, p1, p2, p3, p4, p5, p6, p7, p8, pf⟩ := nine_cells hr3))
    go_wp2_with fail
    have hz1 := hB1.size
    have hz2 := hB2.size
    have hzd : W0.drew.heap.size = W0.heap.size := rfl
    rw [hzd] at hz1
    have hBB : Below w.heap.size w w2 := (hB0.drew.trans (hB1.mono (by rw [hzd]; omega))).trans (hB2.mono (by omega))
    have hT1' : TreeR w2 (w.heap.size + 1) (plainT a) (.slice A2 (plainT a).f1.f1.length c2) (.slice A8 (plainT a).f7.length c8) := (hT1.below hB2).lower (by rw [hzd]; omega)
    have hT2' : TreeR w2 (w.heap.size + 1) (plainT b) (.slice D2 (plainT b).f1.f1.length d2) (.slice D8 (plainT b).f7.length d8) := hT2.lower (by omega)
    have hT3 : TreeR _ (w.heap.size + 1) (plainT (.mul a b)) (.slice none 0 0) (.slice (some ⟨w2.heap.size, 0, none⟩) 2 2) := ⟨nil_R, kids2 hT1' hT2' (by omega)⟩
    exact tree_ret Try.results21 rfl (nine_put hr3 _ _ _ _ _ _ _ _ _) ⟨_, _, rfl, (hT3.put (Nat.lt_succ_self _) ..).lower (Nat.le_succ _), below_put9 (hBB.alloc (by omega) _) (Nat.le_refl _) _ _ _ _ _ _ _ _ _⟩
  | pow a e iha =>
    rintro v w hs ⟨va, rfl, ha⟩
    have hsa : SmallT a := hs
    have hst := one_store ha.one
    go_enter Try.func21, Try.ntmps21
    go_upto_region 22 with (fail)
    obtain ⟨W0, hW0⟩ : ∃ W0, (w.alloc (.cells #[.int .i64 0, .bool false, .slice none 0 0, .string ⟨#[]⟩, .int .i64 0, .int .i64 0, .bool false, .bool false, .slice none 0 0] 29)).alloc (.cells #[va, .int .i64 e] 72) = W0 := ⟨_, rfl⟩
    have hz : W0.heap.size = w.heap.size + 2 := by rw [← hW0]; simp
    have hB0 : Below w.heap.size w W0 := by rw [← hW0]; exact ((Below.refl _ w).alloc (Nat.le_refl _) _).alloc (by rw [World.size_alloc]; omega) _
    have hr0 : W0.heap[w.heap.size]? = some (.cells #[.int .i64 0, .bool false, .slice none 0 0, .string ⟨#[]⟩, .int .i64 0, .int .i64 0, .bool false, .bool false, .slice none 0 0] 29 (0, 0)) := by rw [← hW0]; exact blk_alloc (blk_new _ _) _
    have hc0 : W0.heap[w.heap.size + 1]? = some (.cells #[va, .int .i64 e] 72 (0, 0)) := by
      rw [← hW0]
      have := blk_new (w.alloc (.cells #[.int .i64 0, .bool false, .slice none 0 0, .string ⟨#[]⟩, .int .i64 0, .int .i64 0, .bool false, .bool false, .slice none 0 0] 29)) (.cells #[va, .int .i64 e] 72)
      rwa [World.size_alloc] at this
    obtain ⟨s0, s1, _, _⟩ := two_cells hc0
    have s0d : W0.drew.cell? ⟨w.heap.size + 1, 0, none⟩ = some va := s0
    have s1d : W0.drew.cell? ⟨w.heap.size + 1, 1, none⟩ = some (.int .i64 e) := s1
    have ha0 := ha.below hB0
    rw [hW0]
    clear hW0
    rcases Int.lt_or_le e 0 with he | he
    · go_region_held3 (fun w' => w'.cell? ⟨w.heap.size + 1, 0, none⟩ = some va ∧ w'.cell? ⟨w.heap.size + 1, 1, none⟩ = some (.int .i64 e)) (first | exact ⟨by with_reducible assumption, by with_reducible assumption⟩ | (refine ⟨?_, ?_⟩ <;> (repeat (with_reducible refine far_cell (by simp) ?_)) <;> with_reducible assumption))
        (first
          | (go_at_call_of 21 va; refine (iha va _ hsa ?_).mono ?_; (first | exact ha0 | exact ha0.drew | exact ha0.drewN _); rintro e w1 ⟨v2, v8, rfl, hT1, hB1⟩; obtain ⟨A2, c2, A8, c8, rfl, rfl, -⟩ := hT1.forms
             have t0 := pw_cell_below hB1 s0
             have t1 := pw_cell_below hB1 s1
             have hr1 := blk_on hB1 hr0
             have hr3 := blk_alloc hr1 (.cells #[.int .i64 (plainT a).f0, .bool (plainT a).f1.f0, .slice A2 (plainT a).f1.f1.length c2, .string (plainT a).f2, .int .i64 (plainT a).f3, .int .i64 (plainT a).f4, .bool (plainT a).f5, .bool (plainT a).f6, .slice A8 (plainT a).f7.length c8] 29)
             have t4 := pw_cell_below ((Below.refl _ w1).alloc (Nat.le_refl _) (.cells #[.int .i64 (plainT a).f0, .bool (plainT a).f1.f0, .slice A2 (plainT a).f1.f1.length c2, .string (plainT a).f2, .int .i64 (plainT a).f3, .int .i64 (plainT a).f4, .bool (plainT a).f5, .bool (plainT a).f6, .slice A8 (plainT a).f7.length c8] 29)) t0
             have t5 := pw_cell_below ((Below.refl _ w1).alloc (Nat.le_refl _) (.cells #[.int .i64 (plainT a).f0, .bool (plainT a).f1.f0, .slice A2 (plainT a).f1.f1.length c2, .string (plainT a).f2, .int .i64 (plainT a).f3, .int .i64 (plainT a).f4, .bool (plainT a).f5, .bool (plainT a).f6, .slice A8 (plainT a).f7.length c8] 29)) t1
             obtain ⟨p0, p1, p2, p3, p4, p5, p6, p7, p8, pf⟩ := nine_cells hr3))
      all_goals go_wp2_with fail
      all_goals
        (have hz1 := hB1.size
         have hzd : W0.drew.heap.size = W0.heap.size := rfl
         rw [hzd] at hz1
         have hBB : Below w.heap.size w w1 := hB0.drew.trans (hB1.mono (by rw [hzd]; omega))
         have hT1' : TreeR w1 (w.heap.size + 1) (plainT a) (.slice A2 (plainT a).f1.f1.length c2) (.slice A8 (plainT a).f7.length c8) := hT1.lower (by rw [hzd]; omega)
         have hT3 : TreeR _ (w.heap.size + 1) (plainT (.pow a e)) (.slice none 0 0) (.slice (some ⟨w1.heap.size, 0, none⟩) 1 1) := ⟨nil_R, kids1 hT1' (by omega)⟩
         refine tree_ret Try.results21 rfl (nine_put hr3 _ _ _ _ _ _ _ _ _) ⟨_, _, ?_, (hT3.put (Nat.lt_succ_self _) ..).lower (Nat.le_succ _), below_put9 (hBB.alloc (by omega) _) (Nat.le_refl _) _ _ _ _ _ _ _ _ _⟩
         refine congrArg Ending.returned ?_
         show Value.agg #[_, _, _, _, .int .i64 _, _, _, _, _] = Value.agg #[_, _, _, _, .int .i64 (if 0 ≤ e then e else 0), _, _, _, _]
         first
           | rw [if_neg (by omega)]; rfl
           | rw [if_pos (by omega)]; rfl)
    · go_region_held3 (fun w' => w'.cell? ⟨w.heap.size + 1, 0, none⟩ = some va ∧ w'.cell? ⟨w.heap.size + 1, 1, none⟩ = some (.int .i64 e)) (first | exact ⟨by with_reducible assumption, by with_reducible assumption⟩ | (refine ⟨?_, ?_⟩ <;> (repeat (with_reducible refine far_cell (by simp) ?_)) <;> with_reducible assumption))
        (first
          | (go_at_call_of 21 va; refine (iha va _ hsa ?_).mono ?_; (first | exact ha0 | exact ha0.drew | exact ha0.drewN _); rintro e w1 ⟨v2, v8, rfl, hT1, hB1⟩; obtain ⟨A2, c2, A8, c8, rfl, rfl, -⟩ := hT1.forms
             have t0 := pw_cell_below hB1 s0
             have t1 := pw_cell_below hB1 s1
             have hr1 := blk_on hB1 hr0
             have hr3 := blk_alloc hr1 (.cells #[.int .i64 (plainT a).f0, .bool (plainT a).f1.f0, .slice A2 (plainT a).f1.f1.length c2, .string (plainT a).f2, .int .i64 (plainT a).f3, .int .i64 (plainT a).f4, .bool (plainT a).f5, .bool (plainT a).f6, .slice A8 (plainT a).f7.length c8] 29)
             have t4 := pw_cell_below ((Below.refl _ w1).alloc (Nat.le_refl _) (.cells #[.int .i64 (plainT a).f0, .bool (plainT a).f1.f0, .slice A2 (plainT a).f1.f1.length c2, .string (plainT a).f2, .int .i64 (plainT a).f3, .int .i64 (plainT a).f4, .bool (plainT a).f5, .bool (plainT a).f6, .slice A8 (plainT a).f7.length c8] 29)) t0
             have t5 := pw_cell_below ((Below.refl _ w1).alloc (Nat.le_refl _) (.cells #[.int .i64 (plainT a).f0, .bool (plainT a).f1.f0, .slice A2 (plainT a).f1.f1.length c2, .string (plainT a).f2, .int .i64 (plainT a).f3, .int .i64 (plainT a).f4, .bool (plainT a).f5, .bool (plainT a).f6, .slice A8 (plainT a).f7.length c8] 29)) t1
             obtain ⟨p0, p1, p2, p3, p4, p5, p6, p7, p8, pf⟩ := nine_cells hr3))
      all_goals go_wp2_with fail
      all_goals
        (have hz1 := hB1.size
         have hzd : W0.drew.heap.size = W0.heap.size := rfl
         rw [hzd] at hz1
         have hBB : Below w.heap.size w w1 := hB0.drew.trans (hB1.mono (by rw [hzd]; omega))
         have hT1' : TreeR w1 (w.heap.size + 1) (plainT a) (.slice A2 (plainT a).f1.f1.length c2) (.slice A8 (plainT a).f7.length c8) := hT1.lower (by rw [hzd]; omega)
         have hT3 : TreeR _ (w.heap.size + 1) (plainT (.pow a e)) (.slice none 0 0) (.slice (some ⟨w1.heap.size, 0, none⟩) 1 1) := ⟨nil_R, kids1 hT1' (by omega)⟩
         refine tree_ret Try.results21 rfl (nine_put hr3 _ _ _ _ _ _ _ _ _) ⟨_, _, ?_, (hT3.put (Nat.lt_succ_self _) ..).lower (Nat.le_succ _), below_put9 (hBB.alloc (by omega) _) (Nat.le_refl _) _ _ _ _ _ _ _ _ _⟩
         refine congrArg Ending.returned ?_
         show Value.agg #[_, _, _, _, .int .i64 _, _, _, _, _] = Value.agg #[_, _, _, _, .int .i64 (if 0 ≤ e then e else 0), _, _, _, _]
         first
           | rw [if_neg (by omega)]; rfl
           | rw [if_pos (by omega)]; rfl)
end Go.Proofs.Ytddpojinlapmfaa.PRef
