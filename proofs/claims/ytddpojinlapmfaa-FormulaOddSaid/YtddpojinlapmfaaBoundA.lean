/- formula.Bound: the names of the quantifiers. -/
import Derived.Test.YtddpojinlapmfaaBoxA
namespace Go.Proofs.Ytddpojinlapmfaa.PRef
set_option linter.unusedVariables false
set_option linter.unusedSimpArgs false
open Go.RowKit Go.Shelf Go.Proofs.YtddpojinlapmfaaW.PrintWords Go.Proofs.YtddpojinlapmfaaW.PrintLast Go.Proofs.YtddpojinlapmfaaW.PrintMore
attribute [local go_sem] Oper.semAt_some
attribute [local go_sem] taH61 taM61 taN61

def bndF : Fm → List ByteArray
  | .quant _ s _ => [s]
  | _ => []
def bndL (l : List Fm) : List ByteArray := l.flatMap bndF
theorem bndL_len (l : List Fm) : (bndL l).length ≤ l.length := by
  induction l with
  | nil => simp [bndL]
  | cons F l ih =>
    have h : (bndF F).length ≤ 1 := by cases F <;> simp [bndF]
    simp only [bndL, List.flatMap_cons, List.length_append, List.length_cons] at ih ⊢
    omega
/-- A quantifier, or what is none. -/
theorem IsFm.quantOr {w : World} {F : Fm} {v : Value} (h : IsFm w F v) :
    (∃ q s a va, F = .quant q s a ∧ v = .iface 61 (.agg #[.bool q, .string s, va]) ∧ IsFm w a va) ∨ (bndF F = [] ∧ (v = .nilIface ∨ ∃ (a : Nat) (y : Value), a ≠ 61 ∧ v = .iface a y)) := by
  cases F with
  | truth b => cases h; exact .inr ⟨rfl, .inr ⟨_, _, by decide, rfl⟩⟩
  | atom l r s => obtain ⟨vl, vr, rfl, h1, h2⟩ := h; exact .inr ⟨rfl, .inr ⟨_, _, by decide, rfl⟩⟩
  | not a => obtain ⟨_, rfl, _⟩ := h; exact .inr ⟨rfl, .inr ⟨_, _, by decide, rfl⟩⟩
  | and a b => obtain ⟨_, _, rfl, _⟩ := h; exact .inr ⟨rfl, .inr ⟨_, _, by decide, rfl⟩⟩
  | or a b => obtain ⟨_, _, rfl, _⟩ := h; exact .inr ⟨rfl, .inr ⟨_, _, by decide, rfl⟩⟩
  | imp a b => obtain ⟨_, _, rfl, _⟩ := h; exact .inr ⟨rfl, .inr ⟨_, _, by decide, rfl⟩⟩
  | iff a b => obtain ⟨_, _, rfl, _⟩ := h; exact .inr ⟨rfl, .inr ⟨_, _, by decide, rfl⟩⟩
  | quant q s a => obtain ⟨va, rfl, h1⟩ := h; exact .inl ⟨_, _, _, _, rfl, rfl, h1⟩
  | odd u =>
    obtain ⟨rfl, rfl | ⟨p, rfl⟩⟩ := h
    · exact .inr ⟨rfl, .inl rfl⟩
    · exact .inr ⟨rfl, .inr ⟨_, _, by decide, rfl⟩⟩

/-- The box and its row speak of cells alone. -/
theorem BoxS.own {P : Nat → Prop} {B b : Nat} {w0 X Y : World} {acc : List ByteArray} {v : Value} {row : Option Nat} (hB : BoxS P B b w0 X acc v) (hg : X.grownBy Y row) (hrow : ∀ r, row = some r → B ≤ r ∧ ∃ o : Obj, X.heap[r]? = some o ∧ o.isCells = false) : BoxS P B b w0 Y acc v := by
  refine ⟨box_stays hB.blk hg (fun r e => (hrow r e).2), ?_, hB.bel.grown hg (by have := blk_lt hB.blk; have := hB.ge; omega) (fun k e => (hrow k e).1), hB.ge⟩
  refine Kd.R_mono (Kd.R_step (Kd.R_tight rfl hB.row) (fun k hk hlt => hg.block k hlt (fun e => ?_))) (fun k hk => hB.row.1 k hk.symm)
  obtain ⟨_, o, ho, hc⟩ := hrow k e.symm
  obtain ⟨cells, hq⟩ := Kd.R_typed hB.row k hk.symm
  rw [hq] at ho; cases ho; cases hc

set_option maxRecDepth 100000 in
set_option maxHeartbeats 4000000 in
theorem bound_any (F : Fm) (v : Value) (w0 w : World) (hv : IsFm w0 F v) (hF : (wk F 0).length ≤ 1000000) :
    Calls Try.prog 29 #[v] w fun e w' => ∃ A c, e = .returned (.slice A (bndL ((wk F 0).map Prod.snd)).length c) ∧ Kd.string.R 9 w' w.heap.size (fun _ => True) (.slice A (bndL ((wk F 0).map Prod.snd)).length c) (bndL ((wk F 0).map Prod.snd)) ∧ Below w.heap.size w w' := by
  have h1 : v.oneCell' = true := by rcases hv.shape with rfl | ⟨a, x, rfl⟩ <;> rfl
  refine (callsIn_wide (n := 9)).1 ?_
  refine callsIn_of_wp_marks Try.func29 rfl trivial ?_ rfl
  simp only [Try.ntmps29, List.size_toArray, List.length_cons, List.length_nil, Nat.reduceAdd, Nat.reduceSub, Array.replicate_succ, Array.replicate_zero, List.push_toArray, List.append_toArray, List.nil_append, List.cons_append]
  gi_wp2_with (refine ⟨trivial, ?_⟩; gi_at_call 32; refine (callsIn_wide.2 (parts_seq v _ h1)).mono ?_; rintro e w' ⟨rfl, rfl⟩)
  have hn0 := blk_alloc (blk_new w (.cells #[.slice none 0 0] 48)) (.cells #[v] 43)
  have hn1 := blk_new (w.alloc (.cells #[.slice none 0 0] 48)) (.cells #[v] 43)
  rw [World.size_alloc] at hn1
  have hBW : Below w.heap.size w ((w.alloc (.cells #[.slice none 0 0] 48)).alloc (.cells #[v] 43)) := ((Below.refl _ w).alloc (Nat.le_refl _) _).alloc (by simp) _
  refine wpIn_rangeFunc_ownG_of_H (α := Vis w0 (· ∈ wk F 0)) rfl (by omega) (gf := 65) (lb := #[.pointer (some ⟨w.heap.size + 1, 0, none⟩)]) rfl trivial (enters_of Try.func65 (by kernel_rfl) rfl)
    (parts_stops 8 (w.heap.size + 1) w0 F v _ (by simp) ((blk_cell hn1 0).trans rfl) hv hF) Keeps.trans (fun W l o o' _ h hc _ => keeps_put l o o' h hc) (Below.refl _ _) (fun _ => rfl)
    (fun pre W => ∃ vo, BoxS (fun _ => True) w.heap.size w.heap.size w W (bndL (pre.map (fun x => x.1.2.1))) vo)
    (fun _ _ _ => False)
    (fun s A B row hs hg hr => by
      obtain ⟨vo, hs⟩ := hs
      exact ⟨vo, hs.own hg (fun r e => ⟨by have := (hr r e).1; simp at this; omega, (hr r e).2⟩)⟩) (fun _ _ _ _ _ hs _ _ => hs) ⟨.slice none 0 0, hn0, Kd.R_nil _ _ _ _ _, hBW, Nat.le_refl _⟩ ?frm ?assign ?body ?done ?stop (fun W => Keeps.refl W)
  case assign =>
    intro l x W K hK
    dsimp only [Vis.enc]
    gi_wp2
    exact hK
  case body =>
    rintro l pre ⟨⟨d, G, u⟩, hu, hP⟩ W ⟨vo, hB⟩ hlen
    dsimp only at hu
    dsimp only
    obtain ⟨acc, hacc⟩ : ∃ acc, bndL (pre.map (fun x => x.1.2.1)) = acc := ⟨_, rfl⟩
    have hl : acc.length ≤ 1000000000000 := by have := bndL_len (pre.map (fun x => x.1.2.1)); rw [hacc] at this; simp at this; omega
    rw [hacc] at hB
    have HA := Lib.hid hacc
    clear hacc
    obtain ⟨A, c, hs⟩ := str_slice hB.row
    subst hs
    rcases hu.quantOr with ⟨q, s, a, va, rfl, rfl, ha⟩ | ⟨hA, rfl | ⟨a, y, ha, rfl⟩⟩
    · have hst := one_store ha.one
      have hW := (Below.refl W.heap.size W).alloc (Nat.le_refl _) (.cells #[.bool q, .string s, va] 61)
      have hB1 := hB.below hW
      obtain ⟨d0, d1⟩ := box_of hB1.blk
      obtain ⟨p0, p1, p2⟩ := three_box (blk_new W (.cells #[.bool q, .string s, va] 61))
      gi_wp2_with (gi_at_builtin; refine app9_in rfl (.tmp 18) (.tmp 21) rfl (fun _ => True) w.heap.size w.heap.size w (.slice A acc.length c) acc s rfl (by show Value.slice _ 1 1 = _; simp) hB1 (fun _ _ => trivial) hl ?_; intro v1 W1 hc1 hf1 hb1 hk1 hv1; obtain ⟨A1, cc1, rfl⟩ := hv1)

      have hkc := (KeepsC.of_below hW).trans (hk1.keepsC hB1.blk)
      refine ⟨hkc.ko.from _, hkc.boxes, .slice A1 (acc.length + 1) cc1, ?_⟩
      have e : bndL ((pre ++ [(⟨(d, .quant q s a, _), hu, hP⟩ : Vis w0 (· ∈ wk F 0))]).map (fun x => x.1.2.1)) = acc ++ [s] := by
        rw [List.map_append, List.map_singleton]; simp only [bndL, List.flatMap_append]; rw [← HA.out]; rfl
      rw [e]
      exact hb1
    · have hW := (Below.refl W.heap.size W).alloc (Nat.le_refl _) (.cells #[.bool false, .string ⟨#[]⟩, .nilIface] 61)
      gi_wp2
      refine ⟨(KeepsC.of_below hW).ko.from _, Keeps.of_below hW, .slice A acc.length c, ?_⟩
      rw [List.map_append, List.map_singleton]
      have e : bndL (pre.map (fun x => x.1.2.1) ++ [G]) = acc := by simp only [bndL, List.flatMap_append, List.flatMap_singleton, hA, List.append_nil]; exact HA.out
      rw [e]
      exact hB.below hW
    · have hW := (Below.refl W.heap.size W).alloc (Nat.le_refl _) (.cells #[.bool false, .string ⟨#[]⟩, .nilIface] 61)
      gi_wp2
      refine ⟨(KeepsC.of_below hW).ko.from _, Keeps.of_below hW, .slice A acc.length c, ?_⟩
      rw [List.map_append, List.map_singleton]
      have e : bndL (pre.map (fun x => x.1.2.1) ++ [G]) = acc := by simp only [bndL, List.flatMap_append, List.flatMap_singleton, hA, List.append_nil]; exact HA.out
      rw [e]
      exact hB.below hW
  case done =>
    rintro D ys W hD hys ⟨vo, hB⟩ hK
    have e := Vis.snd hys
    dsimp only at hB
    rw [e] at hB
    obtain ⟨A, c, hs⟩ := str_slice hB.row
    subst hs
    obtain ⟨c0, c1⟩ := box_of hB.blk
    gi_wp2
    refine ⟨by simp, .inl ⟨_, _, rfl, run_takeDeferred hK, ?_⟩⟩
    have hb2 := belowK_b (w := w) (Nat.le_refl _) W D (.deferred (some [])) (.deferred none) (by simp at hD; omega) hK rfl rfl
    have hB2 := hB.own (Y := W.putObj D (.deferred none)) (row := some D) (grownBy_putObj' W D _) (fun r e => by cases e; exact ⟨by simp at hD; omega, _, hK, rfl⟩)
    exact ⟨_, results_tmp rfl _ _ _, A, c, rfl, hB2.row, hB2.bel⟩
  case stop =>
    rintro D c pre W _ _ h _
    exact h.elim
end Go.Proofs.Ytddpojinlapmfaa.PRef
