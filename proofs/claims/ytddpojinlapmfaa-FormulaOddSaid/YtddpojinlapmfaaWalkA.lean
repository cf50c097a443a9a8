/- formula.walk, Parts: what the iterator visits of a formula. -/
import Derived.RangeFuncNested
import Derived.RangeFuncBound
import Derived.RangeFuncCalls
import Derived.RangeFuncLeaves
import Derived.Shelf.Abstract
import Derived.Shelf.RegionOpen
import Derived.WalkKit
import Derived.OwnWalkIn
import Derived.TacticsInMore
import Derived.LoopNIn
import Derived.LoopIn
import Derived.Test.YtddpojinlapmfaaPartsA
namespace Go.Proofs.Ytddpojinlapmfaa.PRef
set_option linter.unusedVariables false
set_option linter.unusedSimpArgs false
open Go.RowKit Go.Shelf Go.Proofs.YtddpojinlapmfaaW.PrintWords Go.Proofs.YtddpojinlapmfaaW.PrintLast Go.Proofs.YtddpojinlapmfaaW.PrintMore
attribute [local go_sem] Oper.semAt_some

theorem kids_ind {P : Fm → Prop} (h : ∀ F, (∀ G ∈ kidsF F, P G) → P F) : ∀ F, P F := by
  intro F
  induction F with
  | truth b => exact h _ (by simp [kidsF])
  | atom l r s => exact h _ (by simp [kidsF])
  | odd u => exact h _ (by simp [kidsF])
  | not a ih => exact h _ (by simpa [kidsF] using ih)
  | quant q s a ih => exact h _ (by simpa [kidsF] using ih)
  | and a b iha ihb => exact h _ (by simpa [kidsF] using ⟨iha, ihb⟩)
  | or a b iha ihb => exact h _ (by simpa [kidsF] using ⟨iha, ihb⟩)
  | imp a b iha ihb => exact h _ (by simpa [kidsF] using ⟨iha, ihb⟩)
  | iff a b iha ihb => exact h _ (by simpa [kidsF] using ⟨iha, ihb⟩)

/-- A formula and all formulas in it, each before those in it, with its depth. -/
def wk : Fm → Int → List (Int × Fm)
  | .truth b, d => [(d, .truth b)]
  | .atom l r s, d => [(d, .atom l r s)]
  | .odd u, d => [(d, .odd u)]
  | .not a, d => (d, .not a) :: wk a (d + 1)
  | .quant q s a, d => (d, .quant q s a) :: wk a (d + 1)
  | .and a b, d => (d, .and a b) :: (wk a (d + 1) ++ wk b (d + 1))
  | .or a b, d => (d, .or a b) :: (wk a (d + 1) ++ wk b (d + 1))
  | .imp a b, d => (d, .imp a b) :: (wk a (d + 1) ++ wk b (d + 1))
  | .iff a b, d => (d, .iff a b) :: (wk a (d + 1) ++ wk b (d + 1))
theorem wk_kids (F : Fm) (d : Int) : wk F d = (d, F) :: (kidsF F).flatMap (fun G => wk G (d + 1)) := by
  cases F <;> simp [wk, kidsF]
/-- What is visited: a depth, and a formula that reads in w0. -/
abbrev Vis (w0 : World) (P : Int × Fm → Prop) : Type := { x : Int × Fm × Value // IsFm w0 x.2.1 x.2.2 ∧ P (x.1, x.2.1) }
def Vis.pi {w0 : World} {P : Int × Fm → Prop} (x : Vis w0 P) : Int × Fm := (x.1.1, x.1.2.1)
def Vis.enc {w0 : World} {P : Int × Fm → Prop} (x : Vis w0 P) : Array Value := #[.int .i64 x.1.1, x.1.2.2]

theorem flat_take {α β : Type} (f : α → List β) (l : List α) (k : Nat) (h : k < l.length) : (l.take (k + 1)).flatMap f = (l.take k).flatMap f ++ f l[k] := by
  rw [List.take_succ_eq_append_getElem h, List.flatMap_append]; simp
theorem flat_take_le {α β : Type} (f : α → List β) (l : List α) (k : Nat) (h : k < l.length) : ((l.take k).flatMap f).length + (f l[k]).length ≤ (l.flatMap f).length := by
  have e : l.flatMap f = (l.take (k + 1)).flatMap f ++ (l.drop (k + 1)).flatMap f := by rw [← List.flatMap_append, List.take_append_drop]
  rw [e, flat_take f l k h]; simp
theorem flat_take_pre {α β : Type} (f : α → List β) (l : List α) (k : Nat) (h : k < l.length) (q : List β) (hq : q <+: f l[k]) : (l.take k).flatMap f ++ q <+: l.flatMap f := by
  have e : l.flatMap f = (l.take (k + 1)).flatMap f ++ (l.drop (k + 1)).flatMap f := by rw [← List.flatMap_append, List.take_append_drop]
  rw [e, flat_take f l k h]
  obtain ⟨r, hr⟩ := hq
  exact ⟨r ++ (l.drop (k + 1)).flatMap f, by rw [← hr]; simp⟩

/-- The element of a row of formulas, in the walk's own spelling. -/
theorem KidsR.at {w0 w : World} {v : Value} {l : List Fm} (h : KidsR w0 w v l) (k : Nat) (hk : k < l.length) :
    ∃ g u, v = .slice (some ⟨g, 0, none⟩) l.length l.length ∧ w.cell? ⟨g, k, none⟩ = some u ∧ IsFm w0 l[k] u := by
  rcases h with ⟨rfl, _⟩ | ⟨g, vs, h1, h2, h3, h4, h5, h6⟩
  · simp at hk
  · refine ⟨g, vs[k], h1, ?_, h6 k hk (by omega)⟩
    rw [blk_cell h4 k]
    simp [h5 ▸ hk]

theorem KidsR.slice {w0 w : World} {v : Value} {l : List Fm} (h : KidsR w0 w v l) : ∃ A, v = .slice A l.length l.length := by
  rcases h with ⟨rfl, rfl⟩ | ⟨g, vs, h1, _⟩
  · exact ⟨_, rfl⟩
  · exact ⟨_, h1⟩
theorem KidsR.keeps {w0 w w' : World} {v : Value} {l : List Fm} (h : KidsR w0 w v l) (hk : Keeps w w') : KidsR w0 w' v l := by
  rcases h with h | ⟨g, vs, h1, h2, h3, h4, h5, h6⟩
  · exact .inl h
  · exact .inr ⟨g, vs, h1, h2, h3, hk _ _ _ (by simp [boxT]) h4, h5, h6⟩
theorem KidsR.le {w0 w : World} {v : Value} {l : List Fm} (h : KidsR w0 w v l) : l.length ≤ 2 := by
  rcases h with ⟨rfl, rfl⟩ | ⟨g, vs, h1, _, h2, _⟩
  · simp
  · exact h2

set_option maxRecDepth 100000 in
set_option maxHeartbeats 2000000 in
theorem walk_y (l N : Nat) (w0 : World) (P : Int × Fm → Prop) (J Jx : List (Vis w0 P) → World → Prop)
    (hJ : ∀ pre W W', J pre W → Below W.heap.size W W' → J pre W')
    (hY : ∀ m pre x W, J pre W → pre.length < N → YieldAt Fence.wide m Try.prog l x.enc W fun e W' =>
      (e = .returned (.bool true) ∧ J (pre ++ [x]) W' ∧ Keeps W W') ∨ (e = .returned (.bool false) ∧ Jx (pre ++ [x]) W')) (F : Fm) :
    ∀ (n : Nat) (v : Value) (d : Int) (pre : List (Vis w0 P)) (W : World), IsFm w0 F v → J pre W → pre.length + (wk F d).length ≤ N → 0 ≤ d → d + (wk F d).length ≤ 1000000 → (∀ y ∈ wk F d, P y) →
      CallsIn Fence.wide n Try.prog 66 #[v, .int .i64 d, .func (.yield l) #[] #[]] W fun e W' =>
        (e = .returned (.bool true) ∧ ∃ ys : List (Vis w0 P), ys.map Vis.pi = wk F d ∧ J (pre ++ ys) W' ∧ Keeps W W') ∨ (e = .returned (.bool false) ∧ ∃ ys : List (Vis w0 P), ys.map Vis.pi <+: wk F d ∧ Jx (pre ++ ys) W') := by
  induction F using kids_ind with
  | h F ih =>
  intro n v d pre W hv hJ0 hN hd0 hd1 hP
  rw [wk_kids] at hN hd1 hP
  have hP0 : P (d, F) := hP _ (List.mem_cons_self ..)
  have hPk := Lib.hid (fun y hy => hP y (List.mem_cons_of_mem _ hy))
  clear hP
  simp only [List.length_cons] at hN hd1
  have hy := hY (n - 1) pre ⟨(d, F, v), hv, hP0⟩ W hJ0 (by omega)
  obtain ⟨fn, tmps, assign, body, hy1, hR⟩ := hy
  dsimp only [Vis.enc] at hy1
  have hp := parts_any F v w0
  have hdd : ∀ k : Nat, (Fence.wide.depth.isSome = true → 1 ≤ k) := fun k h => by cases h
  refine callsIn_of_wp Try.func66 rfl trivial ?_ rfl
  simp only [Try.ntmps66, List.size_toArray, List.length_cons, List.length_nil, Nat.reduceAdd, Nat.reduceSub, Array.replicate_succ, Array.replicate_zero, List.push_toArray, List.append_toArray, List.nil_append, List.cons_append]
  gi_wp2_with (first
    | (refine ⟨hdd _, ?_⟩; refine hR.mono ?_; clear hR; rintro e W1 (⟨rfl, hJ1, hK1⟩ | ⟨rfl, hx1⟩))
    | (refine ⟨trivial, hdd _, ?_⟩; gi_at_call 88; refine (callsIn_wide.2 (hp _ hv)).mono ?_; rintro e W2 ⟨r, rfl, hKR, hB2⟩; obtain ⟨A, hr⟩ := hKR.slice; subst hr))
  · obtain ⟨K, hK⟩ : ∃ K, kidsF F = K := ⟨_, rfl⟩
    rw [hK] at hKR hN hd1 ih ⊢
    have HK := Lib.hid hK
    clear hK
    have hle := hKR.le
    have hJ2 := hJ _ _ _ hJ1 hB2
    have hK2 := hK1.trans (Keeps.of_below hB2)
    gi_loopw [17] (fun i wr => ∃ (k : Nat) (ys : List (Vis w0 P)), k ≤ K.length ∧ i = .int .i64 k ∧ Hid (ys.map Vis.pi = (d, F) :: (K.take k).flatMap (fun G => wk G (d + 1))) ∧ J (pre ++ ys) wr ∧ Keeps W wr ∧ KidsR w0 wr (.slice A K.length K.length) K) (fun i _ => K.length - (intOf i).toNat)
    case atStart => exact ⟨0, [⟨(d, F, v), hv, hP0⟩], by omega, rfl, Lib.hid (by simp [Vis.pi]), hJ2, hK2, hKR⟩
    case round =>
      obtain ⟨k, ys, hk, rfl, HY, hJr, hKr, hRr⟩ := hrel
      by_cases hlt : k < K.length
      · obtain ⟨g, u, hs, hc, hu⟩ := hRr.at k hlt
        cases hs
        have hyl : ys.length = 1 + ((K.take k).flatMap (fun G => wk G (d + 1))).length := by
          have := congrArg List.length HY.out
          simpa [Nat.add_comm] using this
        have hfl := flat_take_le (fun G => wk G (d + 1)) K k hlt
        have hwl : 1 ≤ (wk K[k] (d + 1)).length := by rw [wk_kids]; simp
        have ihk := ih K[k] (List.getElem_mem hlt) (n - 1) u (d + 1) (pre ++ ys) wr hu hJr (by rw [List.length_append]; omega) (by omega) (by omega) (fun y hy => hPk.out y (by rw [HK.out]; exact List.mem_flatMap.2 ⟨_, List.getElem_mem hlt, hy⟩))
        have HL := Lib.hid hyl
        have hk64 : (k : Int) < 3 := by omega
        have hd64 : d ≤ 1000000 := by omega
        have hfp := flat_take_pre (fun G => wk G (d + 1)) K k hlt
        have hft := Lib.hid (flat_take (fun G => wk G (d + 1)) K k hlt)
        clear hyl hfl hN hd1 hwl
        gi_wp2_with (refine ⟨trivial, hdd _, ?_⟩; gi_at_call 66; refine ihk.mono ?_; clear ihk; rintro e W3 (⟨rfl, zs, hz, hJ3, hK3⟩ | ⟨rfl, zs, hz, hx3⟩))
        · go_roundw
          case rel => exact ⟨k + 1, ys ++ zs, by omega, by go_num, Lib.hid (by rw [List.map_append, HY.out, hft.out, hz]; rfl), by rw [← List.append_assoc]; exact hJ3, hKr.trans hK3, hRr.keeps hK3⟩
          case measure => simp [intOf]; omega
        · go_ret
          refine .inr ⟨rfl, ys ++ zs, ?_, by rw [← List.append_assoc]; exact hx3⟩
          rw [wk_kids, HK.out, List.map_append, HY.out]
          exact List.cons_prefix_cons.2 ⟨rfl, hfp _ hz⟩
      · obtain rfl : k = K.length := by omega
        clear hN hd1
        gi_wp2
        go_ret
        refine .inl ⟨rfl, ys, ?_, hJr, hKr⟩
        rw [wk_kids, HK.out, HY.out, List.take_length]
  · go_ret
    exact .inr ⟨rfl, [⟨(d, F, v), hv, hP0⟩], by rw [wk_kids]; exact ⟨(kidsF F).flatMap (fun G => wk G (d + 1)), rfl⟩, hx1⟩

/-- No depth is asked at the wide fence. -/
theorem yield_deep {m m' l : Nat} {args : Array Value} {W : World} {R : Ending → World → Prop} (h : YieldAt Fence.wide m Try.prog l args W R) : YieldAt Fence.wide m' Try.prog l args W R := by
  obtain ⟨fn, tmps, assign, body, hy, h1, h2⟩ := h
  exact ⟨fn, tmps, assign, body, hy, h1, fun c cs _ => h2 c cs (room_wide _)⟩

set_option maxRecDepth 100000 in
set_option maxHeartbeats 1600000 in
/-- The iterator that formula.Parts hands back. -/
theorem parts_stops (n : Nat) (Bn : Nat) (w0 : World) (F : Fm) (v : Value) (w : World) (hBn : Bn < w.heap.size) (hc : w.cell? ⟨Bn, 0, none⟩ = some v) (hv : IsFm w0 F v) (hF : (wk F 0).length ≤ 1000000) :
    SeqStopsK Fence.wide n Try.prog 65 #[.pointer (some ⟨Bn, 0, none⟩)] (Vis.enc (w0 := w0) (P := (· ∈ wk F 0))) Keeps (fun ys => ys.map Vis.pi = wk F 0) (fun pre => pre.map Vis.pi <+: wk F 0) (wk F 0).length w := by
  intro l J Jx W hW hJ hJx hY h0
  have hcW : W.cell? ⟨Bn, 0, none⟩ = some v := (hW.cell (p := ⟨Bn, 0, none⟩) hBn).trans hc
  have hJ' : ∀ pre A B, J pre A → Below A.heap.size A B → J pre B := fun pre A B h hb => hJ pre A B none h ⟨hb.os, hb.tape, hb.output, hb.size, fun k hk _ => hb.block k hk⟩ (fun r e => by cases e)
  have hdd : ∀ k : Nat, (Fence.wide.depth.isSome = true → 1 ≤ k) := fun k h => by cases h
  have hw := walk_y l (wk F 0).length w0 _ J Jx hJ' (fun m pre x W1 h1 h2 => yield_deep (m := n - 1) (hY pre x W1 h1 h2)) F (n - 1) v 0 [] W hv h0 (by simp) (by omega) (by omega) (fun _ h => h)
  show CallsIn Fence.wide n Try.prog 65 #[.func (.yield l) #[] #[], .pointer (some ⟨Bn, 0, none⟩)] W _
  refine callsIn_of_wp Try.func65 rfl trivial ?_ rfl
  simp only [Try.ntmps65, List.size_toArray, List.length_cons, List.length_nil, Nat.reduceAdd, Nat.reduceSub, Array.replicate_succ, Array.replicate_zero, List.push_toArray, List.append_toArray, List.nil_append, List.cons_append]
  gi_wp2_with (refine ⟨trivial, hdd _, ?_⟩; gi_at_call 66; refine hw.mono ?_; clear hw; rintro e W1 (⟨rfl, ys, hy, hJ1, _⟩ | ⟨rfl, ys, hy, hx⟩))
  · go_end0
    exact ⟨⟨_, rfl⟩, .inl ⟨_, hy, hJ1⟩⟩
  · go_end0
    exact ⟨⟨_, rfl⟩, .inr ⟨_, hy, hx⟩⟩

set_option maxHeartbeats 400000 in
theorem parts_seq (v : Value) (w : World) (h1 : v.oneCell' = true) :
    Calls Try.prog 32 #[v] w fun e w' => e = .returned (.func (.func 65) #[] #[.pointer (some ⟨w.heap.size, 0, none⟩)]) ∧ w' = w.alloc (.cells #[v] 43) := by
  have hst := one_store h1
  have hmf : ∀ (fn : Fn) (first cap : Array Value) (w : World), (Instr.makeFunc fn first cap).run Try.prog w = .ok (.func fn first cap) w := fun _ _ _ _ => rfl
  go_enter Try.func32, Try.ntmps32
  go_wp2
  go_ret
  exact ⟨rfl, rfl⟩
end Go.Proofs.Ytddpojinlapmfaa.PRef
