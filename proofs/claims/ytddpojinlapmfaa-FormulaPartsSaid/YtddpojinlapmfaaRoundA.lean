/- A region that draws its order, in a round of a loop over an iterator, under the wide fence: it is enough to walk it as if it stood in no round. -/
import Derived.Deep.RegionHeld3
import Derived.RangeFuncCalls
import Derived.OrdersIn
import Derived.TacticsIn
namespace Go
variable {P : Program} {ops : Array Oper} {Q : Exit → Act → World → Prop} {n l : Nat}

theorem rows_round {row : String} {args : Array Value} {w : World} {R : Value → World → Prop} (h : Rows P row args w R) : RowsIn (Fence.wide.inRound l) n P row args w R :=
  fun c cs _ => let ⟨v, w', r, s⟩ := h c cs; ⟨v, w', r, stepsIn_wide.2 s⟩
theorem oper_round {o : Oper} {a : Act} {w : World} {K : Act → World → Prop} (hd : ∀ c, o.op ≠ .defer c) (h : o.wp P a w K Q) : o.wpIn (Fence.wide.inRound l) n P a w K Q := by
  refine ⟨fun _ _ => trivial, ?_⟩
  unfold Oper.wp at h
  rw [Fence.inRound_round, Oper.semAt_some l _ _ hd]
  revert h
  generalize (execOp a.eval o).run P w = r
  intro h
  cases r with
  | ok x w' =>
    cases x
    case enter f args => exact ⟨(fun hx => by cases hx), CallsIn.inRound l (callsIn_wide.2 h)⟩
    case row row args => exact ⟨(fun hx => by cases hx), rows_round h⟩
    all_goals first | exact h | exact h.elim
  | halt x w' =>
    cases x <;> first | exact h | exact h.elim
theorem wpAny_round {md : Region.Mode} (hd : ∀ (i : Nat) (o : Oper), ops[i]? = some o → ∀ c, o.op ≠ .defer c) (hno : ¬ LetsOut Q) : ∀ (fuel : Nat) (listed : Array Bool) (a : Act) (w : World), wpAny P md ops Q fuel listed a w → wpAnyIn (Fence.wide.inRound l) n P md ops Q fuel listed a w := by
  intro fuel
  induction fuel with
  | zero => intro listed a w h; exact h
  | succ fuel ih =>
    intro listed a w h
    refine ⟨h.1, fun i hi => ?_⟩
    have h2 := h.2 i hi
    unfold wpOp at h2
    unfold wpOpIn
    cases ho : ops[i]? with
    | none => rw [ho] at h2; exact ih _ _ _ h2
    | some o =>
      rw [ho] at h2
      dsimp only at h2 ⊢
      split
      · next hw =>
        rw [if_pos hw] at h2
        rcases h2 with h2 | h2
        · exact Oper.wpIn_mono (fun a w => ih _ a w) (oper_round (hd i o ho) h2)
        · exact absurd h2.2 hno
      · next hw =>
        rw [if_neg hw] at h2
        exact ⟨fun _ _ => trivial, ih _ _ _ h2⟩
/-- The beginning of a walk that holds S. -/
theorem region_round_held {id : Nat} {S : World → Prop} {a : Act} {w : World} (hm : P.follows .mixedOrders = true) (hd : ∀ (i : Nat) (o : Oper), ops[i]? = some o → ∀ c, o.op ≠ .defer c) (hno : ¬ LetsOut Q) (hS : S w.drew)
    (h : S w.drew → wpAnyH P .any ops Q S ops.size (Array.replicate ops.size false) a w.drew) : (Code.region id ops true).wpIn (Fence.wide.inRound l) n P Q a w :=
  wpIn_region_any hm (wpAny_round hd hno _ _ _ _ (wpAny_of_held _ _ _ _ (h hS)))
/-- No operation is a defer. -/
def noDefer (ops : Array Oper) : Bool := ops.all (fun o => match o.op with | .defer _ => false | _ => true)
theorem noDefer_spec {ops : Array Oper} (h : noDefer ops = true) : ∀ (i : Nat) (o : Oper), ops[i]? = some o → ∀ c, o.op ≠ .defer c := by
  intro i o ho c e
  have := (Array.all_eq_true_iff_forall_mem.1 h) o (Array.mem_of_getElem? ho)
  rw [e] at this
  cases this
/-- 'wpAnyH_take' with the operation read off the list, and the state laid out: an operation that is carried out. -/
theorem take_at {md : Region.Mode} {S : World → Prop} (i : Nat) {d : Tmp} {oi : Oper} {v : Value} {fuel : Nat} {listed : Array Bool} {T : Array Value} {D : List Deferred} {w : World} (hi : ops.toList[i]? = some oi) (hd : oi.dst = some d)
    (hs : Region.noSelect ops = true) (hf : Region.free md ops listed i = true) (hr : (Region.ready md ops listed).contains i = true)
    (hQ : ∀ c a w, Q (.panic c) (a.put oi.dst v) w → Q (.panic c) a w) (hy : YieldsIf P ops S oi v ⟨T, D⟩) (hS : S w)
    (h : wpAnyH P md ops Q S fuel (listed.setIfInBounds i true) ⟨T.setIfInBounds d v, D⟩ w) : wpAnyH P md ops Q S (fuel + 1) listed ⟨T, D⟩ w := by
  refine wpAnyH_take (i := i) (oi := oi) (v := v) (by rw [← hi, Array.getElem?_toList]) hs hf hr hQ hy hS ?_
  rw [hd]
  exact h
/-- One that comes up in whatever order, with the operation read off the list. -/
theorem cons_at {md : Region.Mode} {S : World → Prop} (i : Nat) {o : Oper} {rs : List Nat} {fuel : Nat} {listed : Array Bool} {a : Act} {w : World} (hi : ops.toList[i]? = some o) (hw : Region.wanted o (yielded ops a.tmps) = true)
    (h : ∀ K' : Act → World → Prop, Shut (∀ a w, S w → (S w → wpAnyH P md ops Q S fuel (listed.setIfInBounds i true) a w) → K' a w) → Oper.wp P o a w K' Q)
    (hs : AllReadyH P md ops Q S fuel listed a w rs) : AllReadyH P md ops Q S fuel listed a w (i :: rs) :=
  AllReadyH.cons (by rw [← hi, Array.getElem?_toList]) (fun K' hK => by rw [if_pos hw]; exact h K' hK) hs

/-! ### The same under the wide fence, in no round. -/
theorem rows_plain {row : String} {args : Array Value} {w : World} {R : Value → World → Prop} (h : Rows P row args w R) : RowsIn Fence.wide n P row args w R :=
  fun c cs _ => let ⟨v, w', r, s⟩ := h c cs; ⟨v, w', r, stepsIn_wide.2 s⟩
theorem oper_plain {o : Oper} {a : Act} {w : World} {K : Act → World → Prop} (h : o.wp P a w K Q) : o.wpIn Fence.wide n P a w K Q := by
  refine ⟨fun _ _ => trivial, ?_⟩
  unfold Oper.wp at h
  rw [show Fence.wide.round = none from rfl, Oper.semAt_none]
  revert h
  generalize (execOp a.eval o).run P w = r
  intro h
  cases r with
  | ok x w' =>
    cases x
    case enter f args => exact ⟨(fun hx => by cases hx), callsIn_wide.2 h⟩
    case row row args => exact ⟨(fun hx => by cases hx), rows_plain h⟩
    all_goals first | exact h | exact h.elim
  | halt x w' =>
    cases x <;> first | exact h | exact h.elim
theorem wpAny_plain {md : Region.Mode} (hno : ¬ LetsOut Q) : ∀ (fuel : Nat) (listed : Array Bool) (a : Act) (w : World), wpAny P md ops Q fuel listed a w → wpAnyIn Fence.wide n P md ops Q fuel listed a w := by
  intro fuel
  induction fuel with
  | zero => intro listed a w h; exact h
  | succ fuel ih =>
    intro listed a w h
    refine ⟨h.1, fun i hi => ?_⟩
    have h2 := h.2 i hi
    unfold wpOp at h2
    unfold wpOpIn
    cases ho : ops[i]? with
    | none => rw [ho] at h2; exact ih _ _ _ h2
    | some o =>
      rw [ho] at h2
      dsimp only at h2 ⊢
      split
      · next hw =>
        rw [if_pos hw] at h2
        rcases h2 with h2 | h2
        · exact Oper.wpIn_mono (fun a w => ih _ a w) (oper_plain h2)
        · exact absurd h2.2 hno
      · next hw =>
        rw [if_neg hw] at h2
        exact ⟨fun _ _ => trivial, ih _ _ _ h2⟩
theorem region_wide_held {id : Nat} {S : World → Prop} {a : Act} {w : World} (hm : P.follows .mixedOrders = true) (hno : ¬ LetsOut Q) (hS : S w.drew)
    (h : S w.drew → wpAnyH P .any ops Q S ops.size (Array.replicate ops.size false) a w.drew) : (Code.region id ops true).wpIn Fence.wide n P Q a w :=
  wpIn_region_any hm (wpAny_plain hno _ _ _ _ (wpAny_of_held _ _ _ _ (h hS)))
/-- The post where only the way onward is left. -/
def Onward (Q : Exit → Act → World → Prop) : Exit → Act → World → Prop
  | .normal, a, w => Q .normal a w
  | _, _, _ => False
theorem Onward.intro {a : Act} {w : World} (h : Q .normal a w) : Onward Q .normal a w := h
theorem Onward.no : ¬ LetsOut (Onward Q) := fun ⟨_, _, h⟩ => h
theorem Onward.out : ∀ (e : Exit) (a : Act) (w : World), Onward Q e a w → Q e a w
  | .normal, _, _, h => h
  | .ret, _, _, h => h.elim
  | .exit _, _, _, h => h.elim
  | .goto _, _, _, h => h.elim
  | .panic _, _, _, h => h.elim
  | .outgrown, _, _, h => h.elim
theorem region_wide_calm {id : Nat} {S : World → Prop} {a : Act} {w : World} (hm : P.follows .mixedOrders = true) (hS : S w.drew)
    (h : S w.drew → wpAnyH P .any ops (Onward Q) S ops.size (Array.replicate ops.size false) a w.drew) : (Code.region id ops true).wpIn Fence.wide n P Q a w :=
  wpIn_mono (region_wide_held hm Onward.no hS h) Onward.out
end Go
