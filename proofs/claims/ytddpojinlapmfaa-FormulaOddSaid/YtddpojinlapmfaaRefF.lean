/- cylinderref34.free, Free: walked by hand. -/
import Derived.Test.YtddpojinlapmfaaPRefRH
import Derived.Deep.RegionLaw
import Derived.Test.YtddpojinlapmfaaBoxA
import Derived.Test.YtddpojinlapmfaaPureA
import Derived.Test.YtddpojinlapmfaaRefB
namespace Go.Proofs.Ytddpojinlapmfaa.PRef
set_option linter.unusedVariables false
set_option linter.unusedSimpArgs false
open Go.RowKit Go.Proofs.YtddpojinlapmfaaW.PrintWords Go.Proofs.YtddpojinlapmfaaW.PrintLast Go.Proofs.YtddpojinlapmfaaW.PrintMore

theorem has_ev (l : List ByteArray) (s : ByteArray) (hl : l.length ≤ 9223372036854775806) : Ev (fun k => cylinderref34_Has.f k l s) (hasB l s) := by
  have key : ∀ (n i : Nat), i + n = l.length → Ev (fun k => cylinderref34_Has.l0 k l s (l.length : Int) (i : Int)) (hasB (l.drop i) s) := by
    intro n
    induction n with
    | zero =>
      intro i hi
      rw [List.drop_of_length_le (by omega)]
      exact Ev.step (fun k => by rw [cylinderref34_Has.l0]) (Ev.ifn (by omega) (Ev.val (by simp [hasB])))
    | succ n ih =>
      intro i hi
      have hlt : i < l.length := by omega
      have e := rdOf_at (d := ByteArray.empty) l i hlt
      rw [List.drop_eq_getElem_cons hlt]
      by_cases hs : l[i] = s
      · exact Ev.step (fun k => by rw [cylinderref34_Has.l0]) (Ev.ifp (by omega) (Ev.ifp (by omega) (Ev.ifp (by omega) (Ev.ifp (by rw [e]; exact toList_inj.2 hs) (Ev.val (by simp [hasB, hs]))))))
      · refine Ev.step (fun k => by rw [cylinderref34_Has.l0]) (Ev.ifp (by omega) (Ev.ifp (by omega) (Ev.ifp (by omega) (Ev.ifn (by rw [e]; exact fun h => hs (toList_inj.1 h)) ?_))))
        rw [wrap_succ (by omega)]
        exact Ev.to (by simp only [hasB, List.any_cons, hs, decide_false, Bool.false_or]) (ih (i + 1) (by omega))
  have := key l.length 0 (by omega)
  rw [List.drop_zero] at this
  exact Ev.congr (fun k => by rw [cylinderref34_Has.f]; rfl) this
theorem has_any (A : Option Addr) (c : Nat) (l : List ByteArray) (s : ByteArray) (w : World) (hC : Kd.C Kd.string w A l.length l) (hc : l.length ≤ c) (hl : l.length ≤ 9223372036854775806) :
    Calls Try.prog 51 #[.slice A l.length c, .string s] w fun e w' => e = .returned (.bool (hasB l s)) ∧ ∃ m, w' = w.drewN m := by
  obtain ⟨k, hk⟩ := (has_ev l s hl).rounds
  exact (cylinderref34_Has.calls k A c l s _ w hC hc hk).mono fun _ _ h => ⟨h.1, h.2.out⟩

/-- Only rows of texts that P lets in have turned. -/
structure KeepsQ (P : Nat → Prop) (W W' : World) : Prop where
  size : W.heap.size ≤ W'.heap.size
  typ : ∀ (g : Nat) (o : Obj), W.heap[g]? = some o → (∀ cs fr, o ≠ .cells cs 9 fr) → W'.heap[g]? = some o
  prot : ∀ g, g < W.heap.size → ¬ P g → W'.heap[g]? = W.heap[g]?
theorem KeepsQ.refl (P : Nat → Prop) (W : World) : KeepsQ P W W := ⟨Nat.le_refl _, fun _ _ h _ => h, fun _ _ _ => rfl⟩
theorem KeepsQ.trans {P : Nat → Prop} {X Y Z : World} (h : KeepsQ P X Y) (k : KeepsQ P Y Z) : KeepsQ P X Z :=
  ⟨Nat.le_trans h.size k.size, fun g o hg ho => k.typ g o (h.typ g o hg ho) ho, fun g hg hp => (k.prot g (by have := h.size; omega) hp).trans (h.prot g hg hp)⟩
theorem KeepsQ.of_below {P : Nat → Prop} {W W' : World} (h : Below W.heap.size W W') : KeepsQ P W W' :=
  ⟨h.size, fun g o hg _ => blk_below hg h, fun g hg _ => h.block g hg⟩
theorem KeepsQ.mono {P Q : Nat → Prop} {W W' : World} (h : KeepsQ P W W') (hq : ∀ k, k < W.heap.size → ¬ Q k → ¬ P k) : KeepsQ Q W W' :=
  ⟨h.size, h.typ, fun g hg hp => h.prot g hg (hq g hg hp)⟩
/-- An append to the row v. -/
theorem KeepsQ.grown {P : Nat → Prop} {B : Nat} {W w1 : World} {v : Value} {xs : List ByteArray} (hr : Kd.string.R 9 W B P v xs) (hg : W.grownBy w1 v.ownBlock) : KeepsQ P W w1 := by
  refine ⟨hg.size, fun g o hgo ho => (hg.block g (blk_lt hgo) (fun e => ?_)).trans hgo, fun g hlt hp => hg.block g hlt (fun e => hp (hr.1 g e.symm))⟩
  obtain ⟨cells, hc⟩ := Kd.R_typed hr g e.symm
  rw [hgo] at hc
  exact ho _ _ (Option.some.inj hc)
def StQ (P : Nat → Prop) (w : World) (A : Option Addr) (bs : List ByteArray) : Prop := ∀ W, KeepsQ P w W → Kd.C Kd.string W A bs.length bs
theorem StQ.next {P : Nat → Prop} {w w' : World} {A : Option Addr} {bs : List ByteArray} (h : StQ P w A bs) (hk : KeepsQ P w w') : StQ P w' A bs := fun W hW => h W (hk.trans hW)

mutual
/-- cylinderref34.free -/
def freeS : S29 → List ByteArray → List ByteArray → List ByteArray
  | ⟨k, _, nm, _, _, _, _, kids⟩, bs, out => if k = 2 ∧ hasB bs nm = false ∧ hasB out nm = false then out ++ [nm] else freeK kids (if k = 15 then bs ++ [nm] else bs) out
def freeK : List S29 → List ByteArray → List ByteArray → List ByteArray
  | [], _, out => out
  | a :: l, bs, out => freeK l bs (freeS a bs out)
end
theorem freeK_fold (bs : List ByteArray) : ∀ (l : List S29) (out : List ByteArray), freeK l bs out = l.foldl (fun o y => freeS y bs o) out := by
  intro l
  induction l with
  | nil => intro out; rfl
  | cons a l ih => intro out; simp only [freeK, List.foldl_cons]; exact ih _
theorem freeS_eq (x : S29) (bs out : List ByteArray) : freeS x bs out = if x.f0 = 2 ∧ hasB bs x.f2 = false ∧ hasB out x.f2 = false then out ++ [x.f2] else x.f7.foldl (fun o y => freeS y (if x.f0 = 15 then bs ++ [x.f2] else bs) o) out := by
  cases x; simp only [freeS, freeK_fold]
theorem freeS_len : ∀ (x : S29) (bs out : List ByteArray), (freeS x bs out).length ≤ out.length + sizeS x := by
  intro x
  induction x using S29.ind with
  | h x ih =>
  intro bs out
  rw [freeS_eq, sizeS_eq]
  split
  · simp
  · have key : ∀ (bs : List ByteArray) (l : List S29), (∀ y ∈ l, ∀ bs out, (freeS y bs out).length ≤ out.length + sizeS y) → ∀ out : List ByteArray, (l.foldl (fun o y => freeS y bs o) out).length ≤ out.length + sizeK l := by
      intro bs l
      induction l with
      | nil => intro _ out; simp [sizeK]
      | cons a l ihl =>
        intro hl out
        have h1 := ihl (fun y hy => hl y (by simp [hy])) (freeS a bs out)
        have h2 := hl a (by simp) bs out
        simp only [List.foldl_cons, sizeK]
        omega
    have := key (if x.f0 = 15 then bs ++ [x.f2] else bs) x.f7 ih out
    omega
theorem freeSK_len (bs : List ByteArray) : ∀ (l : List S29) (out : List ByteArray), (l.foldl (fun o y => freeS y bs o) out).length ≤ out.length + sizeK l := by
  intro l
  induction l with
  | nil => intro out; simp [sizeK]
  | cons a l ihl =>
    intro out
    have h1 := ihl (freeS a bs out)
    have h2 := freeS_len a bs out
    simp only [List.foldl_cons, sizeK]
    omega

section
variable {ops : Array Oper} {rest : List Oper} {o : Oper} {a : Act} {Q : Exit → Act → World → Prop} {Kc : Act → World → Prop} {W : World}
/-- append of texts that lie anywhere to a row of the call's own: a step of a region that draws its order. -/
theorem appR_step (hw : Region.wanted o (yielded ops a.tmps) = true) (s x : Operand) (ho : o.op = .call { callee := .builtin .append, args := #[s, x], argTypes := #[48, 48] }) (P : Nat → Prop) (B : Nat) (w0 : World) (v : Value) (xs ys : List ByteArray) (A : Option Addr) (m c : Nat)
    (hs : a.eval s = v) (hx : a.eval x = .slice A m c) (HO : Kd.string.R 9 W B P v xs) (HC : Kd.C Kd.string W A m ys) (hP : ∀ k, W.heap.size ≤ k → P k) (HB : Below B w0 W) (hB : B ≤ W.heap.size) (hl : xs.length + m ≤ 2000000000000)
    (h : ∀ v1 w1, Kd.string.R 9 w1 B P v1 (xs ++ ys) → Below B w0 w1 → W.grownBy w1 v.ownBlock → (∃ A1 c1, v1 = .slice A1 (xs ++ ys).length c1) → Kc (a.put o.dst v1) w1) :
    if Region.wanted o (yielded ops a.tmps) = true then Oper.wp Try.prog o a W Kc Q else Kc (a.put o.dst undef) W := by
  refine Kd.R_append_rows_step (w0 := w0) Kd.string B hw s x 48 9 (.string ⟨#[]⟩) 16 ho Try.underlying48 info9 rfl (by decide) (by decide) v xs ys A m c P (fun _ => False) hs hx HO HC (fun _ _ hk => hk) (fun _ hk => hk.elim) hP HB hB (by omega) ?_
  intro v1 w1 hr hb hg _
  exact h v1 w1 hr hb hg (str_slice hr)
/-- append of a text to a row of the call's own, in a walk. -/
theorem appR1 (hgd : o.guard = none) (s x : Operand) (ho : o.op = .call { callee := .builtin .append, args := #[s, x], argTypes := #[48, 48] }) (P : Nat → Prop) (B : Nat) (w0 : World) (v : Value) (xs : List ByteArray) (p : ByteArray)
    (hs : a.eval s = v) (hx : a.eval x = .slice (some ⟨W.heap.size, 0, none⟩) 1 1) (HO : Kd.string.R 9 W B P v xs) (hP : ∀ k, W.heap.size ≤ k → P k) (HB : Below B w0 W) (hB : B ≤ W.heap.size) (hl : xs.length ≤ 1000000000000)
    (h : ∀ v1 w1, Kd.string.R 9 w1 B P v1 (xs ++ [p]) → Below B w0 w1 → W.grownBy w1 v.ownBlock → wpList Try.prog ops Q rest (a.put o.dst v1) w1) :
    wpList Try.prog ops Q (o :: rest) a (W.alloc (.cells #[.string p] 9)) := by
  refine Kd.R_append (w0 := w0) Kd.string B hgd s x 48 9 (.string ⟨#[]⟩) 16 ho Try.underlying48 info9 rfl (by decide) (by decide) v xs p [.string p] P (fun _ => False) hs hx (str_M p) (fun _ hk => hk.elim) hP HO HB hB (by omega) ?_
  intro v1 w1 hr hb hg _
  exact h v1 w1 hr hb hg
end
/-- A row of no texts, laid. -/
theorem emp_row {W : World} {g B : Nat} {P : Nat → Prop} (h : W.heap[g]? = some (.cells #[] 9 (0, 0))) (hB : B ≤ g) (hP : P g) : Kd.string.R 9 W B P (.slice (some ⟨g, 0, none⟩) 0 0) [] := by
  refine ⟨fun k hk => ?_, [], ⟨rfl, .inr ⟨g, 0, #[], rfl, hB, h, Nat.le_refl _, by simp [maxLen], rfl, rfl⟩⟩, Reps.none _ _⟩
  have : g = k := by simpa [Value.ownBlock] using hk
  exact this ▸ hP
theorem one_C {W : World} {g : Nat} {s : ByteArray} (h : W.heap[g]? = some (.cells #[.string s] 9 (0, 0))) : Kd.C Kd.string W (some ⟨g, 0, none⟩) 1 [s] := by
  refine ⟨rfl, by simp, fun _ => ⟨_, rfl, fun j p hj => ⟨[.string p], rfl, rfl, fun i u hu => ?_⟩⟩⟩
  obtain rfl : j = 0 := by rcases j with _ | j <;> simp_all
  obtain rfl : i = 0 := by rcases i with _ | i <;> simp_all
  simp only [List.getElem?_cons_zero, Option.some.injEq] at hj hu
  subst hj hu
  exact (blk_cell h 0).trans rfl
end Go.Proofs.Ytddpojinlapmfaa.PRef
