/- formula.two and formula.term: the term of a tree. -/
import Derived.Test.YtddpojinlapmfaaFmB
import Derived.Test.YtddpojinlapmfaaPlainA
namespace Go.Proofs.Ytddpojinlapmfaa.PRef
set_option linter.unusedVariables false
set_option linter.unusedSimpArgs false
open Go.RowKit Go.Proofs.YtddpojinlapmfaaW.PrintWords Go.Proofs.YtddpojinlapmfaaW.PrintLast Go.Proofs.YtddpojinlapmfaaW.PrintMore

/-- A tree that reads in a world. -/
structure ReadR (w : World) (x : S29) (A2 : Option Addr) (c2 : Nat) (A8 : Option Addr) (c8 : Nat) : Prop where
  l2 : x.f1.f1.length ≤ c2
  g2 : (Kd.int .u32).C w A2 x.f1.f1.length x.f1.f1
  l8 : x.f7.length ≤ c8
  g8 : k29.C w A8 x.f7.length x.f7
theorem ReadR.below {w w' : World} {x : S29} {A2 : Option Addr} {c2 : Nat} {A8 : Option Addr} {c8 : Nat} (h : ReadR w x A2 c2 A8 c8) (hb : Below w.heap.size w w') : ReadR w' x A2 c2 A8 c8 :=
  ⟨h.l2, Kd.C_below h.g2 hb, h.l8, Kd.C_below h.g8 hb⟩

/-- What formula.term gives of the tree x. -/
def TermGives (x : S29) : Prop := ∀ (A2 : Option Addr) (c2 : Nat) (A8 : Option Addr) (c8 : Nat) (w : World), ReadR w x A2 c2 A8 c8 →
  Calls Try.prog 55 #[treeV x (.slice A2 x.f1.f1.length c2) (.slice A8 x.f7.length c8)] w fun e w' => ∃ v, e = .returned (.tuple #[v, .bool (termOf x).2]) ∧ IsTm w' (termOf x).1 v ∧ Below w.heap.size w w'

/-- The element i of a row of trees, in the walk's own spelling. -/
theorem tree_at {w : World} {A : Option Addr} {l : List S29} (h : k29.C w A l.length l) (i : Nat) (hi : i < l.length) :
    ∃ ad A2 c2 A8 c8, A = some ad ∧ w.cell? (ad.add (i * 9)) = some (.int .i64 l[i].f0) ∧ w.cell? ⟨(ad.add (i * 9)).block, (ad.add (i * 9)).off + 1, none⟩ = some (.bool l[i].f1.f0) ∧
      w.cell? ⟨(ad.add (i * 9)).block, (ad.add (i * 9)).off + 2, none⟩ = some (.slice A2 l[i].f1.f1.length c2) ∧ w.cell? ⟨(ad.add (i * 9)).block, (ad.add (i * 9)).off + 3, none⟩ = some (.string l[i].f2) ∧
      w.cell? ⟨(ad.add (i * 9)).block, (ad.add (i * 9)).off + 4, none⟩ = some (.int .i64 l[i].f3) ∧ w.cell? ⟨(ad.add (i * 9)).block, (ad.add (i * 9)).off + 5, none⟩ = some (.int .i64 l[i].f4) ∧
      w.cell? ⟨(ad.add (i * 9)).block, (ad.add (i * 9)).off + 6, none⟩ = some (.bool l[i].f5) ∧ w.cell? ⟨(ad.add (i * 9)).block, (ad.add (i * 9)).off + 7, none⟩ = some (.bool l[i].f6) ∧
      w.cell? ⟨(ad.add (i * 9)).block, (ad.add (i * 9)).off + 8, none⟩ = some (.slice A8 l[i].f7.length c8) ∧ ReadR w l[i] A2 c2 A8 c8 := by
  have hrd : rd_T29 l (i : Int) = l[i] := by simp [rd_T29, hi]
  obtain ⟨ad, A2, c2, A8, c8, e, q0, q1, q2, q3, q4, q5, q6, q7, q8, l2, g2, l8, g8⟩ := at_T29 h (i : Int) (by omega) (by omega)
  rw [hrd] at q0 q1 q2 q3 q4 q5 q6 q7 q8 l2 g2 l8 g8
  simp only [Int.toNat_natCast] at q0 q1 q2 q3 q4 q5 q6 q7 q8
  exact ⟨ad, A2, c2, A8, c8, e, q0, q1, q2, q3, q4, q5, q6, q7, q8, l2, g2, l8, g8⟩

set_option maxRecDepth 100000 in
set_option maxHeartbeats 1600000 in
theorem two_any (A : Option Addr) (c : Nat) (l : List S29) (w : World) (hl : l.length ≤ c) (hC : k29.C w A l.length l) (ih : ∀ x ∈ l, TermGives x) :
    Calls Try.prog 83 #[.slice A l.length c] w fun e w' => ∃ va vb, e = .returned (.tuple #[va, vb, .bool (twoOf l).2.2]) ∧ IsTm w' (twoOf l).1 va ∧ IsTm w' (twoOf l).2.1 vb ∧ Below w.heap.size w w' := by
  have hu29 := Try.underlying29
  by_cases h2 : l.length = 2
  · obtain ⟨a, b, rfl⟩ : ∃ a b, l = [a, b] := by
      match l, h2 with
      | [a, b], _ => exact ⟨a, b, rfl⟩
    obtain ⟨ad, A2, c2, A8, c8, rfl, q0, q1, q2, q3, q4, q5, q6, q7, q8, hRa⟩ := tree_at hC 0 (by simp)
    obtain ⟨ad', D2, d2, D8, d8, hE, r0, r1, r2, r3, r4, r5, r6, r7, r8, hRb⟩ := tree_at hC 1 (by simp)
    obtain rfl := Option.some.inj hE
    have e0 : ad.add (0 * 9) = ad := by simp [Addr.add]
    rw [e0] at q0 q1 q2 q3 q4 q5 q6 q7 q8
    simp only [Nat.one_mul, List.getElem_cons_zero, List.getElem_cons_succ] at q0 q1 q2 q3 q4 q5 q6 q7 q8 r0 r1 r2 r3 r4 r5 r6 r7 r8 hRa hRb
    have e1 : ad.add 9 = ⟨ad.block, ad.off + 9, none⟩ := by simp [Addr.add]
    simp only [e1] at r0 r1 r2 r3 r4 r5 r6 r7 r8
    have iha := ih a (by simp)
    have ihb := ih b (by simp)
    have hl2 : (2 : Nat) ≤ c := hl
    go_enter Try.func83, Try.ntmps83
    go_upto_region 4 with (go_at_call 55; refine (iha A2 c2 A8 c8 _ hRa).mono ?_; rintro e w1 ⟨va, rfl, hTa, hB1⟩; have m0 := pw_cell_below hB1 r0; have m1 := pw_cell_below hB1 r1; have m2 := pw_cell_below hB1 r2; have m3 := pw_cell_below hB1 r3; have m4 := pw_cell_below hB1 r4; have m5 := pw_cell_below hB1 r5; have m6 := pw_cell_below hB1 r6; have m7 := pw_cell_below hB1 r7; have m8 := pw_cell_below hB1 r8)
    go_upto_region 5 with (go_at_call 55; refine (ihb D2 d2 D8 d8 _ (hRb.below hB1)).mono ?_; rintro e w2 ⟨vb, rfl, hTb, hB2⟩)
    have hW := hB1.trans (hB2.mono hB1.size)
    have hT' := hTa.below hB2
    have ht : twoOf [a, b] = ((termOf a).1, (termOf b).1, (termOf a).2 && (termOf b).2) := rfl
    cases hA : (termOf a).2 with
    | true =>
      go_wp2_with fail
      exact bodyPost_ret (v := .tuple #[va, vb, .bool (termOf b).2]) (by simp [results, Try.results83, go_sem]) rfl ⟨va, vb, by rw [ht, hA]; rfl, hT', hTb, hW⟩
    | false =>
      go_wp2_with fail
      exact bodyPost_ret (v := .tuple #[va, vb, .bool false]) (by simp [results, Try.results83, go_sem]) rfl ⟨va, vb, by rw [ht, hA]; rfl, hT', hTb, hW⟩
  · have ht : twoOf l = (nilT, nilT, false) := by
      match l, h2 with
      | [], _ => rfl
      | [_], _ => rfl
      | _ :: _ :: _ :: _, _ => rfl
    have hn : ((l.length : Int) != 2) = true := bne_iff_ne.2 (by omega)
    go_enter Try.func83, Try.ntmps83
    go_wp2_with fail
    exact bodyPost_ret (v := .tuple #[.nilIface, .nilIface, .bool false]) (by simp [results, Try.results83, go_sem]) rfl ⟨.nilIface, .nilIface, by rw [ht], by rw [ht]; exact ⟨rfl, .inl rfl⟩, by rw [ht]; exact ⟨rfl, .inl rfl⟩, Below.refl _ _⟩

/-- The numbers of a tree are short. -/
inductive SmallS : S29 → Prop
  | mk (x : S29) (h : x.f1.f1.length ≤ 1000) (hk : ∀ y ∈ x.f7, SmallS y) : SmallS x

theorem IsTm.shape {w : World} {t : Tm} {v : Value} (h : IsTm w t v) : v = .nilIface ∨ ∃ a x, v = .iface a x := by
  cases t with
  | num n xs => obtain ⟨_, _, rfl, _⟩ := h; exact .inr ⟨_, _, rfl⟩
  | name s => cases h; exact .inr ⟨_, _, rfl⟩
  | add a b => obtain ⟨_, _, rfl, _⟩ := h; exact .inr ⟨_, _, rfl⟩
  | sub a b => obtain ⟨_, _, rfl, _⟩ := h; exact .inr ⟨_, _, rfl⟩
  | mul a b => obtain ⟨_, _, rfl, _⟩ := h; exact .inr ⟨_, _, rfl⟩
  | neg a => obtain ⟨_, rfl, _⟩ := h; exact .inr ⟨_, _, rfl⟩
  | pow a e => obtain ⟨_, rfl, _⟩ := h; exact .inr ⟨_, _, rfl⟩
  | odd u =>
    obtain ⟨rfl, rfl | ⟨p, rfl⟩⟩ := h
    · exact .inl rfl
    · exact .inr ⟨_, _, rfl⟩

set_option maxRecDepth 100000 in
set_option maxHeartbeats 4000000 in
theorem term_any : ∀ (x : S29), SmallS x → TermGives x := by
  have hu29 := Try.underlying29
  have hu25 := Try.underlying25
  have hu80 := Try.underlying80
  have hu82 := Try.underlying82
  intro x hx
  induction hx with
  | mk x h hk ih =>
    intro A2 c2 A8 c8 w hR
    obtain ⟨k, ⟨n, ws⟩, nm, e, r, tr, al, kids⟩ := x
    obtain ⟨l2, g2, l8, g8⟩ := hR
    dsimp only at h hk ih l2 g2 l8 g8 ⊢
    have hkl : ((kids.length : Int) == 0) = kids.isEmpty := by
      cases kids with
      | nil => rfl
      | cons a l => exact beq_eq_false_iff_ne.2 (by simp only [List.length_cons]; omega)
    obtain ⟨T, hT⟩ : ∃ T, termOf ⟨k, ⟨n, ws⟩, nm, e, r, tr, al, kids⟩ = T := ⟨_, rfl⟩
    rw [hT]
    by_cases k2 : k = 2
    · subst k2
      have hT2 : T = (.name nm, kids.isEmpty) := by rw [← hT]; unfold termOf; simp
      subst hT2
      clear hT
      go_enter Try.func55, Try.ntmps55
      go_upto_region 5 with (fail)
      go_quiet (fail)
      go_wp2_with fail
      exact bodyPost_ret (v := .tuple #[.iface 82 (.agg #[.string nm]), .bool kids.isEmpty]) (by simp [results, Try.results55, go_sem]) rfl ⟨_, rfl, rfl, pw_below_drewN ((Below.refl _ w).alloc (Nat.le_refl _) _) _⟩
    by_cases k345 : k = 3 ∨ k = 4 ∨ k = 5
    · have hT2 : T = (if k = 3 then .add (twoOf kids).1 (twoOf kids).2.1 else if k = 4 then .sub (twoOf kids).1 (twoOf kids).2.1 else .mul (twoOf kids).1 (twoOf kids).2.1, (twoOf kids).2.2) := by
        rw [← hT]
        rcases k345 with rfl | rfl | rfl <;> (unfold termOf twoOf; simp only [show ¬ ((3 : Int) = 1) by decide, show ¬ ((3 : Int) = 2) by decide, show ¬ ((4 : Int) = 1) by decide, show ¬ ((4 : Int) = 2) by decide, show ¬ ((5 : Int) = 1) by decide, show ¬ ((5 : Int) = 2) by decide, if_false, if_true, true_or, or_true]; split <;> rfl)
      clear hT
      have h2 : ∀ w', Below w.heap.size w w' → Calls Try.prog 83 #[.slice A8 kids.length c8] w' fun e w'' => ∃ va vb, e = .returned (.tuple #[va, vb, .bool (twoOf kids).2.2]) ∧ IsTm w'' (twoOf kids).1 va ∧ IsTm w'' (twoOf kids).2.1 vb ∧ Below w'.heap.size w' w'' :=
        fun w' hb => two_any A8 c8 kids w' l8 (Kd.C_below g8 hb) ih
      rcases k345 with rfl | rfl | rfl
      · have hT3 : T = (.add (twoOf kids).1 (twoOf kids).2.1, (twoOf kids).2.2) := by rw [hT2]; rfl
        clear hT2
        go_enter Try.func55, Try.ntmps55
        go_upto_region 12 with (go_at_call 83; refine (h2 _ ((Below.refl _ w).alloc (Nat.le_refl _) _)).mono ?_; rintro e w1 ⟨va, vb, rfl, hTa, hTb, hB1⟩; have hbk := blk_below (blk_new w (.cells #[.int .i64 3, .bool n, .slice A2 ws.length c2, .string nm, .int .i64 e, .int .i64 r, .bool tr, .bool al, .slice A8 kids.length c8] 29)) hB1; obtain ⟨p0, -⟩ := nine_cells hbk)
        have hBB : Below w.heap.size w w1 := ((Below.refl _ w).alloc (Nat.le_refl _) _).trans (hB1.mono (by simp))
        subst hT3
        rcases hTa.shape with rfl | ⟨ta, xa, rfl⟩ <;> rcases hTb.shape with rfl | ⟨tb, xb, rfl⟩
        all_goals go_wp2_with fail
        all_goals exact bodyPost_ret (v := .tuple #[.iface 88 (.agg #[_, _]), .bool (twoOf kids).2.2]) (by simp [results, Try.results55, go_sem]) rfl ⟨_, rfl, ⟨_, _, rfl, hTa, hTb⟩, hBB⟩
      · have hT3 : T = (.sub (twoOf kids).1 (twoOf kids).2.1, (twoOf kids).2.2) := by rw [hT2]; rfl
        clear hT2
        go_enter Try.func55, Try.ntmps55
        go_upto_region 14 with (go_at_call 83; refine (h2 _ ((Below.refl _ w).alloc (Nat.le_refl _) _)).mono ?_; rintro e w1 ⟨va, vb, rfl, hTa, hTb, hB1⟩; have hbk := blk_below (blk_new w (.cells #[.int .i64 4, .bool n, .slice A2 ws.length c2, .string nm, .int .i64 e, .int .i64 r, .bool tr, .bool al, .slice A8 kids.length c8] 29)) hB1; obtain ⟨p0, -⟩ := nine_cells hbk)
        have hBB : Below w.heap.size w w1 := ((Below.refl _ w).alloc (Nat.le_refl _) _).trans (hB1.mono (by simp))
        subst hT3
        rcases hTa.shape with rfl | ⟨ta, xa, rfl⟩ <;> rcases hTb.shape with rfl | ⟨tb, xb, rfl⟩
        all_goals go_wp2_with fail
        all_goals exact bodyPost_ret (v := .tuple #[.iface 75 (.agg #[_, _]), .bool (twoOf kids).2.2]) (by simp [results, Try.results55, go_sem]) rfl ⟨_, rfl, ⟨_, _, rfl, hTa, hTb⟩, hBB⟩
      · have hT3 : T = (.mul (twoOf kids).1 (twoOf kids).2.1, (twoOf kids).2.2) := by rw [hT2]; rfl
        clear hT2
        go_enter Try.func55, Try.ntmps55
        go_upto_region 15 with (go_at_call 83; refine (h2 _ ((Below.refl _ w).alloc (Nat.le_refl _) _)).mono ?_; rintro e w1 ⟨va, vb, rfl, hTa, hTb, hB1⟩; have hbk := blk_below (blk_new w (.cells #[.int .i64 5, .bool n, .slice A2 ws.length c2, .string nm, .int .i64 e, .int .i64 r, .bool tr, .bool al, .slice A8 kids.length c8] 29)) hB1; obtain ⟨p0, -⟩ := nine_cells hbk)
        have hBB : Below w.heap.size w w1 := ((Below.refl _ w).alloc (Nat.le_refl _) _).trans (hB1.mono (by simp))
        subst hT3
        rcases hTa.shape with rfl | ⟨ta, xa, rfl⟩ <;> rcases hTb.shape with rfl | ⟨tb, xb, rfl⟩
        all_goals go_wp2_with fail
        all_goals exact bodyPost_ret (v := .tuple #[.iface 70 (.agg #[_, _]), .bool (twoOf kids).2.2]) (by simp [results, Try.results55, go_sem]) rfl ⟨_, rfl, ⟨_, _, rfl, hTa, hTb⟩, hBB⟩
    by_cases k67 : k = 6 ∨ k = 7
    · rcases k67 with rfl | rfl
      · by_cases h1 : kids.length = 1
        · obtain ⟨a, rfl⟩ : ∃ a, kids = [a] := List.length_eq_one_iff.1 h1
          have hT3 : T = (.neg (termOf a).1, (termOf a).2) := by
            rw [← hT]; conv => lhs; unfold termOf
            simp
          clear hT hkl
          subst hT3
          obtain ⟨ad, B2, b2, B8, b8, rfl, q0, q1, q2, q3, q4, q5, q6, q7, q8, hRa⟩ := tree_at g8 0 (by simp)
          have e0 : ad.add (0 * 9) = ad := by simp [Addr.add]
          rw [e0] at q0 q1 q2 q3 q4 q5 q6 q7 q8
          simp only [List.getElem_cons_zero] at q0 q1 q2 q3 q4 q5 q6 q7 q8 hRa
          have iha := ih a (by simp)
          have hb0 := (Below.refl _ w).alloc (Nat.le_refl _) (.cells #[.int .i64 6, .bool n, .slice A2 ws.length c2, .string nm, .int .i64 e, .int .i64 r, .bool tr, .bool al, .slice (some ad) 1 c8] 29)
          have m0 := pw_cell_below hb0 q0
          have m1 := pw_cell_below hb0 q1
          have m2 := pw_cell_below hb0 q2
          have m3 := pw_cell_below hb0 q3
          have m4 := pw_cell_below hb0 q4
          have m5 := pw_cell_below hb0 q5
          have m6 := pw_cell_below hb0 q6
          have m7 := pw_cell_below hb0 q7
          have m8 := pw_cell_below hb0 q8
          have hl1 : (1 : Nat) ≤ c8 := l8
          go_enter Try.func55, Try.ntmps55
          go_upto_region 22 with (go_at_call 55; refine (iha B2 b2 B8 b8 _ (hRa.below hb0)).mono ?_; rintro e' w1 ⟨va, rfl, hTa, hB1⟩; have hbk := blk_below (blk_new w (.cells #[.int .i64 6, .bool n, .slice A2 ws.length c2, .string nm, .int .i64 e, .int .i64 r, .bool tr, .bool al, .slice (some ad) 1 c8] 29)) hB1; obtain ⟨p0, p1, p2, p3, p4, p5, p6, p7, p8, pf⟩ := nine_cells hbk)
          have hBB : Below w.heap.size w w1 := hb0.trans (hB1.mono (by simp))
          rcases hTa.shape with rfl | ⟨ta, xa, rfl⟩
          all_goals go_wp2_with fail
          all_goals exact bodyPost_ret (v := .tuple #[.iface 74 (.agg #[_]), .bool (termOf a).2]) (by simp [results, Try.results55, go_sem]) rfl ⟨_, rfl, ⟨_, rfl, hTa⟩, hBB⟩
        · have hT3 : T = (nilT, false) := by
            rw [← hT]; unfold termOf
            match kids, h1 with
            | [], _ => simp
            | _ :: _ :: _, _ => simp
          clear hT hkl
          subst hT3
          have hn : ((kids.length : Int) != 1) = true := bne_iff_ne.2 (by omega)
          go_enter Try.func55, Try.ntmps55
          go_wp2_with fail
          exact bodyPost_ret (v := .tuple #[.nilIface, .bool false]) (by simp [results, Try.results55, go_sem]) rfl ⟨_, rfl, ⟨rfl, .inl rfl⟩, (Below.refl _ w).alloc (Nat.le_refl _) _⟩
      · by_cases h1 : kids.length = 1
        · obtain ⟨a, rfl⟩ : ∃ a, kids = [a] := List.length_eq_one_iff.1 h1
          have hT3 : T = (.pow (termOf a).1 e, (termOf a).2 && decide (0 ≤ e)) := by
            rw [← hT]; conv => lhs; unfold termOf
            simp
          clear hT hkl
          subst hT3
          obtain ⟨ad, B2, b2, B8, b8, rfl, q0, q1, q2, q3, q4, q5, q6, q7, q8, hRa⟩ := tree_at g8 0 (by simp)
          have e0 : ad.add (0 * 9) = ad := by simp [Addr.add]
          rw [e0] at q0 q1 q2 q3 q4 q5 q6 q7 q8
          simp only [List.getElem_cons_zero] at q0 q1 q2 q3 q4 q5 q6 q7 q8 hRa
          have iha := ih a (by simp)
          have hb0 := (Below.refl _ w).alloc (Nat.le_refl _) (.cells #[.int .i64 7, .bool n, .slice A2 ws.length c2, .string nm, .int .i64 e, .int .i64 r, .bool tr, .bool al, .slice (some ad) 1 c8] 29)
          have m0 := pw_cell_below hb0 q0
          have m1 := pw_cell_below hb0 q1
          have m2 := pw_cell_below hb0 q2
          have m3 := pw_cell_below hb0 q3
          have m4 := pw_cell_below hb0 q4
          have m5 := pw_cell_below hb0 q5
          have m6 := pw_cell_below hb0 q6
          have m7 := pw_cell_below hb0 q7
          have m8 := pw_cell_below hb0 q8
          have hl1 : (1 : Nat) ≤ c8 := l8
          go_enter Try.func55, Try.ntmps55
          go_upto_region 23 with (go_at_call 55; refine (iha B2 b2 B8 b8 _ (hRa.below hb0)).mono ?_; rintro e' w1 ⟨va, rfl, hTa, hB1⟩; have hbk := blk_below (blk_new w (.cells #[.int .i64 7, .bool n, .slice A2 ws.length c2, .string nm, .int .i64 e, .int .i64 r, .bool tr, .bool al, .slice (some ad) 1 c8] 29)) hB1; obtain ⟨p0, p1, p2, p3, p4, p5, p6, p7, p8, pf⟩ := nine_cells hbk)
          have hBB : Below w.heap.size w w1 := hb0.trans (hB1.mono (by simp))
          obtain ⟨ok, hOk⟩ : ∃ ok, (termOf a).2 = ok := ⟨_, rfl⟩
          rw [hOk]
          cases ok with
          | false =>
            rcases Int.lt_or_le e 0 with he | he
            · have hOK : ((termOf a).2 && decide (0 ≤ e)) = false := by rw [hOk]; rfl
              rcases hTa.shape with rfl | ⟨ta, xa, rfl⟩
              · go_quiet (fail)
                go_wp2_with fail
                exact bodyPost_ret (v := .tuple #[.iface 72 (.agg #[.nilIface, .int .i64 e]), .bool false]) (by simp [results, Try.results55, go_sem]) rfl ⟨_, by rw [hOK], ⟨_, rfl, hTa.drewN _⟩, pw_below_drewN hBB _⟩
              · go_quiet (fail)
                go_wp2_with fail
                exact bodyPost_ret (v := .tuple #[.iface 72 (.agg #[.iface ta xa, .int .i64 e]), .bool false]) (by simp [results, Try.results55, go_sem]) rfl ⟨_, by rw [hOK], ⟨_, rfl, hTa.drewN _⟩, pw_below_drewN hBB _⟩
            · have hOK : ((termOf a).2 && decide (0 ≤ e)) = false := by rw [hOk]; rfl
              rcases hTa.shape with rfl | ⟨ta, xa, rfl⟩
              · go_quiet (fail)
                go_wp2_with fail
                exact bodyPost_ret (v := .tuple #[.iface 72 (.agg #[.nilIface, .int .i64 e]), .bool false]) (by simp [results, Try.results55, go_sem]) rfl ⟨_, by rw [hOK], ⟨_, rfl, hTa.drewN _⟩, pw_below_drewN hBB _⟩
              · go_quiet (fail)
                go_wp2_with fail
                exact bodyPost_ret (v := .tuple #[.iface 72 (.agg #[.iface ta xa, .int .i64 e]), .bool false]) (by simp [results, Try.results55, go_sem]) rfl ⟨_, by rw [hOK], ⟨_, rfl, hTa.drewN _⟩, pw_below_drewN hBB _⟩
          | true =>
            rcases Int.lt_or_le e 0 with he | he
            · have hOK : ((termOf a).2 && decide (0 ≤ e)) = false := by rw [hOk]; exact decide_eq_false (by omega)
              rcases hTa.shape with rfl | ⟨ta, xa, rfl⟩
              · go_quiet (fail)
                go_wp2_with fail
                exact bodyPost_ret (v := .tuple #[.iface 72 (.agg #[.nilIface, .int .i64 e]), .bool false]) (by simp [results, Try.results55, go_sem]; exact he) rfl ⟨_, by rw [hOK], ⟨_, rfl, hTa.drewN _⟩, pw_below_drewN hBB _⟩
              · go_quiet (fail)
                go_wp2_with fail
                exact bodyPost_ret (v := .tuple #[.iface 72 (.agg #[.iface ta xa, .int .i64 e]), .bool false]) (by simp [results, Try.results55, go_sem]; exact he) rfl ⟨_, by rw [hOK], ⟨_, rfl, hTa.drewN _⟩, pw_below_drewN hBB _⟩
            · have hOK : ((termOf a).2 && decide (0 ≤ e)) = true := by rw [hOk]; exact decide_eq_true he
              rcases hTa.shape with rfl | ⟨ta, xa, rfl⟩
              · go_quiet (fail)
                go_wp2_with fail
                exact bodyPost_ret (v := .tuple #[.iface 72 (.agg #[.nilIface, .int .i64 e]), .bool true]) (by simp [results, Try.results55, go_sem]) rfl ⟨_, by rw [hOK], ⟨_, rfl, hTa.drewN _⟩, pw_below_drewN hBB _⟩
              · go_quiet (fail)
                go_wp2_with fail
                exact bodyPost_ret (v := .tuple #[.iface 72 (.agg #[.iface ta xa, .int .i64 e]), .bool true]) (by simp [results, Try.results55, go_sem]) rfl ⟨_, by rw [hOK], ⟨_, rfl, hTa.drewN _⟩, pw_below_drewN hBB _⟩
        · have hT3 : T = (nilT, false) := by
            rw [← hT]; unfold termOf
            match kids, h1 with
            | [], _ => simp
            | _ :: _ :: _, _ => simp
          clear hT hkl
          subst hT3
          have hn : ((kids.length : Int) != 1) = true := bne_iff_ne.2 (by omega)
          go_enter Try.func55, Try.ntmps55
          go_wp2_with fail
          exact bodyPost_ret (v := .tuple #[.nilIface, .bool false]) (by simp [results, Try.results55, go_sem]) rfl ⟨_, rfl, ⟨rfl, .inl rfl⟩, (Below.refl _ w).alloc (Nat.le_refl _) _⟩
    · by_cases k1 : k = 1
      · subst k1
        have hT3 : T = (.num (normI n ws).f0 (normI n ws).f1, kids.isEmpty) := by rw [← hT]; (conv => lhs; unfold termOf); exact if_pos rfl
        clear hT
        subst hT3
        go_enter Try.func55, Try.ntmps55
        go_upto_region 3 with (fail)
        obtain ⟨W0, hW0⟩ : ∃ W0, w.alloc (.cells #[.int .i64 1, .bool n, .slice A2 ws.length c2, .string nm, .int .i64 e, .int .i64 r, .bool tr, .bool al, .slice A8 kids.length c8] 29) = W0 := ⟨_, rfl⟩
        have hB0 : Below w.heap.size w W0 := by rw [← hW0]; exact (Below.refl _ w).alloc (Nat.le_refl _) _
        have hbk : W0.heap[w.heap.size]? = some (.cells #[.int .i64 1, .bool n, .slice A2 ws.length c2, .string nm, .int .i64 e, .int .i64 r, .bool tr, .bool al, .slice A8 kids.length c8] 29 (0, 0)) := by rw [← hW0]; exact blk_new _ _
        obtain ⟨p0, p1, p2, p3, p4, p5, p6, p7, p8, pf⟩ := nine_cells hbk
        have s1d : W0.drew.cell? ⟨w.heap.size, 1, none⟩ = some (.bool n) := p1
        have s2d : W0.drew.cell? ⟨w.heap.size, 2, none⟩ = some (.slice A2 ws.length c2) := p2
        have s8d : W0.drew.cell? ⟨w.heap.size, 8, none⟩ = some (.slice A8 kids.length c8) := p8
        rw [hW0]
        clear hW0
        go_region_held3 (fun w' => w'.cell? ⟨w.heap.size, 1, none⟩ = some (.bool n) ∧ w'.cell? ⟨w.heap.size, 2, none⟩ = some (.slice A2 ws.length c2) ∧ w'.cell? ⟨w.heap.size, 8, none⟩ = some (.slice A8 kids.length c8)) (first | exact ⟨by with_reducible assumption, by with_reducible assumption, by with_reducible assumption⟩)
          (first
            | (go_at_call 59; refine (normal_any n A2 c2 ws _ h l2 ?_).mono ?_; (first | exact Kd.C_drew (Kd.C_below g2 hB0) | exact Kd.C_drewN (Kd.C_below g2 hB0) _ | exact Kd.C_below g2 hB0); rintro e' w1 ⟨v1, rfl, hR1, hB1⟩; obtain ⟨D1, d1, hd1, rfl, hD1⟩ := own_reads hR1
               have t1 := pw_cell_below hB1 p1
               have t2 := pw_cell_below hB1 p2
               have t8 := pw_cell_below hB1 p8))
        all_goals go_wp2_with fail
        all_goals
          (have hzd : W0.drew.heap.size = W0.heap.size := rfl
           have hz := hB0.size
           have hBB : Below w.heap.size w w1 := hB0.drew.trans (hB1.mono (by rw [hzd]; omega))
           exact bodyPost_ret (v := .tuple #[.iface 80 (.agg #[.bool (normI n ws).f0, .slice D1 (normI n ws).f1.length d1]), .bool kids.isEmpty]) (by simp [results, Try.results55, go_sem]) rfl ⟨_, rfl, ⟨D1, d1, rfl, hd1, hD1⟩, hBB⟩)
      · have hT3 : T = (nilT, false) := by
          rw [← hT]; conv => lhs; unfold termOf
          rw [if_neg k1, if_neg k2, if_neg k345, if_neg k67]
        clear hT hkl
        subst hT3
        have f1 : (k == 1) = false := beq_eq_false_iff_ne.2 k1
        have f2 : (k == 2) = false := beq_eq_false_iff_ne.2 k2
        have f3 : (k == 3) = false := beq_eq_false_iff_ne.2 (fun h => k345 (.inl h))
        have f4 : (k == 4) = false := beq_eq_false_iff_ne.2 (fun h => k345 (.inr (.inl h)))
        have f5 : (k == 5) = false := beq_eq_false_iff_ne.2 (fun h => k345 (.inr (.inr h)))
        have f6 : (k == 6) = false := beq_eq_false_iff_ne.2 (fun h => k67 (.inl h))
        have f7 : (k == 7) = false := beq_eq_false_iff_ne.2 (fun h => k67 (.inr h))
        go_enter Try.func55, Try.ntmps55
        go_wp2_with fail
        exact bodyPost_ret (v := .tuple #[.nilIface, .bool false]) (by simp [results, Try.results55, go_sem]) rfl ⟨_, rfl, ⟨rfl, .inl rfl⟩, (Below.refl _ w).alloc (Nat.le_refl _) _⟩
end Go.Proofs.Ytddpojinlapmfaa.PRef
