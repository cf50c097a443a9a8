/- formula.form, Of: the formula of a tree. -/
import Derived.Test.YtddpojinlapmfaaPRefRA
import Derived.Test.YtddpojinlapmfaaFormA
namespace Go.Proofs.Ytddpojinlapmfaa.PRef
set_option linter.unusedVariables false
set_option linter.unusedSimpArgs false
open Go.RowKit Go.Proofs.YtddpojinlapmfaaW.PrintWords Go.Proofs.YtddpojinlapmfaaW.PrintLast Go.Proofs.YtddpojinlapmfaaW.PrintMore


/-- What formula.form gives of the tree x. -/
def FormGives (x : S29) : Prop := ∀ (A2 : Option Addr) (c2 : Nat) (A8 : Option Addr) (c8 : Nat) (w : World), ReadR w x A2 c2 A8 c8 →
  Calls Try.prog 61 #[treeV x (.slice A2 x.f1.f1.length c2) (.slice A8 x.f7.length c8)] w fun e w' => ∃ v, e = .returned (.tuple #[v, .bool (formOf x).2]) ∧ IsFm w' (formOf x).1 v ∧ Below w.heap.size w w'

set_option maxRecDepth 100000 in
set_option maxHeartbeats 4000000 in
theorem form_any : ∀ (x : S29), SmallS x → FormGives x := by
  have hu29 := Try.underlying29
  have hu25 := Try.underlying25
  intro x hx
  induction hx with
  | mk x h hk ih =>
    intro A2 c2 A8 c8 w hR
    obtain ⟨k, ⟨n, ws⟩, nm, e, r, tr, al, kids⟩ := x
    obtain ⟨l2, g2, l8, g8⟩ := hR
    dsimp only at h hk ih l2 g2 l8 g8 ⊢
    have hkl : ((kids.length : Int) == 0) = kids.isEmpty := by
      cases kids with
      | nil => rfl
      | cons a l => exact beq_eq_false_iff_ne.2 (by simp only [List.length_cons]; omega)
    obtain ⟨T, hT⟩ : ∃ T, formOf ⟨k, ⟨n, ws⟩, nm, e, r, tr, al, kids⟩ = T := ⟨_, rfl⟩
    rw [hT]
    by_cases k8 : k = 8
    · subst k8
      have hT2 : T = (.truth tr, kids.isEmpty) := by rw [← hT]; unfold formOf; simp
      subst hT2
      clear hT
      go_enter Try.func61, Try.ntmps61
      go_upto_region 3 with (fail)
      go_quiet (fail)
      go_wp2_with fail
      exact bodyPost_ret (v := .tuple #[.iface 78 (.agg #[.bool tr]), .bool kids.isEmpty]) (by simp [results, Try.results61, go_sem]) rfl ⟨_, rfl, rfl, pw_below_drewN ((Below.refl _ w).alloc (Nat.le_refl _) _) _⟩
    by_cases k9 : k = 9
    · subst k9
      have hT2 : T = (.atom (twoOf kids).1 r (twoOf kids).2.1, (twoOf kids).2.2 && sixB r) := by rw [← hT]; unfold formOf; simp
      clear hT hkl
      subst hT2
      have h2 : ∀ w', Below w.heap.size w w' → Calls Try.prog 83 #[.slice A8 kids.length c8] w' fun e w'' => ∃ va vb, e = .returned (.tuple #[va, vb, .bool (twoOf kids).2.2]) ∧ IsTm w'' (twoOf kids).1 va ∧ IsTm w'' (twoOf kids).2.1 vb ∧ Below w'.heap.size w' w'' :=
        fun w' hb => two_any A8 c8 kids w' l8 (Kd.C_below g8 hb) (fun y hy => term_any y (hk y hy))
      go_enter Try.func61, Try.ntmps61
      go_upto_region 6 with (go_at_call 83; refine (h2 _ ((Below.refl _ w).alloc (Nat.le_refl _) _)).mono ?_; rintro e' w1 ⟨va, vb, rfl, hTa, hTb, hB1⟩; have hbk := blk_below (blk_new w (.cells #[.int .i64 9, .bool n, .slice A2 ws.length c2, .string nm, .int .i64 e, .int .i64 r, .bool tr, .bool al, .slice A8 kids.length c8] 29)) hB1; obtain ⟨p0, p1, p2, p3, p4, p5, -⟩ := nine_cells hbk)
      have hBB : Below w.heap.size w w1 := ((Below.refl _ w).alloc (Nat.le_refl _) _).trans (hB1.mono (by simp))
      obtain ⟨ok, hOk⟩ : ∃ ok, (twoOf kids).2.2 = ok := ⟨_, rfl⟩
      obtain ⟨six, hSix⟩ : ∃ six, sixB r = six := ⟨_, rfl⟩
      have h6 : formula_six.f r = some six := by rw [six_is, hSix]
      rw [hOk]
      rcases hTa.shape with rfl | ⟨ta, xa, rfl⟩ <;> rcases hTb.shape with rfl | ⟨tb, xb, rfl⟩ <;> cases ok <;> cases six
      · go_quiet ((go_at_call 62; exact Calls.quiet_of ((formula_six.calls r _ _ h6).mono (fun _ _ h => ⟨h.1, h.2.out⟩))))
        go_wp2_with fail
        exact bodyPost_ret (v := .tuple #[.iface 91 (.agg #[.nilIface, .int .i64 r, .nilIface]), .bool false]) (by simp [results, Try.results61, go_sem]) rfl ⟨_, by rw [hOk, hSix]; rfl, ⟨_, _, rfl, hTa.drewN _, hTb.drewN _⟩, pw_below_drewN hBB _⟩
      · go_quiet ((go_at_call 62; exact Calls.quiet_of ((formula_six.calls r _ _ h6).mono (fun _ _ h => ⟨h.1, h.2.out⟩))))
        go_wp2_with fail
        exact bodyPost_ret (v := .tuple #[.iface 91 (.agg #[.nilIface, .int .i64 r, .nilIface]), .bool false]) (by simp [results, Try.results61, go_sem]) rfl ⟨_, by rw [hOk, hSix]; rfl, ⟨_, _, rfl, hTa.drewN _, hTb.drewN _⟩, pw_below_drewN hBB _⟩
      · go_quiet ((go_at_call 62; exact Calls.quiet_of ((formula_six.calls r _ _ h6).mono (fun _ _ h => ⟨h.1, h.2.out⟩))))
        go_wp2_with fail
        exact bodyPost_ret (v := .tuple #[.iface 91 (.agg #[.nilIface, .int .i64 r, .nilIface]), .bool false]) (by simp [results, Try.results61, go_sem]) rfl ⟨_, by rw [hOk, hSix]; rfl, ⟨_, _, rfl, hTa.drewN _, hTb.drewN _⟩, pw_below_drewN hBB _⟩
      · go_quiet ((go_at_call 62; exact Calls.quiet_of ((formula_six.calls r _ _ h6).mono (fun _ _ h => ⟨h.1, h.2.out⟩))))
        go_wp2_with fail
        exact bodyPost_ret (v := .tuple #[.iface 91 (.agg #[.nilIface, .int .i64 r, .nilIface]), .bool true]) (by simp [results, Try.results61, go_sem]) rfl ⟨_, by rw [hOk, hSix]; rfl, ⟨_, _, rfl, hTa.drewN _, hTb.drewN _⟩, pw_below_drewN hBB _⟩
      · go_quiet ((go_at_call 62; exact Calls.quiet_of ((formula_six.calls r _ _ h6).mono (fun _ _ h => ⟨h.1, h.2.out⟩))))
        go_wp2_with fail
        exact bodyPost_ret (v := .tuple #[.iface 91 (.agg #[.nilIface, .int .i64 r, .iface tb xb]), .bool false]) (by simp [results, Try.results61, go_sem]) rfl ⟨_, by rw [hOk, hSix]; rfl, ⟨_, _, rfl, hTa.drewN _, hTb.drewN _⟩, pw_below_drewN hBB _⟩
      · go_quiet ((go_at_call 62; exact Calls.quiet_of ((formula_six.calls r _ _ h6).mono (fun _ _ h => ⟨h.1, h.2.out⟩))))
        go_wp2_with fail
        exact bodyPost_ret (v := .tuple #[.iface 91 (.agg #[.nilIface, .int .i64 r, .iface tb xb]), .bool false]) (by simp [results, Try.results61, go_sem]) rfl ⟨_, by rw [hOk, hSix]; rfl, ⟨_, _, rfl, hTa.drewN _, hTb.drewN _⟩, pw_below_drewN hBB _⟩
      · go_quiet ((go_at_call 62; exact Calls.quiet_of ((formula_six.calls r _ _ h6).mono (fun _ _ h => ⟨h.1, h.2.out⟩))))
        go_wp2_with fail
        exact bodyPost_ret (v := .tuple #[.iface 91 (.agg #[.nilIface, .int .i64 r, .iface tb xb]), .bool false]) (by simp [results, Try.results61, go_sem]) rfl ⟨_, by rw [hOk, hSix]; rfl, ⟨_, _, rfl, hTa.drewN _, hTb.drewN _⟩, pw_below_drewN hBB _⟩
      · go_quiet ((go_at_call 62; exact Calls.quiet_of ((formula_six.calls r _ _ h6).mono (fun _ _ h => ⟨h.1, h.2.out⟩))))
        go_wp2_with fail
        exact bodyPost_ret (v := .tuple #[.iface 91 (.agg #[.nilIface, .int .i64 r, .iface tb xb]), .bool true]) (by simp [results, Try.results61, go_sem]) rfl ⟨_, by rw [hOk, hSix]; rfl, ⟨_, _, rfl, hTa.drewN _, hTb.drewN _⟩, pw_below_drewN hBB _⟩
      · go_quiet ((go_at_call 62; exact Calls.quiet_of ((formula_six.calls r _ _ h6).mono (fun _ _ h => ⟨h.1, h.2.out⟩))))
        go_wp2_with fail
        exact bodyPost_ret (v := .tuple #[.iface 91 (.agg #[.iface ta xa, .int .i64 r, .nilIface]), .bool false]) (by simp [results, Try.results61, go_sem]) rfl ⟨_, by rw [hOk, hSix]; rfl, ⟨_, _, rfl, hTa.drewN _, hTb.drewN _⟩, pw_below_drewN hBB _⟩
      · go_quiet ((go_at_call 62; exact Calls.quiet_of ((formula_six.calls r _ _ h6).mono (fun _ _ h => ⟨h.1, h.2.out⟩))))
        go_wp2_with fail
        exact bodyPost_ret (v := .tuple #[.iface 91 (.agg #[.iface ta xa, .int .i64 r, .nilIface]), .bool false]) (by simp [results, Try.results61, go_sem]) rfl ⟨_, by rw [hOk, hSix]; rfl, ⟨_, _, rfl, hTa.drewN _, hTb.drewN _⟩, pw_below_drewN hBB _⟩
      · go_quiet ((go_at_call 62; exact Calls.quiet_of ((formula_six.calls r _ _ h6).mono (fun _ _ h => ⟨h.1, h.2.out⟩))))
        go_wp2_with fail
        exact bodyPost_ret (v := .tuple #[.iface 91 (.agg #[.iface ta xa, .int .i64 r, .nilIface]), .bool false]) (by simp [results, Try.results61, go_sem]) rfl ⟨_, by rw [hOk, hSix]; rfl, ⟨_, _, rfl, hTa.drewN _, hTb.drewN _⟩, pw_below_drewN hBB _⟩
      · go_quiet ((go_at_call 62; exact Calls.quiet_of ((formula_six.calls r _ _ h6).mono (fun _ _ h => ⟨h.1, h.2.out⟩))))
        go_wp2_with fail
        exact bodyPost_ret (v := .tuple #[.iface 91 (.agg #[.iface ta xa, .int .i64 r, .nilIface]), .bool true]) (by simp [results, Try.results61, go_sem]) rfl ⟨_, by rw [hOk, hSix]; rfl, ⟨_, _, rfl, hTa.drewN _, hTb.drewN _⟩, pw_below_drewN hBB _⟩
      · go_quiet ((go_at_call 62; exact Calls.quiet_of ((formula_six.calls r _ _ h6).mono (fun _ _ h => ⟨h.1, h.2.out⟩))))
        go_wp2_with fail
        exact bodyPost_ret (v := .tuple #[.iface 91 (.agg #[.iface ta xa, .int .i64 r, .iface tb xb]), .bool false]) (by simp [results, Try.results61, go_sem]) rfl ⟨_, by rw [hOk, hSix]; rfl, ⟨_, _, rfl, hTa.drewN _, hTb.drewN _⟩, pw_below_drewN hBB _⟩
      · go_quiet ((go_at_call 62; exact Calls.quiet_of ((formula_six.calls r _ _ h6).mono (fun _ _ h => ⟨h.1, h.2.out⟩))))
        go_wp2_with fail
        exact bodyPost_ret (v := .tuple #[.iface 91 (.agg #[.iface ta xa, .int .i64 r, .iface tb xb]), .bool false]) (by simp [results, Try.results61, go_sem]) rfl ⟨_, by rw [hOk, hSix]; rfl, ⟨_, _, rfl, hTa.drewN _, hTb.drewN _⟩, pw_below_drewN hBB _⟩
      · go_quiet ((go_at_call 62; exact Calls.quiet_of ((formula_six.calls r _ _ h6).mono (fun _ _ h => ⟨h.1, h.2.out⟩))))
        go_wp2_with fail
        exact bodyPost_ret (v := .tuple #[.iface 91 (.agg #[.iface ta xa, .int .i64 r, .iface tb xb]), .bool false]) (by simp [results, Try.results61, go_sem]) rfl ⟨_, by rw [hOk, hSix]; rfl, ⟨_, _, rfl, hTa.drewN _, hTb.drewN _⟩, pw_below_drewN hBB _⟩
      · go_quiet ((go_at_call 62; exact Calls.quiet_of ((formula_six.calls r _ _ h6).mono (fun _ _ h => ⟨h.1, h.2.out⟩))))
        go_wp2_with fail
        exact bodyPost_ret (v := .tuple #[.iface 91 (.agg #[.iface ta xa, .int .i64 r, .iface tb xb]), .bool true]) (by simp [results, Try.results61, go_sem]) rfl ⟨_, by rw [hOk, hSix]; rfl, ⟨_, _, rfl, hTa.drewN _, hTb.drewN _⟩, pw_below_drewN hBB _⟩
    by_cases kq : k = 10 ∨ k = 15
    · rcases kq with rfl | rfl
      · by_cases h1 : kids.length = 1
        · obtain ⟨a, rfl⟩ : ∃ a, kids = [a] := List.length_eq_one_iff.1 h1
          have hT3 : T = (.not (formOf a).1, (formOf a).2) := by
            rw [← hT]; conv => lhs; unfold formOf
            simp
          clear hT hkl
          subst hT3
          obtain ⟨ad, B2, b2, B8, b8, rfl, q0, q1, q2, q3, q4, q5, q6, q7, q8, hRa⟩ := tree_at g8 0 (by simp)
          have e0 : ad.add (0 * 9) = ad := by simp [Addr.add]
          rw [e0] at q0 q1 q2 q3 q4 q5 q6 q7 q8
          simp only [List.getElem_cons_zero] at q0 q1 q2 q3 q4 q5 q6 q7 q8 hRa
          have iha := ih a (by simp)
          have hb0 := (Below.refl _ w).alloc (Nat.le_refl _) (.cells #[.int .i64 10, .bool n, .slice A2 ws.length c2, .string nm, .int .i64 e, .int .i64 r, .bool tr, .bool al, .slice (some ad) 1 c8] 29)
          have m0 := pw_cell_below hb0 q0
          have m1 := pw_cell_below hb0 q1
          have m2 := pw_cell_below hb0 q2
          have m3 := pw_cell_below hb0 q3
          have m4 := pw_cell_below hb0 q4
          have m5 := pw_cell_below hb0 q5
          have m6 := pw_cell_below hb0 q6
          have m7 := pw_cell_below hb0 q7
          have m8 := pw_cell_below hb0 q8
          have hl1 : (1 : Nat) ≤ c8 := l8
          go_enter Try.func61, Try.ntmps61
          go_upto_region 12 with (go_at_call 61; refine (iha B2 b2 B8 b8 _ (hRa.below hb0)).mono ?_; rintro e' w1 ⟨va, rfl, hTa, hB1⟩; have hbk := blk_below (blk_new w (.cells #[.int .i64 10, .bool n, .slice A2 ws.length c2, .string nm, .int .i64 e, .int .i64 r, .bool tr, .bool al, .slice (some ad) 1 c8] 29)) hB1; obtain ⟨p0, p1, p2, p3, p4, p5, p6, p7, p8, pf⟩ := nine_cells hbk)
          have hBB : Below w.heap.size w w1 := hb0.trans (hB1.mono (by simp))
          rcases hTa.shape with rfl | ⟨ta, xa, rfl⟩
          all_goals go_wp2_with fail
          all_goals exact bodyPost_ret (v := .tuple #[.iface 93 (.agg #[_]), .bool (formOf a).2]) (by simp [results, Try.results61, go_sem]) rfl ⟨_, rfl, ⟨_, rfl, hTa⟩, hBB⟩
        · have hT3 : T = (nilF, false) := by
            rw [← hT]; unfold formOf
            match kids, h1 with
            | [], _ => simp
            | _ :: _ :: _, _ => simp
          clear hT hkl
          subst hT3
          have hn : ((kids.length : Int) != 1) = true := bne_iff_ne.2 (by omega)
          go_enter Try.func61, Try.ntmps61
          go_wp2_with fail
          exact bodyPost_ret (v := .tuple #[.nilIface, .bool false]) (by simp [results, Try.results61, go_sem]) rfl ⟨_, rfl, ⟨rfl, .inl rfl⟩, (Below.refl _ w).alloc (Nat.le_refl _) _⟩
      · by_cases h1 : kids.length = 1
        · obtain ⟨a, rfl⟩ : ∃ a, kids = [a] := List.length_eq_one_iff.1 h1
          have hT3 : T = (.quant al nm (formOf a).1, (formOf a).2) := by
            rw [← hT]; conv => lhs; unfold formOf
            simp
          clear hT hkl
          subst hT3
          obtain ⟨ad, B2, b2, B8, b8, rfl, q0, q1, q2, q3, q4, q5, q6, q7, q8, hRa⟩ := tree_at g8 0 (by simp)
          have e0 : ad.add (0 * 9) = ad := by simp [Addr.add]
          rw [e0] at q0 q1 q2 q3 q4 q5 q6 q7 q8
          simp only [List.getElem_cons_zero] at q0 q1 q2 q3 q4 q5 q6 q7 q8 hRa
          have iha := ih a (by simp)
          have hb0 := (Below.refl _ w).alloc (Nat.le_refl _) (.cells #[.int .i64 15, .bool n, .slice A2 ws.length c2, .string nm, .int .i64 e, .int .i64 r, .bool tr, .bool al, .slice (some ad) 1 c8] 29)
          have m0 := pw_cell_below hb0 q0
          have m1 := pw_cell_below hb0 q1
          have m2 := pw_cell_below hb0 q2
          have m3 := pw_cell_below hb0 q3
          have m4 := pw_cell_below hb0 q4
          have m5 := pw_cell_below hb0 q5
          have m6 := pw_cell_below hb0 q6
          have m7 := pw_cell_below hb0 q7
          have m8 := pw_cell_below hb0 q8
          have hl1 : (1 : Nat) ≤ c8 := l8
          go_enter Try.func61, Try.ntmps61
          go_upto_region 12 with (go_at_call 61; refine (iha B2 b2 B8 b8 _ (hRa.below hb0)).mono ?_; rintro e' w1 ⟨va, rfl, hTa, hB1⟩; have hbk := blk_below (blk_new w (.cells #[.int .i64 15, .bool n, .slice A2 ws.length c2, .string nm, .int .i64 e, .int .i64 r, .bool tr, .bool al, .slice (some ad) 1 c8] 29)) hB1; obtain ⟨p0, p1, p2, p3, p4, p5, p6, p7, p8, pf⟩ := nine_cells hbk)
          have hBB : Below w.heap.size w w1 := hb0.trans (hB1.mono (by simp))
          rcases hTa.shape with rfl | ⟨ta, xa, rfl⟩
          all_goals go_wp2_with fail
          all_goals exact bodyPost_ret (v := .tuple #[.iface 61 (.agg #[.bool al, .string nm, _]), .bool (formOf a).2]) (by simp [results, Try.results61, go_sem]) rfl ⟨_, rfl, ⟨_, rfl, hTa⟩, hBB⟩
        · have hT3 : T = (nilF, false) := by
            rw [← hT]; unfold formOf
            match kids, h1 with
            | [], _ => simp
            | _ :: _ :: _, _ => simp
          clear hT hkl
          subst hT3
          have hn : ((kids.length : Int) != 1) = true := bne_iff_ne.2 (by omega)
          go_enter Try.func61, Try.ntmps61
          go_wp2_with fail
          exact bodyPost_ret (v := .tuple #[.nilIface, .bool false]) (by simp [results, Try.results61, go_sem]) rfl ⟨_, rfl, ⟨rfl, .inl rfl⟩, (Below.refl _ w).alloc (Nat.le_refl _) _⟩
    by_cases kp : k = 11 ∨ k = 12 ∨ k = 13 ∨ k = 14
    · by_cases h1 : kids.length = 2
      · obtain ⟨a, b, rfl⟩ : ∃ a b, kids = [a, b] := by
          match kids, h1 with
          | [a, b], _ => exact ⟨a, b, rfl⟩
        have hT3 : T = (pairF k (formOf a).1 (formOf b).1, (formOf a).2 && (formOf b).2) := by
          rw [← hT]; conv => lhs; unfold formOf
          rcases kp with rfl | rfl | rfl | rfl <;> simp [pairF]
        clear hT hkl
        subst hT3
        obtain ⟨ad, B2, b2, B8, b8, rfl, q0, q1, q2, q3, q4, q5, q6, q7, q8, hRa⟩ := tree_at g8 0 (by simp)
        obtain ⟨ad', D2, d2, D8, d8, hE, r0, r1, r2, r3, r4, r5, r6, r7, r8, hRb⟩ := tree_at g8 1 (by simp)
        obtain rfl := Option.some.inj hE
        have e0 : ad.add (0 * 9) = ad := by simp [Addr.add]
        rw [e0] at q0 q1 q2 q3 q4 q5 q6 q7 q8
        simp only [Nat.one_mul, List.getElem_cons_zero, List.getElem_cons_succ] at q0 q1 q2 q3 q4 q5 q6 q7 q8 r0 r1 r2 r3 r4 r5 r6 r7 r8 hRa hRb
        have e1 : ad.add 9 = ⟨ad.block, ad.off + 9, none⟩ := by simp [Addr.add]
        simp only [e1] at r0 r1 r2 r3 r4 r5 r6 r7 r8
        have iha := ih a (by simp)
        have ihb := ih b (by simp)
        have hb0 := (Below.refl _ w).alloc (Nat.le_refl _) (.cells #[.int .i64 k, .bool n, .slice A2 ws.length c2, .string nm, .int .i64 e, .int .i64 r, .bool tr, .bool al, .slice (some ad) 2 c8] 29)
        have m0 := pw_cell_below hb0 q0
        have m1 := pw_cell_below hb0 q1
        have m2 := pw_cell_below hb0 q2
        have m3 := pw_cell_below hb0 q3
        have m4 := pw_cell_below hb0 q4
        have m5 := pw_cell_below hb0 q5
        have m6 := pw_cell_below hb0 q6
        have m7 := pw_cell_below hb0 q7
        have m8 := pw_cell_below hb0 q8
        have hl2 : (2 : Nat) ≤ c8 := l8
        rcases kp with rfl | rfl | rfl | rfl
        · go_enter Try.func61, Try.ntmps61
          go_upto_region 22 with (go_at_call 61; refine (iha B2 b2 B8 b8 _ (hRa.below hb0)).mono ?_; rintro e' w1 ⟨va, rfl, hTa, hB1⟩; have hbk := blk_below (blk_new w (.cells #[.int .i64 11, .bool n, .slice A2 ws.length c2, .string nm, .int .i64 e, .int .i64 r, .bool tr, .bool al, .slice (some ad) 2 c8] 29)) hB1; obtain ⟨p0, p1, p2, p3, p4, p5, p6, p7, p8, pf⟩ := nine_cells hbk; have hb1 := hb0.trans (hB1.mono (by simp)); have n0 := pw_cell_below hb1 r0; have n1 := pw_cell_below hb1 r1; have n2 := pw_cell_below hb1 r2; have n3 := pw_cell_below hb1 r3; have n4 := pw_cell_below hb1 r4; have n5 := pw_cell_below hb1 r5; have n6 := pw_cell_below hb1 r6; have n7 := pw_cell_below hb1 r7; have n8 := pw_cell_below hb1 r8)
          go_upto_region 23 with (go_at_call 61; refine (ihb D2 d2 D8 d8 _ (hRb.below hb1)).mono ?_; rintro e' w2 ⟨vb, rfl, hTb, hB2⟩; have hbk2 := blk_below hbk hB2; obtain ⟨p0, p1, p2, p3, p4, p5, p6, p7, p8, pf⟩ := nine_cells hbk2)
          have hBB : Below w.heap.size w w2 := hb1.trans (hB2.mono hb1.size)
          have hTa2 := hTa.below hB2
          cases hA : (formOf a).2 with
          | true =>
            go_wp2_with (go_at_call 85; refine (pair_any 11 (by simp) _ _ va vb _ hTa2 hTb).mono ?_; rintro e' w3 ⟨vv, rfl, hTv, rfl⟩)
            exact bodyPost_ret (v := .tuple #[vv, .bool (formOf b).2]) (by simp [results, Try.results61, go_sem]) rfl ⟨vv, by rw [hA]; rfl, hTv, hBB⟩
          | false =>
            go_wp2_with (go_at_call 85; refine (pair_any 11 (by simp) _ _ va vb _ hTa2 hTb).mono ?_; rintro e' w3 ⟨vv, rfl, hTv, rfl⟩)
            exact bodyPost_ret (v := .tuple #[vv, .bool false]) (by simp [results, Try.results61, go_sem]) rfl ⟨vv, by rw [hA]; rfl, hTv, hBB⟩
        · go_enter Try.func61, Try.ntmps61
          go_upto_region 22 with (go_at_call 61; refine (iha B2 b2 B8 b8 _ (hRa.below hb0)).mono ?_; rintro e' w1 ⟨va, rfl, hTa, hB1⟩; have hbk := blk_below (blk_new w (.cells #[.int .i64 12, .bool n, .slice A2 ws.length c2, .string nm, .int .i64 e, .int .i64 r, .bool tr, .bool al, .slice (some ad) 2 c8] 29)) hB1; obtain ⟨p0, p1, p2, p3, p4, p5, p6, p7, p8, pf⟩ := nine_cells hbk; have hb1 := hb0.trans (hB1.mono (by simp)); have n0 := pw_cell_below hb1 r0; have n1 := pw_cell_below hb1 r1; have n2 := pw_cell_below hb1 r2; have n3 := pw_cell_below hb1 r3; have n4 := pw_cell_below hb1 r4; have n5 := pw_cell_below hb1 r5; have n6 := pw_cell_below hb1 r6; have n7 := pw_cell_below hb1 r7; have n8 := pw_cell_below hb1 r8)
          go_upto_region 23 with (go_at_call 61; refine (ihb D2 d2 D8 d8 _ (hRb.below hb1)).mono ?_; rintro e' w2 ⟨vb, rfl, hTb, hB2⟩; have hbk2 := blk_below hbk hB2; obtain ⟨p0, p1, p2, p3, p4, p5, p6, p7, p8, pf⟩ := nine_cells hbk2)
          have hBB : Below w.heap.size w w2 := hb1.trans (hB2.mono hb1.size)
          have hTa2 := hTa.below hB2
          cases hA : (formOf a).2 with
          | true =>
            go_wp2_with (go_at_call 85; refine (pair_any 12 (by simp) _ _ va vb _ hTa2 hTb).mono ?_; rintro e' w3 ⟨vv, rfl, hTv, rfl⟩)
            exact bodyPost_ret (v := .tuple #[vv, .bool (formOf b).2]) (by simp [results, Try.results61, go_sem]) rfl ⟨vv, by rw [hA]; rfl, hTv, hBB⟩
          | false =>
            go_wp2_with (go_at_call 85; refine (pair_any 12 (by simp) _ _ va vb _ hTa2 hTb).mono ?_; rintro e' w3 ⟨vv, rfl, hTv, rfl⟩)
            exact bodyPost_ret (v := .tuple #[vv, .bool false]) (by simp [results, Try.results61, go_sem]) rfl ⟨vv, by rw [hA]; rfl, hTv, hBB⟩
        · go_enter Try.func61, Try.ntmps61
          go_upto_region 22 with (go_at_call 61; refine (iha B2 b2 B8 b8 _ (hRa.below hb0)).mono ?_; rintro e' w1 ⟨va, rfl, hTa, hB1⟩; have hbk := blk_below (blk_new w (.cells #[.int .i64 13, .bool n, .slice A2 ws.length c2, .string nm, .int .i64 e, .int .i64 r, .bool tr, .bool al, .slice (some ad) 2 c8] 29)) hB1; obtain ⟨p0, p1, p2, p3, p4, p5, p6, p7, p8, pf⟩ := nine_cells hbk; have hb1 := hb0.trans (hB1.mono (by simp)); have n0 := pw_cell_below hb1 r0; have n1 := pw_cell_below hb1 r1; have n2 := pw_cell_below hb1 r2; have n3 := pw_cell_below hb1 r3; have n4 := pw_cell_below hb1 r4; have n5 := pw_cell_below hb1 r5; have n6 := pw_cell_below hb1 r6; have n7 := pw_cell_below hb1 r7; have n8 := pw_cell_below hb1 r8)
          go_upto_region 23 with (go_at_call 61; refine (ihb D2 d2 D8 d8 _ (hRb.below hb1)).mono ?_; rintro e' w2 ⟨vb, rfl, hTb, hB2⟩; have hbk2 := blk_below hbk hB2; obtain ⟨p0, p1, p2, p3, p4, p5, p6, p7, p8, pf⟩ := nine_cells hbk2)
          have hBB : Below w.heap.size w w2 := hb1.trans (hB2.mono hb1.size)
          have hTa2 := hTa.below hB2
          cases hA : (formOf a).2 with
          | true =>
            go_wp2_with (go_at_call 85; refine (pair_any 13 (by simp) _ _ va vb _ hTa2 hTb).mono ?_; rintro e' w3 ⟨vv, rfl, hTv, rfl⟩)
            exact bodyPost_ret (v := .tuple #[vv, .bool (formOf b).2]) (by simp [results, Try.results61, go_sem]) rfl ⟨vv, by rw [hA]; rfl, hTv, hBB⟩
          | false =>
            go_wp2_with (go_at_call 85; refine (pair_any 13 (by simp) _ _ va vb _ hTa2 hTb).mono ?_; rintro e' w3 ⟨vv, rfl, hTv, rfl⟩)
            exact bodyPost_ret (v := .tuple #[vv, .bool false]) (by simp [results, Try.results61, go_sem]) rfl ⟨vv, by rw [hA]; rfl, hTv, hBB⟩
        · go_enter Try.func61, Try.ntmps61
          go_upto_region 22 with (go_at_call 61; refine (iha B2 b2 B8 b8 _ (hRa.below hb0)).mono ?_; rintro e' w1 ⟨va, rfl, hTa, hB1⟩; have hbk := blk_below (blk_new w (.cells #[.int .i64 14, .bool n, .slice A2 ws.length c2, .string nm, .int .i64 e, .int .i64 r, .bool tr, .bool al, .slice (some ad) 2 c8] 29)) hB1; obtain ⟨p0, p1, p2, p3, p4, p5, p6, p7, p8, pf⟩ := nine_cells hbk; have hb1 := hb0.trans (hB1.mono (by simp)); have n0 := pw_cell_below hb1 r0; have n1 := pw_cell_below hb1 r1; have n2 := pw_cell_below hb1 r2; have n3 := pw_cell_below hb1 r3; have n4 := pw_cell_below hb1 r4; have n5 := pw_cell_below hb1 r5; have n6 := pw_cell_below hb1 r6; have n7 := pw_cell_below hb1 r7; have n8 := pw_cell_below hb1 r8)
          go_upto_region 23 with (go_at_call 61; refine (ihb D2 d2 D8 d8 _ (hRb.below hb1)).mono ?_; rintro e' w2 ⟨vb, rfl, hTb, hB2⟩; have hbk2 := blk_below hbk hB2; obtain ⟨p0, p1, p2, p3, p4, p5, p6, p7, p8, pf⟩ := nine_cells hbk2)
          have hBB : Below w.heap.size w w2 := hb1.trans (hB2.mono hb1.size)
          have hTa2 := hTa.below hB2
          cases hA : (formOf a).2 with
          | true =>
            go_wp2_with (go_at_call 85; refine (pair_any 14 (by simp) _ _ va vb _ hTa2 hTb).mono ?_; rintro e' w3 ⟨vv, rfl, hTv, rfl⟩)
            exact bodyPost_ret (v := .tuple #[vv, .bool (formOf b).2]) (by simp [results, Try.results61, go_sem]) rfl ⟨vv, by rw [hA]; rfl, hTv, hBB⟩
          | false =>
            go_wp2_with (go_at_call 85; refine (pair_any 14 (by simp) _ _ va vb _ hTa2 hTb).mono ?_; rintro e' w3 ⟨vv, rfl, hTv, rfl⟩)
            exact bodyPost_ret (v := .tuple #[vv, .bool false]) (by simp [results, Try.results61, go_sem]) rfl ⟨vv, by rw [hA]; rfl, hTv, hBB⟩
      · have hT3 : T = (nilF, false) := by
          rw [← hT]; unfold formOf
          match kids, h1 with
          | [], _ => rcases kp with rfl | rfl | rfl | rfl <;> simp
          | [_], _ => rcases kp with rfl | rfl | rfl | rfl <;> simp
          | _ :: _ :: _ :: _, _ => rcases kp with rfl | rfl | rfl | rfl <;> simp
        clear hT hkl
        subst hT3
        have hn : ((kids.length : Int) != 2) = true := bne_iff_ne.2 (by omega)
        rcases kp with rfl | rfl | rfl | rfl
        all_goals
          (go_enter Try.func61, Try.ntmps61
           go_wp2_with fail
           exact bodyPost_ret (v := .tuple #[.nilIface, .bool false]) (by simp [results, Try.results61, go_sem]) rfl ⟨_, rfl, ⟨rfl, .inl rfl⟩, (Below.refl _ w).alloc (Nat.le_refl _) _⟩)
    · have hT3 : T = (nilF, false) := by
        rw [← hT]; conv => lhs; unfold formOf
        rw [if_neg k8, if_neg k9, if_neg kq, if_neg kp]
      clear hT hkl
      subst hT3
      have f1 : (k == 8) = false := beq_eq_false_iff_ne.2 k8
      have f2 : (k == 9) = false := beq_eq_false_iff_ne.2 k9
      have f3 : (k == 10) = false := beq_eq_false_iff_ne.2 (fun h => kq (.inl h))
      have f4 : (k == 15) = false := beq_eq_false_iff_ne.2 (fun h => kq (.inr h))
      have f5 : (k == 11) = false := beq_eq_false_iff_ne.2 (fun h => kp (.inl h))
      have f6 : (k == 12) = false := beq_eq_false_iff_ne.2 (fun h => kp (.inr (.inl h)))
      have f7 : (k == 13) = false := beq_eq_false_iff_ne.2 (fun h => kp (.inr (.inr (.inl h))))
      have f8 : (k == 14) = false := beq_eq_false_iff_ne.2 (fun h => kp (.inr (.inr (.inr h))))
      go_enter Try.func61, Try.ntmps61
      go_wp2_with fail
      exact bodyPost_ret (v := .tuple #[.nilIface, .bool false]) (by simp [results, Try.results61, go_sem]) rfl ⟨_, rfl, ⟨rfl, .inl rfl⟩, (Below.refl _ w).alloc (Nat.le_refl _) _⟩

set_option maxRecDepth 100000 in
set_option maxHeartbeats 1600000 in
theorem of_any (x : S29) (hx : SmallS x) (A2 : Option Addr) (c2 : Nat) (A8 : Option Addr) (c8 : Nat) (w : World) (hR : ReadR w x A2 c2 A8 c8) :
    Calls Try.prog 23 #[treeV x (.slice A2 x.f1.f1.length c2) (.slice A8 x.f7.length c8)] w fun e w' => ∃ v, e = .returned (.tuple #[v, .int .i64 (if (formOf x).2 then 0 else 9)]) ∧ IsFm w' (if (formOf x).2 then (formOf x).1 else nilF) v ∧ Below w.heap.size w w' := by
  have hu29 := Try.underlying29
  have hb0 := (Below.refl _ w).alloc (Nat.le_refl _) (.cells #[.int .i64 x.f0, .bool x.f1.f0, .slice A2 x.f1.f1.length c2, .string x.f2, .int .i64 x.f3, .int .i64 x.f4, .bool x.f5, .bool x.f6, .slice A8 x.f7.length c8] 29)
  cases hok : (formOf x).2
  all_goals
    (go_enter Try.func23, Try.ntmps23
     go_wp2_with (go_at_call 61; refine (form_any x hx A2 c2 A8 c8 _ (hR.below hb0)).mono ?_; rw [hok]; rintro e w1 ⟨v, rfl, hT, hB1⟩))
  · exact bodyPost_ret (v := .tuple #[.nilIface, .int .i64 9]) (by simp [results, Try.results23, go_sem]) rfl ⟨_, rfl, ⟨rfl, .inl rfl⟩, hb0.trans (hB1.mono (by simp))⟩
  · exact bodyPost_ret (v := .tuple #[_, .int .i64 0]) (by simp [results, Try.results23, go_sem]) rfl ⟨_, rfl, hT, hb0.trans (hB1.mono (by simp))⟩
end Go.Proofs.Ytddpojinlapmfaa.PRef
