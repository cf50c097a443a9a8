/- LexerTokens: the law cylinderlaw35.LexerTokens returns true whatever the text and the number, and nothing that lay has turned. No condition. -/
import Derived.Test.YtkomgnaleocleaaTokB
import Derived.Test.YtkomgnaleocleaaLexS
import Derived.Test.YtkomgnaleocleaaRows
import Derived.ProofKit
import Derived.OpenShut
import Derived.ShutString
import Derived.ChangeOld
import Derived.Below
import Derived.SizedLaws
namespace Go.Proofs.Ytkomgnaleocleaa.Tokens
set_option linter.unusedVariables false
set_option linter.unusedSimpArgs false
open Go.RowKit Go.Shelf Go.Proofs.Ytkomgnaleocleaa.PAll Go.Proofs.YtkomgnaleocleaaW.PrintWords Go.Proofs.YtkomgnaleocleaaW.PrintLast Go.Proofs.YtkomgnaleocleaaW.PrintMore
attribute [local go_sem] Oper.semAt_some
attribute [local go_sem] max2_int min2_int max_two min_two max_three min_three max_four min_four

set_option maxRecDepth 100000 in
set_option maxHeartbeats 4000000 in
theorem law (s : ByteArray) (st : Int) (hst0 : 0 ≤ st) (hst1 : st ≤ 255) (w : World) :
    Calls Try.prog 9 #[.string s, .int .u8 st] w fun e w' => e = .returned (.bool true) ∧ Below w.heap.size w w' := by
  have hu30 := Try.underlying30
  have hB0 := Below.refl w.heap.size w
  obtain ⟨sn, rfl⟩ : ∃ n : Nat, st = (n : Int) := ⟨st.toNat, by omega⟩
  refine (callsIn_wide (n := 9)).1 ?_
  refine callsIn_of_wp_marks Try.func9 rfl trivial ?_ rfl
  simp only [Try.ntmps9, List.size_toArray, List.length_cons, List.length_nil, Nat.reduceAdd, Nat.reduceSub, Array.replicate_succ, Array.replicate_zero, List.push_toArray, List.append_toArray, List.nil_append, List.cons_append]
  refine wpIn_wide.2 ?_
  by_cases hs : 4100 < s.size
  · have hs' : (4100 : Int) < (s.size : Int) := by omega
    go_wp2_with (go_at_call 12; refine (cylinderlaw35_awake.calls true _ awake_true).mono ?_; rintro e w1 ⟨rfl, hb⟩)
    refine ⟨_, results_tmp rfl _ _ _, rfl, ?_⟩
    have hb0 := ‹Below (w.alloc (Obj.cells #[.int .u8 sn] 5)).heap.size _ _›
    have hz1 := hb0.size
    rw [World.size_alloc] at hz1
    exact (((Below.refl _ w).alloc (Nat.le_refl _) _).trans (hb0.mono (by rw [World.size_alloc]; omega))).trans (hb.mono (by omega))
  · have hs' : ¬ (4100 : Int) < (s.size : Int) := by omega
    go_wp2_with (first | (go_at_call 12; refine (cylinderlaw35_awake.calls true _ awake_true).mono ?_; rintro e w1 ⟨rfl, hb⟩) | (go_at_call 17; refine (tokens_any s _).mono ?_; rintro e w2 ⟨rfl, rfl⟩))
    have hbs := hb.size
    rw [World.size_alloc] at hbs
    have hS1 : w1.heap[w.heap.size]? = some (.cells #[.int .u8 sn] 5 (0, 0)) := (hb.block _ (by simp)).trans (heap_alloc_new w _)
    have hB1 : Below w.heap.size w w1 := ((Below.refl _ w).alloc (Nat.le_refl _) _).trans (Below.mono hb (B' := w.heap.size) (by rw [World.size_alloc]; omega))
    obtain ⟨b, hbb⟩ : ∃ b, w1.heap.size = b := ⟨_, rfl⟩
    obtain ⟨W0, hW0⟩ : ∃ W0, (w1.alloc (.cells #[.slice none 0 0] 23)).alloc (.cells #[.string s] 9) = W0 := ⟨_, rfl⟩
    have hz : W0.heap.size = b + 2 := by rw [← hW0, ← hbb]; simp
    have hS : W0.heap[w.heap.size]? = some (.cells #[.int .u8 sn] 5 (0, 0)) := by rw [← hW0]; exact blk_alloc (blk_alloc hS1 _) _
    have hX : Box w.heap.size b w W0 [] (.slice none 0 0) := by
      rw [← hW0, ← hbb]
      exact ⟨blk_alloc (blk_new _ _) _, Kd.R_nil _ _ _ _ _, (hB1.alloc (by omega) _).alloc (by simp; omega) _, by omega⟩
    have hstr : W0.cell? ⟨b + 1, 0, none⟩ = some (.string s) := by
      rw [← hW0, ← hbb]
      have := blk_cell (blk_new (w1.alloc (.cells #[.slice none 0 0] 23)) (.cells #[.string s] 9)) 0
      rw [World.size_alloc] at this
      exact this
    rw [hW0, hbb]
    have hwb : w.heap.size + 1 ≤ b := by omega
    clear hW0 hbb hb hB1 hS1
    refine (wpIn_wide (n := 9)).1 ?_
    refine wpIn_rangeFunc_ownH rfl (by omega) (gf := 26) (lb := #[.pointer (some ⟨b + 1, 0, none⟩)]) rfl trivial (enters_of Try.func26 (by kernel_rfl) rfl)
      (tokens_stops 8 (by omega) (b + 1) s W0 (by omega) hstr) (fun _ _ => trivial) (fun _ _ _ _ _ _ _ _ => trivial) (Below.refl _ _) (fun _ => rfl)
      (fun pre W => (∃ v, Box w.heap.size b w W pre v) ∧ W.heap[w.heap.size]? = some (.cells #[.int .u8 sn] 5 (0, 0)) ∧ (pre.length : Int) ≤ (sn : Int))
      (fun c pre W => c = .exit 0 ∧ (∃ v, Box w.heap.size b w W pre v) ∧ W.heap[w.heap.size]? = some (.cells #[.int .u8 sn] 5 (0, 0)) ∧ (pre.length : Int) = (sn : Int) + 1)
      ?own ?ownx ⟨⟨_, hX⟩, hS, by simp⟩
      (fun x a' W => ∃ Bx, W.heap[Bx]? = some (.cells #[.int .i64 x.f0, .string x.f1, .int .i64 x.f2] 30 (0, 0)) ∧ a' = { tmps := #[.string s, .int .u8 sn, undef, .pointer (some ⟨w.heap.size, 0, none⟩), .bool false, .pointer (some ⟨b, 0, none⟩), .pointer (some ⟨Bx, 0, none⟩), undef, undef, undef, .bool true, .bool false, .bool false, .string s, .int .i64 s.size, .bool (decide ((4100 : Int) < s.size)), .bool (decide ((4100 : Int) < s.size)), undef, .string s, .func (.func 26) #[] #[.pointer (some ⟨b + 1, 0, none⟩)], .agg #[.int .i64 x.f0, .string x.f1, .int .i64 x.f2], undef, undef, undef, undef, undef, undef, undef, undef, undef, undef, undef, undef, undef, undef, undef, undef, undef, undef, undef, undef, undef, undef, undef, undef, undef, undef, undef, undef, undef, undef, undef], defers := [] })
      ?axo ?assign ?body ?done ?stop
    case own =>
      rintro pre X Y row ⟨⟨v, h1⟩, h2, h3⟩ hg hr
      refine ⟨⟨v, box_own h1 hg (fun r e => ⟨?_, (hr r e).2⟩)⟩, (hg.block _ (blk_lt h2) (fun e => ?_)).trans h2, h3⟩
      · have := (hr r e).1; omega
      · have := (hr _ e.symm).1; omega
    case ownx =>
      rintro c pre X Y row ⟨h0, ⟨v, h1⟩, h2, h3⟩ hg hr
      refine ⟨h0, ⟨v, box_own h1 hg (fun r e => ⟨?_, (hr r e).2⟩)⟩, (hg.block _ (blk_lt h2) (fun e => ?_)).trans h2, h3⟩
      · have := (hr r e).1; omega
      · have := (hr _ e.symm).1; omega
    case axo =>
      rintro x a' _ X Y row ⟨Bx, h1, h2⟩ hg hr
      refine ⟨Bx, (hg.block _ (blk_lt h1) (fun e => ?_)).trans h1, h2⟩
      obtain ⟨o, ho, hc⟩ := (hr Bx e.symm).2
      rw [h1] at ho; cases ho; cases hc
    case assign =>
      rintro l pre x W K ⟨⟨v, h1⟩, h2, h3⟩ hK
      dsimp only [encT]
      gi_wp2
      exact hK _ _ ((KeepsOthers.alloc _ _).from _) trivial ⟨⟨v, h1.below ((Below.refl _ _).alloc (Nat.le_refl _) _)⟩, blk_alloc h2 _, h3⟩ ⟨_, blk_new _ _, rfl⟩
    case body =>
      rintro l pre x a' W hl ⟨r, hr⟩ ⟨⟨v, h1⟩, h2, h3⟩ ⟨Bx, h4, rfl⟩ hlen
      have c5 := (blk_cell h1.blk 0).trans rfl
      have d0 := (blk_cell h4 0).trans rfl
      have d1 := (blk_cell h4 1).trans rfl
      have d2 := (blk_cell h4 2).trans rfl
      have hsv : some w.heap.size ≠ v.ownBlock := Kd.R_ne h1.row h2 (by decide)
      have hh := Lib.hid h1
      by_cases hst : (sn : Int) < ((pre.length + 1 : Nat) : Int)
      · gi_wp2_with (gi_at_builtin; refine app30 rfl (.tmp 21) (.tmp 23) rfl w.heap.size b w v pre x rfl rfl hh.out (by omega) ?_; intro v1 W1 hc1 hf1 hb1 hk1 hK1 hv1; obtain ⟨A1, cc1, rfl⟩ := hv1; have e1 := (blk_cell hb1.blk 0).trans rfl; have e0 := hk1 _ (blk_lt h2) (by omega) hsv; have e2 := (blk_cell (e0.trans h2) 0).trans rfl)
        exact ⟨hK1.from _, rfl, ⟨_, hb1⟩, e0.trans h2, by simp; omega⟩
      · gi_wp2_with (gi_at_builtin; refine app30 rfl (.tmp 21) (.tmp 23) rfl w.heap.size b w v pre x rfl rfl hh.out (by omega) ?_; intro v1 W1 hc1 hf1 hb1 hk1 hK1 hv1; obtain ⟨A1, cc1, rfl⟩ := hv1; have e1 := (blk_cell hb1.blk 0).trans rfl; have e0 := hk1 _ (blk_lt h2) (by omega) hsv; have e2 := (blk_cell (e0.trans h2) 0).trans rfl)
        exact ⟨hK1.from _, trivial, ⟨_, hb1⟩, e0.trans h2, by simp; omega⟩
    case' done =>
      rintro D pre W hD hpre ⟨⟨v, h1⟩, h2, h3⟩ hK
      have hG : pre = (toksOf s).take (sn + 1) := by rw [hpre, List.take_of_length_le]; rw [← hpre]; omega
    case' stop =>
      rintro D c pre W hD hpre ⟨rfl, ⟨v, h1⟩, h2, h3⟩ hK
      have hG : pre = (toksOf s).take (sn + 1) := by rw [List.prefix_iff_eq_take.1 hpre]; congr 1; omega
      refine wpIn_wide.2 ?_
    all_goals have HG := Lib.hid hG
    all_goals clear hG hpre hstr hX hS h3
    all_goals obtain ⟨A1, cc1, rfl, hc1, hC1⟩ := Kd.R_reads h1.row
    all_goals have c5 := (blk_cell h1.blk 0).trans rfl
    all_goals have hDB := h1.bel
    all_goals dsimp only
    all_goals
      by_cases hs4 : 4000 < s.size
      · have hp0 : pre = [] := by rw [HG.out, show toksOf s = [] from if_pos hs4]; rfl
        subst hp0
        have hs5 : (4000 : Int) < (s.size : Int) := by omega
        go_wp2
        refine ⟨by simp, .inl ⟨_, _, rfl, run_takeDeferred hK, ?_⟩⟩
        exact ⟨_, results_tmp rfl _ _ _, rfl, hDB.trans (belowK_b (w := w) (Nat.le_refl _) W D _ _ (by omega) hK rfl rfl)⟩
      · have hs5 : ¬ (4000 : Int) < (s.size : Int) := by omega
        obtain ⟨kb, hkb⟩ := (before_ev s (by omega)).rounds
        obtain ⟨ts, ar, rr, hsc⟩ : ∃ ts a r, sc s.toList 0 = (ts, a, r) := ⟨_, _, _, rfl⟩
        rw [hsc] at hkb
        have hTs : toksOf s = ts := by unfold toksOf; rw [if_neg hs4, hsc]
        have hG := HG.out
        rw [hTs] at hG
        have hpm : pre.length = min (sn + 1) ts.length := by rw [hG, List.length_take]
        have hpl : pre.length ≤ 256 := by omega
        have HG2 := Lib.hid hG
        have HPM := Lib.hid hpm
        have HTS := Lib.hid hTs
        clear hG hpm hTs
        obtain ⟨ks, hks⟩ := (same_ev pre true (by omega)).rounds
        go_upto_region 11 with (go_at_call 18; refine (cylinderref35_Before.calls kb s ts ar rr _ hkb).mono ?_; rintro e w2 ⟨v2, rfl, hR2, hb2⟩)
        obtain ⟨A2, cc2, rfl, hc2, hC2⟩ := Kd.R_reads hR2
        have hS : ∀ n M, M = pre.length → Calls Try.prog 15 #[.slice A1 pre.length cc1, .slice A2 M cc2, .bool true] (w2.drewN n) fun e w'' => e = .returned (.bool true) ∧ ∃ m, w'' = w2.drewN m := by
          intro n M hM
          subst hM
          have q1 := Kd.C_drewN (Kd.C_below hC1 hb2) n
          have q2 : Kd.C k30 (w2.drewN n) A2 pre.length pre := by
            have := Kd.C_take (m := min (sn + 1) ts.length) (Kd.C_drewN hC2 n) (by omega)
            rw [HPM.out]
            rw [List.length_take] at this
            have e : ts.take (min (sn + 1) ts.length) = pre := by rw [HG2.out, List.take_eq_take_iff]; omega
            rw [e] at this
            have e2 : min (min (sn + 1) ts.length) ts.length = min (sn + 1) ts.length := by omega
            rw [e2] at this
            exact this
          have hp2 := HPM.out
          refine (cylinderref35_Same.calls ks A1 cc1 pre A2 cc2 pre true true _ q1 hc1 q2 (by omega) hks).mono ?_
          rintro e w' ⟨rfl, ⟨m, rfl⟩⟩
          exact ⟨rfl, _, World.drewN_drewN ..⟩
        have c2 : w2.cell? ⟨b, 0, none⟩ = some (.slice A1 pre.length cc1) := by
          rw [blk_cell (blk_below h1.blk hb2)]; rfl
        have c3 : w2.cell? ⟨w.heap.size, 0, none⟩ = some (.int .u8 sn) := by
          rw [blk_cell (blk_below h2 hb2)]; rfl
        have hK2 := (hb2.block D (blk_lt hK)).trans hK
        have hw1 : IntKind.i64.wrap (sn : Int) = (sn : Int) := by rw [i64_w]; exact wrap_ok (by omega) (by omega)
        have hw2 : IntKind.i64.wrap ((sn : Int) + 1) = (sn : Int) + 1 := by rw [i64_w]; exact wrap_ok (by omega) (by omega)
        by_cases hm : (sn : Int) + 1 < ts.length
        · have hm2 : sn + 1 = pre.length := by have := HPM.out; omega
          go_quiet (exact hS _ _ (by first | assumption | rfl))
          have hK3 : (w2.drewN nq).heap[D]? = some (.deferred (some [])) := hK2
          go_wp2
          refine ⟨by simp, .inl ⟨_, _, rfl, run_takeDeferred hK3, ?_⟩⟩
          exact ⟨_, results_tmp rfl _ _ _, rfl, (pw_below_drewN (hDB.trans (hb2.mono (by have := hDB.size; omega))) nq).trans (belowK_b (w := w) (Nat.le_refl _) (w2.drewN nq) D _ _ (by omega) hK3 rfl rfl)⟩
        · have hm2 : ts.length = pre.length := by have := HPM.out; omega
          have hc3 : pre.length ≤ cc2 := by omega
          have hc4 : (pre.length : Int) ≤ (cc2 : Int) := by omega
          have hm3 : ¬ (sn : Int) + 1 < pre.length := by omega
          go_quiet (exact hS _ _ (by first | assumption | rfl))
          have hK3 : (w2.drewN nq).heap[D]? = some (.deferred (some [])) := hK2
          go_wp2
          refine ⟨by simp, .inl ⟨_, _, rfl, run_takeDeferred hK3, ?_⟩⟩
          exact ⟨_, results_tmp rfl _ _ _, rfl, (pw_below_drewN (hDB.trans (hb2.mono (by have := hDB.size; omega))) nq).trans (belowK_b (w := w) (Nat.le_refl _) (w2.drewN nq) D _ _ (by omega) hK3 rfl rfl)⟩

end Go.Proofs.Ytkomgnaleocleaa.Tokens

namespace Go.Proofs.Ytkomgnaleocleaa.lexerTokens
open Go.ChangeShapes Go.WideShapes Go.ChangeAt Go.RowKit
open Go.ChangeMaps (open_string shut_string)
set_option linter.unusedVariables false
set_option linter.unusedSimpArgs false
theorem own : ownKnob Try.prog.godebug = none := by kernel_rfl
set_option maxRecDepth 100000 in
theorem lifted (os : Os) (started : os.Started) (H : Type) (enc : TypeId × Value → H) :
    ReturnsInHanded {} Try.checked os 9 .any (Rows.lexerTokensSpec.pre6 enc Try.prog Try.f9 Rows.lexerTokensRow.domain false) (Rows.lexerTokensSpec.post enc Try.prog Try.f9 false true false false) := by
  refine returnsInHanded_of_change_sized (C := Try.checked) own started (by kernel_rfl) Try.func9
    (ChangeSpec.witness6 (enc := enc) (C := Try.checked) false ⟨#[], #[.string ByteArray.empty, .int .u8 0], []⟩ 8 (by kernel_rfl) (by kernel_rfl) (by kernel_rfl) (by kernel_rfl)) ?_
  intro W base args ds gs before hval0 hW hcnd hsz0 _
  have hval : ∀ (j : Nat) t v, Try.f9.params[j]? = some t → args[j]? = some v → Value.okWide Try.prog W .any base t v := hval0
  have hW' := hW
  obtain ⟨p, q, hA0, hV, rfl, hfz, hnd⟩ := hW
  have hA : DataW.TrodAll enc Try.prog W 0 (fun _ => true) true Try.f9.params.toList args.toList ds p := hA0
  rw [Try.params9] at hA hval
  obtain ⟨v0, vs0, d0, ds0, p0, q0, hargs, rfl, rfl, h0, r0⟩ := trodAll_cons hA
  obtain ⟨v1, vs1, d1, ds1, p1, q1, rfl, rfl, rfl, h1, r1⟩ := trodAll_cons r0
  obtain ⟨rfl, rfl, rfl⟩ := trodAll_nil r1
  obtain rfl : args = #[v0, v1] := by cases args; simp_all
  obtain ⟨rfl, rfl⟩ := trodVars_none hV
  obtain ⟨a0, rfl, rfl, rfl, y0⟩ := open_string Try.underlying9 (hval 0 9 v0 rfl rfl) h0
  obtain ⟨a1, rfl, rfl, rfl, w1⟩ := open_int Try.underlying5 (hval 1 5 v1 rfl rfl) h1
  clear hA0 hval0 hsz0
  have hr : 0 ≤ a1 ∧ a1 ≤ 255 := by
    have := w1
    simp [Lit.wf, IntKind.min, IntKind.max, IntKind.signed, IntKind.bits] at this
    omega
  refine (Tokens.law a0 a1 hr.1 hr.2 W).mono fun e W' ⟨he, bel⟩ => ?_
  subst he
  exact ⟨_, rfl, _, _, _, [], _, [], hW', trodAll_mk1 (shut_bool Try.underlying4 _), (trodAll_cons_mk (shut_string Try.underlying9 y0) (trodAll_cons_mk (shut_int Try.underlying5 w1) trodAll_mk0)), rfl, bel.frame _, fun h => by cases h⟩
theorem over : Rows.lexerTokensRow.holds Try.pinned (OpenSpec.ofChange Rows.lexerTokensSpec) :=
  OpenClaim.holds_of_wide 9 Try.f9 rfl rfl rfl rfl rfl rfl rfl ⟨rfl, rfl, rfl, rfl, rfl⟩ rfl rfl rfl rfl rfl (by kernel_rfl) Try.func9 (by kernel_rfl)
    (of_decide_eq_true (by kernel_rfl)) (by unfold Func.isWrapper; first | (rw [if_pos (by decide +kernel)]; kernel_rfl) | (rw [if_neg (by decide +kernel)]; exact ⟨rfl, rfl⟩))
    (fun os started H enc _ => lifted os started H enc)
theorem proved : Rows.LexerTokensSaid := over
#print axioms proved
end Go.Proofs.Ytkomgnaleocleaa.lexerTokens
namespace Go.Proofs.Ytkomgnaleocleaa
/-- The row, under a short name, for the claim. -/
theorem lexerTokens_holds : Rows.LexerTokensSaid := lexerTokens.proved
end Go.Proofs.Ytkomgnaleocleaa
