/- formula.same, slices.EqualFunc, formula.Same: equality of canonical trees. -/
import Derived.Test.YtddpojinlapmfaaSameB
import Derived.Test.YtddpojinlapmfaaPlainB
import Derived.Test.YtddpojinlapmfaaRefA
namespace Go.Proofs.Ytddpojinlapmfaa.PRef
set_option linter.unusedVariables false
set_option linter.unusedSimpArgs false
open Go.RowKit Go.Proofs.YtddpojinlapmfaaW.PrintWords Go.Proofs.YtddpojinlapmfaaW.PrintLast Go.Proofs.YtddpojinlapmfaaW.PrintMore

/-- A canonical tree of bounded numbers. -/
inductive GoodS : S29 → Prop
  | mk (x : S29) (h : NormV x.f1) (h1 : x.f1.f1.length ≤ 1000) (hl : x.f7.length ≤ 1000000) (hk : ∀ y ∈ x.f7, GoodS y) : GoodS x
/-- What formula.same gives of the tree x. -/
def SameGives (x : S29) : Prop := ∀ (y : S29), GoodS y → ∀ (A2 : Option Addr) (c2 : Nat) (A8 : Option Addr) (c8 : Nat) (D2 : Option Addr) (d2 : Nat) (D8 : Option Addr) (d8 : Nat) (w : World), ReadR w x A2 c2 A8 c8 → ReadR w y D2 d2 D8 d8 →
  Calls Try.prog 72 #[treeV x (.slice A2 x.f1.f1.length c2) (.slice A8 x.f7.length c8), treeV y (.slice D2 y.f1.f1.length d2) (.slice D8 y.f7.length d8)] w fun e w' => ∃ r : Bool, e = .returned (.bool r) ∧ (r = true ↔ x = y) ∧ Below w.heap.size w w'

set_option maxRecDepth 100000 in
set_option maxHeartbeats 4000000 in
theorem equalF_any (l m : List S29) (ih : ∀ x ∈ l, SameGives x) (hm : ∀ y ∈ m, GoodS y) (A B : Option Addr) (c d : Nat) (w : World) (hl : l.length ≤ 1000000) (hc : l.length ≤ c) (hC : k29.C w A l.length l) (hd : m.length ≤ d) (hD : k29.C w B m.length m) :
    Calls Try.prog 92 #[.slice A l.length c, .slice B m.length d, .func (.func 72) #[] #[]] w fun e w' => ∃ r : Bool, e = .returned (.bool r) ∧ (r = true ↔ l = m) ∧ Below w.heap.size w w' := by
  have hu29 := Try.underlying29
  by_cases hlm : l.length = m.length
  · have hne : ((l.length : Int) != (m.length : Int)) = false := by rw [hlm]; exact bne_self_eq_false _
    have HLM := Lib.hid hlm
    have HIH := Lib.hid ih
    have HGM := Lib.hid hm
    have HCC := Lib.hid hC
    have HDD := Lib.hid hD
    have HL := Lib.hid hl
    clear hlm ih hm hC hD hl
    go_enter Try.func92, Try.ntmps92
    go_wp2_with fail
    go_loopw [17] (fun i wr => ∃ k : Nat, k ≤ l.length ∧ i = .int .i64 k ∧ l.take k = m.take k ∧ Below w.heap.size w wr) (fun i _ => l.length - (intOf i).toNat)
    case atStart => exact ⟨0, by omega, rfl, by simp, Below.refl _ _⟩
    case round =>
      obtain ⟨k, hk, rfl, htk, hbr⟩ := hrel
      by_cases hlt : k < l.length
      · have hlm := HLM.out
        have hmt : k < m.length := by omega
        obtain ⟨ad, A2, c2, A8, c8, hA, q0, q1, q2, q3, q4, q5, q6, q7, q8, hRa⟩ := tree_at (Kd.C_below HCC.out hbr) k hlt
        obtain ⟨bd, D2, d2, D8, d8, hB, s0, s1, s2, s3, s4, s5, s6, s7, s8, hRb⟩ := tree_at (Kd.C_below HDD.out hbr) k hmt
        have hi := HIH.out l[k] (List.getElem_mem hlt)
        have hg := HGM.out m[k] (List.getElem_mem hmt)
        have hnx : l[k] = m[k] → l.take (k + 1) = m.take (k + 1) := fun h => by rw [List.take_succ_eq_append_getElem hlt, List.take_succ_eq_append_getElem hmt, htk, h]
        have hny : l[k] ≠ m[k] → l ≠ m := fun h he => h (by subst he; rfl)
        obtain ⟨x, hx⟩ : ∃ x, l[k] = x := ⟨_, rfl⟩
        obtain ⟨y, hy⟩ : ∃ y, m[k] = y := ⟨_, rfl⟩
        rw [hx] at q0 q1 q2 q3 q4 q5 q6 q7 q8 hRa hi hnx hny
        rw [hy] at s0 s1 s2 s3 s4 s5 s6 s7 s8 hRb hg hnx hny
        clear hx hy
        subst hA hB
        have hk64 : (k : Int) < 1000000 := by have := HL.out; omega
        have hk0 : (0 : Int) ≤ (k : Int) := by omega
        have hkl : (k : Int) < (l.length : Int) := by omega
        have hkm : (k : Int) < (m.length : Int) := by omega
        have hkn : wrap64 ((k : Int) + 1) = ((k + 1 : Nat) : Int) := wrap_succ (by omega)
        have hkI : IntKind.i64.wrap ((k : Int) + 1) = ((k + 1 : Nat) : Int) := (i64_w _).trans hkn
        have HNX := Lib.hid (And.intro hnx hny)
        have HK := Lib.hid (And.intro hk (And.intro htk hbr))
        have HH := Lib.hid (And.intro hi hg)
        obtain ⟨w1, hw1⟩ : ∃ w1, wr.alloc (.cells #[.int .i64 x.f0, .bool x.f1.f0, .slice A2 x.f1.f1.length c2, .string x.f2, .int .i64 x.f3, .int .i64 x.f4, .bool x.f5, .bool x.f6, .slice A8 x.f7.length c8] 29) = w1 := ⟨_, rfl⟩
        have hb1 : w1.heap[wr.heap.size]? = some (.cells #[.int .i64 x.f0, .bool x.f1.f0, .slice A2 x.f1.f1.length c2, .string x.f2, .int .i64 x.f3, .int .i64 x.f4, .bool x.f5, .bool x.f6, .slice A8 x.f7.length c8] 29 (0, 0)) := by rw [← hw1]; exact blk_new _ _
        have hB1 : Below wr.heap.size wr w1 := by rw [← hw1]; exact (Below.refl _ wr).alloc (Nat.le_refl _) _
        obtain ⟨w2, hw2⟩ : ∃ w2, w1.alloc (.cells #[.int .i64 y.f0, .bool y.f1.f0, .slice D2 y.f1.f1.length d2, .string y.f2, .int .i64 y.f3, .int .i64 y.f4, .bool y.f5, .bool y.f6, .slice D8 y.f7.length d8] 29) = w2 := ⟨_, rfl⟩
        have hb2 : w2.heap[w1.heap.size]? = some (.cells #[.int .i64 y.f0, .bool y.f1.f0, .slice D2 y.f1.f1.length d2, .string y.f2, .int .i64 y.f3, .int .i64 y.f4, .bool y.f5, .bool y.f6, .slice D8 y.f7.length d8] 29 (0, 0)) := by rw [← hw2]; exact blk_new _ _
        have hB2 : Below w1.heap.size w1 w2 := by rw [← hw2]; exact (Below.refl _ w1).alloc (Nat.le_refl _) _
        have hB12 : Below wr.heap.size wr w2 := belowS hB1 hB2
        have hb12 := blk_below hb1 hB2
        have t0 := pw_cell_below hB1 s0
        have t1 := pw_cell_below hB1 s1
        have t2 := pw_cell_below hB1 s2
        have t3 := pw_cell_below hB1 s3
        have t4 := pw_cell_below hB1 s4
        have t5 := pw_cell_below hB1 s5
        have t6 := pw_cell_below hB1 s6
        have t7 := pw_cell_below hB1 s7
        have t8 := pw_cell_below hB1 s8
        obtain ⟨x0, x1, x2, x3, x4, x5, x6, x7, x8, xf⟩ := nine_cells hb12
        obtain ⟨y0, y1, y2, y3, y4, y5, y6, y7, y8, yf⟩ := nine_cells hb2
        have HRA := Lib.hid (hRa.below hB12)
        have HRB := Lib.hid (hRb.below hB12)
        have HB12 := Lib.hid hB12
        have HLT := Lib.hid hlt
        clear hlm hnx hny hk htk hbr hi hg hlt hmt s0 s1 s2 s3 s4 s5 s6 s7 s8 hb1 hb2 hb12 hRa hRb hB1 hB2 hB12
        go_wp2_with (go_at_call 72; refine (HH.out.1 y HH.out.2 A2 c2 A8 c8 D2 d2 D8 d8 _ HRA.out HRB.out).mono ?_; rintro e w3 ⟨r, rfl, hr, hb3⟩; have HR := Lib.hid hr; clear hr; cases r)
        · go_ret
          exact ⟨false, rfl, ⟨fun h => absurd h Bool.false_ne_true, fun h => absurd h (HNX.out.2 (fun he => Bool.false_ne_true (HR.out.2 he)))⟩, belowS HK.out.2.2 (belowS HB12.out hb3)⟩
        · go_roundw
          case rel => exact ⟨k + 1, Nat.succ_le_of_lt HLT.out, by go_num, HNX.out.1 (HR.out.1 (by simp)), belowS HK.out.2.2 (belowS HB12.out hb3)⟩
          case measure => have := HLT.out; simp [intOf]; omega
      · obtain rfl : k = l.length := by omega
        have HT := Lib.hid htk
        clear htk
        go_wp2
        go_ret
        refine ⟨true, rfl, ⟨fun _ => ?_, fun _ => rfl⟩, hbr⟩
        have := HT.out
        rw [List.take_length, HLM.out, List.take_length] at this
        exact this
  · have hne : ((l.length : Int) != (m.length : Int)) = true := bne_iff_ne.2 (by omega)
    go_enter Try.func92, Try.ntmps92
    go_wp2_with fail
    go_ret
    exact ⟨false, rfl, ⟨fun h => absurd h Bool.false_ne_true, fun h => absurd (by rw [h]) hlm⟩, Below.refl _ _⟩

/-- The two boxes of a call of formula.same. -/
theorem fsame_boxes (w : World) (cx cy : Array Value) : ((w.alloc (.cells cx 29)).alloc (.cells cy 29)).heap[w.heap.size]? = some (.cells cx 29 (0, 0)) ∧ ((w.alloc (.cells cx 29)).alloc (.cells cy 29)).heap[w.heap.size + 1]? = some (.cells cy 29 (0, 0)) ∧ Below w.heap.size w ((w.alloc (.cells cx 29)).alloc (.cells cy 29)) := by
  refine ⟨blk_alloc (blk_new _ _) _, ?_, ((Below.refl _ w).alloc (Nat.le_refl _) _).alloc (by simp) _⟩
  have := blk_new (w.alloc (.cells cx 29)) (.cells cy 29)
  rwa [World.size_alloc] at this
set_option maxRecDepth 100000 in
set_option maxHeartbeats 8000000 in
theorem fsame_any : ∀ x : S29, GoodS x → SameGives x := by
  have hu29 := Try.underlying29
  have hu25 := Try.underlying25
  intro x hx
  induction hx with
  | mk x hN h1 hl hk ih =>
  intro y hy A2 c2 A8 c8 D2 d2 D8 d8 w hRx hRy
  obtain ⟨_, hN', h1', hl', hk'⟩ := hy
  obtain ⟨k, ⟨n, ws⟩, nm, ex, rl, tr, al, kids⟩ := x
  obtain ⟨k', ⟨n', ws'⟩, nm', ex', rl', tr', al', kids'⟩ := y
  obtain ⟨l2, g2, l8, g8⟩ := hRx
  obtain ⟨m2, i2, m8, i8⟩ := hRy
  dsimp only at hN h1 hl hk ih hN' h1' hl' hk' l2 g2 l8 g8 m2 i2 m8 i8 ⊢
  obtain ⟨wS, hwS⟩ : ∃ wS, (w.alloc (.cells #[.int .i64 k, .bool n, .slice A2 ws.length c2, .string nm, .int .i64 ex, .int .i64 rl, .bool tr, .bool al, .slice A8 kids.length c8] 29)).alloc (.cells #[.int .i64 k', .bool n', .slice D2 ws'.length d2, .string nm', .int .i64 ex', .int .i64 rl', .bool tr', .bool al', .slice D8 kids'.length d8] 29) = wS := ⟨_, rfl⟩
  obtain ⟨kx, ky, hBS⟩ := fsame_boxes w #[.int .i64 k, .bool n, .slice A2 ws.length c2, .string nm, .int .i64 ex, .int .i64 rl, .bool tr, .bool al, .slice A8 kids.length c8] #[.int .i64 k', .bool n', .slice D2 ws'.length d2, .string nm', .int .i64 ex', .int .i64 rl', .bool tr', .bool al', .slice D8 kids'.length d8]
  rw [hwS] at kx ky hBS
  have HI : ∀ W, Below wS.heap.size wS W → Calls Try.prog 91 #[.agg #[.bool n, .slice A2 ws.length c2], .agg #[.bool n', .slice D2 ws'.length d2]] W fun e w' => ∃ r : Bool, e = .returned (.bool r) ∧ (r = true ↔ (⟨n, ws⟩ : S25) = ⟨n', ws'⟩) ∧ Below W.heap.size W w' :=
    fun W hb => sameI_any ⟨n, ws⟩ ⟨n', ws'⟩ A2 D2 c2 d2 W hN hN' h1 h1' l2 (Kd.C_below g2 (belowS hBS hb)) m2 (Kd.C_below i2 (belowS hBS hb))
  have HE : ∀ W, Below wS.heap.size wS W → Calls Try.prog 92 #[.slice A8 kids.length c8, .slice D8 kids'.length d8, .func (.func 72) #[] #[]] W fun e w' => ∃ r : Bool, e = .returned (.bool r) ∧ (r = true ↔ kids = kids') ∧ Below W.heap.size W w' :=
    fun W hb => equalF_any kids kids' ih hk' A8 D8 c8 d8 W hl l8 (Kd.C_below g8 (belowS hBS hb)) m8 (Kd.C_below i8 (belowS hBS hb))
  have HI := Lib.hid HI
  have HE := Lib.hid HE
  obtain ⟨x0, x1, x2, x3, x4, x5, x6, x7, x8, xf⟩ := nine_cells kx
  obtain ⟨y0, y1, y2, y3, y4, y5, y6, y7, y8, yf⟩ := nine_cells ky
  have HKX := Lib.hid (And.intro kx ky)
  have HBS := Lib.hid hBS
  have hb0 := Below.refl wS.heap.size wS
  clear hN hN' h1 h1' hl hl' hk hk' ih l2 g2 l8 g8 m2 i2 m8 i8 kx ky hBS
  by_cases h_k : k = k'
  case neg =>
    have hf : (k != k') = true := bne_iff_ne.2 h_k
    go_enter Try.func72, Try.ntmps72
    go_wp2_with fail
    go_ret
    exact ⟨false, rfl, ⟨fun h => absurd h Bool.false_ne_true, fun h => absurd (by injection h) h_k⟩, HBS.out⟩
  subst h_k
  by_cases h_nm : nm = nm'
  case neg =>
    have hf : (nm.toList == nm'.toList) = false := beq_eq_false_iff_ne.2 (fun h => h_nm (toList_inj.1 h))
    go_enter Try.func72, Try.ntmps72
    go_wp2_with (go_at_call 91; refine (HI.out _ hb0).mono ?_; clear HI; rintro e w1 ⟨r, rfl, hr, hb1⟩; obtain ⟨kx1, ky1⟩ := And.intro (blk_below HKX.out.1 hb1) (blk_below HKX.out.2 hb1); clear x0 x1 x2 x3 x4 x5 x6 x7 x8 xf y0 y1 y2 y3 y4 y5 y6 y7 y8 yf; obtain ⟨x0, x1, x2, x3, x4, x5, x6, x7, x8, xf⟩ := nine_cells kx1; obtain ⟨y0, y1, y2, y3, y4, y5, y6, y7, y8, yf⟩ := nine_cells ky1; have HR := Lib.hid hr; clear hr kx1 ky1; cases r)
    all_goals go_ret
    all_goals exact ⟨false, rfl, ⟨fun h => absurd h Bool.false_ne_true, fun h => absurd (by injection h) h_nm⟩, belowS HBS.out hb1⟩
  subst h_nm
  by_cases h_ex : ex = ex'
  case neg =>
    have hf : (ex != ex') = true := bne_iff_ne.2 h_ex
    go_enter Try.func72, Try.ntmps72
    go_wp2_with (go_at_call 91; refine (HI.out _ hb0).mono ?_; clear HI; rintro e w1 ⟨r, rfl, hr, hb1⟩; obtain ⟨kx1, ky1⟩ := And.intro (blk_below HKX.out.1 hb1) (blk_below HKX.out.2 hb1); clear x0 x1 x2 x3 x4 x5 x6 x7 x8 xf y0 y1 y2 y3 y4 y5 y6 y7 y8 yf; obtain ⟨x0, x1, x2, x3, x4, x5, x6, x7, x8, xf⟩ := nine_cells kx1; obtain ⟨y0, y1, y2, y3, y4, y5, y6, y7, y8, yf⟩ := nine_cells ky1; have HR := Lib.hid hr; clear hr kx1 ky1; cases r)
    all_goals go_ret
    all_goals exact ⟨false, rfl, ⟨fun h => absurd h Bool.false_ne_true, fun h => absurd (by injection h) h_ex⟩, belowS HBS.out hb1⟩
  subst h_ex
  by_cases h_rl : rl = rl'
  case neg =>
    have hf : (rl != rl') = true := bne_iff_ne.2 h_rl
    go_enter Try.func72, Try.ntmps72
    go_wp2_with (go_at_call 91; refine (HI.out _ hb0).mono ?_; clear HI; rintro e w1 ⟨r, rfl, hr, hb1⟩; obtain ⟨kx1, ky1⟩ := And.intro (blk_below HKX.out.1 hb1) (blk_below HKX.out.2 hb1); clear x0 x1 x2 x3 x4 x5 x6 x7 x8 xf y0 y1 y2 y3 y4 y5 y6 y7 y8 yf; obtain ⟨x0, x1, x2, x3, x4, x5, x6, x7, x8, xf⟩ := nine_cells kx1; obtain ⟨y0, y1, y2, y3, y4, y5, y6, y7, y8, yf⟩ := nine_cells ky1; have HR := Lib.hid hr; clear hr kx1 ky1; cases r)
    all_goals go_ret
    all_goals exact ⟨false, rfl, ⟨fun h => absurd h Bool.false_ne_true, fun h => absurd (by injection h) h_rl⟩, belowS HBS.out hb1⟩
  subst h_rl
  by_cases h_tr : tr = tr'
  case neg =>
    have hf : (tr != tr') = true := bne_iff_ne.2 h_tr
    obtain rfl : tr' = !tr := by cases tr <;> cases tr' <;> simp_all
    clear hf
    go_enter Try.func72, Try.ntmps72
    go_wp2_with (go_at_call 91; refine (HI.out _ hb0).mono ?_; clear HI; rintro e w1 ⟨r, rfl, hr, hb1⟩; obtain ⟨kx1, ky1⟩ := And.intro (blk_below HKX.out.1 hb1) (blk_below HKX.out.2 hb1); clear x0 x1 x2 x3 x4 x5 x6 x7 x8 xf y0 y1 y2 y3 y4 y5 y6 y7 y8 yf; obtain ⟨x0, x1, x2, x3, x4, x5, x6, x7, x8, xf⟩ := nine_cells kx1; obtain ⟨y0, y1, y2, y3, y4, y5, y6, y7, y8, yf⟩ := nine_cells ky1; have HR := Lib.hid hr; clear hr kx1 ky1; cases r)
    all_goals go_ret
    all_goals exact ⟨false, rfl, ⟨fun h => absurd h Bool.false_ne_true, fun h => absurd (by injection h) h_tr⟩, belowS HBS.out hb1⟩
  subst h_tr
  by_cases h_al : al = al'
  case neg =>
    have hf : (al != al') = true := bne_iff_ne.2 h_al
    obtain rfl : al' = !al := by cases al <;> cases al' <;> simp_all
    clear hf
    go_enter Try.func72, Try.ntmps72
    go_wp2_with (go_at_call 91; refine (HI.out _ hb0).mono ?_; clear HI; rintro e w1 ⟨r, rfl, hr, hb1⟩; obtain ⟨kx1, ky1⟩ := And.intro (blk_below HKX.out.1 hb1) (blk_below HKX.out.2 hb1); clear x0 x1 x2 x3 x4 x5 x6 x7 x8 xf y0 y1 y2 y3 y4 y5 y6 y7 y8 yf; obtain ⟨x0, x1, x2, x3, x4, x5, x6, x7, x8, xf⟩ := nine_cells kx1; obtain ⟨y0, y1, y2, y3, y4, y5, y6, y7, y8, yf⟩ := nine_cells ky1; have HR := Lib.hid hr; clear hr kx1 ky1; cases r)
    all_goals go_ret
    all_goals exact ⟨false, rfl, ⟨fun h => absurd h Bool.false_ne_true, fun h => absurd (by injection h) h_al⟩, belowS HBS.out hb1⟩
  subst h_al
  go_enter Try.func72, Try.ntmps72
  go_wp2_with (first
    | (go_at_call 91; refine (HI.out _ hb0).mono ?_; clear HI; rintro e w1 ⟨r, rfl, hr, hb1⟩; obtain ⟨kx1, ky1⟩ := And.intro (blk_below HKX.out.1 hb1) (blk_below HKX.out.2 hb1); clear x0 x1 x2 x3 x4 x5 x6 x7 x8 xf y0 y1 y2 y3 y4 y5 y6 y7 y8 yf; obtain ⟨x0, x1, x2, x3, x4, x5, x6, x7, x8, xf⟩ := nine_cells kx1; obtain ⟨y0, y1, y2, y3, y4, y5, y6, y7, y8, yf⟩ := nine_cells ky1; have HR := Lib.hid hr; clear hr kx1 ky1; cases r)
    | (go_at_call 92; refine (HE.out _ hb1).mono ?_; rintro e w2 ⟨r2, rfl, hr2, hb2⟩))
  · go_ret
    exact ⟨false, rfl, ⟨fun h => absurd h Bool.false_ne_true, fun h => by injection h with _ h2; exact HR.out.2 h2⟩, belowS HBS.out hb1⟩
  · go_ret
    refine ⟨r2, rfl, hr2.trans ⟨fun h => ?_, fun h => by injection h⟩, belowS HBS.out (belowS hb1 hb2)⟩
    have e := HR.out.1 (by simp)
    rw [e, h]
end Go.Proofs.Ytddpojinlapmfaa.PRef
