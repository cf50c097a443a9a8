/- lexer.Tokens: what its iterator visits, whatever the loop's body: the tokens before the first error, or a part of them where a round says 'no more'. -/
import Derived.RangeFuncNested
import Derived.RangeFuncBound
import Derived.RangeFuncCalls
import Derived.RangeFuncLeaves
import Derived.Shelf.Abstract
import Derived.Shelf.RegionOpen
import Derived.WalkKit
import Derived.OwnWalkIn
import Derived.TacticsInMore
import Derived.LoopNIn
import Derived.LoopIn
import Derived.Test.YtkomgnaleocleaaLexC
namespace Go.Proofs.Ytkomgnaleocleaa.PAll
set_option linter.unusedVariables false
set_option linter.unusedSimpArgs false
open Go.RowKit Go.Shelf Go.Proofs.YtkomgnaleocleaaW.PrintWords Go.Proofs.YtkomgnaleocleaaW.PrintLast Go.Proofs.YtkomgnaleocleaaW.PrintMore
attribute [local go_sem] Oper.semAt_some

def encT (x : S30) : Array Value := #[.agg #[.int .i64 x.f0, .string x.f1, .int .i64 x.f2]]
def toksOf (s : ByteArray) : List S30 := if 4000 < s.size then [] else (sc s.toList 0).1

set_option maxRecDepth 100000 in
set_option maxHeartbeats 1600000 in
theorem scan_y (n l : Nat) (s : ByteArray) (hs : s.size ≤ 4000) (T : List S30) (hT : (sc s.toList 0).1 = T) (J Jx : List S30 → World → Prop)
    (hJ : ∀ pre W W', J pre W → Below W.heap.size W W' → J pre W')
    (hY : ∀ pre x W, J pre W → pre.length < 4001 → YieldAt Fence.wide (n - 1) Try.prog l (encT x) W fun e W' =>
      (e = .returned (.bool true) ∧ J (pre ++ [x]) W') ∨ (e = .returned (.bool false) ∧ Jx (pre ++ [x]) W')) (hn : 1 ≤ n)
    (W : World) (h0 : J [] W) :
    CallsIn Fence.wide n Try.prog 24 #[.string s, .func (.yield l) #[] #[]] W fun e W' => (∃ v, e = .returned v) ∧ (J T W' ∨ ∃ pre, pre <+: T ∧ Jx pre W') := by
  have HT := Lib.hid hT
  clear hT
  have hu30 := Try.underlying30
  refine callsIn_of_wp Try.func24 rfl trivial ?_ rfl
  simp only [Try.ntmps24, List.size_toArray, List.length_cons, List.length_nil, Nat.reduceAdd, Nat.reduceSub, Array.replicate_succ, Array.replicate_zero, List.push_toArray, List.append_toArray, List.nil_append, List.cons_append]
  gi_wp2
  gi_loopw [6] (fun v wr => ∃ (k : Nat) (acc : List S30), k ≤ s.size ∧ v = .int .i64 k ∧ acc.length ≤ k ∧ J acc wr ∧ Hid (acc ++ (sc (s.toList.drop k) k).1 = T)) (fun v _ => s.size - (intOf v).toNat)
  case atStart => exact ⟨0, [], by omega, rfl, by simp, h0, Lib.hid (by rw [List.drop_zero, HT.out]; rfl)⟩
  case round =>
    obtain ⟨k, acc, hk, rfl, hl, hJr, H1⟩ := hrel
    by_cases hlt : k < s.size
    · rcases blank_ways s[k] with h | h | h | h | ⟨hb, h1, h2, h3, h4⟩
      · obtain ⟨hc, hb⟩ := h
        have HS := Lib.hid (sc_blank (cs := s.toList.drop (k + 1)) (a := k) hb)
        clear hb
        have hd := Lib.hid (drop_cons hlt)
        gi_wp2
        go_roundw
        case rel => exact ⟨k + 1, acc, by omega, by go_num, by omega, hJr, Lib.hid (by rw [← HS.out, ← hd.out]; exact H1.out)⟩
        case measure => simp [intOf]; omega
      · obtain ⟨hc, hb⟩ := h
        have HS := Lib.hid (sc_blank (cs := s.toList.drop (k + 1)) (a := k) hb)
        clear hb
        have hd := Lib.hid (drop_cons hlt)
        gi_wp2
        go_roundw
        case rel => exact ⟨k + 1, acc, by omega, by go_num, by omega, hJr, Lib.hid (by rw [← HS.out, ← hd.out]; exact H1.out)⟩
        case measure => simp [intOf]; omega
      · obtain ⟨hc, hb⟩ := h
        have HS := Lib.hid (sc_blank (cs := s.toList.drop (k + 1)) (a := k) hb)
        clear hb
        have hd := Lib.hid (drop_cons hlt)
        gi_wp2
        go_roundw
        case rel => exact ⟨k + 1, acc, by omega, by go_num, by omega, hJr, Lib.hid (by rw [← HS.out, ← hd.out]; exact H1.out)⟩
        case measure => simp [intOf]; omega
      · obtain ⟨hc, hb⟩ := h
        have HS := Lib.hid (sc_blank (cs := s.toList.drop (k + 1)) (a := k) hb)
        clear hb
        have hd := Lib.hid (drop_cons hlt)
        gi_wp2
        go_roundw
        case rel => exact ⟨k + 1, acc, by omega, by go_num, by omega, hJr, Lib.hid (by rw [← HS.out, ← hd.out]; exact H1.out)⟩
        case measure => simp [intOf]; omega
      · have hd := Lib.hid (drop_cons hlt)
        obtain ⟨K, n', r, hn'⟩ : ∃ K n' r, nxt (s.toList.drop k) = (K, n', r) := ⟨_, _, _, rfl⟩
        have HN := Lib.hid hn'
        obtain ⟨tx, ht⟩ : ∃ tx : ByteArray, tx = ⟨((s.toList.drop k).take n').toArray⟩ := ⟨_, rfl⟩
        have HX := Lib.hid ht
        have HB := Lib.hid hb
        clear hn' ht hb
        by_cases hr : r = 0
        · have hr0 : (r == 0) = true := beq_iff_eq.2 hr
          subst hr
          obtain ⟨g1, g2, g3, g4, _⟩ := tok_step (T := (T, (sc (s.toList.drop k) k).2)) hlt HB.out HN.out HX.out H1.out rfl
          have g6 : tx.size ≤ n' := by omega
          have g7 : n' ≤ tx.size := by omega
          have G4 := Lib.hid g4
          clear g3 g4
          gi_wp2_with (refine ⟨trivial, ?_⟩; gi_at_call 38; refine (callsIn_wide.2 (next_at s k _ hs hlt HN.out HX.out)).mono ?_; rintro e w1 ⟨rfl, hbw⟩; obtain ⟨fn, tmps, assign, body, hy, hR⟩ := hY acc ⟨K, tx, (k : Int)⟩ _ (hJ _ _ _ hJr (hbw.alloc hbw.size (.cells #[.int .i64 K, .string tx, .int .i64 k] 30))) (by omega); dsimp only [encT] at hy)
          refine hR.mono ?_
          rintro e W2 (⟨rfl, hJ2⟩ | ⟨rfl, hJ2⟩)
          · gi_wp2
            go_roundw
            case rel => exact ⟨k + n', acc ++ [⟨K, tx, (k : Int)⟩], g2, int_eq (by omega), by simp; omega, hJ2, G4⟩
            case measure => simp [intOf]; omega
          · gi_wp2
            have g4 := G4.out
            clear H1 HT
            refine bodyPost_ret (v := .tuple #[.int .i64 0, .int .i64 0]) (by simp [results, Try.results24, go_sem]) rfl ?_
            exact ⟨⟨_, rfl⟩, .inr ⟨_, ⟨_, g4⟩, hJ2⟩⟩
        · have hr0 : (r == 0) = false := beq_eq_false_iff_ne.2 hr
          have hr1 : (r != 0) = true := bne_iff_ne.2 hr
          have hE : acc = T := by
            have := H1.out
            have hd' := hd.out
            rw [hd', sc_err HB.out (by rw [← hd', HN.out]; exact hr), List.append_nil] at this
            exact this
          gi_wp2_with (refine ⟨trivial, ?_⟩; gi_at_call 38; refine (callsIn_wide.2 (next_at s k _ hs hlt HN.out HX.out)).mono ?_; rintro e w1 ⟨rfl, hbw⟩)
          clear H1 HT
          subst hE
          refine bodyPost_ret (v := .tuple #[.int .i64 k, .int .i64 r]) (by simp [results, Try.results24, go_sem]) rfl ?_
          exact ⟨⟨_, rfl⟩, .inl (hJ _ _ _ hJr (hbw.alloc hbw.size _))⟩
    · gi_wp2
      have hke : s.toList.drop k = [] := List.drop_of_length_le (by rw [len_list]; omega)
      have e1 := H1.out
      rw [hke, sc_nil, List.append_nil] at e1
      clear H1 HT
      subst e1
      refine bodyPost_ret (v := .tuple #[.int .i64 0, .int .i64 0]) (by simp [results, Try.results24, go_sem]) rfl ?_
      exact ⟨⟨_, rfl⟩, .inl hJr⟩

set_option maxHeartbeats 800000 in
theorem scan_ylong (n : Nat) (s : ByteArray) (y : Value) (W : World) (hs : ¬ s.size ≤ 4000) :
    CallsIn Fence.wide n Try.prog 24 #[.string s, y] W fun e W' => (∃ v, e = .returned v) ∧ W' = W := by
  refine (callsIn_wide.2 (scan_long s y W hs)).mono ?_
  rintro e w' ⟨rfl, rfl⟩
  exact ⟨⟨_, rfl⟩, rfl⟩

/-- No depth is asked at the wide fence. -/
theorem yield_deep {m m' l : Nat} {args : Array Value} {W : World} {R : Ending → World → Prop} (h : YieldAt Fence.wide m Try.prog l args W R) : YieldAt Fence.wide m' Try.prog l args W R := by
  obtain ⟨fn, tmps, assign, body, hy, h1, h2⟩ := h
  exact ⟨fn, tmps, assign, body, hy, h1, fun c cs _ => h2 c cs (room_wide _)⟩

set_option maxRecDepth 100000 in
set_option maxHeartbeats 1600000 in
/-- The iterator that lexer.Tokens hands back. -/
theorem tokens_stops (n : Nat) (hn : 2 ≤ n) (Bn : Nat) (s : ByteArray) (w : World) (hBn : Bn < w.heap.size) (hc : w.cell? ⟨Bn, 0, none⟩ = some (.string s)) :
    SeqStopsK Fence.wide n Try.prog 26 #[.pointer (some ⟨Bn, 0, none⟩)] encT (fun _ _ => True) (fun ys => ys = toksOf s) (fun pre => pre <+: toksOf s) 4001 w := by
  intro l J Jx W hW hJ hJx hY h0
  have hcW : W.cell? ⟨Bn, 0, none⟩ = some (.string s) := (hW.cell (p := ⟨Bn, 0, none⟩) hBn).trans hc
  have hJ' : ∀ pre A B, J pre A → Below A.heap.size A B → J pre B := fun pre A B h hb => hJ pre A B none h ⟨hb.os, hb.tape, hb.output, hb.size, fun k hk _ => hb.block k hk⟩ (fun r e => by cases e)
  show CallsIn Fence.wide n Try.prog 26 #[.func (.yield l) #[] #[], .pointer (some ⟨Bn, 0, none⟩)] W _
  refine callsIn_of_wp Try.func26 rfl trivial ?_ rfl
  simp only [Try.ntmps26, List.size_toArray, List.length_cons, List.length_nil, Nat.reduceAdd, Nat.reduceSub, Array.replicate_succ, Array.replicate_zero, List.push_toArray, List.append_toArray, List.nil_append, List.cons_append]
  have hY2 : ∀ m pre x W1, J pre W1 → pre.length < 4001 → YieldAt Fence.wide m Try.prog l (encT x) W1 fun e W' => (e = .returned (.bool true) ∧ J (pre ++ [x]) W') ∨ (e = .returned (.bool false) ∧ Jx (pre ++ [x]) W') := by
    intro m pre x W1 h1 h2
    refine yield_deep (m := n - 1) ?_
    have := hY pre x W1 h1 h2
    simpa only [and_true] using this
  by_cases hs : s.size ≤ 4000
  · have hT : toksOf s = (sc s.toList 0).1 := if_neg (by omega)
    gi_wp2_with (refine ⟨trivial, fun _ => by omega, ?_⟩; gi_at_call 24; refine (scan_y (n - 1) l s hs _ hT.symm J Jx hJ' (hY2 _) (by omega) W h0).mono ?_; rintro e w' ⟨⟨v, rfl⟩, hh⟩)
    go_end0
    exact ⟨⟨_, rfl⟩, hh.imp (fun h => ⟨_, rfl, h⟩) id⟩
  · have hT : toksOf s = [] := if_pos (by omega)
    gi_wp2_with (refine ⟨trivial, fun _ => by omega, ?_⟩; gi_at_call 24; refine (scan_ylong (n - 1) s _ W hs).mono ?_; rintro e w' ⟨⟨v, rfl⟩, rfl⟩)
    go_end0
    exact ⟨⟨_, rfl⟩, .inl ⟨_, hT.symm, h0⟩⟩

set_option maxHeartbeats 400000 in
theorem tokens_any (s : ByteArray) (w : World) :
    Calls Try.prog 17 #[.string s] w fun e w' => e = .returned (.func (.func 26) #[] #[.pointer (some ⟨w.heap.size, 0, none⟩)]) ∧ w' = w.alloc (.cells #[.string s] 9) := by
  have hmf : ∀ (fn : Fn) (first cap : Array Value) (w : World), (Instr.makeFunc fn first cap).run Try.prog w = .ok (.func fn first cap) w := fun _ _ _ _ => rfl
  go_enter Try.func17, Try.ntmps17
  go_wp2
  go_ret
  exact ⟨rfl, rfl⟩
end Go.Proofs.Ytkomgnaleocleaa.PAll
