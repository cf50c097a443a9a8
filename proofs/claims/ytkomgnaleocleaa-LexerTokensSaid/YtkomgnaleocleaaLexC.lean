/- lexer.scan with the closure of lexer.Lex, and lexer.Lex: for every text: the tokens, or the first error and its offset. -/
import Derived.Test.YtkomgnaleocleaaLexB
namespace Go.Proofs.Ytkomgnaleocleaa.PAll
open Go.RowKit Go.Proofs.YtkomgnaleocleaaW.PrintWords Go.Proofs.YtkomgnaleocleaaW.PrintLast Go.Proofs.YtkomgnaleocleaaW.PrintMore

theorem Box.below {B b : Nat} {w0 w w' : World} {acc : List S30} {v : Value} (h : Box B b w0 w acc v) (hb : Below w.heap.size w w') : Box B b w0 w' acc v :=
  ⟨(hb.block b (blk_lt h.blk)).trans h.blk, Kd.R_below h.row hb, h.bel.trans (hb.mono (by have := blk_lt h.blk; have := h.ge; omega)), h.ge⟩

theorem nxt_err0 {s : ByteArray} {k : Nat} (_h : k < s.size) : (s.extract k s.size).toList = s.toList.drop k := by
  have e : s.data.size = s.size := rfl
  rw [ByteArray.toList_eq, ByteArray.toList_eq, ByteArray.data_extract, Array.toList_extract, List.extract_eq_take_drop, List.take_of_length_le]
  rw [List.length_drop, Array.length_toList, e]
  omega

theorem next_at (s : ByteArray) (k : Nat) (w : World) (hs : s.size ≤ 4000) (hk : k < s.size) {K : Int} {n : Nat} {r : Int} {tx : ByteArray} (hn : nxt (s.toList.drop k) = (K, n, r)) (ht : tx = ⟨((s.toList.drop k).take n).toArray⟩) :
    Calls Try.prog 38 #[.string (s.extract k s.size)] w fun e w' => e = .returned (.tuple #[.agg #[.int .i64 K, .string tx, .int .i64 0], .int .i64 r]) ∧ Below w.heap.size w w' := by
  refine (next_any (s.extract k s.size) w (by simp; omega) (by simp; omega)).mono ?_
  rintro e w' ⟨rfl, hb⟩
  refine ⟨?_, hb⟩
  rw [nxt_err0 hk, hn]
  have e1 : (s.extract k s.size).extract 0 n = tx := by
    rw [ht]
    apply ByteArray.ext
    apply Array.toList_inj.1
    have := take_ext (s.extract k s.size) n
    rw [ByteArray.toList_eq] at this
    rw [this, nxt_err0 hk]
  simp only [tokV, e1]

theorem drop_cons {s : ByteArray} {k : Nat} (h : k < s.size) : s.toList.drop k = s[k] :: s.toList.drop (k + 1) := by
  have hl : k < s.toList.length := by rw [len_list]; exact h
  rw [List.drop_eq_getElem_cons hl, get_list s k h]
theorem blank_ways (c : UInt8) : ((c.toNat : Int) = 9 ∧ blankB c = true) ∨ ((c.toNat : Int) = 10 ∧ blankB c = true) ∨ ((c.toNat : Int) = 13 ∧ blankB c = true) ∨ ((c.toNat : Int) = 32 ∧ blankB c = true) ∨
    (blankB c = false ∧ ((c.toNat : Int) == 9) = false ∧ ((c.toNat : Int) == 10) = false ∧ ((c.toNat : Int) == 13) = false ∧ ((c.toNat : Int) == 32) = false) := by
  have e : ∀ n : UInt8, (c == n) = ((c.toNat : Int) == (n.toNat : Int)) := fun n => by
    rw [Bool.eq_iff_iff, beq_iff_eq, beq_iff_eq, ← UInt8.toNat_inj]; omega
  unfold blankB
  rw [e 9, e 10, e 13, e 32]
  by_cases h1 : (c.toNat : Int) = 9
  · exact .inl ⟨h1, by rw [h1]; rfl⟩
  by_cases h2 : (c.toNat : Int) = 10
  · exact .inr (.inl ⟨h2, by rw [h2]; rfl⟩)
  by_cases h3 : (c.toNat : Int) = 13
  · exact .inr (.inr (.inl ⟨h3, by rw [h3]; rfl⟩))
  by_cases h4 : (c.toNat : Int) = 32
  · exact .inr (.inr (.inr (.inl ⟨h4, by rw [h4]; rfl⟩)))
  have f1 := beq_eq_false_iff_ne.2 h1
  have f2 := beq_eq_false_iff_ne.2 h2
  have f3 := beq_eq_false_iff_ne.2 h3
  have f4 := beq_eq_false_iff_ne.2 h4
  exact .inr (.inr (.inr (.inr ⟨by rw [show ((9 : UInt8).toNat : Int) = 9 from rfl, show ((10 : UInt8).toNat : Int) = 10 from rfl, show ((13 : UInt8).toNat : Int) = 13 from rfl, show ((32 : UInt8).toNat : Int) = 32 from rfl, f1, f2, f3, f4]; rfl, f1, f2, f3, f4⟩)))

theorem int_eq {a b : Int} (h : a = b) : Value.int .i64 a = .int .i64 b := by rw [h]
theorem end_err {s : ByteArray} {k : Nat} {acc : List S30} {T : List S30 × Int × Int} {K : Int} {n : Nat} {r : Int} (hlt : k < s.size) (hb : blankB s[k] = false) (hn : nxt (s.toList.drop k) = (K, n, r)) (hr : ¬ r = 0)
    (h1 : acc ++ (sc (s.toList.drop k) k).1 = T.1) (h2 : (sc (s.toList.drop k) k).2 = T.2) : T = (acc, (k : Int), r) := by
  rw [drop_cons hlt] at hn h1 h2
  rw [sc_err hb (by rw [hn]; exact hr)] at h1 h2
  rw [hn] at h2
  obtain ⟨T1, T2⟩ := T
  simp only [List.append_nil] at h1 h2
  rw [← h1, ← h2]
theorem tok_step {s : ByteArray} {k : Nat} {acc : List S30} {T : List S30 × Int × Int} {K : Int} {n : Nat} {tx : ByteArray} (hlt : k < s.size) (hb : blankB s[k] = false) (hn : nxt (s.toList.drop k) = (K, n, 0))
    (ht : tx = ⟨((s.toList.drop k).take n).toArray⟩) (h1 : acc ++ (sc (s.toList.drop k) k).1 = T.1) (h2 : (sc (s.toList.drop k) k).2 = T.2) :
    1 ≤ n ∧ k + n ≤ s.size ∧ tx.size = n ∧ (acc ++ [(⟨K, tx, (k : Int)⟩ : S30)]) ++ (sc (s.toList.drop (k + n)) (k + n)).1 = T.1 ∧ (sc (s.toList.drop (k + n)) (k + n)).2 = T.2 := by
  have hz := len_list s
  have hp := nxt_pos (l := s.toList.drop k) (by rw [hn]) (by rw [drop_cons hlt]; simp)
  rw [hn, List.length_drop, hz] at hp
  have hs : tx.size = n := by
    have e : tx.size = ((s.toList.drop k).take n).length := by rw [ht]; simp [ByteArray.size]
    rw [e, List.length_take, List.length_drop, hz]
    simp only at hp
    omega
  have e : sc (s.toList.drop k) k = (⟨K, tx, (k : Int)⟩ :: (sc (s.toList.drop (k + n)) (k + n)).1, (sc (s.toList.drop (k + n)) (k + n)).2) := by
    have hn' := hn
    rw [drop_cons hlt] at hn' ⊢
    rw [sc_tok hb (by rw [hn'])]
    rw [hn', ← drop_cons hlt, List.drop_drop, ← ht]
  rw [e] at h1 h2
  exact ⟨hp.1, by simp only at hp; omega, hs, by rw [← h1]; simp, h2⟩

set_option maxRecDepth 100000 in
set_option maxHeartbeats 1600000 in
theorem scan_any (B b : Nat) (w0 w : World) (v0 : Value) (s : ByteArray) (T : List S30 × Int × Int) (hs : s.size ≤ 4000) (hT : sc s.toList 0 = T) (hB : Box B b w0 w [] v0) :
    Calls Try.prog 24 #[.string s, .func (.func 25) #[] #[.pointer (some ⟨b, 0, none⟩)]] w fun e w' => e = .returned (.tuple #[.int .i64 T.2.1, .int .i64 T.2.2]) ∧ ∃ v, Box B b w0 w' T.1 v := by
  have HT := Lib.hid hT
  clear hT
  have hu30 := Try.underlying30
  go_enter Try.func24, Try.ntmps24
  go_wp2_with fail
  go_loopw [6] (fun v wr => ∃ (k : Nat) (acc : List S30) (vb : Value), k ≤ s.size ∧ v = .int .i64 k ∧ acc.length ≤ k ∧ Box B b w0 wr acc vb ∧ Hid (acc ++ (sc (s.toList.drop k) k).1 = T.1) ∧ Hid ((sc (s.toList.drop k) k).2 = T.2)) (fun v _ => s.size - (intOf v).toNat)
  case atStart => exact ⟨0, [], v0, by omega, rfl, by simp, hB, Lib.hid (by rw [List.drop_zero, HT.out]; rfl), Lib.hid (by rw [List.drop_zero, HT.out])⟩
  case round =>
    obtain ⟨k, acc, vb, hk, rfl, hl, hBr, H1, H2⟩ := hrel
    by_cases hlt : k < s.size
    · rcases blank_ways s[k] with h | h | h | h | ⟨hb, h1, h2, h3, h4⟩
      · obtain ⟨hc, hb⟩ := h
        have HS := Lib.hid (sc_blank (cs := s.toList.drop (k + 1)) (a := k) hb)
        clear hb
        have hd := Lib.hid (drop_cons hlt)
        go_wp2_with fail
        go_roundw
        case rel => exact ⟨k + 1, acc, vb, by omega, by go_num, by omega, hBr, Lib.hid (by rw [← HS.out, ← hd.out]; exact H1.out), Lib.hid (by rw [← HS.out, ← hd.out]; exact H2.out)⟩
        case measure => simp [intOf]; omega
      · obtain ⟨hc, hb⟩ := h
        have HS := Lib.hid (sc_blank (cs := s.toList.drop (k + 1)) (a := k) hb)
        clear hb
        have hd := Lib.hid (drop_cons hlt)
        go_wp2_with fail
        go_roundw
        case rel => exact ⟨k + 1, acc, vb, by omega, by go_num, by omega, hBr, Lib.hid (by rw [← HS.out, ← hd.out]; exact H1.out), Lib.hid (by rw [← HS.out, ← hd.out]; exact H2.out)⟩
        case measure => simp [intOf]; omega
      · obtain ⟨hc, hb⟩ := h
        have HS := Lib.hid (sc_blank (cs := s.toList.drop (k + 1)) (a := k) hb)
        clear hb
        have hd := Lib.hid (drop_cons hlt)
        go_wp2_with fail
        go_roundw
        case rel => exact ⟨k + 1, acc, vb, by omega, by go_num, by omega, hBr, Lib.hid (by rw [← HS.out, ← hd.out]; exact H1.out), Lib.hid (by rw [← HS.out, ← hd.out]; exact H2.out)⟩
        case measure => simp [intOf]; omega
      · obtain ⟨hc, hb⟩ := h
        have HS := Lib.hid (sc_blank (cs := s.toList.drop (k + 1)) (a := k) hb)
        clear hb
        have hd := Lib.hid (drop_cons hlt)
        go_wp2_with fail
        go_roundw
        case rel => exact ⟨k + 1, acc, vb, by omega, by go_num, by omega, hBr, Lib.hid (by rw [← HS.out, ← hd.out]; exact H1.out), Lib.hid (by rw [← HS.out, ← hd.out]; exact H2.out)⟩
        case measure => simp [intOf]; omega
      · have hd := Lib.hid (drop_cons hlt)
        obtain ⟨K, n, r, hn⟩ : ∃ K n r, nxt (s.toList.drop k) = (K, n, r) := ⟨_, _, _, rfl⟩
        have HN := Lib.hid hn
        obtain ⟨tx, ht⟩ : ∃ tx : ByteArray, tx = ⟨((s.toList.drop k).take n).toArray⟩ := ⟨_, rfl⟩
        have HX := Lib.hid ht
        have HB := Lib.hid hb
        clear hn ht hb
        by_cases hr : r = 0
        · have hr0 : (r == 0) = true := beq_iff_eq.2 hr
          subst hr
          obtain ⟨g1, g2, g3, g4, g5⟩ := tok_step hlt HB.out HN.out HX.out H1.out H2.out
          have g6 : tx.size ≤ n := by omega
          have g7 : n ≤ tx.size := by omega
          have G4 := Lib.hid g4
          have G5 := Lib.hid g5
          clear g3 g4 g5
          go_wp2_with (go_at_call 38; refine (next_at s k _ hs hlt HN.out HX.out).mono ?_; rintro e w1 ⟨rfl, hbw⟩)
          refine (yield_any B b w0 _ acc vb ⟨K, tx, (k : Int)⟩ (hBr.below (hbw.alloc hbw.size _)) (by omega)).mono ?_
          rintro e w2 ⟨rfl, v2, hB2, _⟩
          go_wp2_with fail
          go_roundw
          case rel => exact ⟨k + n, acc ++ [⟨K, tx, (k : Int)⟩], v2, g2, int_eq (by omega), by simp; omega, hB2, G4, G5⟩
          case measure => simp [intOf]; omega
        · have hr0 : (r == 0) = false := beq_eq_false_iff_ne.2 hr
          have hr1 : (r != 0) = true := bne_iff_ne.2 hr
          have HR := Lib.hid hr
          go_wp2_with (go_at_call 38; refine (next_at s k _ hs hlt HN.out HX.out).mono ?_; rintro e w' ⟨rfl, hbw⟩)
          go_ret2
          have hE := end_err hlt HB.out HN.out HR.out H1.out H2.out
          clear H1 H2 HT
          subst hE
          exact ⟨rfl, vb, hBr.below (hbw.alloc hbw.size _)⟩
    · go_wp2_with fail
      go_ret2
      have hke : s.toList.drop k = [] := List.drop_of_length_le (by rw [len_list]; omega)
      have e1 := H1.out
      have e2 := H2.out
      rw [hke, sc_nil] at e1 e2
      have hE : T = (acc, 0, 0) := by
        obtain ⟨T1, T2⟩ := T
        simp only [List.append_nil] at e1 e2
        rw [← e1, ← e2]
      clear H1 H2 HT e1 e2
      subst hE
      exact ⟨rfl, vb, hBr⟩

theorem box_new (w : World) : Box w.heap.size w.heap.size w (w.alloc (.cells #[.slice none 0 0] 23)) [] (.slice none 0 0) :=
  ⟨heap_alloc_new w _, Kd.R_nil _ _ _ _ _, (Below.refl _ w).alloc (Nat.le_refl _) _, Nat.le_refl _⟩

set_option maxHeartbeats 400000 in
theorem scan_long (s : ByteArray) (y : Value) (w : World) (hs : ¬ s.size ≤ 4000) :
    Calls Try.prog 24 #[.string s, y] w fun e w' => e = .returned (.tuple #[.int .i64 4000, .int .i64 8]) ∧ w = w' := by
  have h1 : (4000 : Int) < (s.size : Int) := by omega
  go_enter Try.func24, Try.ntmps24
  go_wp2_with fail
  go_ret2
  exact ⟨rfl, rfl⟩

set_option maxRecDepth 100000 in
set_option maxHeartbeats 1600000 in
theorem lex_any (s : ByteArray) (w : World) :
    Calls Try.prog 13 #[.string s] w fun e w' => ∃ v, e = .returned (.tuple #[v, .int .i64 (lexOf s).2.1, .int .i64 (lexOf s).2.2]) ∧ Kd.R k30 30 w' w.heap.size (fun _ => True) v (lexOf s).1 ∧ Below w.heap.size w w' := by
  have hmf : ∀ (fn : Fn) (first cap : Array Value) (w : World), (Instr.makeFunc fn first cap).run Try.prog w = .ok (.func fn first cap) w := fun _ _ _ _ => rfl
  by_cases hs : s.size ≤ 4000
  · obtain ⟨ts, a, r, hT⟩ : ∃ ts a r, sc s.toList 0 = (ts, a, r) := ⟨_, _, _, rfl⟩
    have HT := Lib.hid hT
    clear hT
    by_cases hr : r = 0
    · have hE : lexOf s = (ts, 0, 0) := by
        unfold lexOf
        rw [if_neg (by omega), HT.out]
        exact if_pos hr
      rw [hE]
      subst hr
      clear hE
      go_enter Try.func13, Try.ntmps13
      go_wp2_with (go_at_call 24; refine (scan_any _ _ _ _ _ s (ts, a, 0) hs HT.out (box_new w)).mono ?_; rintro e w1 ⟨rfl, v1, hB⟩; have hc := blk_cell hB.blk 0)
      obtain ⟨A, c, rfl⟩ : ∃ A c, v1 = .slice A ts.length c := by
        obtain ⟨A, c, h, _⟩ := Kd.R_reads hB.row
        exact ⟨A, c, h⟩
      go_ret3
      exact ⟨_, rfl, Kd.R_mono hB.row (fun _ _ => trivial), hB.bel⟩
    · have hE : lexOf s = ([], a, r) := by
        unfold lexOf
        rw [if_neg (by omega), HT.out]
        exact if_neg hr
      rw [hE]
      clear hE
      go_enter Try.func13, Try.ntmps13
      go_wp2_with (go_at_call 24; refine (scan_any _ _ _ _ _ s (ts, a, r) hs HT.out (box_new w)).mono ?_; rintro e w1 ⟨rfl, v1, hB⟩; have hc := blk_cell hB.blk 0)
      go_ret3
      exact ⟨_, rfl, Kd.R_nil _ _ _ _ _, hB.bel⟩
  · have hE : lexOf s = ([], 4000, 8) := by
      unfold lexOf
      rw [if_pos (by omega)]
    rw [hE]
    clear hE
    go_enter Try.func13, Try.ntmps13
    go_wp2_with (go_at_call 24; refine (scan_long s _ _ hs).mono ?_; rintro e w1 ⟨rfl, rfl⟩)
    go_ret3
    exact ⟨_, rfl, Kd.R_nil _ _ _ _ _, (Below.refl _ w).alloc (Nat.le_refl _) _⟩
end Go.Proofs.Ytkomgnaleocleaa.PAll
