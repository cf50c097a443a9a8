/- lexer.Join: a text with these tokens, or ErrForm: what it computes, for every list of at most a million tokens. -/
import Derived.Test.YtkomgnaleocleaaLex
import Derived.Test.YtkomgnaleocleaaShelfC
namespace Go.Proofs.Ytkomgnaleocleaa.PAll
set_option linter.unusedVariables false
set_option linter.unusedSimpArgs false
open Go.RowKit Go.Proofs.YtkomgnaleocleaaW.PrintWords Go.Proofs.YtkomgnaleocleaaW.PrintLast Go.Proofs.YtkomgnaleocleaaW.PrintMore

def okTok (t : S30) : Prop := (lexOf t.f1).2.2 = 0 ∧ (lexOf t.f1).1.length = 1 ∧ (rd_T30 (lexOf t.f1).1 0).f0 = t.f0 ∧ (rd_T30 (lexOf t.f1).1 0).f1 = t.f1
instance (t : S30) : Decidable (okTok t) := by unfold okTok; infer_instance
def joinFrom : Nat → List UInt8 → List S30 → Option (List UInt8)
  | _, acc, [] => some acc
  | i, acc, t :: r => if okTok t then joinFrom (i + 1) ((if 0 < i then acc ++ [32] else acc) ++ t.f1.toList) r else none
def joinOf (l : List S30) : ByteArray × Int := match joinFrom 0 [] l with
  | none => (⟨#[]⟩, 9)
  | some b => if 4000 < b.length then (⟨#[]⟩, 9) else (⟨b.toArray⟩, 0)

theorem okTok_size {t : S30} (h : okTok t) : t.f1.size ≤ 4000 := by
  rcases Nat.lt_or_ge 4000 t.f1.size with h' | h'
  · have e : lexOf t.f1 = ([], 4000, 8) := by unfold lexOf; rw [if_pos h']
    have := h.1
    rw [e] at this
    exact absurd this (by decide)
  · exact h'

theorem bld_below {T e B b : Nat} {bs : List Value} {w w' : World} (h : Lib.IsBuilderF T e B b bs w) (hb : Below w.heap.size w w') : Lib.IsBuilderF T e B b bs w' := by
  have key : ∀ p, Lib.BuilderAtF T e B b p bs w → Lib.BuilderAtF T e B b p bs w' := by
    rintro p ⟨h1, v, h2, h3, h4⟩
    have hlt : b < w.heap.size := blk_lt h2
    refine ⟨h1, v, (hb.block b hlt).trans h2, ⟨h3.1, h3.2.imp id ?_⟩, h4⟩
    rintro ⟨g, cap, cur, fz, e1, e2, e3, e4⟩
    exact ⟨g, cap, cur, fz, e1, e2, (hb.block g (blk_lt e3)).trans e3, e4⟩
  rcases h with h | h
  · exact .inl (key _ h)
  · exact .inr (key _ h)

theorem bld_new (w : World) : Lib.IsBuilderF 55 5 w.heap.size w.heap.size [] (w.alloc (.cells #[.pointer none, .slice none 0 0] 55)) := (Lib.fresh_isBuilder 55 5 w).imp Lib.BuilderAtF.of Lib.BuilderAtF.of

theorem byteCells_len (l : List UInt8) : (Lib.byteCells l).length = l.length := Lib.byteCells_length l
theorem snoc_space {w : World} {B b : Nat} {acc : List UInt8} (h : Lib.IsBuilderF 55 5 B b (Lib.byteCells acc ++ [.int .u8 32]) w) : Lib.IsBuilderF 55 5 B b (Lib.byteCells (acc ++ [32])) w := by
  rw [Lib.byteCells_append]; exact h
theorem snoc_text {w : World} {B b : Nat} {acc : List UInt8} {s : ByteArray} (h : Lib.IsBuilderF 55 5 B b (Lib.byteCells acc ++ Lib.strCells s) w) : Lib.IsBuilderF 55 5 B b (Lib.byteCells (acc ++ s.toList)) w := by
  rw [Lib.byteCells_append, ByteArray.toList_eq]; exact h

theorem str_ne {a b : ByteArray} (h : ¬ a = b) : (a.toList == b.toList) = false := by
  refine beq_eq_false_iff_ne.2 fun e => h ?_
  rw [ByteArray.toList_eq, ByteArray.toList_eq] at e
  exact ByteArray.ext (Array.toList_inj.1 e)

theorem lex_is {s : ByteArray} {ts : List S30} {a r : Int} (w : World) (h : lexOf s = (ts, a, r)) :
    Calls Try.prog 13 #[.string s] w fun e w' => ∃ A c, e = .returned (.tuple #[.slice A ts.length c, .int .i64 a, .int .i64 r]) ∧ ts.length ≤ c ∧ Kd.C k30 w' A ts.length ts ∧ Below w.heap.size w w' := by
  refine (lex_any s w).mono ?_
  rintro e w' ⟨v, rfl, hR, hB⟩
  obtain ⟨A, c, rfl, h1, h2⟩ := Kd.R_reads hR
  rw [h] at h1 h2 ⊢
  exact ⟨A, c, rfl, h1, h2, hB⟩

set_option maxRecDepth 100000 in
set_option maxHeartbeats 1600000 in
theorem join_any (A0 : Option Addr) (c0 : Nat) (l0 : List S30) (w : World) (hr0 : Kd.C k30 w A0 l0.length l0) (hc0 : l0.length ≤ c0) (hl : l0.length ≤ 1000000) :
    Calls Try.prog 22 #[.slice A0 l0.length c0] w fun e w' => e = .returned (.tuple #[.string (joinOf l0).1, .int .i64 (joinOf l0).2]) ∧ Below w.heap.size w w' := by
  obtain ⟨R, hR⟩ : ∃ R, joinFrom 0 [] l0 = R := ⟨_, rfl⟩
  have HR := Lib.hid hR
  clear hR
  go_enter Try.func22, Try.ntmps22
  go_wp2_with fail
  go_loopw [12] (fun v wr => ∃ (k : Nat) (acc : List UInt8), k ≤ l0.length ∧ v = .int .i64 k ∧ acc.length ≤ 4001 * k ∧ Lib.IsBuilderF 55 5 w.heap.size w.heap.size (Lib.byteCells acc) wr ∧ Below w.heap.size w wr ∧ Hid (joinFrom k acc (l0.drop k) = R)) (fun v _ => l0.length - (intOf v).toNat)
  case atStart => exact ⟨0, [], by omega, rfl, by simp, bld_new w, (Below.refl _ w).alloc (Nat.le_refl _) _, HR⟩
  case round =>
    obtain ⟨k, acc, hk, rfl, ha, hI, hB, H⟩ := hrel
    by_cases hlt : k < l0.length
    · have hC := Kd.C_below hr0 hB
      obtain ⟨ad, rfl, q0, q1, q2⟩ := at_T30 hC (k : Int) (by omega) (by omega)
      obtain ⟨t, ht⟩ : ∃ t, rd_T30 l0 (k : Int) = t := ⟨_, rfl⟩
      rw [ht] at q0 q1 q2
      simp only [Int.toNat_natCast] at q0 q1 q2
      obtain ⟨ts, a, r, hq⟩ : ∃ ts a r, lexOf t.f1 = (ts, a, r) := ⟨_, _, _, rfl⟩
      have HQ := Lib.hid hq
      go_upto_region 6 with (go_at_call 13; refine (lex_is _ HQ.out).mono ?_; rintro e w1 ⟨A1, c1, rfl, hc1, hC1, hB1⟩)
      have hb0 := blk_below (blk_new wr (.cells #[.int .i64 t.f0, .string t.f1, .int .i64 t.f2] 30)) hB1
      have d0 : w1.cell? ⟨wr.heap.size, 0, none⟩ = some (.int .i64 t.f0) := by rw [blk_cell hb0]; rfl
      have d1 : w1.cell? ⟨wr.heap.size, 1, none⟩ = some (.string t.f1) := by rw [blk_cell hb0]; rfl
      have hle := hB.size
      have hB2 : Below w.heap.size w w1 := (hB.alloc hle _).trans (hB1.mono (by simp; omega))
      have hI2 : Lib.IsBuilderF 55 5 w.heap.size w.heap.size (Lib.byteCells acc) w1 := bld_below (bld_below hI ((Below.refl _ wr).alloc (Nat.le_refl _) _)) hB1
      have hlt2 : w.heap.size < wr.heap.size := by
        rcases hI with ⟨_, _, h, _⟩ | ⟨_, _, h, _⟩
        · exact blk_lt h
        · exact blk_lt h
      clear hB1 q0 q1 q2
      have hJ : joinFrom k acc (l0.drop k) = if okTok t then joinFrom (k + 1) ((if 0 < k then acc ++ [32] else acc) ++ t.f1.toList) (l0.drop (k + 1)) else none := by
        rw [List.drop_eq_getElem_cons hlt]
        have e : l0[k] = t := by rw [← ht]; simp [rd_T30, hlt]
        rw [joinFrom, e]
      rw [hJ] at H
      clear hJ
      have HN : ∀ (_ : ¬ okTok t), joinOf l0 = (⟨#[]⟩, 9) := fun hn => by
        have h' := H.out
        rw [if_neg hn] at h'
        unfold joinOf
        rw [HR.out, ← h']
      by_cases hr : r = 0
      · subst hr
        by_cases h1 : ts.length = 1
        · obtain ⟨ad1, rfl, p0, p1, p2⟩ := at_T30 hC1 0 (by omega) (by omega)
          have e0 : ad1.add ((0 : Int).toNat * 3) = ad1 := by simp [Addr.add]
          rw [e0] at p0 p1 p2
          have h1a : ((ts.length : Int) != 1) = false := bne_eq_false_iff_eq.2 (by omega)
          by_cases h2 : (rd_T30 ts 0).f0 = t.f0
          · by_cases h3 : (rd_T30 ts 0).f1 = t.f1
            · have h3' : ((rd_T30 ts 0).f1.toList == t.f1.toList) = true := by rw [h3]; exact beq_self_eq_true _
              have ht : okTok t := by unfold okTok; rw [HQ.out]; exact ⟨rfl, h1, h2, h3⟩
              have hz := okTok_size ht
              have HK := H.out
              rw [if_pos ht] at HK
              have H := Lib.hid HK
              clear HK HN
              by_cases hk0 : 0 < k
              · rw [if_pos hk0] at H
                go_quiet (fail)
                have hI3 : Lib.IsBuilderF 55 5 w.heap.size w.heap.size (Lib.byteCells acc) (w1.drewN nq) := hI2
                have hb1 : (w1.drewN nq).heap[wr.heap.size]? = some (.cells #[.int .i64 t.f0, .string t.f1, .int .i64 t.f2] 30 (0, 0)) := hb0
                have hB3 := pw_below_drewN hB2 nq
                have g1 := byteCells_len acc
                have hk1 : (0 : Int) < (k : Int) := by omega
                go_wp2_with (go_at_call 33; refine (Try.Builder_WriteByte w.heap.size w.heap.size _ 32 _ hI3 (by omega) hB3.size).mono ?_; rintro e w2 ⟨rfl, hI4, hB4, hO4⟩; have hb2 := hO4 _ _ hb1 (by intro e; have := Option.some.inj e; omega) (fun c fz e => by cases e); have d2 := (blk_cell hb2 1).trans rfl)
                have hI5 := snoc_space (Or.inr hI4)
                have hB5 := hB3.trans hB4
                have g2 := byteCells_len (acc ++ [32])
                have g3 : (acc ++ [32]).length = acc.length + 1 := by simp
                go_wp2_with (go_at_call 34; refine (Try.Builder_WriteString w.heap.size w.heap.size _ t.f1 _ hI5 (by omega) hB5.size).mono ?_; rintro e w3 ⟨rfl, hI6, hB6, hO6⟩)
                go_roundw
                case rel =>
                  refine ⟨k + 1, _, by omega, by go_num, ?_, snoc_text (Or.inr hI6), hB5.trans hB6, H⟩
                  have := len_list t.f1
                  simp only [List.length_append, g3, this]
                  omega
                case measure => simp [intOf]; omega
              · rw [if_neg hk0] at H
                go_quiet (fail)
                have hI3 : Lib.IsBuilderF 55 5 w.heap.size w.heap.size (Lib.byteCells acc) (w1.drewN nq) := hI2
                have hB3 := pw_below_drewN hB2 nq
                have g1 := byteCells_len acc
                obtain rfl : k = 0 := by omega
                go_wp2_with (go_at_call 34; refine (Try.Builder_WriteString w.heap.size w.heap.size _ t.f1 _ hI3 (by omega) hB3.size).mono ?_; rintro e w3 ⟨rfl, hI6, hB6, hO6⟩)
                go_roundw
                case rel =>
                  refine ⟨0 + 1, _, by omega, by go_num, ?_, snoc_text (Or.inr hI6), hB3.trans hB6, H⟩
                  have := len_list t.f1
                  simp only [List.length_append, this]
                  omega
                case measure => simp [intOf]; omega
            · have h3' : ((rd_T30 ts 0).f1.toList == t.f1.toList) = false := str_ne h3
              go_quiet (fail)
              go_wp2_with fail
              have hE := HN (fun h => h3 (by have := h.2.2.2; rwa [HQ.out] at this))
              go_ret2
              rw [hE]
              exact ⟨rfl, pw_below_drewN hB2 _⟩
          · have h2' : ((rd_T30 ts 0).f0 != t.f0) = true := bne_iff_ne.2 h2
            go_quiet (fail)
            go_wp2_with fail
            have hE := HN (fun h => h2 (by have := h.2.2.1; rwa [HQ.out] at this))
            go_ret2
            rw [hE]
            exact ⟨rfl, pw_below_drewN hB2 _⟩
        · have h1' : ((ts.length : Int) != 1) = true := bne_iff_ne.2 (by omega)
          go_quiet (fail)
          go_wp2_with fail
          have hE := HN (fun h => h1 (by have := h.2.1; rwa [HQ.out] at this))
          go_ret2
          rw [hE]
          exact ⟨rfl, pw_below_drewN hB2 _⟩
      · have hr' : (r != 0) = true := bne_iff_ne.2 hr
        go_quiet (fail)
        go_wp2_with fail
        have hE := HN (fun h => hr (by have := h.1; rwa [HQ.out] at this))
        go_ret2
        rw [hE]
        exact ⟨rfl, pw_below_drewN hB2 _⟩
    · obtain rfl : k = l0.length := by omega
      have hE : joinOf l0 = if 4000 < acc.length then (⟨#[]⟩, 9) else (⟨acc.toArray⟩, 0) := by
        have h' := H.out
        rw [List.drop_length, joinFrom] at h'
        unfold joinOf
        rw [HR.out, ← h']
      clear H HR
      have g1 := byteCells_len acc
      by_cases h4 : 4000 < acc.length
      · rw [if_pos h4] at hE
        have h5 : (4000 : Int) < ((Lib.byteCells acc).length : Int) := by omega
        go_wp2_with (go_at_call 35; refine (Try.Builder_LenF _ _ _ _ hI).mono ?_; rintro e w2 ⟨rfl, rfl⟩)
        go_ret2
        rw [hE]
        exact ⟨rfl, hB⟩
      · rw [if_neg h4] at hE
        have h5 : ¬ (4000 : Int) < ((Lib.byteCells acc).length : Int) := by omega
        go_wp2_with (first | (go_at_call 35; refine (Try.Builder_LenF _ _ _ _ hI).mono ?_; rintro e w2 ⟨rfl, rfl⟩) | (go_at_call 36; refine (Try.Builder_StringF _ _ _ _ hI hB.size).mono ?_; rintro e w2 ⟨rfl, _, hB2⟩))
        go_ret2
        rw [hE]
        exact ⟨rfl, hB.trans hB2⟩

def lexer_Join.f (l0 : List S30) : Option (ByteArray × Int) := if l0.length ≤ 1000000 then some (joinOf l0) else none
theorem lexer_Join.calls (A0 : Option Addr) (c0 : Nat) (l0 : List S30) (r1 : ByteArray) (r2 : Int) (w : World) (hr0 : Kd.C k30 w A0 l0.length l0) (hc0 : l0.length ≤ c0) (h : lexer_Join.f l0 = some (r1, r2)) :
    Calls Try.prog 22 #[.slice A0 l0.length c0] w fun e w' => e = .returned (.tuple #[.string r1, .int .i64 r2]) ∧ Below w.heap.size w w' := by
  unfold lexer_Join.f at h
  by_cases hl : l0.length ≤ 1000000
  · rw [if_pos hl] at h
    have h' := Option.some.inj h
    have e1 : (joinOf l0).1 = r1 := by rw [h']
    have e2 : (joinOf l0).2 = r2 := by rw [h']
    rw [← e1, ← e2]
    exact join_any A0 c0 l0 w hr0 hc0 hl
  · rw [if_neg hl] at h
    exact absurd h (by simp)
end Go.Proofs.Ytkomgnaleocleaa.PAll
