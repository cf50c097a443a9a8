/- The visitor of formula.free: it collects the names that are not bound. -/
import Derived.Deep.RegionLaw
import Derived.Test.YtddpojinlapmfaaBoxA
import Derived.Test.YtddpojinlapmfaaPureA
namespace Go.Proofs.Ytddpojinlapmfaa.PRef
set_option linter.unusedVariables false
set_option linter.unusedSimpArgs false
open Go.RowKit Go.Shelf Go.Proofs.YtddpojinlapmfaaW.PrintWords Go.Proofs.YtddpojinlapmfaaW.PrintLast Go.Proofs.YtddpojinlapmfaaW.PrintMore
attribute [local go_sem] taH82 taM82 taN82

def addName (bound out : List ByteArray) : Tm → List ByteArray
  | .name s => if hasB bound s = true ∨ hasB out s = true then out else out ++ [s]
  | _ => out
/-- A name, or what is none. -/
theorem IsTm.nameOr {w : World} {t : Tm} {v : Value} (h : IsTm w t v) :
    (∃ s, t = .name s ∧ v = .iface 82 (.agg #[.string s])) ∨ ((∀ bound out, addName bound out t = out) ∧ (v = .nilIface ∨ ∃ (a : Nat) (y : Value), a ≠ 82 ∧ v = .iface a y)) := by
  cases t with
  | num n xs => obtain ⟨_, _, rfl, _⟩ := h; exact .inr ⟨fun _ _ => rfl, .inr ⟨_, _, by decide, rfl⟩⟩
  | name s => cases h; exact .inl ⟨_, rfl, rfl⟩
  | add a b => obtain ⟨_, _, rfl, _⟩ := h; exact .inr ⟨fun _ _ => rfl, .inr ⟨_, _, by decide, rfl⟩⟩
  | sub a b => obtain ⟨_, _, rfl, _⟩ := h; exact .inr ⟨fun _ _ => rfl, .inr ⟨_, _, by decide, rfl⟩⟩
  | mul a b => obtain ⟨_, _, rfl, _⟩ := h; exact .inr ⟨fun _ _ => rfl, .inr ⟨_, _, by decide, rfl⟩⟩
  | neg a => obtain ⟨_, rfl, _⟩ := h; exact .inr ⟨fun _ _ => rfl, .inr ⟨_, _, by decide, rfl⟩⟩
  | pow a e => obtain ⟨_, rfl, _⟩ := h; exact .inr ⟨fun _ _ => rfl, .inr ⟨_, _, by decide, rfl⟩⟩
  | odd u =>
    obtain ⟨rfl, rfl | ⟨p, rfl⟩⟩ := h
    · exact .inr ⟨fun _ _ => rfl, .inl rfl⟩
    · exact .inr ⟨fun _ _ => rfl, .inr ⟨_, _, by decide, rfl⟩⟩

theorem KeepsP.drewN {P : Nat → Prop} {b : Nat} (W : World) (n : Nat) : KeepsP P b W (W.drewN n) := KeepsP.of_below (pw_below_drewN (Below.refl _ _) n)
theorem BoxS.drewN {P : Nat → Prop} {B b : Nat} {w0 w : World} {acc : List ByteArray} {v : Value} (h : BoxS P B b w0 w acc v) (n : Nat) : BoxS P B b w0 (w.drewN n) acc v := h.below (pw_below_drewN (Below.refl _ _) n)

set_option maxRecDepth 100000 in
set_option maxHeartbeats 4000000 in
theorem freeV_any (P : Nat → Prop) (B b bb ob : Nat) (w0 w1 W : World) (bs acc : List ByteArray) (A : Option Addr) (c : Nat) (vo v : Value) (t : Tm) (hB : BoxS P B b w0 W acc vo) (hne : bb ≠ b)
    (hb : W.heap[bb]? = some (.cells #[.slice A bs.length c] 48 (0, 0))) (ho : W.heap[ob]? = some (.cells #[.pointer (some ⟨b, 0, none⟩)] 119 (0, 0))) (hC : Kd.C Kd.string W A bs.length bs) (hc : bs.length ≤ c)
    (hP : ∀ k, W.heap.size ≤ k → P k) (ht : IsTm w1 t v) (hl : acc.length ≤ 1000000000000) (hlb : bs.length ≤ 1000000000000) :
    Calls Try.prog 86 (#[v] ++ #[.pointer (some ⟨bb, 0, none⟩), .pointer (some ⟨ob, 0, none⟩)]) W fun e W' => e = .returned (.tuple #[]) ∧ ∃ vo', BoxS P B b w0 W' (addName bs acc t) vo' ∧ KeepsP P b W W' := by
  show Calls Try.prog 86 #[v, .pointer (some ⟨bb, 0, none⟩), .pointer (some ⟨ob, 0, none⟩)] W _
  obtain ⟨Ao, co, rfl, hco, hCo⟩ := Kd.R_reads hB.row
  have hu82 := Try.underlying82
  rcases ht.nameOr with ⟨s, rfl, rfl⟩ | ⟨hA, rfl | ⟨a, y, ha, rfl⟩⟩
  · have hW := (Below.refl W.heap.size W).alloc (Nat.le_refl _) (.cells #[.string s] 82)
    have hb1 := blk_alloc hb (.cells #[.string s] 82)
    have ho1 := blk_alloc ho (.cells #[.string s] 82)
    have hk1 := blk_alloc hB.blk (.cells #[.string s] 82)
    have hB1 := hB.below hW
    have hCb := Kd.C_below hC hW
    have hCc := Kd.C_below hCo hW
    have hn1 := blk_new W (.cells #[.string s] 82)
    obtain ⟨p0, p1⟩ := box_of hb1
    obtain ⟨q0, q1⟩ := box_of ho1
    obtain ⟨r0, r1⟩ := box_of hk1
    obtain ⟨s0, s1⟩ := box_of hn1
    obtain ⟨W1, hW1⟩ : ∃ W1, W.alloc (.cells #[.string s] 82) = W1 := ⟨_, rfl⟩
    have hK1 : KeepsP P b W W1 := by rw [← hW1]; exact KeepsP.of_below hW
    have hz1 : W.heap.size ≤ W1.heap.size := hK1.size
    rw [hW1] at hb1 ho1 hk1 hB1 hCb hCc hn1 p0 p1 q0 q1 r0 r1 s0 s1
    have C1 := fun n => contains_any A c bs s (W1.drewN n) (Kd.C_drewN hCb n) hc (by omega)
    have C2 := fun n => contains_any Ao co acc s (W1.drewN n) (Kd.C_drewN hCc n) hco (by omega)
    go_enter Try.func86, Try.ntmps86
    go_upto_region 1 with (fail)
    clear hW1
    cases h1 : hasB bs s with
    | true =>
      rw [h1] at C1
      go_quiet ((go_at_call 76; exact Calls.quiet_of (C1 _)))
      go_wp2_with fail
      go_end0
      exact ⟨rfl, _, by rw [addName, if_pos (.inl h1)]; exact hB1.drewN _, hK1.trans (KeepsP.drewN _ _)⟩
    | false =>
      rw [h1] at C1
      cases h2 : hasB acc s with
      | true =>
        rw [h2] at C2
        go_quiet ((go_at_call 76; first | exact Calls.quiet_of (C1 _) | exact Calls.quiet_of (C2 _)))
        go_wp2_with fail
        go_end0
        exact ⟨rfl, _, by rw [addName, if_pos (.inr h2)]; exact hB1.drewN _, hK1.trans (KeepsP.drewN _ _)⟩
      | false =>
        rw [h2] at C2
        go_quiet ((go_at_call 76; first | exact Calls.quiet_of (C1 _) | exact Calls.quiet_of (C2 _)))
        go_upto_region 2 with (fail)
        obtain ⟨W2, hW2⟩ : ∃ W2, W1.drewN nq = W2 := ⟨_, rfl⟩
        have hB2 := hB1.drewN nq
        have hK2 : KeepsP P b W1 (W1.drewN nq) := KeepsP.drewN _ _
        have hz2 : W1.heap.size ≤ (W1.drewN nq).heap.size := Nat.le_refl _
        rw [hW2] at hB2 hK2 hz2 ⊢
        have a0 : W2.cell? ⟨bb, 0, none⟩ = some (.slice A bs.length c) := by rw [← hW2]; exact p0
        have b0 : W2.cell? ⟨ob, 0, none⟩ = some (.pointer (some ⟨b, 0, none⟩)) := by rw [← hW2]; exact q0
        have c0 : W2.cell? ⟨b, 0, none⟩ = some (.slice Ao acc.length co) := by rw [← hW2]; exact r0
        have d0 : W2.cell? ⟨W.heap.size, 0, none⟩ = some (.string s) := by rw [← hW2]; exact s0
        have ho2 : W2.heap[ob]? = some (.cells #[.pointer (some ⟨b, 0, none⟩)] 119 (0, 0)) := by rw [← hW2]; exact ho1
        have hP2 : ∀ k, W2.heap.size ≤ k → P k := fun k hk => hP k (by omega)
        clear hW2 p0 p1 q0 q1 r0 r1 s0 s1 C1 C2 hb1 ho1 hk1 hB1 hCb hCc hn1 hb ho hC hCo
        have hadd : addName bs acc (.name s) = acc ++ [s] := by rw [addName, if_neg (by simp [h1, h2])]
        have f0 : ∀ o, (W2.alloc o).cell? ⟨ob, 0, none⟩ = some (.pointer (some ⟨b, 0, none⟩)) := fun o => pw_cell_below ((Below.refl _ W2).alloc (Nat.le_refl _) o) b0
        have f1 : ∀ o, (W2.alloc o).cell? ⟨b, 0, none⟩ = some (.slice Ao acc.length co) := fun o => pw_cell_below ((Below.refl _ W2).alloc (Nat.le_refl _) o) c0
        go_region_law (refine app9_step (W := W2.drew) (by rfl) (.tmp 31) (.tmp 34) rfl P B b w0 (.slice Ao acc.length co) acc s rfl (by rfl) (hB2.below (below_drew (Below.refl _ _))) (fun k hk => hP2 k hk) hl ?_; intro v1 w3 g0 g1 g2 g3 g4; obtain ⟨A1, c1, rfl⟩ := g4; have e0 := (blk_cell g0 0).trans rfl; have e1 := blk_frozen g0 0; have e2 := (blk_cell (g3 _ _ ho2 (fun _ _ e => by cases e)) 0).trans rfl)
        all_goals go_end0
        all_goals exact ⟨rfl, _, by rw [hadd]; exact g1, (hK1.trans hK2).trans ((KeepsP.of_below (below_drew (Below.refl _ _))).trans g2)⟩
  all_goals
    (have hW := (Below.refl W.heap.size W).alloc (Nat.le_refl _) (.cells #[.string ⟨#[]⟩] 82)
     have hb1 := blk_alloc hb (.cells #[.string ⟨#[]⟩] 82)
     have ho1 := blk_alloc ho (.cells #[.string ⟨#[]⟩] 82)
     have hB1 := hB.below hW
     obtain ⟨p0, p1⟩ := box_of hb1
     obtain ⟨q0, q1⟩ := box_of ho1
     go_enter Try.func86, Try.ntmps86
     go_upto_region 1 with (fail)
     go_quiet (fail)
     go_wp2_with fail
     go_end0
     exact ⟨rfl, _, by rw [hA]; exact hB1.drewN _, (KeepsP.of_below hW).trans (KeepsP.drewN _ _)⟩)
end Go.Proofs.Ytddpojinlapmfaa.PRef
