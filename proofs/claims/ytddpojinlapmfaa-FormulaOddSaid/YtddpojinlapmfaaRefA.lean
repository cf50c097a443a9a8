/- The reference of layer 34 as plain functions: room, List, Few. -/
import Derived.Test.YtddpojinlapmfaaPRefRB
import Derived.Test.YtddpojinlapmfaaPureA
import Derived.Test.YtddpojinlapmfaaFmB
import Derived.Test.YtddpojinlapmfaaTermA
namespace Go.Proofs.Ytddpojinlapmfaa.PRef
set_option linter.unusedVariables false
set_option linter.unusedSimpArgs false
open Go.RowKit Go.Proofs.YtddpojinlapmfaaW.PrintWords Go.Proofs.YtddpojinlapmfaaW.PrintLast Go.Proofs.YtddpojinlapmfaaW.PrintMore

theorem S29.ind {P : S29 → Prop} (h : ∀ x, (∀ y ∈ x.f7, P y) → P x) : ∀ x, P x := fun x =>
  S29.rec (motive_1 := P) (motive_2 := fun l => ∀ y ∈ l, P y) (fun f0 f1 f2 f3 f4 f5 f6 f7 ih => h ⟨f0, f1, f2, f3, f4, f5, f6, f7⟩ ih) (fun y hy => by cases hy) (fun a l ha hl y hy => by
    rcases List.mem_cons.1 hy with rfl | h
    · exact ha
    · exact hl y h) x

mutual
/-- How many trees are in a tree. -/
def sizeS : S29 → Nat
  | ⟨_, _, _, _, _, _, _, kids⟩ => 1 + sizeK kids
def sizeK : List S29 → Nat
  | [] => 0
  | a :: l => sizeS a + sizeK l
end
mutual
/-- A tree and all trees in it, each before those in it, with their depths. -/
def listS : S29 → Int → List (S29 × Int)
  | ⟨k, v, nm, e, r, tr, al, kids⟩, d => (⟨k, v, nm, e, r, tr, al, kids⟩, d) :: listK kids (d + 1)
def listK : List S29 → Int → List (S29 × Int)
  | [], _ => []
  | a :: l, d => listS a d ++ listK l d
end
mutual
/-- cylinderref34.room -/
def roomS : S29 → Int → Int → Int
  | ⟨_, _, _, _, _, _, _, kids⟩, n, d => if d = 0 then -1 else roomK kids (n - 1) d
def roomK : List S29 → Int → Int → Int
  | [], n, _ => n
  | a :: l, n, d => if n < 0 then -1 else roomK l (roomS a n (d - 1)) d
end
theorem sizeS_eq (x : S29) : sizeS x = 1 + sizeK x.f7 := by cases x; simp [sizeS]
theorem listS_eq (x : S29) (d : Int) : listS x d = (x, d) :: listK x.f7 (d + 1) := by cases x; simp [listS]
theorem roomS_eq (x : S29) (n d : Int) : roomS x n d = if d = 0 then -1 else roomK x.f7 (n - 1) d := by cases x; simp [roomS]
theorem rd29_at (l : List S29) (i : Nat) (h : i < l.length) : rd_T29 l (i : Int) = l[i] := by simp [rd_T29, h]

theorem room_le : ∀ (x : S29) (n d : Int), 0 ≤ n → -1 ≤ roomS x n d ∧ roomS x n d ≤ n - 1 := by
  intro x
  induction x using S29.ind with
  | h x ih =>
  intro n d hn
  rw [roomS_eq]
  split
  · omega
  · have key : ∀ (l : List S29), (∀ y ∈ l, ∀ (n d : Int), 0 ≤ n → -1 ≤ roomS y n d ∧ roomS y n d ≤ n - 1) → ∀ m d : Int, -1 ≤ m → -1 ≤ roomK l m d ∧ roomK l m d ≤ m := by
      intro l
      induction l with
      | nil => intro _ m d hm; simp only [roomK]; omega
      | cons a l ihl =>
        intro hl m d hm
        simp only [roomK]
        split
        · omega
        · have h1 := hl a (by simp) m (d - 1) (by omega)
          have h2 := ihl (fun y hy => hl y (by simp [hy])) (roomS a m (d - 1)) d (by omega)
          omega
    have := key x.f7 ih (n - 1) d (by omega)
    omega

/-- Where it fits, the number of trees has been taken off. -/
theorem room_size : ∀ (x : S29) (n d : Int), 0 ≤ n → 0 ≤ roomS x n d → roomS x n d = n - sizeS x := by
  intro x
  induction x using S29.ind with
  | h x ih =>
  intro n d hn
  rw [roomS_eq, sizeS_eq]
  split
  · omega
  · have key : ∀ (l : List S29), (∀ y ∈ l, ∀ (n d : Int), 0 ≤ n → 0 ≤ roomS y n d → roomS y n d = n - sizeS y) → ∀ m d : Int, -1 ≤ m → 0 ≤ roomK l m d → roomK l m d = m - sizeK l := by
      intro l
      induction l with
      | nil => intro _ m d hm _; simp [roomK, sizeK]
      | cons a l ihl =>
        intro hl m d hm
        simp only [roomK, sizeK]
        split
        · omega
        · intro h
          have h0 := room_le a m (d - 1) (by omega)
          by_cases hneg : roomS a m (d - 1) < 0
          · cases l with
            | nil => simp only [roomK] at h; omega
            | cons b l => simp only [roomK] at h; rw [if_pos hneg] at h; omega
          · have h1 := hl a (by simp) m (d - 1) (by omega) (by omega)
            have h2 := ihl (fun y hy => hl y (by simp [hy])) (roomS a m (d - 1)) d (by omega) h
            omega
    intro h
    have := key x.f7 ih (n - 1) d (by omega) h
    omega

abbrev roomF (k : Nat) (x : S29) (n d : Int) : Option Int := cylinderref34_room.f k x.f0 x.f1.f0 x.f1.f1 x.f2 x.f3 x.f4 x.f5 x.f6 x.f7 n d
theorem room_ev : ∀ (x : S29) (n d : Int), 0 ≤ n → n ≤ 1000000 → 0 ≤ d → d ≤ 1000 → Ev (fun k => roomF k x n d) (roomS x n d) := by
  intro x
  induction x using S29.ind with
  | h x ih =>
  intro n d hn hn2 hd hd2
  rw [roomS_eq]
  refine Ev.step (fun k => by unfold roomF; rw [cylinderref34_room.f]) ?_
  by_cases h0 : d = 0
  · subst h0
    exact Ev.ifp rfl (Ev.val rfl)
  · rw [if_neg h0]
    refine Ev.ifn h0 ?_
    rw [wrap_ok (by omega) (by omega)]
    have key : ∀ (m i : Nat), i + m = x.f7.length → ∀ c : Int, -1 ≤ c → (i : Int) + c ≤ 1000000 →
        Ev (fun k => cylinderref34_room.l0 k c d (x.f7.length : Int) (i : Int) x.f0 x.f1.f0 x.f1.f1 x.f2 x.f3 x.f4 x.f5 x.f6 x.f7) (roomK (x.f7.drop i) c d) := by
      intro m
      induction m with
      | zero =>
        intro i hi c hc _
        rw [List.drop_of_length_le (by omega)]
        exact Ev.step (fun k => by rw [cylinderref34_room.l0]) (Ev.ifn (by omega) (Ev.val (by simp [roomK])))
      | succ m ihm =>
        intro i hi c hc hic
        have hlt : i < x.f7.length := by omega
        rw [List.drop_eq_getElem_cons hlt]
        simp only [roomK]
        refine Ev.step (fun k => by rw [cylinderref34_room.l0]) (Ev.ifp (by omega) ?_)
        by_cases hneg : c < 0
        · rw [if_pos hneg]; exact Ev.ifp hneg (Ev.val rfl)
        · rw [if_neg hneg]
          refine Ev.ifn hneg (Ev.ifp (by omega) (Ev.ifp (by omega) ?_))
          rw [rd29_at _ _ hlt, wrap_ok (by omega) (by omega), wrap_succ (by omega)]
          have h1 := room_le x.f7[i] c (d - 1) (by omega)
          exact Ev.bind (ih _ (List.getElem_mem hlt) c (d - 1) (by omega) (by omega) (by omega) (by omega)) (ihm (i + 1) (by omega) _ (by omega) (by omega))
    have := key x.f7.length 0 (by omega) (n - 1) (by omega) (by omega)
    simpa using this
end Go.Proofs.Ytddpojinlapmfaa.PRef
