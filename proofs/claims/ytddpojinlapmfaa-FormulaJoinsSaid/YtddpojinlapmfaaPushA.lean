/- append of one element to a row of the call's own that holds no words: numbers elsewhere stay as they are. -/
import Derived.Maps.AppendAt
import Derived.Test.YtddpojinlapmfaaFmA
namespace Go.Proofs.Ytddpojinlapmfaa.PRef
set_option linter.unusedVariables false
set_option linter.unusedSimpArgs false
open Go.RowKit Go.Proofs.YtddpojinlapmfaaW.PrintWords Go.Proofs.YtddpojinlapmfaaW.PrintLast Go.Proofs.YtddpojinlapmfaaW.PrintMore

/-- No word of a number. -/
def NotU (u : Value) : Prop := ∀ x : Int, u ≠ .int .u32 x
/-- Words of numbers lie as they lay. -/
def KeepsU (w w' : World) : Prop := ∀ (a : Addr) (x : Int), w.cell? a = some (.int .u32 x) → w'.cell? a = some (.int .u32 x)
theorem KeepsU.refl (w : World) : KeepsU w w := fun _ _ h => h
theorem KeepsU.trans {a b c : World} (h : KeepsU a b) (k : KeepsU b c) : KeepsU a c := fun p x hp => k p x (h p x hp)
theorem KeepsU.of_below {w w' : World} (h : Below w.heap.size w w') : KeepsU w w' := fun _ _ hp => pw_cell_below h hp
theorem C_keepsU {w w' : World} {A : Option Addr} {n : Nat} {xs : List Int} (h : (Kd.int .u32).C w A n xs) (hk : KeepsU w w') : (Kd.int .u32).C w' A n xs := by
  refine ⟨h.1, h.2.1, fun h0 => ?_⟩
  obtain ⟨ad, e, hc⟩ := h.2.2 h0
  refine ⟨ad, e, fun j p hp => ?_⟩
  obtain ⟨c, c1, c2, c3⟩ := hc j p hp
  refine ⟨c, c1, c2, fun i u hu => ?_⟩
  have hv : u = .int .u32 p := by
    have c4 : c = [.int .u32 p] := c2
    subst c4
    rcases i with _ | i
    · simpa using hu.symm
    · simp at hu
  subst hv
  exact hk _ _ (c3 i _ hu)
theorem IsTm.keepsU {w w' : World} (hb : KeepsU w w') : ∀ {t : Tm} {v : Value}, IsTm w t v → IsTm w' t v
  | .num n xs, v, h => by obtain ⟨A, c, h1, h2, h3⟩ := h; exact ⟨A, c, h1, h2, C_keepsU h3 hb⟩
  | .name s, v, h => h
  | .add a b, v, h => by obtain ⟨va, vb, h1, h2, h3⟩ := h; exact ⟨va, vb, h1, h2.keepsU hb, h3.keepsU hb⟩
  | .sub a b, v, h => by obtain ⟨va, vb, h1, h2, h3⟩ := h; exact ⟨va, vb, h1, h2.keepsU hb, h3.keepsU hb⟩
  | .mul a b, v, h => by obtain ⟨va, vb, h1, h2, h3⟩ := h; exact ⟨va, vb, h1, h2.keepsU hb, h3.keepsU hb⟩
  | .neg a, v, h => by obtain ⟨va, h1, h2⟩ := h; exact ⟨va, h1, h2.keepsU hb⟩
  | .pow a e, v, h => by obtain ⟨va, h1, h2⟩ := h; exact ⟨va, h1, h2.keepsU hb⟩
  | .odd u, v, h => h
theorem IsFm.keepsU {w w' : World} (hb : KeepsU w w') : ∀ {t : Fm} {v : Value}, IsFm w t v → IsFm w' t v
  | .truth b, v, h => h
  | .atom l rel r, v, h => by obtain ⟨va, vb, h1, h2, h3⟩ := h; exact ⟨va, vb, h1, h2.keepsU hb, h3.keepsU hb⟩
  | .not a, v, h => by obtain ⟨va, h1, h2⟩ := h; exact ⟨va, h1, h2.keepsU hb⟩
  | .and a b, v, h => by obtain ⟨va, vb, h1, h2, h3⟩ := h; exact ⟨va, vb, h1, h2.keepsU hb, h3.keepsU hb⟩
  | .or a b, v, h => by obtain ⟨va, vb, h1, h2, h3⟩ := h; exact ⟨va, vb, h1, h2.keepsU hb, h3.keepsU hb⟩
  | .imp a b, v, h => by obtain ⟨va, vb, h1, h2, h3⟩ := h; exact ⟨va, vb, h1, h2.keepsU hb, h3.keepsU hb⟩
  | .iff a b, v, h => by obtain ⟨va, vb, h1, h2, h3⟩ := h; exact ⟨va, vb, h1, h2.keepsU hb, h3.keepsU hb⟩
  | .quant all s a, v, h => by obtain ⟨va, h1, h2⟩ := h; exact ⟨va, h1, h2.keepsU hb⟩
  | .odd u, v, h => h

/-- A row of the call's own of n elements of s cells each, none of them a word of a number. -/
def RowP (w : World) (base e s : Nat) (v : Value) (n : Nat) (xs : List Value) : Prop :=
  xs.length = n * s ∧ ((v = .slice none 0 0 ∧ n = 0) ∨ ∃ g cap cur, v = .slice (some ⟨g, 0, none⟩) n cap ∧ base ≤ g ∧ w.heap[g]? = some (.cells cur e (0, 0)) ∧ n ≤ cap ∧ cap ≤ maxLen ∧ cur.size = cap * s ∧ cur.toList.take (n * s) = xs ∧ ∀ u ∈ cur.toList, NotU u)
theorem RowP.nil (w : World) (base e s : Nat) : RowP w base e s (.slice none 0 0) 0 [] := ⟨by simp, .inl ⟨rfl, rfl⟩⟩
theorem RowP.owns {w : World} {base e s : Nat} {v : Value} {n : Nat} {xs : List Value} (h : RowP w base e s v n xs) : w.ownsRow base e s v n xs := by
  refine ⟨h.1, ?_⟩
  rcases h.2 with h | ⟨g, cap, cur, h1, h2, h3, h4, h5, h6, h7, _⟩
  · exact .inl h
  · exact .inr ⟨g, cap, cur, h1, h2, h3, h4, h5, h6, h7⟩
/-- The block of the row, where there is one, is as it was. -/
theorem RowP.move {w w' : World} {base e s : Nat} {v : Value} {n : Nat} {xs : List Value} (h : RowP w base e s v n xs) (hm : ∀ k, v.ownBlock = some k → w'.heap[k]? = w.heap[k]?) : RowP w' base e s v n xs := by
  refine ⟨h.1, ?_⟩
  rcases h.2 with h | ⟨g, cap, cur, h1, h2, h3, h4, h5, h6, h7, h8⟩
  · exact .inl h
  · exact .inr ⟨g, cap, cur, h1, h2, (hm g (by rw [h1]; rfl)).trans h3, h4, h5, h6, h7, h8⟩
theorem RowP.lt {w : World} {base e s : Nat} {v : Value} {n : Nat} {xs : List Value} (h : RowP w base e s v n xs) {k : Nat} (hk : v.ownBlock = some k) : base ≤ k ∧ k < w.heap.size ∧ ∃ cur, w.heap[k]? = some (.cells cur e (0, 0)) := by
  rcases h.2 with ⟨rfl, _⟩ | ⟨g, cap, cur, h1, h2, h3, _⟩
  · cases hk
  · rw [h1] at hk
    obtain rfl : g = k := by simpa [Value.ownBlock] using hk
    exact ⟨h2, blk_lt h3, cur, h3⟩
theorem RowP.below {w w' : World} {base e s : Nat} {v : Value} {n : Nat} {xs : List Value} (h : RowP w base e s v n xs) (hb : Below w.heap.size w w') : RowP w' base e s v n xs :=
  h.move (fun k hk => hb.block k (h.lt hk).2.1)
theorem RowP.grown {w w' : World} {base e s : Nat} {v : Value} {n : Nat} {xs : List Value} {row : Option Nat} (h : RowP w base e s v n xs) (hg : w.grownBy w' row) (hne : ∀ k, v.ownBlock = some k → some k ≠ row) : RowP w' base e s v n xs :=
  h.move (fun k hk => hg.block k (h.lt hk).2.1 (hne k hk))
/-- Two rows of different types do not meet. -/
theorem RowP.apart {w : World} {base e s : Nat} {v : Value} {n : Nat} {xs : List Value} {base' e' s' : Nat} {v' : Value} {n' : Nat} {xs' : List Value} (h : RowP w base e s v n xs) (h' : RowP w base' e' s' v' n' xs') (hne : e ≠ e') (k : Nat) (hk : v.ownBlock = some k) : some k ≠ v'.ownBlock := by
  intro he
  obtain ⟨_, _, cur, hc⟩ := h.lt hk
  obtain ⟨_, _, cur', hc'⟩ := h'.lt he.symm
  rw [hc] at hc'
  cases hc'
  exact hne rfl
theorem RowP.slice {w : World} {base e s : Nat} {v : Value} {n : Nat} {xs : List Value} (h : RowP w base e s v n xs) : ∃ A c, v = .slice A n c ∧ n ≤ c := by
  rcases h.2 with ⟨rfl, rfl⟩ | ⟨g, cap, cur, h1, h2, h3, h4, _⟩
  · exact ⟨none, 0, rfl, Nat.le_refl _⟩
  · exact ⟨_, cap, h1, h4⟩
/-- The cells of the row. -/
theorem RowP.cell {w : World} {base e s : Nat} {v : Value} {n : Nat} {xs : List Value} (h : RowP w base e s v n xs) (j : Nat) (hj : j < xs.length) : ∃ g c, v = .slice (some ⟨g, 0, none⟩) n c ∧ w.cell? ⟨g, j, none⟩ = some xs[j] := by
  rcases h.2 with ⟨rfl, rfl⟩ | ⟨g, cap, cur, h1, h2, h3, h4, h5, h6, h7, _⟩
  · have := h.1; simp at this; subst this; simp at hj
  · refine ⟨g, cap, h1, (blk_cell h3 j).trans ?_⟩
    subst h7
    rw [List.getElem_take, List.length_take] at *
    have : j < cur.size := by simp at hj; omega
    simp [this]

section
variable {P : Program}
theorem zero_not {z : Array Value} (h : ∀ u ∈ z.toList, NotU u) (n : Nat) : ∀ u ∈ (Builtin.zeroCells z n).toList, NotU u := by
  intro u hu
  unfold Builtin.zeroCells at hu
  rw [Array.toList_map] at hu
  obtain ⟨i, hi, rfl⟩ := List.mem_map.1 hu
  have hi2 : i < n * z.size := by simpa using hi
  have hz : 0 < z.size := by rcases Nat.eq_zero_or_pos z.size with h0 | h0
                             · rw [h0] at hi2; simp at hi2
                             · exact h0
  have hm : i % z.size < z.size := Nat.mod_lt _ hz
  rw [getElem!_pos z _ hm]
  exact h _ (by simp)
theorem push_run (W : World) (base t ty e : TypeId) (i : TypeInfo) (z : Value) (s bytes : Nat) (ht : P.underlying t = some (.slice e)) (hi : P.info? e = some i) (hz : i.zero = some z)
    (hsize : i.size = s) (hby : i.bytes = bytes) (hzs : z.cells.size = s) (hsz : 0 < s) (hzN : ∀ u ∈ z.cells.toList, NotU u)
    (v : Value) (n : Nat) (xs : List Value) (hown : RowP W base e s v n xs) (cs : List Value) (hl : cs.length = s) (h1 : ∀ u ∈ cs, u.oneCell' = true) (hN : ∀ u ∈ cs, NotU u)
    (h63 : n + 1 ≤ maxLen) (hbytes : (n + 1) * bytes ≤ 140737488355328) (hbase : base ≤ W.heap.size) :
    ∃ v' w', (Builtin.append_ #[t, t] ty #[v, .slice (some ⟨W.heap.size, 0, none⟩) 1 1]).run P (W.alloc (.cells cs.toArray e)) = .ok v' w' ∧ RowP w' base e s v' (n + 1) (xs ++ cs) ∧ (W.alloc (.cells cs.toArray e)).grownBy w' v.ownBlock ∧ KeepsU (W.alloc (.cells cs.toArray e)) w' ∧
      (v'.ownBlock = v.ownBlock ∨ ∃ b, v'.ownBlock = some b ∧ W.heap.size ≤ b) := by
  subst hsize
  subst hby
  obtain ⟨w, hw⟩ : ∃ w, W.alloc (.cells cs.toArray e) = w := ⟨_, rfl⟩
  have hwz : w.heap.size = W.heap.size + 1 := by rw [← hw]; simp
  have hown := hown.below (w' := w) (by rw [← hw]; exact (Below.refl _ W).alloc (Nat.le_refl _) _)
  have hnb : w.heap[W.heap.size]? = some (.cells cs.toArray e (0, 0)) := by rw [← hw]; exact blk_new _ _
  rw [hw]
  have hnews : ∀ j u, cs[j]? = some u → w.cell? ((⟨W.heap.size, 0, none⟩ : Addr).add j) = some u := by
    intro j u hj
    rw [add_plain, blk_cell hnb]
    simpa using hj
  have hmx : maxLen ≤ 9223372036854775807 := by decide
  have hsmall : n + 1 ≤ 9223372036854775807 := by omega
  have hl1 : cs.length = 1 * i.size := by omega
  have hlen : (xs ++ cs).length = (n + 1) * i.size := by rw [List.length_append, hown.1, hl, Nat.add_mul, Nat.one_mul]
  have grown : ∀ old : Nat, old < n + 1 → RowP (w.drew.alloc (.cells (xs.toArray ++ cs.toArray ++ Builtin.zeroCells z.cells (grownCap w (n + 1) old e - (n + 1))) e)) base e i.size (.slice (some ⟨w.heap.size, 0, none⟩) (n + 1) (grownCap w (n + 1) old e)) (n + 1) (xs ++ cs) := by
    intro old ho
    have hge := grownCap_ge w (n + 1) old e
    have hxN : ∀ u ∈ xs, NotU u := by
      rcases hown.2 with ⟨rfl, rfl⟩ | ⟨g, cap, cur, h1, h2, h3, h4, h5, h6, h7, h8⟩
      · have : xs = [] := List.eq_nil_of_length_eq_zero (by have := hown.1; simpa using this)
        subst this
        intro u hu; cases hu
      · intro u hu; rw [← h7] at hu; exact h8 u (List.mem_of_mem_take hu)
    refine ⟨hlen, .inr ⟨w.heap.size, _, _, rfl, by rw [hwz]; exact Nat.le_succ_of_le hbase, heap_alloc_new w.drew _, hge, grownCap_le_maxLen w (n + 1) old e h63, ?_, ?_, ?_⟩⟩
    · simp only [Array.size_append, List.size_toArray, size_zeroCells, hzs, hown.1, hl]
      rw [← Nat.succ_mul, ← Nat.add_mul]
      congr 1
      omega
    · simp only [Array.toList_append]
      rw [← hlen]
      exact List.take_left
    · intro u hu
      simp only [Array.toList_append, List.mem_append] at hu
      rcases hu with (hu | hu) | hu
      · exact hxN u hu
      · exact hN u hu
      · exact zero_not hzN _ u hu
  have ku : ∀ (o : Obj), KeepsU w (w.drew.alloc o) := fun o => KeepsU.of_below ((below_drew (Below.refl _ w)).alloc (Nat.le_refl _) o)
  have gb : ∀ (o : Obj) (row : Option Nat), w.grownBy (w.drew.alloc o) row := fun o row => ⟨rfl, rfl, rfl, by simp, fun k hk _ => heap_alloc_old w.drew _ hk⟩
  rcases hown.2 with ⟨rfl, rfl⟩ | ⟨g, cap, cur, rfl, hbg, hg, hnc, hcm, hcs, htake, hcN⟩
  · have hx : xs = [] := List.eq_nil_of_length_eq_zero (by have := hown.1; simpa using this)
    subst hx
    have hr := run_append_nil (P := P) w t ty e i z ht hi hz ⟨W.heap.size, 0, none⟩ 1 1 cs hl1 hnews (by omega) (by omega) (by omega)
    have hgr := grown 0 (by omega)
    simp only [Nat.zero_add, List.nil_append, Array.empty_append] at hgr ⊢
    exact ⟨_, _, hr, hgr, gb _ _, ku _, .inr ⟨_, rfl, by show W.heap.size ≤ w.heap.size; omega⟩⟩
  · by_cases hroom : n + 1 ≤ cap
    · have hfit : n * i.size + cs.length ≤ cur.size := by rw [hl, hcs, ← Nat.succ_mul]; exact Nat.mul_le_mul_right _ hroom
      have hr := run_append_room (P := P) w t ty e i ht hi g n cap cur hg ⟨W.heap.size, 0, none⟩ 1 1 cs hl1 hnews h1 hroom hfit
      have hgb : w.grownBy (w.setRow g (cur.toList.take (n * i.size) ++ cs ++ cur.toList.drop (n * i.size + cs.length)).toArray) (some g) := ⟨rfl, rfl, rfl, by simp, fun k hk hne => setRow_other w g k _ (fun e => hne (by rw [e]))⟩
      refine ⟨_, _, hr, ⟨hlen, .inr ⟨g, cap, _, rfl, hbg, setRow_heap w g cur _ e _ hg, hroom, hcm, ?_, ?_, ?_⟩⟩, hgb, ?_, .inl rfl⟩
      · simp only [List.size_toArray, List.length_append, List.length_take, List.length_drop, Array.length_toList]
        omega
      · rw [htake, ← hlen]
        exact List.take_left
      · intro u hu
        simp only [List.mem_append] at hu
        rcases hu with (hu | hu) | hu
        · exact hcN u (List.mem_of_mem_take hu)
        · exact hN u hu
        · exact hcN u (List.mem_of_mem_drop hu)
      · intro a x ha
        refine hgb.cell ha (fun hag => ?_)
        have hab : a.block = g := by simpa using hag
        unfold World.cell? at ha
        rw [hab, hg] at ha
        dsimp only at ha
        split at ha
        · cases ha
        · exact hcN _ (by have := Array.mem_of_getElem? ha; simpa using this) x rfl
    · have holds : ∀ j u, xs[j]? = some u → w.cell? ((⟨g, 0, none⟩ : Addr).add j) = some u := hown.owns.cells (g := g) rfl
      have hr := run_append_grow (P := P) w t ty e i z ht hi hz ⟨g, 0, none⟩ n cap xs hown.1 holds ⟨W.heap.size, 0, none⟩ 1 1 cs hl1 hnews (by omega) (by omega) (growslice_fits (by omega) hbytes)
      exact ⟨_, _, hr, grown cap (by omega), gb _ _, ku _, .inr ⟨_, rfl, by show W.heap.size ≤ w.heap.size; omega⟩⟩
/-- At the operation, for the walk. -/
theorem wpList_push {ops : Array Oper} {rest : List Oper} {o : Oper} {a : Act} {Q : Exit → Act → World → Prop} {W : World} (hgd : o.guard = none) (s x : Operand) (t e : TypeId)
    (ho : o.op = .call { callee := .builtin .append, args := #[s, x], argTypes := #[t, t] })
    (base : Nat) (z : Value) (sz bytes : Nat) (ht : P.underlying t = some (.slice e)) (hinfo : (P.info? e).map (fun i => (i.zero, i.size, i.bytes)) = some (some z, sz, bytes)) (hzs : z.cells.size = sz) (hsz : 0 < sz) (hzN : ∀ u ∈ z.cells.toList, NotU u)
    (v : Value) (n : Nat) (xs : List Value) (hs : a.eval s = v) (hown : RowP W base e sz v n xs) (cs : List Value) (hx : a.eval x = .slice (some ⟨W.heap.size, 0, none⟩) 1 1) (hl : cs.length = sz) (h1 : ∀ u ∈ cs, u.oneCell' = true) (hN : ∀ u ∈ cs, NotU u)
    (h63 : n + 1 ≤ maxLen) (hbytes : (n + 1) * bytes ≤ 140737488355328) (hbase : base ≤ W.heap.size)
    (h : ∀ v' w', RowP w' base e sz v' (n + 1) (xs ++ cs) → (W.alloc (.cells cs.toArray e)).grownBy w' v.ownBlock → KeepsU (W.alloc (.cells cs.toArray e)) w' → (v'.ownBlock = v.ownBlock ∨ ∃ b, v'.ownBlock = some b ∧ W.heap.size ≤ b) → wpList P ops Q rest (a.put o.dst v') w') :
    wpList P ops Q (o :: rest) a (W.alloc (.cells cs.toArray e)) := by
  obtain ⟨i, hi, hz0, hz1, hz2⟩ := info_parts hinfo
  refine wpList_plain hgd fun K hK => ?_
  obtain ⟨v', w', hr, h2, h3, h4, h5⟩ := push_run (P := P) W base t o.type e i z sz bytes ht hi hz0 hz1 hz2 hzs hsz hzN v n xs hown cs hl h1 hN h63 hbytes hbase
  unfold Oper.wp execOp
  simp only [ho, resolve, invoke, builtin, Sem.run_bind, Sem.run_pure, Result.andThen_ok, List.map_toArray, List.map_cons, List.map_nil, hs, hx, hr]
  exact hK _ _ (h v' w' h2 h3 h4 h5)
end
end Go.Proofs.Ytddpojinlapmfaa.PRef
