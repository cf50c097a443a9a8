/- formula.free, Free. -/
import Derived.Deep.RegionLawGrows
import Derived.Test.YtddpojinlapmfaaFreeA
namespace Go.Proofs.Ytddpojinlapmfaa.PRef
set_option linter.unusedVariables false
set_option linter.unusedSimpArgs false
open Go.RowKit Go.Shelf Go.Proofs.YtddpojinlapmfaaW.PrintWords Go.Proofs.YtddpojinlapmfaaW.PrintLast Go.Proofs.YtddpojinlapmfaaW.PrintMore
attribute [local go_sem] taH78 taM78 taN78 taH91 taM91 taN91 taH93 taM93 taN93 taH85 taM85 taN85 taH87 taM87 taN87 taH116 taM116 taN116 taH117 taM117 taN117 taH61 taM61 taN61

set_option maxHeartbeats 800000 in
theorem clip_any (A : Option Addr) (n c : Nat) (w : World) (h : n ≤ c) (hA : A = none → n = 0) (hn : n ≤ 1000000000000) :
    Calls Try.prog 87 #[.slice A n c] w fun e w' => e = .returned (.slice A n n) ∧ w' = w := by
  have h2 : (n : Int) ≤ (c : Int) := by omega
  cases A with
  | none =>
    obtain rfl := hA rfl
    go_enter Try.func87, Try.ntmps87
    go_wp2_with fail
    go_ret
    exact ⟨rfl, rfl⟩
  | some ad =>
    go_enter Try.func87, Try.ntmps87
    go_wp2_with fail
    go_ret
    exact ⟨rfl, rfl⟩

/-- The names that occur free, in order, where some are bound. -/
def freeL : List ByteArray → Fm → List ByteArray → List ByteArray
  | bs, .atom l _ r, out => (subT l ++ subT r).foldl (addName bs) out
  | bs, .not a, out => freeL bs a out
  | bs, .and a b, out => freeL bs b (freeL bs a out)
  | bs, .or a b, out => freeL bs b (freeL bs a out)
  | bs, .imp a b, out => freeL bs b (freeL bs a out)
  | bs, .iff a b, out => freeL bs b (freeL bs a out)
  | bs, .quant _ s a, out => freeL (bs ++ [s]) a out
  | _, .truth _, out => out
  | _, .odd _, out => out
/-- The terms in a formula. -/
def nT : Fm → Nat
  | .atom l _ r => (subT l).length + (subT r).length
  | .not a => nT a
  | .and a b => nT a + nT b
  | .or a b => nT a + nT b
  | .imp a b => nT a + nT b
  | .iff a b => nT a + nT b
  | .quant _ _ a => nT a
  | .truth _ => 0
  | .odd _ => 0
/-- The quantifiers in a formula. -/
def nQ : Fm → Nat
  | .not a => nQ a
  | .and a b => nQ a + nQ b
  | .or a b => nQ a + nQ b
  | .imp a b => nQ a + nQ b
  | .iff a b => nQ a + nQ b
  | .quant _ _ a => nQ a + 1
  | _ => 0
theorem addName_len (bs : List ByteArray) (out : List ByteArray) (t : Tm) : (addName bs out t).length ≤ out.length + 1 := by
  unfold addName
  split
  · split <;> simp
  · omega
theorem foldName_len (bs : List ByteArray) : ∀ (l : List Tm) (out : List ByteArray), (l.foldl (addName bs) out).length ≤ out.length + l.length := by
  intro l
  induction l with
  | nil => intro out; simp
  | cons t l ih =>
    intro out
    have h1 := ih (addName bs out t)
    have h2 := addName_len bs out t
    simp only [List.foldl_cons, List.length_cons]
    omega
theorem freeL_len : ∀ (F : Fm) (bs out : List ByteArray), (freeL bs F out).length ≤ out.length + nT F := by
  intro F
  induction F with
  | truth b => intro bs out; simp [freeL]
  | atom l r s => intro bs out; have := foldName_len bs (subT l ++ subT s) out; simp only [List.length_append] at this; simp only [freeL, nT]; exact this
  | odd u => intro bs out; simp [freeL]
  | not a ih => intro bs out; exact ih bs out
  | quant q s a ih => intro bs out; exact ih _ out
  | and a b iha ihb => intro bs out; have h1 := iha bs out; have h2 := ihb bs (freeL bs a out); simp only [freeL, nT]; omega
  | or a b iha ihb => intro bs out; have h1 := iha bs out; have h2 := ihb bs (freeL bs a out); simp only [freeL, nT]; omega
  | imp a b iha ihb => intro bs out; have h1 := iha bs out; have h2 := ihb bs (freeL bs a out); simp only [freeL, nT]; omega
  | iff a b iha ihb => intro bs out; have h1 := iha bs out; have h2 := ihb bs (freeL bs a out); simp only [freeL, nT]; omega

/-- An atom, a quantifier, or what is neither. -/
theorem IsFm.three {w : World} {F : Fm} {v : Value} (h : IsFm w F v) :
    (∃ l r s vl vr, F = .atom l r s ∧ v = .iface 91 (.agg #[vl, .int .i64 r, vr]) ∧ IsTm w l vl ∧ IsTm w s vr) ∨
    (∃ q s a va, F = .quant q s a ∧ v = .iface 61 (.agg #[.bool q, .string s, va]) ∧ IsFm w a va) ∨
    ((∀ bs out, freeL bs F out = (kidsF F).foldl (fun o G => freeL bs G o) out) ∧ (v = .nilIface ∨ ∃ (a : Nat) (y : Value), a ≠ 91 ∧ a ≠ 61 ∧ v = .iface a y)) := by
  cases F with
  | truth b => cases h; exact .inr (.inr ⟨fun _ _ => rfl, .inr ⟨_, _, by decide, by decide, rfl⟩⟩)
  | atom l r s => obtain ⟨vl, vr, rfl, h1, h2⟩ := h; exact .inl ⟨_, _, _, _, _, rfl, rfl, h1, h2⟩
  | not a => obtain ⟨_, rfl, _⟩ := h; exact .inr (.inr ⟨fun _ _ => rfl, .inr ⟨_, _, by decide, by decide, rfl⟩⟩)
  | and a b => obtain ⟨_, _, rfl, _⟩ := h; exact .inr (.inr ⟨fun _ _ => rfl, .inr ⟨_, _, by decide, by decide, rfl⟩⟩)
  | or a b => obtain ⟨_, _, rfl, _⟩ := h; exact .inr (.inr ⟨fun _ _ => rfl, .inr ⟨_, _, by decide, by decide, rfl⟩⟩)
  | imp a b => obtain ⟨_, _, rfl, _⟩ := h; exact .inr (.inr ⟨fun _ _ => rfl, .inr ⟨_, _, by decide, by decide, rfl⟩⟩)
  | iff a b => obtain ⟨_, _, rfl, _⟩ := h; exact .inr (.inr ⟨fun _ _ => rfl, .inr ⟨_, _, by decide, by decide, rfl⟩⟩)
  | quant q s a => obtain ⟨va, rfl, h1⟩ := h; exact .inr (.inl ⟨_, _, _, _, rfl, rfl, h1⟩)
  | odd u =>
    obtain ⟨rfl, rfl | ⟨p, rfl⟩⟩ := h
    · exact .inr (.inr ⟨fun _ _ => rfl, .inl rfl⟩)
    · exact .inr (.inr ⟨fun _ _ => rfl, .inr ⟨_, _, by decide, by decide, rfl⟩⟩)
theorem nT_kid {F G : Fm} (h : G ∈ kidsF F) : nT G ≤ nT F ∧ nQ G ≤ nQ F := by
  cases F <;> simp only [kidsF, List.mem_cons, List.not_mem_nil, or_false] at h
  all_goals first
    | (rcases h with rfl | rfl <;> simp only [nT, nQ] <;> omega)
    | (subst h; simp only [nT, nQ]; omega)
theorem nT_kids (F : Fm) (hF : isAtom F = false) : (kidsF F).foldl (fun n G => n + nT G) 0 = nT F := by
  cases F <;> simp_all [kidsF, nT, isAtom]

/-- A list of texts that reads whatever turns of what P lets in. -/
def StC (P : Nat → Prop) (b : Nat) (w : World) (A : Option Addr) (bs : List ByteArray) : Prop := ∀ W, KeepsP P b w W → Kd.C Kd.string W A bs.length bs
theorem StC.next {P : Nat → Prop} {b : Nat} {w w' : World} {A : Option Addr} {bs : List ByteArray} (h : StC P b w A bs) (hk : KeepsP P b w w') : StC P b w' A bs := fun W hW => h W (hk.trans hW)

/-- What formula.free does of the formula F. -/
def FreeGives (wI w0 : World) (B b : Nat) (F : Fm) : Prop := ∀ (P : Nat → Prop) (v : Value) (bs acc : List ByteArray) (A : Option Addr) (c : Nat) (vo : Value) (w : World), IsFm wI F v → BoxS P B b w0 w acc vo → StC P b w A bs → bs.length ≤ c →
    (∀ k, w.heap.size ≤ k → P k) → acc.length + nT F ≤ 1000000000000 → bs.length + nQ F ≤ 1000000000000 →
    Calls Try.prog 63 #[v, .slice A bs.length c, .pointer (some ⟨b, 0, none⟩)] w fun e W' => e = .returned (.tuple #[]) ∧ ∃ vo', BoxS P B b w0 W' (freeL bs F acc) vo' ∧ KeepsP P b w W'

/-- formula.terms with the visitor of formula.free. -/
theorem free_terms (P : Nat → Prop) (B b bb ob : Nat) (w0 wI wS : World) (bs acc : List ByteArray) (A : Option Addr) (c : Nat) (hne : bb ≠ b) (hb : wS.heap[bb]? = some (.cells #[.slice A bs.length c] 48 (0, 0)))
    (ho : wS.heap[ob]? = some (.cells #[.pointer (some ⟨b, 0, none⟩)] 119 (0, 0))) (hob : ob ≠ b) (hS : StC P b wS A bs) (hc : bs.length ≤ c) (hP : ∀ k, wS.heap.size ≤ k → P k) (hlb : bs.length ≤ 1000000000000) (N : Nat) (hN : acc.length + N ≤ 1000000000000) :
    ∀ (t : Tm) (v : Value) (pre : List Tm) (w : World), IsTm wI t v → ((∃ vo, BoxS P B b w0 w (pre.foldl (addName bs) acc) vo) ∧ KeepsP P b wS w) → pre.length + (subT t).length ≤ N →
      Calls Try.prog 68 #[v, .func (.func 86) #[] #[.pointer (some ⟨bb, 0, none⟩), .pointer (some ⟨ob, 0, none⟩)]] w fun e w' => e = .returned (.tuple #[]) ∧ ((∃ vo, BoxS P B b w0 w' ((pre ++ subT t).foldl (addName bs) acc) vo) ∧ KeepsP P b wS w') ∧ KeepsC w w' := by
  refine terms_any 86 #[.pointer (some ⟨bb, 0, none⟩), .pointer (some ⟨ob, 0, none⟩)] (enters_of Try.func86 (by kernel_rfl) rfl) wI N (fun pre w => (∃ vo, BoxS P B b w0 w (pre.foldl (addName bs) acc) vo) ∧ KeepsP P b wS w) ?_ ?_
  · rintro pre w w' ⟨⟨vo, h1⟩, h2⟩ hb
    exact ⟨⟨vo, h1.below hb⟩, h2.trans (KeepsP.of_below hb)⟩
  · rintro pre t v w ⟨⟨vo, h1⟩, h2⟩ ht hlt
    have hlen := foldName_len bs pre acc
    have hz := h2.size
    refine (freeV_any P B b bb ob w0 wI w bs _ A c vo v t h1 hne (h2.typ _ _ hb (fun _ _ e => by cases e) hne) (h2.typ _ _ ho (fun _ _ e => by cases e) hob) (hS _ h2) hc (fun k hk => hP k (by omega)) ht (by omega) hlb).mono ?_
    rintro e w' ⟨he, vo', g1, g2⟩
    exact ⟨he, ⟨⟨vo', by rw [List.foldl_append]; exact g1⟩, h2.trans g2⟩, g2.keepsC h1.blk⟩

set_option maxRecDepth 100000 in
set_option maxHeartbeats 4000000 in
/-- An atom. -/
theorem free_atom (wI w0 : World) (B b : Nat) (l : Tm) (r : Int) (s : Tm) : FreeGives wI w0 B b (.atom l r s) := by
  intro P v bs acc A c vo w hv hB hS hc hP hla hlb
  obtain ⟨vl, vr, rfl, hl, hr⟩ := hv
  have hmf : ∀ (fn : Fn) (first cap : Array Value) (w : World), (Instr.makeFunc fn first cap).run Try.prog w = .ok (.func fn first cap) w := fun _ _ _ _ => rfl
  have hst := one_store hl.one
  have hst2 := one_store hr.one
  have hbl := blk_lt hB.blk
  obtain ⟨wS, hwS⟩ : ∃ wS, ((w.alloc (.cells #[.slice A bs.length c] 48)).alloc (.cells #[.pointer (some ⟨b, 0, none⟩)] 119)).alloc (.cells #[vl, .int .i64 r, vr] 91) = wS := ⟨_, rfl⟩
  have hW : Below w.heap.size w wS := by rw [← hwS]; exact (((Below.refl _ w).alloc (Nat.le_refl _) _).alloc (by simp) _).alloc (by simp; omega) _
  have hb1 : wS.heap[w.heap.size]? = some (.cells #[.slice A bs.length c] 48 (0, 0)) := by rw [← hwS]; exact blk_alloc (blk_alloc (blk_new _ _) _) _
  have hb2 : wS.heap[w.heap.size + 1]? = some (.cells #[.pointer (some ⟨b, 0, none⟩)] 119 (0, 0)) := by
    rw [← hwS]
    have := blk_alloc (blk_new (w.alloc (.cells #[.slice A bs.length c] 48)) (.cells #[.pointer (some ⟨b, 0, none⟩)] 119)) (.cells #[vl, .int .i64 r, vr] 91)
    rwa [World.size_alloc] at this
  have hb3 : wS.heap[w.heap.size + 1 + 1]? = some (.cells #[vl, .int .i64 r, vr] 91 (0, 0)) := by
    rw [← hwS]
    have := blk_new ((w.alloc (.cells #[.slice A bs.length c] 48)).alloc (.cells #[.pointer (some ⟨b, 0, none⟩)] 119)) (.cells #[vl, .int .i64 r, vr] 91)
    rwa [World.size_alloc, World.size_alloc] at this
  obtain ⟨p0, p1, p2⟩ := three_box hb3
  have hKS : KeepsP P b w wS := KeepsP.of_below hW
  simp only [nT] at hla
  have T := free_terms P B b w.heap.size (w.heap.size + 1) w0 wI wS bs acc A c (by omega) hb1 hb2 (by omega) (hS.next hKS) hc (fun k hk => hP k (by have := hW.size; omega)) (by omega) ((subT l).length + (subT s).length) hla
  have T1 := T l vl [] wS hl ⟨⟨vo, hB.below hW⟩, KeepsP.refl _ _ _⟩ (by simp)
  have T2 := fun W' h => T s vr ([] ++ subT l) W' hr h (by simp)
  clear T
  go_enter Try.func63, Try.ntmps63
  go_wp2_with (first
    | (go_at_call_of 68 vl; refine T1.mono ?_; clear T1; rintro e W2 ⟨rfl, hJ2, hK2⟩
       have hc2 := hK2.boxes _ _ _ (by simp [boxT]) hb3
       obtain ⟨s0, s1, s2⟩ := three_box hc2)
    | (go_at_call_of 68 vr; refine (T2 _ hJ2).mono ?_; clear T2; rintro e W3 ⟨rfl, ⟨⟨vo', hJ3⟩, hK3⟩, hC3⟩))
  exact bodyPost_ret (v := .tuple #[]) (by simp [results, Try.results63, go_sem]) rfl ⟨rfl, vo', by simpa [freeL] using hJ3, hKS.trans hK3⟩

theorem sum_take_le {α : Type} (f : α → Nat) : ∀ (l : List α) (k : Nat) (h : k < l.length), ((l.take k).map f).sum + f l[k] ≤ (l.map f).sum := by
  intro l
  induction l with
  | nil => intro k h; simp at h
  | cons a l ih =>
    intro k h
    cases k with
    | zero => simp
    | succ k => have := ih k (by simpa using h); simp only [List.take_succ_cons, List.map_cons, List.sum_cons, List.getElem_cons_succ]; omega
theorem freeK_len (bs : List ByteArray) : ∀ (l : List Fm) (out : List ByteArray), (l.foldl (fun o G => freeL bs G o) out).length ≤ out.length + (l.map nT).sum := by
  intro l
  induction l with
  | nil => intro out; simp
  | cons F l ih =>
    intro out
    have h1 := ih (freeL bs F out)
    have h2 := freeL_len F bs out
    simp only [List.foldl_cons, List.map_cons, List.sum_cons]
    omega
theorem sum_kids (F : Fm) : ((kidsF F).map nT).sum ≤ nT F := by
  cases F <;> simp [kidsF, nT]

set_option maxRecDepth 100000 in
set_option maxHeartbeats 4000000 in
/-- What is neither an atom nor a quantifier. -/
theorem free_rest (wI w0 : World) (B b : Nat) (F : Fm) (ih : ∀ G ∈ kidsF F, FreeGives wI w0 B b G) (hF : ∀ bs out, freeL bs F out = (kidsF F).foldl (fun o G => freeL bs G o) out)
    (P : Nat → Prop) (v : Value) (hsh : v = .nilIface ∨ ∃ (a : Nat) (y : Value), a ≠ 91 ∧ a ≠ 61 ∧ v = .iface a y) (bs acc : List ByteArray) (A : Option Addr) (c : Nat) (vo : Value) (w : World) (hv : IsFm wI F v) (hB : BoxS P B b w0 w acc vo) (hS : StC P b w A bs) (hc : bs.length ≤ c)
    (hP : ∀ k, w.heap.size ≤ k → P k) (hla : acc.length + nT F ≤ 1000000000000) (hlb : bs.length + nQ F ≤ 1000000000000) :
    Calls Try.prog 63 #[v, .slice A bs.length c, .pointer (some ⟨b, 0, none⟩)] w fun e W' => e = .returned (.tuple #[]) ∧ ∃ vo', BoxS P B b w0 W' (freeL bs F acc) vo' ∧ KeepsP P b w W' := by
  have hbl := blk_lt hB.blk
  obtain ⟨wS, hwS⟩ : ∃ wS, (w.alloc (.cells #[.slice A bs.length c] 48)).alloc (.cells #[.pointer (some ⟨b, 0, none⟩)] 119) = wS := ⟨_, rfl⟩
  have hW : Below w.heap.size w wS := by rw [← hwS]; exact ((Below.refl _ w).alloc (Nat.le_refl _) _).alloc (by simp) _
  have hb1 : wS.heap[w.heap.size]? = some (.cells #[.slice A bs.length c] 48 (0, 0)) := by rw [← hwS]; exact blk_alloc (blk_new _ _) _
  have hb2 : wS.heap[w.heap.size + 1]? = some (.cells #[.pointer (some ⟨b, 0, none⟩)] 119 (0, 0)) := by
    rw [← hwS]
    have := blk_new (w.alloc (.cells #[.slice A bs.length c] 48)) (.cells #[.pointer (some ⟨b, 0, none⟩)] 119)
    rwa [World.size_alloc] at this
  have hKS : KeepsP P b w wS := KeepsP.of_below hW
  have hp := parts_any F v wI wS hv
  have hsum := sum_kids F
  have hnq : ∀ G ∈ kidsF F, nQ G ≤ nQ F := fun G h => (nT_kid h).2
  have hFF := Lib.hid (hF bs acc)
  clear hF
  obtain ⟨K, hK⟩ : ∃ K, kidsF F = K := ⟨_, rfl⟩
  rw [hK] at hp ih hsum hnq hFF
  clear hK
  have HIH := Lib.hid ih
  have HNQ := Lib.hid hnq
  clear ih hnq
  rcases hsh with rfl | ⟨a, y, ha, ha2, rfl⟩
  all_goals
    (go_enter Try.func63, Try.ntmps63
     go_wp2_with (go_at_call 88; refine hp.mono ?_; rintro e W2 ⟨r, rfl, hKR, hB2⟩; obtain ⟨AK, hr⟩ := hKR.slice; subst hr)
     clear hwS hp
     have hle := hKR.le
     have hK2 : KeepsP P b w W2 := hKS.trans (KeepsP.of_below hB2)
     go_loopw [36] (fun i wr => ∃ (k : Nat) (vo' : Value), k ≤ K.length ∧ i = .int .i64 k ∧ BoxS P B b w0 wr ((K.take k).foldl (fun o G => freeL bs G o) acc) vo' ∧ KeepsP P b w wr ∧ KidsR wI wr (.slice AK K.length K.length) K ∧ wr.heap[w.heap.size]? = some (.cells #[.slice A bs.length c] 48 (0, 0)) ∧ wr.heap[w.heap.size + 1]? = some (.cells #[.pointer (some ⟨b, 0, none⟩)] 119 (0, 0))) (fun i _ => K.length - (intOf i).toNat)
     case atStart => exact ⟨0, vo, by omega, rfl, (hB.below hW).below hB2, hK2, hKR, blk_below hb1 hB2, blk_below hb2 hB2⟩
     case round =>
       obtain ⟨k, vo', hk, rfl, hBr, hKr, hRr, hb1r, hb2r⟩ := hrel
       by_cases hlt : k < K.length
       · obtain ⟨g, u, hs, hcu, hu⟩ := hRr.at k hlt
         cases hs
         obtain ⟨p0, p1⟩ := box_of hb1r
         obtain ⟨q0, q1⟩ := box_of hb2r
         have hl1 := freeK_len bs (K.take k) acc
         have hl2 := sum_take_le nT K k hlt
         have hst := one_store hu.one
         have T := HIH.out K[k] (List.getElem_mem hlt) P u bs _ A c vo' wr hu hBr (hS.next hKr) hc (fun j hj => hP j (by have := hKr.size; omega)) (by omega) (by have := HNQ.out K[k] (List.getElem_mem hlt); omega)
         clear hl1 hl2
         have hk64 : (k : Int) < 3 := by omega
         go_wp2_with (go_at_call 63; refine T.mono ?_; clear T; rintro e W3 ⟨rfl, vo3, hB3, hK3⟩)
         go_roundw
         case rel => exact ⟨k + 1, vo3, by omega, by go_num, by rw [List.take_succ_eq_append_getElem hlt, List.foldl_append]; exact hB3, hKr.trans hK3, hRr.keeps (hK3.keepsC hBr.blk).boxes, hK3.typ _ _ hb1r (fun _ _ e => by cases e) (by omega), hK3.typ _ _ hb2r (fun _ _ e => by cases e) (by omega)⟩
         case measure => simp [intOf]; omega
       · obtain rfl : k = K.length := by omega
         go_wp2
         go_end0
         rw [List.take_length, ← hFF.out] at hBr
         exact ⟨rfl, vo', hBr, hKr⟩)

section
variable {ops : Array Oper} {o : Oper} {a : Act} {Q : Exit → Act → World → Prop} {Kc : Act → World → Prop} {W : World}
/-- append of a text to a list that is full: a new row, whatever was there. -/
theorem app9_full (hw : Region.wanted o (yielded ops a.tmps) = true) (hgd : o.guard = none) (s x : Operand) (ho : o.op = .call { callee := .builtin .append, args := #[s, x], argTypes := #[48, 48] }) (A : Option Addr) (bs : List ByteArray) (p : ByteArray)
    (hs : a.eval s = .slice A bs.length bs.length) (hx : a.eval x = .slice (some ⟨W.heap.size, 0, none⟩) 1 1) (hC : Kd.C Kd.string W A bs.length bs) (hl : bs.length ≤ 1000000000000)
    (h : ∀ v1 w1, Kd.string.R 9 w1 W.heap.size (fun _ => True) v1 (bs ++ [p]) → Below W.heap.size W w1 → (∃ A1 c1, v1 = .slice A1 (bs.length + 1) c1) → Kc (a.put o.dst v1) w1) :
    if Region.wanted o (yielded ops a.tmps) = true then Oper.wp Try.prog o a (W.alloc (.cells #[.string p] 9)) Kc Q else Kc (a.put o.dst undef) (W.alloc (.cells #[.string p] 9)) := by
  obtain ⟨i0, hi, hz0, hz1, hz2⟩ := info_parts info9
  refine step_append_grows hgd s x 48 ho 9 i0 _ 1 16 Try.underlying48 hi hz0 hz1 hz2 rfl (by decide) A bs.length bs.length (bs.map Value.string) hs ?_ (by simp) ?_ ⟨W.heap.size, 0, none⟩ 1 1 [.string p] hx rfl
    (by simpa using World.news_of_block (cs := #[.string p]) (t := 9) (fr := (0, 0)) (heap_alloc_new W (.cells #[.string p] 9))) (by simp [Value.oneCell']) (by omega) (by simp only [maxLen]; omega) (by omega) ?_
  · intro hA
    rcases Nat.eq_zero_or_pos bs.length with h0 | h0
    · exact ⟨h0, h0⟩
    · obtain ⟨ad, e, _⟩ := hC.2.2 h0
      rw [hA] at e; cases e
  · intro ad hA j u hj
    rw [List.getElem?_map] at hj
    rcases Nat.lt_or_ge j bs.length with h1 | h1
    · obtain ⟨ad', e, hc⟩ := Kd.at_string hC (j : Int) (by omega) (by omega)
      rw [hA] at e; cases e
      rw [rdOf_at _ _ h1] at hc
      rw [List.getElem?_eq_getElem h1] at hj
      simp only [Option.map_some, Option.some.injEq] at hj
      subst hj
      simp only [Int.toNat_natCast] at hc
      exact pw_cell_below ((Below.refl _ W).alloc (Nat.le_refl _) _) hc
    · rw [List.getElem?_eq_none h1] at hj; cases hj
  · intro v1 w1 hown hg
    have hr : Kd.string.R 9 w1 (W.alloc (.cells #[.string p] 9)).heap.size (fun _ => True) v1 (bs ++ [p]) := Kd.R_of_own (enc := Value.string) (by simpa [encs] using hown) (fun _ _ => trivial)
    have hb : Below W.heap.size W w1 := ((Below.refl _ W).alloc (Nat.le_refl _) _).grown hg (by simp) (fun k e => by cases e)
    obtain ⟨A1, c1, e⟩ := str_slice hr
    exact h v1 w1 (Kd.R_lower hr (by simp)) hb ⟨A1, c1, by rw [e]; simp⟩
end

set_option maxRecDepth 100000 in
set_option maxHeartbeats 4000000 in
/-- A quantifier. -/
theorem free_quant (wI w0 : World) (B b : Nat) (q : Bool) (s : ByteArray) (a : Fm) (iha : FreeGives wI w0 B b a) : FreeGives wI w0 B b (.quant q s a) := by
  intro P v bs acc A c vo w hv hB hS hc hP hla hlb
  have hp := parts_any (.quant q s a) v wI
  have hv0 := hv
  obtain ⟨va, rfl, hva⟩ := hv
  have hbl := blk_lt hB.blk
  have hst := one_store hva.one
  simp only [nQ] at hlb
  obtain ⟨wS, hwS⟩ : ∃ wS, ((w.alloc (.cells #[.slice A bs.length c] 48)).alloc (.cells #[.pointer (some ⟨b, 0, none⟩)] 119)).alloc (.cells #[.bool q, .string s, va] 61) = wS := ⟨_, rfl⟩
  have hW : Below w.heap.size w wS := by rw [← hwS]; exact (((Below.refl _ w).alloc (Nat.le_refl _) _).alloc (by simp) _).alloc (by simp; omega) _
  have hzS : wS.heap.size = w.heap.size + 3 := by rw [← hwS]; simp
  have hb1 : wS.heap[w.heap.size]? = some (.cells #[.slice A bs.length c] 48 (0, 0)) := by rw [← hwS]; exact blk_alloc (blk_alloc (blk_new _ _) _) _
  have hb2 : wS.heap[w.heap.size + 1]? = some (.cells #[.pointer (some ⟨b, 0, none⟩)] 119 (0, 0)) := by
    rw [← hwS]
    have := blk_alloc (blk_new (w.alloc (.cells #[.slice A bs.length c] 48)) (.cells #[.pointer (some ⟨b, 0, none⟩)] 119)) (.cells #[.bool q, .string s, va] 61)
    rwa [World.size_alloc] at this
  have hb3 : wS.heap[w.heap.size + 1 + 1]? = some (.cells #[.bool q, .string s, va] 61 (0, 0)) := by
    rw [← hwS]
    have := blk_new ((w.alloc (.cells #[.slice A bs.length c] 48)).alloc (.cells #[.pointer (some ⟨b, 0, none⟩)] 119)) (.cells #[.bool q, .string s, va] 61)
    rwa [World.size_alloc, World.size_alloc] at this
  obtain ⟨p0, p1, p2⟩ := three_box hb3
  obtain ⟨q0, q1⟩ := box_of hb1
  have hCS : Kd.C Kd.string wS.drew A bs.length bs := hS _ ((KeepsP.of_below hW).trans (KeepsP.of_below (below_drew (Below.refl _ _))))
  have hAn : A = none → bs.length = 0 := by
    intro hA
    rcases Nat.eq_zero_or_pos bs.length with h0 | h0
    · exact h0
    · obtain ⟨ad, e, _⟩ := hCS.2.2 h0
      rw [hA] at e; cases e
  have HZ := Lib.hid hzS
  have hlb2 : bs.length ≤ 1000000000000 := by omega
  have hb2d : wS.drew.heap[w.heap.size + 1]? = some (.cells #[.pointer (some ⟨b, 0, none⟩)] 119 (0, 0)) := hb2
  have hb1d : wS.drew.heap[w.heap.size]? = some (.cells #[.slice A bs.length c] 48 (0, 0)) := hb1
  clear hzS
  go_enter Try.func63, Try.ntmps63
  go_upto_region 9 with (fail)
  clear hwS
  have f0 : ∀ o, (wS.alloc o).cell? ⟨w.heap.size, 0, none⟩ = some (.slice A bs.length c) := fun o => pw_cell_below ((Below.refl _ wS).alloc (Nat.le_refl _) o) q0
  have f1 : ∀ o, (wS.alloc o).cell? ⟨w.heap.size + 1 + 1, 1, none⟩ = some (.string s) := fun o => pw_cell_below ((Below.refl _ wS).alloc (Nat.le_refl _) o) p1
  go_region_law (first
    | (rw [if_pos (by rfl)]; go_simp; go_at_call 87; refine (clip_any A bs.length c _ hc hAn hlb2).mono ?_; rintro e w' ⟨rfl, rfl⟩)
    | (refine app9_full (W := wS.drew) (by rfl) rfl (.tmp 28) (.tmp 31) rfl A bs s rfl (by rfl) hCS hlb2 ?_; intro v1 w3 g0 g1 g4; obtain ⟨A1, c1, rfl⟩ := g4; have e0 := (blk_cell (blk_below hb1d g1) 0).trans rfl; have e1 := blk_frozen (blk_below hb1d g1) 0))
  all_goals
    (have hz := HZ.out
     have hz3 := g1.size
     have hzd : wS.drew.heap.size = wS.heap.size := rfl
     rw [hzd] at hz3 g0
     have hW3 : Below w.heap.size w w3 := (hW.trans (below_drew (Below.refl _ _))).trans (g1.mono (by rw [hzd]; omega))
     have hW2 := hW3.setCell (p := ⟨w.heap.size, 0, none⟩) (Nat.le_refl _) (.slice A1 (bs.length + 1) c1)
     have n1 := one_put (blk_below hb1d g1) (.slice A1 (bs.length + 1) c1)
     have n2 := (Below.heap_setCell w3 ⟨w.heap.size, 0, none⟩ (.slice A1 (bs.length + 1) c1) (w.heap.size + 1) (by simp)).trans (blk_below hb2d g1)
     have hown := Kd.R_base g0
     have hlt := Kd.R_lt g0
     have hzw : (w3.setCell ⟨w.heap.size, 0, none⟩ (.slice A1 (bs.length + 1) c1)).heap.size = w3.heap.size := by simp [World.setCell]
     obtain ⟨w2, hw2⟩ : ∃ w2, w3.setCell ⟨w.heap.size, 0, none⟩ (.slice A1 (bs.length + 1) c1) = w2 := ⟨_, rfl⟩
     have R2 : Kd.string.R 9 w2 wS.heap.size (fun _ => True) (.slice A1 (bs.length + 1) c1) (bs ++ [s]) := by
       rw [← hw2]
       exact Kd.R_mono (Kd.R_far (p := ⟨w.heap.size, 0, none⟩) (Kd.R_tight rfl g0) (fun k hk e => by have := hown k hk.symm; simp only at e; omega) _) (fun _ _ => trivial)
     rw [hw2] at hW2 n1 n2 hzw ⊢
     clear hw2
     obtain ⟨P', hP'⟩ : ∃ P' : Nat → Prop, P' = fun k => P k ∧ some k ≠ (Value.slice A1 (bs.length + 1) c1).ownBlock := ⟨_, rfl⟩
     have hmP : ∀ k, P' k → P k := fun k hk => by rw [hP'] at hk; exact hk.1
     have hB2 : BoxS P' B b w0 w2 acc vo := by
       have h := hB.below hW2
       refine ⟨h.blk, Kd.R_mono (Kd.R_tight2 rfl h.row) (fun k hk => ?_), h.bel, h.ge⟩
       rw [hP']
       exact ⟨hk.2, fun e => by have := hown k e.symm; have := Kd.R_lt hB.row k hk.1.symm; omega⟩
     have hS2 : StC P' b w2 A1 (bs ++ [s]) := by
       intro W hWk
       have h := Kd.R_step (Kd.R_tight rfl R2) (w1 := W) (fun k hk hlt => hWk.prot k hlt (fun e => by rw [hP'] at e; exact e.2 hk) (fun e => by have := hown k hk.symm; omega))
       exact (Kd.R_reads' h).2.2
     have hc2 : bs.length + 1 ≤ c1 := by have := (Kd.R_reads' R2).2.1; exact this
     have hPf : ∀ j, w2.heap.size ≤ j → P' j := by
       intro j hj
       rw [hP']
       exact ⟨hP j (by omega), fun e => by have := hlt j e.symm; omega⟩
     have hlen : (bs ++ [s]).length = bs.length + 1 := by simp
     have HLEN := Lib.hid hlen
     have hsum := sum_kids (.quant q s a)
     have hFF := Lib.hid (show freeL bs (.quant q s a) acc = (kidsF (.quant q s a)).foldl (fun o G => freeL (bs ++ [s]) G o) acc from rfl)
     have hih : ∀ G ∈ kidsF (.quant q s a), FreeGives wI w0 B b G ∧ nQ G = nQ a := by simpa [kidsF] using iha
     have hp2 := hp w2
     clear hP' hlen hown hlt R2 g0 hzw
     obtain ⟨K, hK⟩ : ∃ K, kidsF (.quant q s a) = K := ⟨_, rfl⟩
     rw [hK] at hp2 hih hsum hFF
     clear hK
     have HIH := Lib.hid hih
     clear hih
     go_wp2_with (go_at_call 88; refine (hp2 hv0).mono ?_; rintro e W4 ⟨r, rfl, hKR, hB4⟩; obtain ⟨AK, hr⟩ := hKR.slice; subst hr)
     clear hp2
     have hle := hKR.le
     go_loopw [36] (fun i wr => ∃ (k : Nat) (vo' : Value), k ≤ K.length ∧ i = .int .i64 k ∧ BoxS P' B b w0 wr ((K.take k).foldl (fun o G => freeL (bs ++ [s]) G o) acc) vo' ∧ KeepsP P' b w2 wr ∧ KidsR wI wr (.slice AK K.length K.length) K ∧ wr.heap[w.heap.size]? = some (.cells #[.slice A1 (bs.length + 1) c1] 48 (0, 0)) ∧ wr.heap[w.heap.size + 1]? = some (.cells #[.pointer (some ⟨b, 0, none⟩)] 119 (0, 0))) (fun i _ => K.length - (intOf i).toNat)
     case atStart => exact ⟨0, vo, by omega, rfl, hB2.below hB4, KeepsP.of_below hB4, hKR, blk_below n1 hB4, blk_below n2 hB4⟩
     case round =>
       obtain ⟨k, vo', hk, rfl, hBr, hKr, hRr, hb1r, hb2r⟩ := hrel
       by_cases hlt : k < K.length
       · obtain ⟨g, u, hs, hcu, hu⟩ := hRr.at k hlt
         cases hs
         obtain ⟨p0, p1⟩ := box_of hb1r
         obtain ⟨q0, q1⟩ := box_of hb2r
         have hl1 := freeK_len (bs ++ [s]) (K.take k) acc
         have hl2 := sum_take_le nT K k hlt
         have hst := one_store hu.one
         obtain ⟨I1, I2⟩ := HIH.out K[k] (List.getElem_mem hlt)
         have T := I1 P' u (bs ++ [s]) _ A1 c1 vo' wr hu hBr (hS2.next hKr) (by rw [HLEN.out]; exact hc2) (fun j hj => hPf j (by have := hKr.size; omega)) (by omega) (by rw [HLEN.out, I2]; omega)
         rw [HLEN.out] at T
         clear hl1 hl2 I1 I2
         have hk64 : (k : Int) < 3 := by omega
         go_wp2_with (go_at_call 63; refine T.mono ?_; clear T; rintro e W3 ⟨rfl, vo3, hB3, hK3⟩)
         go_roundw
         case rel => exact ⟨k + 1, vo3, by omega, by go_num, by rw [List.take_succ_eq_append_getElem hlt, List.foldl_append]; exact hB3, hKr.trans hK3, hRr.keeps (hK3.keepsC hBr.blk).boxes, hK3.typ _ _ hb1r (fun _ _ e => by cases e) (by omega), hK3.typ _ _ hb2r (fun _ _ e => by cases e) (by omega)⟩
         case measure => simp [intOf]; omega
       · obtain rfl : k = K.length := by omega
         go_wp2
         go_end0
         rw [List.take_length, ← hFF.out] at hBr
         refine ⟨rfl, vo', ⟨hBr.blk, Kd.R_mono hBr.row hmP, hBr.bel, hBr.ge⟩, (KeepsP.of_below hW2).trans (hKr.mono (fun k _ hk h => hk (hmP k h)))⟩)

theorem free_any (wI w0 : World) (B b : Nat) : ∀ F : Fm, FreeGives wI w0 B b F := by
  intro F
  induction F using kids_ind with
  | h F ih =>
  intro P v bs acc A c vo w hv hB hS hc hP hla hlb
  rcases hv.three with ⟨l, r, s, vl, vr, rfl, rfl, hl, hr⟩ | ⟨q, s, a, va, rfl, rfl, ha⟩ | ⟨hF, hsh⟩
  · exact free_atom wI w0 B b l r s P _ bs acc A c vo w hv hB hS hc hP hla hlb
  · exact free_quant wI w0 B b q s a (ih a (by simp [kidsF])) P _ bs acc A c vo w hv hB hS hc hP hla hlb
  · exact free_rest wI w0 B b F ih hF P v hsh bs acc A c vo w hv hB hS hc hP hla hlb
end Go.Proofs.Ytddpojinlapmfaa.PRef
