/- Resources made, frozen, stored into. -/
import Derived.Test.YtfgipdfdilafnaaV4
set_option linter.unusedSimpArgs false
set_option linter.unusedVariables false
namespace Go.VV
open Go.RowKit

def Env.set (E : Env) (d : Option Nat) (av : AV) : Env := match d with | some d => if d < E.k then { E with tm := (d, av) :: E.tm } else E | none => E
theorem lookup_cons {α : Type} (k k' : Nat) (v : α) (l : List (Nat × α)) : ((k, v) :: l).lookup k' = if k' = k then some v else l.lookup k' := by
  simp only [List.lookup_cons]
  by_cases h : k' = k
  · simp [h]
  · have e : (k' == k) = false := beq_eq_false_iff_ne.2 h
    simp [h, e]

section
variable {P : Program} {G : Gl} {E : Env} {X : RX} {a : Act}

theorem RepL.set {X : RX} {l : List AV} {vs : List Value} (h : RepL X l vs) (d : Nat) {av : AV} {v : Value} (hr : Rep X av v) : RepL X (l.set d av) (vs.set d v) := by
  refine ⟨by simp [h.1], fun i b u hb hu => ?_⟩
  rw [List.getElem?_set] at hb hu
  have hl := h.1
  split at hb
  · rename_i e
    rw [if_pos e] at hu
    subst e
    split at hb
    · split at hu
      · cases hb; cases hu; exact hr
      · cases hu
    · cases hb
  · rename_i e
    rw [if_neg e] at hu
    exact h.2 i b u hb hu

theorem RepT.set {X : RX} {k : Nat} {l : List (Nat × AV)} {ts : Array Value} (h : RepT X k l ts) (d : Nat) {av : AV} {v : Value} (hr : Rep X av v) : RepT X k (if d < k then (d, av) :: l else l) (ts.setIfInBounds d v) := by
  refine ⟨by simpa using h.1, fun i b hb => ?_⟩
  have hk := h.1
  by_cases hd : d < k
  · rw [if_pos hd, lookup_cons] at hb
    split at hb
    · rename_i e
      subst e
      cases hb
      exact ⟨v, by rw [Array.getElem?_setIfInBounds]; simp; omega, hr⟩
    · rename_i e
      obtain ⟨u, h1, h2⟩ := h.2 i b hb
      exact ⟨u, by rw [Array.getElem?_setIfInBounds, if_neg (Ne.symm e)]; exact h1, h2⟩
  · rw [if_neg hd] at hb
    obtain ⟨u, h1, h2⟩ := h.2 i b hb
    have hlt := (Array.getElem?_eq_some_iff.1 h1).1
    exact ⟨u, by rw [Array.getElem?_setIfInBounds, if_neg (by omega)]; exact h1, h2⟩
theorem Sat.put (h : Sat G E X a) (d : Option Nat) {av : AV} {v : Value} (hr : Rep X av v) : Sat G (E.set d av) X (a.put d v) := by
  cases d with
  | none => exact h
  | some d =>
    have := h.tm.set d hr
    simp only [Env.set, Act.put]
    split
    · rename_i hd; rw [if_pos hd] at this; exact ⟨h.n, h.inv, this, h.df, h.kp⟩
    · rename_i hd; rw [if_neg hd] at this; exact ⟨h.n, h.inv, this, h.df, h.kp⟩

theorem RepL.up {X X' : RX} (hle : RX.le (fun _ => False) X X') {l : List AV} {vs : List Value} (h : RepL X l vs) : RepL X' l vs := ⟨h.1, fun i a v ha hv => (h.2 i a v ha hv).up hle⟩
theorem RepT.up {X X' : RX} (hle : RX.le (fun _ => False) X X') {k : Nat} {l : List (Nat × AV)} {vs : Array Value} (h : RepT X k l vs) : RepT X' k l vs := ⟨h.1, fun i a ha => (h.2 i a ha).imp fun v hv => ⟨hv.1, hv.2.up hle⟩⟩
theorem RepE.up {X X' : RX} (hle : RX.le (fun _ => False) X X') {s : Nat} {l : List AV} {xs : List Value} (h : RepE X s l xs) : RepE X' s l xs := ⟨h.1, h.2.1, fun j a i q v hj hi hv => (h.2.2 j a i q v hj hi hv).up hle⟩
theorem RepE.le {U : Nat → Prop} {X X' : RX} (hle : RX.le U X X') {s : Nat} {l : List AV} {xs : List Value} (h : RepE X s l xs) : RepE X' s l xs :=
  ⟨h.1, h.2.1, fun j a i q v hj hi hv => (h.2.2 j a i q v hj hi hv).mono hle (AV.apart_pure U q (AV.pure_cells ((AV.pureL_iff l).1 h.1 a (List.mem_of_getElem? hj)) q (List.mem_of_getElem? hi)))⟩

theorem Frame.trans {G : Gl} {w w' : World} (h : Frame G w) (ho : w'.os = w.os) (ht : w'.tape = w.tape) (hp : w'.output = w.output) (hs : w.heap.size ≤ w'.heap.size) (hb : ∀ k, k < w.heap.size → ¬ G.mine k → w'.heap[k]? = w.heap[k]?) : Frame G w' :=
  ⟨ho.trans h.os, ht.trans h.tape, hp.trans h.output, Nat.le_trans h.size hs, fun k hk hl => (hb k (Nat.lt_of_lt_of_le hk h.size) (fun hm => by rcases hm with hm | hm; exact hl hm; omega)).trans (h.block k hk hl)⟩

theorem BoxOk.up {X' : RX} {b : Nat} {B : Bx} (hle : RX.le (fun _ => False) X X') (h : BoxOk G X b B) (hF : ¬ X'.F (X.β b)) (hh : X'.w.heap[X.β b]? = X.w.heap[X.β b]?) : BoxOk G X' b B := by
  obtain ⟨vs, h1, h2⟩ := h.cells
  have e := hle.β b h.lt
  exact ⟨Nat.lt_of_lt_of_le h.lt hle.n, by rw [e]; exact hF, by rw [e]; exact h.mine, vs, by rw [e, hh]; exact h1, h2.up hle⟩
theorem own_keep {w w' : World} {e : TypeId} {s : Nat} {v : Value} {n : Nat} {xs : List Value} (h : w.ownsRow 0 e s v n xs) (hh : ∀ g, v.ownBlock = some g → w'.heap[g]? = w.heap[g]?) : w'.ownsRow 0 e s v n xs := by
  refine ⟨h.1, ?_⟩
  rcases h.2 with h1 | ⟨g, cap, cur, rfl, hg, hgg, r⟩
  · exact .inl h1
  · exact .inr ⟨g, cap, cur, rfl, hg, (hh g rfl).trans hgg, r⟩
theorem RowOk.up {U : Nat → Prop} {X' : RX} {i : Nat} {R : Row} (hle : RX.le U X X') (h : RowOk G X i R) (hU : ¬ U i) (hF : ∀ g, (X.κ i).ownBlock = some g → ¬ X'.F g ∧ X'.w.heap[g]? = X.w.heap[g]?) : RowOk G X' i R := by
  obtain ⟨xs, h1, h2, h3⟩ := h.rep
  have e := hle.κ i h.lt hU
  exact ⟨Nat.lt_of_lt_of_le h.lt hle.n, by rw [e]; exact fun g hg => ⟨(hF g hg).1, (h.blk g hg).2⟩, xs, by rw [e]; exact own_keep h1 (fun g hg => (hF g hg).2), h2.le hle, h3⟩

theorem box_lt (h : Inv G X E.rows E.boxes) {b : Nat} {B : Bx} (hb : E.boxes.lookup b = some B) : X.β b < X.w.heap.size := by
  obtain ⟨vs, h1, _⟩ := (h.box b B hb).cells
  exact (Array.getElem?_eq_some_iff.1 h1).1
theorem row_lt (h : Inv G X E.rows E.boxes) {i g : Nat} {R : Row} (hi : E.rows.lookup i = some R) (hg : (X.κ i).ownBlock = some g) : g < X.w.heap.size := by
  obtain ⟨xs, h1, _⟩ := (h.row i R hi).rep
  exact (h1.lt g hg).2

/-- The world behind a new block, by the names' side. -/
def RX.grow (X : RX) (o : Obj) : RX := { X with w := X.w.alloc o, β := fun b => if b = X.n then X.w.heap.size else X.β b, κ := X.κ, n := X.n + 1 }
def RX.growR (X : RX) (o : Obj) (v : Value) : RX := { X with w := X.w.alloc o, κ := fun i => if i = X.n then v else X.κ i, n := X.n + 1 }
theorem le_grow (hF : ∀ k, X.F k → k < X.w.heap.size) (o : Obj) : RX.le (fun _ => False) X (X.grow o) :=
  ⟨fun _ h => h, fun k hk => Below.heap_alloc X.w o k (hF k hk), fun i hi _ => rfl, fun b hb => by simp [RX.grow, Nat.ne_of_lt hb], Nat.le_succ _⟩
theorem le_growR (hF : ∀ k, X.F k → k < X.w.heap.size) (o : Obj) (v : Value) : RX.le (fun _ => False) X (X.growR o v) :=
  ⟨fun _ h => h, fun k hk => Below.heap_alloc X.w o k (hF k hk), fun i hi _ => by simp [RX.growR, Nat.ne_of_lt hi], fun b hb => rfl, Nat.le_succ _⟩

/-- A new variable in memory. -/
theorem Inv.newBox (h : Inv G X E.rows E.boxes) (T : TypeId) (z : List AV) (vs : List Value) (hr : RepL (X.grow (.cells vs.toArray T)) z vs) :
    Inv G (X.grow (.cells vs.toArray T)) E.rows ((X.n, ⟨T, z⟩) :: E.boxes) := by
  have hle := le_grow (X := X) h.Flt (.cells vs.toArray T)
  have hsz : (X.w.alloc (.cells vs.toArray T)).heap.size = X.w.heap.size + 1 := by simp
  have hold : ∀ k, k < X.w.heap.size → (X.w.alloc (.cells vs.toArray T)).heap[k]? = X.w.heap[k]? := fun k hk => Below.heap_alloc X.w _ k hk
  have hbl : ∀ b B, E.boxes.lookup b = some B → b < X.n ∧ X.β b < X.w.heap.size := fun b B hb => ⟨(h.box b B hb).lt, box_lt h hb⟩
  refine ⟨h.fr.trans rfl rfl rfl (by show X.w.heap.size ≤ (X.w.alloc _).heap.size; simp) (fun k hk _ => hold k hk), fun k hk => Nat.lt_of_lt_of_le (h.Flt k hk) (by show X.w.heap.size ≤ (X.w.alloc _).heap.size; simp), h.Fold, h.Fnew, ?_, ?_, ?_, h.rr, ?_⟩
  · intro b B hb
    rw [lookup_cons] at hb
    split at hb
    · rename_i e
      subst e
      cases hb
      refine ⟨Nat.lt_succ_self _, ?_, ?_, vs, ?_, hr⟩
      · simp only [RX.grow, if_true]; exact fun hF => Nat.lt_irrefl _ (h.Flt _ hF)
      · simp only [RX.grow, if_true]; exact .inr h.fr.size
      · simp only [RX.grow, if_true]; exact heap_alloc_new X.w _
    · exact (h.box b B hb).up hle (h.box b B hb).nf (hold _ (box_lt h hb))
  · intro i R hi
    exact (h.row i R hi).up hle (fun h => h) (fun g hg => ⟨((h.row i R hi).blk g hg).1, hold _ (row_lt h hi hg)⟩)
  · intro b b' B B' hb hb' hne
    rw [lookup_cons] at hb hb'
    simp only [RX.grow]
    split at hb
    · rename_i e
      subst e
      rw [if_neg (Ne.symm hne)] at hb'
      have := hbl b' B' hb'
      simp only [if_true, Nat.ne_of_lt this.1, if_false]
      exact fun e => by omega
    · rename_i e
      have h1 := hbl b B hb
      simp only [if_neg e]
      split at hb'
      · rename_i e'
        subst e'
        simp only [if_true]
        exact fun e => by omega
      · rename_i e'
        simp only [if_neg e']
        exact h.bb b b' B B' hb hb' hne
  · intro b i B R hb hi
    rw [lookup_cons] at hb
    simp only [RX.grow]
    split at hb
    · rename_i e
      subst e
      simp only [if_true]
      exact fun e => by have := row_lt h hi e; omega
    · rename_i e
      simp only [if_neg e]
      exact h.br b i B R hb hi

/-- A new row. -/
theorem Inv.newRow (h : Inv G X E.rows E.boxes) (e : TypeId) (s : Nat) (l : List AV) (vs : List Value) (hl : vs.length = l.length * s) (hm : l.length ≤ maxLen) (h1 : ∀ u ∈ vs, u.oneCell' = true)
    (hr : RepE (X.growR (.cells vs.toArray e) (.slice (some ⟨X.w.heap.size, 0, none⟩) l.length l.length)) s l vs) :
    Inv G (X.growR (.cells vs.toArray e) (.slice (some ⟨X.w.heap.size, 0, none⟩) l.length l.length)) ((X.n, ⟨e, s, l, false⟩) :: E.rows) E.boxes := by
  have hle := le_growR (X := X) h.Flt (.cells vs.toArray e) (.slice (some ⟨X.w.heap.size, 0, none⟩) l.length l.length)
  have hold : ∀ k, k < X.w.heap.size → (X.w.alloc (.cells vs.toArray e)).heap[k]? = X.w.heap[k]? := fun k hk => Below.heap_alloc X.w _ k hk
  refine ⟨h.fr.trans rfl rfl rfl (by show X.w.heap.size ≤ (X.w.alloc _).heap.size; simp) (fun k hk _ => hold k hk), fun k hk => Nat.lt_of_lt_of_le (h.Flt k hk) (by show X.w.heap.size ≤ (X.w.alloc _).heap.size; simp), h.Fold, h.Fnew, ?_, ?_, h.bb, ?_, ?_⟩
  · intro b B hb
    exact (h.box b B hb).up hle (h.box b B hb).nf (hold _ (box_lt h hb))
  · intro i R hi
    rw [lookup_cons] at hi
    split at hi
    · rename_i ee
      subst ee
      cases hi
      refine ⟨Nat.lt_succ_self _, ?_, vs, ?_, hr, h1⟩
      · simp only [RX.growR, if_true]
        intro g hg
        simp only [Value.ownBlock, Option.some.injEq] at hg
        subst hg
        exact ⟨fun hF => Nat.lt_irrefl _ (h.Flt _ hF), .inr h.fr.size⟩
      · simp only [RX.growR, if_true]
        refine ⟨hl, .inr ⟨X.w.heap.size, l.length, vs.toArray, rfl, Nat.zero_le _, heap_alloc_new X.w _, Nat.le_refl _, hm, by simpa using hl, ?_⟩⟩
        rw [← hl]; simp
    · rename_i ee
      exact (h.row i R hi).up hle (fun h => h) (fun g hg => ⟨((h.row i R hi).blk g hg).1, hold _ (row_lt h hi hg)⟩)
  · intro i i' R R' hi hi' hne g hg
    rw [lookup_cons] at hi hi'
    simp only [RX.growR] at hg ⊢
    split at hi
    · rename_i ee
      subst ee
      rw [if_neg (Ne.symm hne)] at hi'
      simp only [if_true, Value.ownBlock, Option.some.injEq] at hg
      subst hg
      rw [if_neg (Ne.symm hne)]
      exact fun e => by have := row_lt h hi' e; omega
    · rename_i ee
      rw [if_neg ee] at hg
      split at hi'
      · rename_i ee'
        subst ee'
        simp only [if_true, Value.ownBlock, ne_eq, Option.some.injEq]
        exact fun e => by have := row_lt h hi hg; omega
      · rename_i ee'
        rw [if_neg ee']
        exact h.rr i i' R R' hi hi' hne g hg
  · intro b i B R hb hi
    rw [lookup_cons] at hi
    simp only [RX.growR]
    split at hi
    · rename_i ee
      subst ee
      simp only [if_true, Value.ownBlock, ne_eq, Option.some.injEq]
      exact fun e => by have := box_lt h hb; omega
    · rename_i ee
      rw [if_neg ee]
      exact h.br b i B R hb hi

end
end Go.VV
