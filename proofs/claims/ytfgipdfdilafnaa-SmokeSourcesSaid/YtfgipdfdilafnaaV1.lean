/- Values, resources and what they say of a world: the ground of a calculus over the loaded program. -/
import Derived.WalkKit
import Derived.Below
import Derived.Maps.AppendAt
namespace Go.VV
open Go.RowKit

/-- An abstract value. -/
inductive AV where
  | top
  | nils
  | int (k : IntKind) (n : Int)
  | bool (b : Bool)
  | str (s : ByteArray)
  | sl (s n : Nat) (f : Nat → AV)
  | ag (l : List AV)
  | own (i : Nat)
  | ptr (b off : Nat)
  | ept (x : AV) (s j off : Nat)
  | osl (i s off n : Nat)
  | fn (f : FuncId) (caps : List AV)
  | tup (l : List AV)
  | cnd (p : Prop) (a : AV)
  deriving Inhabited

def AV.cells : AV → List AV
  | .ag l => l
  | a => [a]

mutual
/-- No resource is named. -/
def AV.pure : AV → Bool
  | .int _ _ | .bool _ | .str _ | .nils => true
  | .sl _ _ _ => true
  | .ag l => AV.pureL l
  | _ => false
def AV.pureL : List AV → Bool
  | [] => true
  | a :: t => AV.pure a && AV.pureL t
end
mutual
/-- 'own i' turned into r. -/
def AV.sub (i : Nat) (r : AV) : AV → AV
  | .own j => if j = i then r else .own j
  | .ag l => .ag (AV.subL i r l)
  | .tup l => .tup (AV.subL i r l)
  | .fn f l => .fn f (AV.subL i r l)
  | .ept (.own j) s q o => if j = i then .top else .ept (.own j) s q o
  | .osl j s o n => if j = i then .top else .osl j s o n
  | .cnd p a => .cnd p (AV.sub i r a)
  | .top => .top
  | .nils => .nils
  | .int k n => .int k n
  | .bool b => .bool b
  | .str s => .str s
  | .sl s n f => .sl s n f
  | .ptr b o => .ptr b o
  | .ept x s q o => .ept x s q o
def AV.subL (i : Nat) (r : AV) : List AV → List AV
  | [] => []
  | a :: t => AV.sub i r a :: AV.subL i r t
end
theorem AV.pureL_iff (l : List AV) : AV.pureL l = true ↔ ∀ a ∈ l, a.pure = true := by
  induction l with
  | nil => simp [AV.pureL]
  | cons a t ih => simp [AV.pureL, ih]
theorem AV.pureL_map {α : Type} (f : α → AV) (l : List α) (h : ∀ a ∈ l, (f a).pure = true) : AV.pureL (l.map f) = true := by
  rw [AV.pureL_iff]
  intro a ha
  obtain ⟨x, hx, rfl⟩ := List.mem_map.1 ha
  exact h x hx
theorem AV.subL_eq (i : Nat) (r : AV) (l : List AV) : AV.subL i r l = l.map (AV.sub i r) := by
  induction l with
  | nil => simp [AV.subL]
  | cons a t ih => simp [AV.subL, ih]

/-- What abstract values speak of: frozen blocks, rows' values, boxes' blocks, a world, a bound of the names. -/
structure RX where
  F : Nat → Prop
  κ : Nat → Value
  β : Nat → Nat
  w : World
  n : Nat

inductive Rep (X : RX) : AV → Value → Prop
  | top (v : Value) : Rep X .top v
  | nils : Rep X .nils (.slice none 0 0)
  | int (k : IntKind) (n : Int) : Rep X (.int k n) (.int k n)
  | bool (b : Bool) : Rep X (.bool b) (.bool b)
  | str (s : ByteArray) : Rep X (.str s) (.string s)
  | sl (s n : Nat) (f : Nat → AV) (A : Option Addr) (c : Nat) (val : Nat → Nat → Value) (hl : n ≤ c) (hm : n ≤ 9223372036854775807) (hp : ∀ j, j < n → (f j).pure = true)
      (h0 : 0 < n → ∃ ad, A = some ad ∧ X.F ad.block ∧ ∀ (j i : Nat) (q : AV), j < n → (f j).cells[i]? = some q → X.w.cell? (ad.add (j * s + i)) = some (val j i))
      (h1 : ∀ j, j < n → (f j).cells.length = s)
      (h3 : ∀ (j i : Nat) (q : AV), j < n → (f j).cells[i]? = some q → (val j i).oneCell' = true)
      (h2 : ∀ (j i : Nat) (q : AV), j < n → (f j).cells[i]? = some q → Rep X q (val j i)) : Rep X (.sl s n f) (.slice A n c)
  | ag (l : List AV) (vs : List Value) (hl : vs.length = l.length) (h : ∀ (i : Nat) (a : AV) (v : Value), l[i]? = some a → vs[i]? = some v → Rep X a v) : Rep X (.ag l) (.agg vs.toArray)
  | tup (l : List AV) (vs : List Value) (hl : vs.length = l.length) (h : ∀ (i : Nat) (a : AV) (v : Value), l[i]? = some a → vs[i]? = some v → Rep X a v) : Rep X (.tup l) (.tuple vs.toArray)
  | fn (f : FuncId) (l : List AV) (vs : List Value) (hl : vs.length = l.length) (h : ∀ (i : Nat) (a : AV) (v : Value), l[i]? = some a → vs[i]? = some v → Rep X a v) : Rep X (.fn f l) (.func (.func f) #[] vs.toArray)
  | own (i : Nat) (hi : i < X.n) (ho : (X.κ i).oneCell' = true) : Rep X (.own i) (X.κ i)
  | ptr (b off : Nat) (hb : b < X.n) : Rep X (.ptr b off) (.pointer (some ⟨X.β b, off, none⟩))
  | eptS (s n : Nat) (f : Nat → AV) (j off : Nat) (ad : Addr) (c : Nat) (h : Rep X (.sl s n f) (.slice (some ad) n c)) (hj : j < n) : Rep X (.ept (.sl s n f) s j off) (.pointer (some (ad.add (j * s + off))))
  | eptO (i s j off : Nat) (ad : Addr) (n c : Nat) (hi : i < X.n) (hk : X.κ i = .slice (some ad) n c) (hj : j < n) : Rep X (.ept (.own i) s j off) (.pointer (some (ad.add (j * s + off))))
  | osl (i s off n : Nat) (ad : Addr) (N c c' : Nat) (hi : i < X.n) (hk : X.κ i = .slice (some ad) N c) (hn : off + n ≤ N) (hc : n ≤ c') : Rep X (.osl i s off n) (.slice (some (ad.add (off * s))) n c')
  | cnd (p : Prop) (a : AV) (v : Value) (h : p → Rep X a v) (hn : ¬ p → v = undef) : Rep X (.cnd p a) v

def RepL (X : RX) (l : List AV) (vs : List Value) : Prop := vs.length = l.length ∧ ∀ (i : Nat) (a : AV) (v : Value), l[i]? = some a → vs[i]? = some v → Rep X a v

/-- X' knows all that X knows, but for the rows named in U. -/
structure RX.le (U : Nat → Prop) (X X' : RX) : Prop where
  F : ∀ k, X.F k → X'.F k
  heap : ∀ k, X.F k → X'.w.heap[k]? = X.w.heap[k]?
  κ : ∀ i, i < X.n → ¬ U i → X'.κ i = X.κ i
  β : ∀ b, b < X.n → X'.β b = X.β b
  n : X.n ≤ X'.n

mutual
/-- The value names no row of U. -/
def AV.apart (U : Nat → Prop) : AV → Prop
  | .own i => ¬ U i
  | .ag l => AV.apartL U l
  | .tup l => AV.apartL U l
  | .fn _ l => AV.apartL U l
  | .ept x _ _ _ => AV.apart U x
  | .osl i _ _ _ => ¬ U i
  | .cnd _ a => AV.apart U a
  | _ => True
def AV.apartL (U : Nat → Prop) : List AV → Prop
  | [] => True
  | a :: t => AV.apart U a ∧ AV.apartL U t
end
theorem AV.apartL_iff (U : Nat → Prop) (l : List AV) : AV.apartL U l ↔ ∀ a ∈ l, a.apart U := by
  induction l with
  | nil => simp [AV.apartL]
  | cons a t ih => simp [AV.apartL, ih]
theorem AV.apartL_get {U : Nat → Prop} {l : List AV} (h : AV.apartL U l) {i : Nat} {a : AV} (hi : l[i]? = some a) : a.apart U :=
  (AV.apartL_iff U l).1 h a (List.mem_of_getElem? hi)

theorem AV.pure_cells {a : AV} (h : a.pure = true) : ∀ q ∈ a.cells, q.pure = true := by
  intro q hq
  cases a
  case ag l => exact (AV.pureL_iff l).1 (by simpa [AV.pure] using h) q hq
  all_goals (simp only [AV.cells, List.mem_singleton] at hq; subst hq; exact h)
theorem AV.apart_pure (U : Nat → Prop) (q : AV) : q.pure = true → q.apart U := by
  induction q using AV.rec (motive_2 := fun l => AV.pureL l = true → AV.apartL U l) with
  | top => intro h; simp [AV.pure] at h
  | nils => intro _; simp [AV.apart]
  | int | bool | str => intro _; simp [AV.apart]
  | sl s n f ih => intro _; simp [AV.apart]
  | ag l ih => intro h; simp only [AV.apart]; exact ih (by simpa [AV.pure] using h)
  | own i => intro h; simp [AV.pure] at h
  | ptr b o => intro h; simp [AV.pure] at h
  | ept x s j o ih => intro h; simp [AV.pure] at h
  | osl i s o n => intro h; simp [AV.pure] at h
  | fn f l ih => intro h; simp [AV.pure] at h
  | tup l ih => intro h; simp [AV.pure] at h
  | cnd p a ih => intro h; simp [AV.pure] at h
  | nil => trivial
  | cons a t ha ht => rename_i h; simp only [AV.pureL, Bool.and_eq_true] at h; exact ⟨ha h.1, ht h.2⟩
theorem cell_of_heap {w w' : World} {a : Addr} {v : Value} (h : w'.heap[a.block]? = w.heap[a.block]?) (hc : w.cell? a = some v) : w'.cell? a = some v := (World.cell?_of_block h).trans hc
theorem add_block (a : Addr) (n : Nat) : (a.add n).block = a.block := by unfold Addr.add; split <;> rfl

/-- Pure values lean on what is frozen alone. -/
theorem Rep.mono {U : Nat → Prop} {X X' : RX} (hle : RX.le U X X') {a : AV} {v : Value} (h : Rep X a v) : a.apart U → Rep X' a v := by
  induction h with
  | top v => exact fun _ => .top v
  | nils => exact fun _ => .nils
  | int k n => exact fun _ => .int k n
  | bool b => exact fun _ => .bool b
  | str s => exact fun _ => .str s
  | sl s n f A c val hl hm hp h0 h1 h3 h2 ih =>
    intro _
    refine .sl s n f A c val hl hm hp (fun hn => ?_) h1 h3 (fun j i q hj hi => ih j i q hj hi ?_)
    · obtain ⟨ad, e, hF, hc⟩ := h0 hn
      exact ⟨ad, e, hle.F _ hF, fun j i q hj hi => cell_of_heap (by rw [add_block]; exact hle.heap _ hF) (hc j i q hj hi)⟩
    · exact AV.apart_pure U q (AV.pure_cells (hp j hj) q (List.mem_of_getElem? hi))
  | ag l vs hl h ih => exact fun ha => .ag l vs hl (fun i a v hi hv => ih i a v hi hv (AV.apartL_get (by simpa [AV.apart] using ha) hi))
  | tup l vs hl h ih => exact fun ha => .tup l vs hl (fun i a v hi hv => ih i a v hi hv (AV.apartL_get (by simpa [AV.apart] using ha) hi))
  | fn f l vs hl h ih => exact fun ha => .fn f l vs hl (fun i a v hi hv => ih i a v hi hv (AV.apartL_get (by simpa [AV.apart] using ha) hi))
  | own i hi ho =>
    intro ha
    have e := hle.κ i hi (by simpa [AV.apart] using ha)
    rw [← e]
    exact .own i (Nat.lt_of_lt_of_le hi hle.n) (by rw [e]; exact ho)
  | ptr b off hb =>
    intro _
    rw [← hle.β b hb]
    exact .ptr b off (Nat.lt_of_lt_of_le hb hle.n)
  | eptS s n f j off ad c h hj ih => exact fun _ => Rep.eptS s n f j off ad c (ih (by simp [AV.apart])) hj
  | eptO i s j off ad n c hi hk hj =>
    intro ha
    have hk' := hle.κ i hi (by simpa [AV.apart] using ha)
    exact .eptO i s j off ad n c (Nat.lt_of_lt_of_le hi hle.n) (hk'.trans hk) hj
  | osl i s off n ad N c c' hi hk hn hc =>
    intro ha
    have hk' := hle.κ i hi (by simpa [AV.apart] using ha)
    exact .osl i s off n ad N c c' (Nat.lt_of_lt_of_le hi hle.n) (hk'.trans hk) hn hc
  | cnd p a v h hn ih => exact fun ha => .cnd p a v (fun hp => ih hp (by simpa [AV.apart] using ha)) hn

theorem AV.apart_false : ∀ a : AV, a.apart (fun _ => False) := by
  intro a
  induction a using AV.rec (motive_2 := fun l => AV.apartL (fun _ => False) l) with
  | top | nils | int | bool | str | sl | ptr => simp [AV.apart]
  | ag l ih => simp only [AV.apart]; exact ih
  | tup l ih => simp only [AV.apart]; exact ih
  | fn f l ih => simp only [AV.apart]; exact ih
  | own i => simp [AV.apart]
  | osl i s o n => simp [AV.apart]
  | ept x s j o ih => simp only [AV.apart]; exact ih
  | cnd p a ih => simp only [AV.apart]; exact ih
  | nil => exact trivial
  | cons a t ha ht => exact ⟨ha, ht⟩
theorem Rep.up {X X' : RX} (hle : RX.le (fun _ => False) X X') {a : AV} {v : Value} (h : Rep X a v) : Rep X' a v := h.mono hle (AV.apart_false a)

/-- A row's name turned into what it is now: a frozen list, or nothing. -/
theorem Rep.sub {X X' : RX} (i : Nat) (r : AV) (hle : RX.le (fun j => j = i) X X') (hr : i < X.n → Rep X' r (X.κ i)) {a : AV} {v : Value} (h : Rep X a v) : Rep X' (AV.sub i r a) v := by
  induction h with
  | top v => simp only [AV.sub]; exact .top v
  | nils => simp only [AV.sub]; exact .nils
  | int k n => simp only [AV.sub]; exact .int k n
  | bool b => simp only [AV.sub]; exact .bool b
  | str s => simp only [AV.sub]; exact .str s
  | sl s n f A c val hl hm hp h0 h1 h3 h2 ih => simp only [AV.sub]; exact (Rep.sl s n f A c val hl hm hp h0 h1 h3 h2).mono hle (by simp [AV.apart])
  | ag l vs hl h ih =>
    simp only [AV.sub, AV.subL_eq]
    refine .ag _ vs (by simpa using hl) (fun k a v hk hv => ?_)
    rw [List.getElem?_map] at hk
    cases hq : l[k]? with
    | none => simp [hq] at hk
    | some q => simp only [hq, Option.map_some, Option.some.injEq] at hk; subst hk; exact ih k q v hq hv
  | tup l vs hl h ih =>
    simp only [AV.sub, AV.subL_eq]
    refine .tup _ vs (by simpa using hl) (fun k a v hk hv => ?_)
    rw [List.getElem?_map] at hk
    cases hq : l[k]? with
    | none => simp [hq] at hk
    | some q => simp only [hq, Option.map_some, Option.some.injEq] at hk; subst hk; exact ih k q v hq hv
  | fn f l vs hl h ih =>
    simp only [AV.sub, AV.subL_eq]
    refine .fn f _ vs (by simpa using hl) (fun k a v hk hv => ?_)
    rw [List.getElem?_map] at hk
    cases hq : l[k]? with
    | none => simp [hq] at hk
    | some q => simp only [hq, Option.map_some, Option.some.injEq] at hk; subst hk; exact ih k q v hq hv
  | own j hj ho =>
    simp only [AV.sub]
    split
    · rename_i e; subst e; exact hr hj
    · rename_i e; exact (Rep.own j hj ho).mono hle (by simpa [AV.apart] using e)
  | ptr b off hb => simp only [AV.sub]; exact (Rep.ptr b off hb).mono hle (by simp [AV.apart])
  | eptS s n f j off ad c h hj ih => simp only [AV.sub]; exact (Rep.eptS s n f j off ad c h hj).mono hle (by simp [AV.apart])
  | eptO j s q off ad n c hi hk hj =>
    simp only [AV.sub]
    split
    · exact .top _
    · rename_i e; exact (Rep.eptO j s q off ad n c hi hk hj).mono hle (by simpa [AV.apart] using e)
  | osl j s off n ad N c c' hi hk hn hc =>
    simp only [AV.sub]
    split
    · exact .top _
    · rename_i e; exact (Rep.osl j s off n ad N c c' hi hk hn hc).mono hle (by simpa [AV.apart] using e)
  | cnd p a v h hn ih => simp only [AV.sub]; exact .cnd p _ v (fun hp => ih hp) hn

/-! ### Resources -/
structure Row where
  e : TypeId
  s : Nat
  l : List AV
  fx : Bool := false
structure Bx where
  T : TypeId
  c : List AV
/-- Where a call began: its world, the blocks that it was lent, what was frozen. -/
structure Gl where
  w0 : World
  L : Nat → Prop
  F0 : Nat → Prop
  n0 : Nat
  β0 : Nat → Nat
  κ0 : Nat → Value
  fx : Nat → Bool
abbrev Gl.of (w : World) (L F : Nat → Prop) : Gl := ⟨w, L, F, 0, fun _ => 0, fun _ => undef, fun _ => false⟩
def Gl.mine (G : Gl) (k : Nat) : Prop := G.L k ∨ G.w0.heap.size ≤ k
structure Frame (G : Gl) (w : World) : Prop where
  os : w.os = G.w0.os
  tape : w.tape = G.w0.tape
  output : w.output = G.w0.output
  size : G.w0.heap.size ≤ w.heap.size
  block : ∀ k, k < G.w0.heap.size → ¬ G.L k → w.heap[k]? = G.w0.heap[k]?
def RepE (X : RX) (s : Nat) (l : List AV) (xs : List Value) : Prop :=
  AV.pureL l = true ∧ (∀ (j : Nat) (a : AV), l[j]? = some a → a.cells.length = s) ∧ ∀ (j : Nat) (a : AV) (i : Nat) (q : AV) (v : Value), l[j]? = some a → a.cells[i]? = some q → xs[j * s + i]? = some v → Rep X q v
structure BoxOk (G : Gl) (X : RX) (b : Nat) (B : Bx) : Prop where
  lt : b < X.n
  nf : ¬ X.F (X.β b)
  mine : G.mine (X.β b)
  cells : ∃ vs : List Value, X.w.heap[X.β b]? = some (.cells vs.toArray B.T (0, 0)) ∧ RepL X B.c vs
structure RowOk (G : Gl) (X : RX) (i : Nat) (R : Row) : Prop where
  lt : i < X.n
  blk : ∀ g, (X.κ i).ownBlock = some g → ¬ X.F g ∧ G.mine g
  rep : ∃ xs : List Value, X.w.ownsRow 0 R.e R.s (X.κ i) R.l.length xs ∧ RepE X R.s R.l xs ∧ (∀ u ∈ xs, u.oneCell' = true)
structure Inv (G : Gl) (X : RX) (rows : List (Nat × Row)) (boxes : List (Nat × Bx)) : Prop where
  fr : Frame G X.w
  Flt : ∀ k, X.F k → k < X.w.heap.size
  Fold : ∀ k, G.F0 k → X.F k
  Fnew : ∀ k, X.F k → G.F0 k ∨ G.mine k
  box : ∀ b B, boxes.lookup b = some B → BoxOk G X b B
  row : ∀ i R, rows.lookup i = some R → RowOk G X i R
  bb : ∀ b b' B B', boxes.lookup b = some B → boxes.lookup b' = some B' → b ≠ b' → X.β b ≠ X.β b'
  rr : ∀ i i' R R', rows.lookup i = some R → rows.lookup i' = some R' → i ≠ i' → ∀ g, (X.κ i).ownBlock = some g → (X.κ i').ownBlock ≠ some g
  br : ∀ b i B R, boxes.lookup b = some B → rows.lookup i = some R → (X.κ i).ownBlock ≠ some (X.β b)

end Go.VV
