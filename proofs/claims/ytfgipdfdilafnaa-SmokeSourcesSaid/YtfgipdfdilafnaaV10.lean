/- Instructions that act, proved: variables, values, rows. -/
import Derived.Test.YtfgipdfdilafnaaV9
import Derived.Great.BuildSlice
set_option linter.unusedSimpArgs false
set_option linter.unusedVariables false
namespace Go.VV
open Go.RowKit

/-- Old blocks outside M stay, and the boxes' places. -/
def Ch (M : Nat → Prop) (X X' : RX) : Prop := X.w.heap.size ≤ X'.w.heap.size ∧ (∀ k, k < X.w.heap.size → ¬ M k → X'.w.heap[k]? = X.w.heap[k]?) ∧ (¬ M X.w.heap.size → ∀ b, b < X.n → X'.β b = X.β b)
theorem Ch.same {M : Nat → Prop} {X X' : RX} (hw : X'.w = X.w) (hle : RX.le (fun _ => False) X X') : Ch M X X' := ⟨by rw [hw]; exact Nat.le_refl _, fun _ _ _ => by rw [hw], fun _ b hb => hle.β b hb⟩
theorem Ch.grow {M : Nat → Prop} (X : RX) (o : Obj) : Ch M X (X.grow o) := ⟨by simp [RX.grow], fun k hk _ => Below.heap_alloc X.w o k hk, fun _ b hb => by simp [RX.grow, Nat.ne_of_lt hb]⟩
theorem Ch.growR {X X1 : RX} (hw : X1.w = X.w) (hle : RX.le (fun _ => False) X X1) (o : Obj) (v : Value) : Ch (fun _ => False) X (X1.growR o v) :=
  ⟨by simp [RX.growR, hw], fun k hk _ => by show (X1.w.alloc o).heap[k]? = _; rw [hw]; exact Below.heap_alloc X.w o k hk, fun _ b hb => hle.β b hb⟩
theorem Ch.any {X X' : RX} (h : X.w.heap.size ≤ X'.w.heap.size) : Ch (fun _ => True) X X' := ⟨h, fun _ _ h => (h trivial).elim, fun h => (h trivial).elim⟩

/-- The operation runs to a state of K. -/
def Acts (P : Program) (G : Gl) (X : RX) (a : Act) (o : Oper) (M : Nat → Prop) (K : Env → AV → Prop) : Prop :=
  ∀ (next : Act → World → Prop) (Q : Exit → Act → World → Prop), (∀ E' av v X', K E' av → Sat G E' X' a → Rep X' av v → Ch M X X' → next (a.put o.dst v) X'.w) → o.wp P a X.w next Q

section
variable {P : Program} {G : Gl} {E : Env} {X : RX} {a : Act} {o : Oper} {mt : Mt} {M : Nat → Prop} {K : Env → AV → Prop}

theorem acts_value {v : Value} {w' : World} {E' : Env} {av : AV} {X' : RX} (hr : (execOp a.eval o).run P X.w = .ok (.value v) w') (hw : X'.w = w') (hm : Ch M X X') (hk : K E' av) (hs : Sat G E' X' a) (hv : Rep X' av v) : Acts P G X a o M K := by
  intro next Q h
  unfold Oper.wp
  rw [hr, ← hw]
  exact h E' av v X' hk hs hv hm
theorem acts_skip {w' : World} {E' : Env} {X' : RX} (hr : (execOp a.eval o).run P X.w = .ok .skip w') (hw : X'.w = w') (hm : Ch M X X') (hk : K E' .top) (hs : Sat G E' X' a) : Acts P G X a o M K := by
  intro next Q h
  unfold Oper.wp
  rw [hr, ← hw]
  exact h E' .top undef X' hk hs (.top _) hm

theorem Sat.grow (h : Sat G E X a) (T : TypeId) {z : List AV} {vs : Array Value} (hr : RepL X z vs.toList) :
    Sat G { E with boxes := (E.n, ⟨T, z⟩) :: E.boxes, n := E.n + 1 } (X.grow (.cells vs T)) a := by
  have hn := h.n
  have hle := le_grow (X := X) h.inv.Flt (.cells vs T)
  have := h.inv.newBox T z vs.toList (by simpa using hr.up hle)
  refine ⟨by simp [RX.grow, hn], ?_, h.tm.up hle, h.df, h.kp.same (Nat.le_succ _) (fun b hb => by simp [RX.grow, Nat.ne_of_lt hb]) (fun _ _ => rfl)⟩
  rw [← hn]
  simpa using this
theorem grow_ptr (h : Sat G E X a) (ob : Obj) : Rep (X.grow ob) (.ptr E.n 0) (.pointer (some ⟨X.w.heap.size, 0, none⟩)) := by
  have : Rep (X.grow ob) (.ptr E.n 0) (.pointer (some ⟨(X.grow ob).β E.n, 0, none⟩)) := .ptr _ _ (by simp [RX.grow, h.n])
  simpa [RX.grow, h.n] using this

theorem a_alloc {T : TypeId} {z : List AV} (hs : Sat G E X a) (ho : o.op = .alloc T) (hz : zeroA P T = some z) (h : vcE P mt E K (.alloc T z)) : Acts P G X a o (fun _ => False) K := by
  obtain ⟨i, zv, h1, h2, h3⟩ := zeroA_spec hz
  refine acts_value (v := .pointer (some ⟨X.w.heap.size, 0, none⟩)) (w' := X.w.alloc (.cells zv.cells T)) (X' := X.grow (.cells zv.cells T)) ?_ rfl (Ch.grow _ _) h (hs.grow T (h3 X)) (grow_ptr hs _)
  unfold execOp
  simp [ho, Instr.alloc, zeroValue, typeInfo, h1, h2, newVar, newRow]

theorem a_box {T : TypeId} {x : Operand} {x' : Opn} {n : Nat} (hs : Sat G E X a) (ho : o.op = .box T x) (hx : compO x = some x') (h : vcE P mt E K (.box T n x')) : Acts P G X a o (fun _ => False) K := by
  have hr := opd_rep hs hx
  refine acts_value (v := .pointer (some ⟨X.w.heap.size, 0, none⟩)) (w' := X.w.alloc (.cells (a.eval x).cells T)) (X' := X.grow (.cells (a.eval x).cells T)) ?_ rfl (Ch.grow _ _) h.2 (hs.grow T (hr.cells h.1)) (grow_ptr hs _)
  unfold execOp
  simp [ho, Instr.box, newVar, newRow]

end
end Go.VV
