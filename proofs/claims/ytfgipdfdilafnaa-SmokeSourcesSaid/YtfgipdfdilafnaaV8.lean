/- What a call is to keep; instructions that act. -/
import Derived.Test.YtfgipdfdilafnaaV7
set_option linter.unusedSimpArgs false
set_option linter.unusedVariables false
namespace Go.VV
open Go.RowKit

structure Cx where
  rows : List (Nat × Row)
  boxes : List (Nat × Bx)

/-- A function with a body of its own. -/
def okFn (P : Program) (f : FuncId) : Prop := ∃ fn c, P.funcs[f]? = some fn ∧ (fn.name == "runtime.NumGoroutine") = false ∧ fn.body = some c
/-- The function, called with what these values stand for and lent these resources, returns what Q says. -/
def Spec (P : Program) (f : FuncId) (C : Cx) (n : Nat) (args : List AV) (Q : AV → Cx → Prop) : Prop :=
  okFn P f ∧ ∀ (X : RX) (vs : List Value) (L : Nat → Prop), X.n = n → Inv (.of X.w L X.F) X C.rows C.boxes → RepL X args vs →
    Calls P f vs.toArray X.w fun e w' => ∃ v r C' X', e = .returned v ∧ Q r C' ∧ X'.w = w' ∧ X'.n = n + 4 ∧ Inv (.of X.w L X.F) X' C'.rows C'.boxes ∧ Rep X' r v ∧
      (∀ i, i < n → (∀ R, C.rows.lookup i = some R → R.fx = true) → X'.κ i = X.κ i) ∧ ∀ b, b < n → X'.β b = X.β b
theorem Spec.mono {P : Program} {f : FuncId} {C : Cx} {n : Nat} {args : List AV} {Q Q' : AV → Cx → Prop} (h : Spec P f C n args Q) (hq : ∀ r C', Q r C' → Q' r C') : Spec P f C n args Q' :=
  ⟨h.1, fun X vs L hn hi hr => (h.2 X vs L hn hi hr).mono fun e w' ⟨v, r, C', X', h1, h2, h3⟩ => ⟨v, r, C', X', h1, hq _ _ h2, h3⟩⟩

mutual
def AV.owns : AV → List Nat
  | .own i => [i]
  | .ag l => AV.ownsL l
  | .tup l => AV.ownsL l
  | .fn _ l => AV.ownsL l
  | _ => []
def AV.ownsL : List AV → List Nat
  | [] => []
  | a :: t => AV.owns a ++ AV.ownsL t
end
mutual
def AV.ptrs : AV → List Nat
  | .ptr b _ => [b]
  | .ag l => AV.ptrsL l
  | .tup l => AV.ptrsL l
  | .fn _ l => AV.ptrsL l
  | _ => []
def AV.ptrsL : List AV → List Nat
  | [] => []
  | a :: t => AV.ptrs a ++ AV.ptrsL t
end
def Env.frzL (E : Env) : List Nat → Env
  | [] => E
  | i :: t => (E.frz i).frzL t
section
variable {P : Program} {G : Gl} {E : Env} {X : RX} {a : Act}

theorem Sat.frzL (h : Sat G E X a) : ∀ (ks : List Nat), ∃ X', X'.w = X.w ∧ Sat G (E.frzL ks) X' a ∧ RX.le (fun _ => False) X X' := by
  intro ks
  induction ks generalizing E X with
  | nil => exact ⟨X, rfl, h, ⟨fun _ h => h, fun _ _ => rfl, fun _ _ _ => rfl, fun _ _ => rfl, Nat.le_refl _⟩⟩
  | cons i t ih =>
    obtain ⟨X1, hw1, h1, hle1⟩ := h.frz i
    obtain ⟨X2, hw2, h2, hle2⟩ := ih h1
    exact ⟨X2, hw2.trans hw1, h2, ⟨fun k hk => hle2.F k (hle1.F k hk), fun k hk => (hle2.heap k (hle1.F k hk)).trans (hle1.heap k hk), fun j hj hU => (hle2.κ j (Nat.lt_of_lt_of_le hj hle1.n) hU).trans (hle1.κ j hj hU), fun b hb => (hle2.β b (Nat.lt_of_lt_of_le hb hle1.n)).trans (hle1.β b hb), Nat.le_trans hle1.n hle2.n⟩⟩


end
end Go.VV
