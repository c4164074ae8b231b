/- From the law of a function to a call in any world. -/
import Derived.Test.YtfgipdfdilafnaaV22
import Derived.Below
set_option linter.unusedSimpArgs false
set_option linter.unusedVariables false
namespace Go.VV
open Go.RowKit

/-- The numbers of a slice. -/
abbrev Lint (l : List Int) : AV := .sl 1 l.length fun j => I (l[j]?.getD 0)
/-- A world as a call finds it: all that is there stays. -/
def RX.old (w : World) : RX := ⟨fun k => k < w.heap.size, fun _ => undef, fun _ => 0, w, 0⟩
theorem RX.old_inv (w : World) : Inv (.of w (fun _ => False) (fun k => k < w.heap.size)) (RX.old w) [] [] :=
  ⟨⟨rfl, rfl, rfl, Nat.le_refl _, fun _ _ _ => rfl⟩, fun _ h => h, fun _ h => h, fun _ h => .inl h, fun _ _ h => by simp at h, fun _ _ h => by simp at h, fun _ _ _ _ h => by simp at h, fun _ _ _ _ h => by simp at h, fun _ _ _ _ h => by simp at h⟩
theorem Spec.law {P : Program} {f : FuncId} {args : List AV} (h : Spec P f ⟨[], []⟩ 0 args fun r C' => r = .bool true ∧ C' = ⟨[], []⟩) {w : World} {vs : List Value} (hr : RepL (RX.old w) args vs) :
    Calls P f vs.toArray w fun e w' => e = .returned (.bool true) ∧ Below w.heap.size w w' := by
  refine (h.2 (RX.old w) vs (fun _ => False) rfl (RX.old_inv w) hr).mono fun e w' hq => ?_
  obtain ⟨v, r, C', X', rfl, ⟨rfl, rfl⟩, rfl, hn, hi, hrep, _⟩ := hq
  refine ⟨by rw [hrep.bool_inv], hi.fr.os, hi.fr.tape, hi.fr.output, hi.fr.size, fun k hk => hi.fr.block k hk (fun h => h)⟩
def IsRow (k : IntKind) (w : World) (a : Option Addr) (len cap : Nat) (zs : List Int) : Prop :=
  (a = none ∧ len = 0 ∧ cap = 0 ∧ zs = []) ∨
  ∃ x, a = some x ∧ len ≤ cap ∧ cap ≤ maxLen ∧ zs.length = cap ∧ (∀ i, i < zs.length → w.cell? (x.add i) = some (.int k (zs.getD i 0))) ∧ ∀ n ∈ zs, (Lit.int k n).wf = true
/-- A slice of numbers that came in. -/
theorem IsRow.rep {w : World} {a : Option Addr} {len cap : Nat} {zs : List Int} (h : IsRow .i64 w a len cap zs) :
    Rep (RX.old w) (Lint (zs.take len)) (.slice a len cap) ∧ (∀ x ∈ zs.take len, (Lit.int .i64 x).wf = true) ∧ (zs.take len).length = len := by
  rcases h with ⟨rfl, rfl, rfl, rfl⟩ | ⟨x, rfl, hl, hm, hz, hc, hw⟩
  · refine ⟨?_, by simp, by simp⟩
    exact Rep.sl (X := RX.old w) 1 0 (fun j => I (([] : List Int)[j]?.getD 0)) none 0 (fun _ _ => undef) (by omega) (by omega) (fun j hj => by omega) (fun h => by omega) (fun j hj => by omega) (fun j i q hj => by omega) (fun j i q hj => by omega)
  · have hlen : (zs.take len).length = len := by simp; omega
    refine ⟨?_, fun y hy => hw y (List.mem_of_mem_take hy), hlen⟩
    have key := Rep.sl (X := RX.old w) 1 len (fun j => I ((zs.take len)[j]?.getD 0)) (some x) cap (fun j i => .int .i64 ((zs.take len)[j]?.getD 0)) hl (by simp only [maxLen] at hm; omega) (fun j hj => rfl)
      (fun h0 => ⟨x, rfl, ?_, fun j i q hj hi => ?_⟩) (fun j hj => rfl) (fun j i q hj hi => rfl) (fun j i q hj hi => ?_)
    · show Rep _ (.sl 1 (zs.take len).length _) _
      rw [hlen]
      exact key
    · have := hc 0 (by omega)
      rw [Addr.add_zero'] at this
      by_cases hb : x.block < w.heap.size
      · exact hb
      · exfalso
        unfold World.cell? at this
        rw [Array.getElem?_eq_none (by omega)] at this
        simp at this
    · have hi0 : i = 0 := by
        have := (List.getElem?_eq_some_iff.1 hi).1
        simp [AV.cells] at this
        omega
      subst hi0
      have := hc j (by omega)
      rw [Nat.mul_one, Nat.add_zero]
      show w.cell? (x.add j) = _
      rw [this, List.getElem?_take, if_pos hj, List.getD_eq_getElem?_getD]
    · have hi0 : i = 0 := by
        have := (List.getElem?_eq_some_iff.1 hi).1
        simp [AV.cells] at this
        omega
      subst hi0
      simp only [AV.cells, List.getElem?_cons_zero, Option.some.injEq] at hi
      subst hi
      exact .int _ _
theorem RepL.one {X : RX} {a : AV} {v : Value} (h : Rep X a v) : RepL X [a] [v] := .cons h .nil

end Go.VV
