/- The law of a function, used under other names; steps of a proof. -/
import Derived.Test.YtfgipdfdilafnaaV20
import Derived.Laws.BitsLemmas
set_option linter.unusedSimpArgs false
set_option linter.unusedVariables false
namespace Go.VV
open Go.RowKit

/-! ### names turned in a result -/
mutual
def AV.ren (ρ : Nat → Nat) : AV → AV
  | .own j => .own (ρ j)
  | .ptr b o => .ptr (ρ b) o
  | .ag l => .ag (AV.renL ρ l)
  | .tup l => .tup (AV.renL ρ l)
  | .fn f l => .fn f (AV.renL ρ l)
  | .ept (.own j) s q o => .ept (.own (ρ j)) s q o
  | .osl j s o n => .osl (ρ j) s o n
  | .cnd p a => .cnd p (AV.ren ρ a)
  | .top => .top
  | .nils => .nils
  | .int k n => .int k n
  | .bool b => .bool b
  | .str s => .str s
  | .sl s n f => .sl s n f
  | .ept x s q o => .ept x s q o
def AV.renL (ρ : Nat → Nat) : List AV → List AV
  | [] => []
  | a :: t => AV.ren ρ a :: AV.renL ρ t
end
theorem AV.renL_eq (ρ : Nat → Nat) (l : List AV) : AV.renL ρ l = l.map (AV.ren ρ) := by
  induction l with
  | nil => simp [AV.renL]
  | cons a t ih => simp [AV.renL, ih]
def renR (ρ : Nat → Nat) : List (Nat × Row) → List (Nat × Row)
  | [] => []
  | (k, R) :: t => (ρ k, R) :: renR ρ t
def renB (ρ : Nat → Nat) : List (Nat × Bx) → List (Nat × Bx)
  | [] => []
  | (k, B) :: t => (ρ k, ⟨B.T, AV.renL ρ B.c⟩) :: renB ρ t
def Cx.ren (C : Cx) (ρ : Nat → Nat) : Cx := ⟨renR ρ C.rows, renB ρ C.boxes⟩
theorem lookup_renR {ρ : Nat → Nat} : ∀ {l : List (Nat × Row)} {i : Nat} {R : Row}, (renR ρ l).lookup i = some R → ∃ k, ρ k = i ∧ l.lookup k = some R
  | [], i, R, h => by simp [renR] at h
  | (k, R0) :: t, i, R, h => by
    simp only [renR] at h
    rw [lookup_cons] at h
    split at h
    · rename_i e; cases h; exact ⟨k, e.symm, by rw [lookup_cons, if_pos rfl]⟩
    · rename_i e
      obtain ⟨k', h1, h2⟩ := lookup_renR h
      refine ⟨k', h1, ?_⟩
      rw [lookup_cons, if_neg (fun e2 => e (by rw [← h1, e2]))]
      exact h2
theorem lookup_renB {ρ : Nat → Nat} : ∀ {l : List (Nat × Bx)} {i : Nat} {B : Bx}, (renB ρ l).lookup i = some B → ∃ k B0, ρ k = i ∧ l.lookup k = some B0 ∧ B = ⟨B0.T, AV.renL ρ B0.c⟩
  | [], i, R, h => by simp [renB] at h
  | (k, R0) :: t, i, R, h => by
    simp only [renB] at h
    rw [lookup_cons] at h
    split at h
    · rename_i e; cases h; exact ⟨k, R0, e.symm, by rw [lookup_cons, if_pos rfl], rfl⟩
    · rename_i e
      obtain ⟨k', B0, h1, h2, h3⟩ := lookup_renB h
      refine ⟨k', B0, h1, ?_, h3⟩
      rw [lookup_cons, if_neg (fun e2 => e (by rw [← h1, e2]))]
      exact h2

theorem Rep.ren {X X' : RX} {ρ : Nat → Nat} (hF : ∀ k, X.F k → X'.F k) (hw : X'.w = X.w) (hρ : ∀ i, i < X.n → ρ i < X'.n ∧ X'.κ (ρ i) = X.κ i ∧ X'.β (ρ i) = X.β i) {a : AV} {v : Value} (h : Rep X a v) : Rep X' (AV.ren ρ a) v := by
  induction h with
  | top v => simp only [AV.ren]; exact .top v
  | nils => simp only [AV.ren]; exact .nils
  | int k n => simp only [AV.ren]; exact .int k n
  | bool b => simp only [AV.ren]; exact .bool b
  | str s => simp only [AV.ren]; exact .str s
  | sl s n f A c val hl hm hp h0 h1 h3 h2 ih => simp only [AV.ren]; exact (Rep.sl s n f A c val hl hm hp h0 h1 h3 h2).pureIn hF (fun _ _ => by rw [hw]) (by simp [AV.pure])
  | ag l vs hl h ih =>
    simp only [AV.ren, AV.renL_eq]
    refine .ag _ vs (by simpa using hl) (fun k a v hk hv => ?_)
    rw [List.getElem?_map] at hk
    cases hq : l[k]? with
    | none => simp [hq] at hk
    | some q => simp only [hq, Option.map_some, Option.some.injEq] at hk; subst hk; exact ih k q v hq hv
  | tup l vs hl h ih =>
    simp only [AV.ren, AV.renL_eq]
    refine .tup _ vs (by simpa using hl) (fun k a v hk hv => ?_)
    rw [List.getElem?_map] at hk
    cases hq : l[k]? with
    | none => simp [hq] at hk
    | some q => simp only [hq, Option.map_some, Option.some.injEq] at hk; subst hk; exact ih k q v hq hv
  | fn f l vs hl h ih =>
    simp only [AV.ren, AV.renL_eq]
    refine .fn f _ vs (by simpa using hl) (fun k a v hk hv => ?_)
    rw [List.getElem?_map] at hk
    cases hq : l[k]? with
    | none => simp [hq] at hk
    | some q => simp only [hq, Option.map_some, Option.some.injEq] at hk; subst hk; exact ih k q v hq hv
  | own j hj ho =>
    simp only [AV.ren]
    obtain ⟨h1, h2, _⟩ := hρ j hj
    rw [← h2] at ho ⊢
    exact .own _ h1 ho
  | ptr b off hb =>
    simp only [AV.ren]
    obtain ⟨h1, _, h2⟩ := hρ b hb
    rw [← h2]
    exact .ptr _ off h1
  | eptS s n f j off ad c h hj ih =>
    simp only [AV.ren] at ih ⊢
    exact .eptS s n f j off ad c ih hj
  | eptO j s q off ad n c hi hk hj =>
    simp only [AV.ren]
    obtain ⟨h1, h2, _⟩ := hρ j hi
    exact .eptO _ s q off ad n c h1 (h2.trans hk) hj
  | osl j s off n ad N c c' hi hk hn hc =>
    simp only [AV.ren]
    obtain ⟨h1, h2, _⟩ := hρ j hi
    exact .osl _ s off n ad N c c' h1 (h2.trans hk) hn hc
  | cnd p a v h hn ih => simp only [AV.ren]; exact .cnd p _ v (fun hp => ih hp) hn

/-- What is handed back, in other words. -/
theorem Spec.turn {P : Program} {f : FuncId} {C : Cx} {n : Nat} {args : List AV} {Q Q2 : AV → Cx → Prop} (h : Spec P f C n args Q)
    (hq : ∀ r C', Q r C' → ∃ r2 C2, Turn n ⟨[(0, r2)], C2.rows, C2.boxes, n + 4, 1⟩ ⟨[(0, r)], C'.rows, C'.boxes, n + 4, 1⟩ ∧ (∀ i R, C'.rows.lookup i = some R → i < n → fxAll C.rows i = true → R.fx = true) ∧ Q2 r2 C2) : Spec P f C n args Q2 := by
  refine ⟨h.1, fun X vs L hn hi hr => (h.2 X vs L hn hi hr).mono fun e w' hp => ?_⟩
  obtain ⟨v, r, C', X', rfl, hQ, rfl, hn', hinv, hrep, hκ, hβ⟩ := hp
  obtain ⟨r2, C2, ht, hfx, hQ2⟩ := hq r C' hQ
  subst hn
  let G : Gl := ⟨X.w, L, X.F, X.n, X.β, X.κ, fxAll C.rows⟩
  have hs : Sat G ⟨[(0, r)], C'.rows, C'.boxes, X.n + 4, 1⟩ X' { tmps := #[v], defers := [] } := by
    refine ⟨hn', hinv.gl rfl rfl rfl, ⟨rfl, fun i b hb => ?_⟩, rfl, ⟨by show X.n ≤ X'.n; omega, hβ, fun i hi hf => hκ i hi (fun R hR => by simpa [G, fxAll, hR] using hf), fun i R hl hi hf => hfx i R hl hi hf⟩⟩
    rw [lookup_cons] at hb
    split at hb
    · rename_i e; subst e; cases hb; exact ⟨v, rfl, hrep⟩
    · simp at hb
  obtain ⟨X2, hw2, hs2⟩ := Turn.sound hs ht
  refine ⟨v, r2, C2, X2, rfl, hQ2, hw2, hs2.n, hs2.inv.gl rfl rfl rfl, ?_, fun i hi hfx => hs2.kp.i i hi ?_, fun b hb => hs2.kp.b b hb⟩
  · obtain ⟨u, hu, hr2⟩ := hs2.tm.2 0 r2 rfl
    cases hu
    exact hr2
  · simp only [G, fxAll]
    split
    · rename_i R hR; exact hfx R hR
    · rfl

/-- Names below n by ρ; the new ones above n'. -/
def rho (n n' : Nat) (ρ : Nat → Nat) (j : Nat) : Nat := if j < n then ρ j else j - n + n'
/-- The law, at other names, with arguments that say more. -/
theorem Spec.use {P : Program} {f : FuncId} {C C' : Cx} {n n' : Nat} {args args' : List AV} {Q : AV → Cx → Prop} {Q' : AV → Cx → Prop} (h : Spec P f C n args Q) (ρ τ : Nat → Nat) (h1 : ∀ j, j < n → ρ j < n' ∧ τ (ρ j) = j)
    (ha : WkL ρ n args args') (hrow : rowsLe ρ n C.rows C'.rows) (hbox : boxesLe ρ n C.boxes C'.boxes) (hq : ∀ r C2, Q r C2 → Q' (r.ren (rho n n' ρ)) (C2.ren (rho n n' ρ))) :
    Spec P f C' n' args' Q' := by
  refine ⟨h.1, fun X' vs L hn' hinv hrep => ?_⟩
  have hr := fun i R hi => rowsLe_get hrow i R hi
  have hb := fun b B hi => boxesLe_get hbox b B hi
  have hinj : ∀ i j, i < n → j < n → ρ i = ρ j → i = j := fun i j hi hj e => by rw [← (h1 i hi).2, ← (h1 j hj).2, e]
  let X : RX := X'.ren ρ n
  have hi0 : Inv (.of X.w L X.F) X C.rows C.boxes := by
    refine ⟨⟨hinv.fr.os, hinv.fr.tape, hinv.fr.output, hinv.fr.size, hinv.fr.block⟩, hinv.Flt, hinv.Fold, hinv.Fnew, ?_, ?_, ?_, ?_, ?_⟩
    · intro b B hb'
      obtain ⟨hlt, B2, h1, h2, h3⟩ := hb b B hb'
      have hB := hinv.box _ B2 h1
      obtain ⟨vs, h4, h5⟩ := hB.cells
      exact ⟨hlt, hB.nf, hB.mine, vs, h2 ▸ h4, h3.repL h5⟩
    · intro i R hi
      obtain ⟨hlt, h1⟩ := hr i R hi
      have hR := hinv.row _ R h1
      obtain ⟨xs, h2, h3, h4⟩ := hR.rep
      refine ⟨hlt, hR.blk, xs, h2, ⟨h3.1, h3.2.1, fun j b q c v hj hc hv => ?_⟩, h4⟩
      exact Rep.pureIn (X := X') (X' := X) (fun _ h => h) (fun _ _ => rfl) (h3.2.2 j b q c v hj hc hv) (AV.pure_cells ((AV.pureL_iff _).1 h3.1 b (List.mem_of_getElem? hj)) c (List.mem_of_getElem? hc))
    · intro b b' B B' h1 h2 hne
      obtain ⟨hl, B2, h3, _⟩ := hb b B h1
      obtain ⟨hl', B2', h3', _⟩ := hb b' B' h2
      exact hinv.bb _ _ B2 B2' h3 h3' (fun e => hne (hinj _ _ hl hl' e))
    · intro i i' R R' h1 h2 hne
      exact hinv.rr _ _ R R' (hr i R h1).2 (hr i' R' h2).2 (fun e => hne (hinj _ _ (hr i R h1).1 (hr i' R' h2).1 e))
    · intro b i B R h1 h2
      obtain ⟨_, B2, h3, _⟩ := hb b B h1
      exact hinv.br _ _ B2 R h3 (hr i R h2).2
  refine (h.2 X vs L rfl hi0 (ha.repL hrep)).mono fun e w' hpost => ?_
  obtain ⟨v, r, C2, X2, rfl, hQ, rfl, hn2, hinv2, hrep2, hκ, hβ⟩ := hpost
  let κ3 : Nat → Value := fun i => if n' ≤ i then X2.κ (i - n' + n) else if τ i < n ∧ ρ (τ i) = i then X2.κ (τ i) else X'.κ i
  let β3 : Nat → Nat := fun i => if n' ≤ i then X2.β (i - n' + n) else if τ i < n ∧ ρ (τ i) = i then X2.β (τ i) else X'.β i
  let X3 : RX := ⟨X2.F, κ3, β3, X2.w, n' + 4⟩
  have hρ : ∀ i, i < X2.n → rho n n' ρ i < X3.n ∧ X3.κ (rho n n' ρ i) = X2.κ i ∧ X3.β (rho n n' ρ i) = X2.β i := by
    intro i hi
    rw [hn2] at hi
    simp only [rho]
    by_cases hlt : i < n
    · rw [if_pos hlt]
      obtain ⟨a1, a2⟩ := h1 i hlt
      refine ⟨by show _ < n' + 4; omega, ?_, ?_⟩
      · simp only [X3, κ3]; rw [if_neg (by omega), a2, if_pos ⟨hlt, rfl⟩]
      · simp only [X3, β3]; rw [if_neg (by omega), a2, if_pos ⟨hlt, rfl⟩]
    · rw [if_neg hlt]
      refine ⟨by show _ < n' + 4; omega, ?_, ?_⟩
      · simp only [X3, κ3]; rw [if_pos (by omega)]; congr 1; omega
      · simp only [X3, β3]; rw [if_pos (by omega)]; congr 1; omega
  have hren : ∀ {a : AV} {v : Value}, Rep X2 a v → Rep X3 (AV.ren (rho n n' ρ) a) v := fun hr => Rep.ren (X := X2) (X' := X3) (fun _ h => h) rfl hρ hr
  have hrenL : ∀ {l : List AV} {vs : List Value}, RepL X2 l vs → RepL X3 (AV.renL (rho n n' ρ) l) vs := by
    intro l vs hl
    refine ⟨by simpa [AV.renL_eq] using hl.1, fun k b v hb hv => ?_⟩
    rw [AV.renL_eq, List.getElem?_map] at hb
    cases hq : l[k]? with
    | none => simp [hq] at hb
    | some q => simp only [hq, Option.map_some, Option.some.injEq] at hb; subst hb; exact hren (hl.2 k q v hq hv)
  have hrow3 : ∀ i R, (renR (rho n n' ρ) C2.rows).lookup i = some R → ∃ k, k < X2.n ∧ rho n n' ρ k = i ∧ C2.rows.lookup k = some R ∧ X3.κ i = X2.κ k := by
    intro i R hi
    obtain ⟨k, e, hk⟩ := lookup_renR hi
    have := (hinv2.row k R hk).lt
    exact ⟨k, this, e, hk, e ▸ (hρ k this).2.1⟩
  have hbox3 : ∀ i B, (renB (rho n n' ρ) C2.boxes).lookup i = some B → ∃ k B0, k < X2.n ∧ rho n n' ρ k = i ∧ C2.boxes.lookup k = some B0 ∧ B = ⟨B0.T, AV.renL (rho n n' ρ) B0.c⟩ ∧ X3.β i = X2.β k := by
    intro i B hi
    obtain ⟨k, B0, e, hk, hB⟩ := lookup_renB hi
    have := (hinv2.box k B0 hk).lt
    exact ⟨k, B0, this, e, hk, hB, e ▸ (hρ k this).2.2⟩
  refine ⟨v, _, _, X3, rfl, hq r C2 hQ, rfl, rfl, ⟨?_, hinv2.Flt, hinv2.Fold, hinv2.Fnew, ?_, ?_, ?_, ?_, ?_⟩, hren hrep2, ?_, ?_⟩
  · exact ⟨hinv2.fr.os, hinv2.fr.tape, hinv2.fr.output, hinv2.fr.size, hinv2.fr.block⟩
  · intro b B hb
    obtain ⟨k, B0, hlt, e, hk, rfl, hβ3⟩ := hbox3 b B hb
    have hB := hinv2.box k B0 hk
    obtain ⟨vs, h4, h5⟩ := hB.cells
    exact ⟨by rw [← e]; exact (hρ k hlt).1, by rw [hβ3]; exact hB.nf, by rw [hβ3]; exact hB.mine, vs, by rw [hβ3]; exact h4, hrenL h5⟩
  · intro i R hi
    obtain ⟨k, hlt, e, hk, hκ3⟩ := hrow3 i R hi
    have hR := hinv2.row k R hk
    obtain ⟨xs, h2, h3, h4⟩ := hR.rep
    refine ⟨by rw [← e]; exact (hρ k hlt).1, by rw [hκ3]; exact hR.blk, xs, by rw [hκ3]; exact h2, ⟨h3.1, h3.2.1, fun j b q c v hj hc hv => ?_⟩, h4⟩
    exact Rep.pureIn (X := X2) (X' := X3) (fun _ h => h) (fun _ _ => rfl) (h3.2.2 j b q c v hj hc hv) (AV.pure_cells ((AV.pureL_iff _).1 h3.1 b (List.mem_of_getElem? hj)) c (List.mem_of_getElem? hc))
  · intro b b' B B' hb hb' hne
    obtain ⟨k, B0, hlt, e, hk, _, hβ3⟩ := hbox3 b B hb
    obtain ⟨k', B0', hlt', e', hk', _, hβ3'⟩ := hbox3 b' B' hb'
    rw [hβ3, hβ3']
    exact hinv2.bb k k' B0 B0' hk hk' (fun e2 => hne (by rw [← e, ← e', e2]))
  · intro i i' R R' hi hi' hne
    obtain ⟨k, hlt, e, hk, hκ3⟩ := hrow3 i R hi
    obtain ⟨k', hlt', e', hk', hκ3'⟩ := hrow3 i' R' hi'
    rw [hκ3, hκ3']
    exact hinv2.rr k k' R R' hk hk' (fun e2 => hne (by rw [← e, ← e', e2]))
  · intro b i B R hb hi
    obtain ⟨k, B0, hlt, e, hk, _, hβ3⟩ := hbox3 b B hb
    obtain ⟨k', hlt', e', hk', hκ3'⟩ := hrow3 i R hi
    rw [hβ3, hκ3']
    exact hinv2.br k k' B0 R hk hk'
  · intro i hi hfx
    show (if n' ≤ i then X2.κ (i - n' + n) else if τ i < n ∧ ρ (τ i) = i then X2.κ (τ i) else X'.κ i) = X'.κ i
    rw [if_neg (by omega)]
    split
    · rename_i hc
      rw [hκ (τ i) hc.1 (fun R hR => ?_)]
      · show X'.κ (ρ (τ i)) = _
        rw [hc.2]
      · have := (hr _ R hR).2
        rw [hc.2] at this
        exact hfx R this
    · rfl
  · intro i hi
    show (if n' ≤ i then X2.β (i - n' + n) else if τ i < n ∧ ρ (τ i) = i then X2.β (τ i) else X'.β i) = X'.β i
    rw [if_neg (by omega)]
    split
    · rename_i hc
      rw [hβ (τ i) hc.1]
      show X'.β (ρ (τ i)) = _
      rw [hc.2]
    · rfl

end Go.VV
