/- Calls, proved. -/
import Derived.Test.YtfgipdfdilafnaaV13
set_option linter.unusedSimpArgs false
set_option linter.unusedVariables false
namespace Go.VV
open Go.RowKit

theorem lookup_pickk {α : Type} (ks : List Nat) (k : Nat) (l : List (Nat × α)) : (pickk ks l).lookup k = if k ∈ ks then l.lookup k else none := by
  induction l with
  | nil => simp [pickk]
  | cons x t ih =>
    obtain ⟨k0, v⟩ := x
    simp only [pickk]
    split
    · rename_i h
      rw [lookup_cons, lookup_cons, ih]
      by_cases e : k = k0
      · subst e; simp [h]
      · simp [e]
    · rename_i h
      rw [ih, lookup_cons]
      by_cases e : k = k0
      · subst e; simp [h]
      · simp [e]
theorem lookup_dropks {α : Type} (ks : List Nat) (k : Nat) (l : List (Nat × α)) : (dropks ks l).lookup k = if k ∈ ks then none else l.lookup k := by
  induction l with
  | nil => simp [dropks]
  | cons x t ih =>
    obtain ⟨k0, v⟩ := x
    simp only [dropks]
    split
    · rename_i h
      rw [ih, lookup_cons]
      by_cases e : k = k0
      · subst e; simp [h]
      · simp [e]
    · rename_i h
      rw [lookup_cons, lookup_cons, ih]
      by_cases e : k = k0
      · subst e; simp [h]
      · simp [e]
theorem lookup_fixed (ks : List Nat) (k : Nat) (l : List (Nat × Row)) : (fixed ks l).lookup k = (l.lookup k).map fun R => if k ∈ ks then { R with fx := true } else R := by
  induction l with
  | nil => simp [fixed]
  | cons x t ih =>
    obtain ⟨k0, v⟩ := x
    simp only [fixed]
    rw [lookup_cons, lookup_cons, ih]
    by_cases e : k = k0
    · subst e; simp
    · simp [e]
theorem lookup_refix (rs : List (Nat × Row)) (n k : Nat) (l : List (Nat × Row)) : (refix rs n l).lookup k = (l.lookup k).map fun R => { R with fx := fxOf rs n k } := by
  induction l with
  | nil => simp [refix]
  | cons x t ih =>
    obtain ⟨k0, v⟩ := x
    simp only [refix]
    rw [lookup_cons, lookup_cons, ih]
    by_cases e : k = k0
    · subst e; simp
    · simp [e]
theorem mem_keys {α : Type} (k : Nat) (l : List (Nat × α)) : k ∈ keys l ↔ (l.lookup k).isSome = true := by
  induction l with
  | nil => simp [keys]
  | cons x t ih =>
    obtain ⟨k0, v⟩ := x
    simp only [keys, List.mem_cons, ih]
    rw [lookup_cons]
    by_cases e : k = k0
    · simp [e]
    · simp [e]
theorem loose_of (k : Nat) (R : Row) (l : List (Nat × Row)) (h : l.lookup k = some R) (hf : R.fx = false) : k ∈ loose l := by
  induction l with
  | nil => simp at h
  | cons x t ih =>
    obtain ⟨k0, v⟩ := x
    rw [lookup_cons] at h
    simp only [loose]
    split at h
    · rename_i e; subst e; cases h; simp [hf]
    · split
      · exact ih h
      · simp [ih h]
theorem keys_of_loose (k : Nat) (l : List (Nat × Row)) (h : k ∈ loose l) : k ∈ keys l := by
  induction l with
  | nil => simp [loose] at h
  | cons x t ih =>
    obtain ⟨k0, v⟩ := x
    simp only [loose] at h
    simp only [keys, List.mem_cons]
    split at h
    · exact .inr (ih h)
    · simp only [List.mem_cons] at h
      rcases h with h | h
      · exact .inl h
      · exact .inr (ih h)
theorem lookup_app {α : Type} (k : Nat) (l l' : List (Nat × α)) {v : α} (h : (l ++ l').lookup k = some v) : l.lookup k = some v ∨ (l.lookup k = none ∧ l'.lookup k = some v) := by
  induction l with
  | nil => exact .inr ⟨rfl, h⟩
  | cons x t ih =>
    obtain ⟨k0, u⟩ := x
    rw [List.cons_append, lookup_cons] at h
    rw [lookup_cons]
    split at h
    · rename_i e; rw [if_pos e]; exact .inl h
    · rename_i e; rw [if_neg e]; exact ih h
theorem lookup_cutB (ks : List Nat) (b : Nat) (l : List (Nat × Bx)) : (cutB ks l).lookup b = (l.lookup b).map fun B => ⟨B.T, AV.cutL ks B.c⟩ := by
  induction l with
  | nil => simp [cutB]
  | cons x t ih =>
    obtain ⟨k0, v⟩ := x
    simp only [cutB]
    rw [lookup_cons, lookup_cons, ih]
    by_cases e : b = k0
    · subst e; simp
    · simp [e]

theorem Rep.cut {X X' : RX} (ks : List Nat) (hle : RX.le (fun j => j ∈ ks) X X') {a : AV} {v : Value} (h : Rep X a v) : Rep X' (AV.cut ks a) v := by
  induction h with
  | top v => simp only [AV.cut]; exact .top v
  | nils => simp only [AV.cut]; exact .nils
  | int k n => simp only [AV.cut]; exact .int k n
  | bool b => simp only [AV.cut]; exact .bool b
  | str s => simp only [AV.cut]; exact .str s
  | sl s m f A c val hl hm hp h0 h1 h3 h2 ih => simp only [AV.cut]; exact (Rep.sl s m f A c val hl hm hp h0 h1 h3 h2).mono hle (by simp [AV.apart])
  | ag l vs hl h ih =>
    simp only [AV.cut, AV.cutL_eq]
    refine .ag _ vs (by simpa using hl) (fun k a v hk hv => ?_)
    rw [List.getElem?_map] at hk
    cases hq : l[k]? with
    | none => simp [hq] at hk
    | some q => simp only [hq, Option.map_some, Option.some.injEq] at hk; subst hk; exact ih k q v hq hv
  | tup l vs hl h ih =>
    simp only [AV.cut, AV.cutL_eq]
    refine .tup _ vs (by simpa using hl) (fun k a v hk hv => ?_)
    rw [List.getElem?_map] at hk
    cases hq : l[k]? with
    | none => simp [hq] at hk
    | some q => simp only [hq, Option.map_some, Option.some.injEq] at hk; subst hk; exact ih k q v hq hv
  | fn f l vs hl h ih =>
    simp only [AV.cut, AV.cutL_eq]
    refine .fn f _ vs (by simpa using hl) (fun k a v hk hv => ?_)
    rw [List.getElem?_map] at hk
    cases hq : l[k]? with
    | none => simp [hq] at hk
    | some q => simp only [hq, Option.map_some, Option.some.injEq] at hk; subst hk; exact ih k q v hq hv
  | own j hj ho =>
    simp only [AV.cut]
    split
    · exact .top _
    · rename_i e; exact (Rep.own j hj ho).mono hle (by simpa [AV.apart] using e)
  | ptr b off hb => simp only [AV.cut]; exact (Rep.ptr b off hb).mono hle (by simp [AV.apart])
  | eptS s m f j off ad c h hj ih => simp only [AV.cut]; exact (Rep.eptS s m f j off ad c h hj).mono hle (by simp [AV.apart])
  | eptO j s q off ad n c hi hk hj =>
    simp only [AV.cut]
    split
    · exact .top _
    · rename_i e; exact (Rep.eptO j s q off ad n c hi hk hj).mono hle (by simpa [AV.apart] using e)
  | osl j s off n ad N c c' hi hk hn hc =>
    simp only [AV.cut]
    split
    · exact .top _
    · rename_i e; exact (Rep.osl j s off n ad N c c' hi hk hn hc).mono hle (by simpa [AV.apart] using e)
  | cnd p a v h hn ih => simp only [AV.cut]; exact .cnd p _ v (fun hp => ih hp) hn
theorem RepL.subAll {X X' : RX} (ks : List Nat) (hle : RX.le (fun j => j ∈ ks) X X') {l : List AV} {vs : List Value} (h : RepL X l vs) : RepL X' (subAll ks l) vs := by
  cases ks with
  | nil => exact h.up ⟨hle.F, hle.heap, fun i hi _ => hle.κ i hi (by simp), hle.β, hle.n⟩
  | cons k ks =>
    simp only [VV.subAll, AV.cutL_eq]
    refine ⟨by simpa using h.1, fun i a v hk hv => ?_⟩
    rw [List.getElem?_map] at hk
    cases hq : l[i]? with
    | none => simp [hq] at hk
    | some q => simp only [hq, Option.map_some, Option.some.injEq] at hk; subst hk; exact (h.2 i q v hq hv).cut _ hle
theorem lookup_cutT (ks : List Nat) (b : Nat) (l : List (Nat × AV)) : (AV.cutT ks l).lookup b = (l.lookup b).map (AV.cut ks) := by
  induction l with
  | nil => simp [AV.cutT]
  | cons x t ih =>
    obtain ⟨k0, v⟩ := x
    simp only [AV.cutT]
    rw [lookup_cons, lookup_cons, ih]
    by_cases e : b = k0
    · subst e; simp
    · simp [e]
theorem RepT.subTAll {X X' : RX} (ks : List Nat) (hle : RX.le (fun j => j ∈ ks) X X') {k : Nat} {l : List (Nat × AV)} {vs : Array Value} (h : RepT X k l vs) : RepT X' k (subTAll ks l) vs := by
  cases ks with
  | nil => exact h.up ⟨hle.F, hle.heap, fun i hi _ => hle.κ i hi (by simp), hle.β, hle.n⟩
  | cons i t =>
    refine ⟨h.1, fun j b hb => ?_⟩
    simp only [VV.subTAll] at hb
    rw [lookup_cutT] at hb
    cases hq : l.lookup j with
    | none => simp [hq] at hb
    | some q =>
      simp only [hq, Option.map_some, Option.some.injEq] at hb
      subst hb
      obtain ⟨v, h1, h2⟩ := h.2 j q hq
      exact ⟨v, h1, h2.cut _ hle⟩
theorem lookup_subBAll (ks : List Nat) (b : Nat) (l : List (Nat × Bx)) : (subBAll ks l).lookup b = (l.lookup b).map fun B => ⟨B.T, subAll ks B.c⟩ := by
  cases ks with
  | nil =>
    simp only [subBAll, subAll]
    cases l.lookup b <;> rfl
  | cons k ks => simp only [subBAll, subAll]; exact lookup_cutB _ _ _

section
variable {P : Program} {G : Gl} {E : Env} {X : RX} {a : Act} {o : Oper} {mt : Mt} {K : Env → AV → Prop}

structure Part (E : Env) (C : Cx) : Prop where
  box : ∀ b B, C.boxes.lookup b = some B → E.boxes.lookup b = some B
  row : ∀ i R, C.rows.lookup i = some R → ∃ fx, E.rows.lookup i = some { R with fx := fx } ∧ (fx = true → R.fx = true)
theorem lent_part (E : Env) (args : List AV) : Part E (E.lent args) := by
  refine ⟨fun b B hb => ?_, fun i R hi => ?_⟩
  · simp only [Env.lent] at hb
    rw [lookup_pickk] at hb
    split at hb
    · exact hb
    · cases hb
  · simp only [Env.lent] at hi
    rw [lookup_fixed, lookup_pickk] at hi
    by_cases hm : i ∈ AV.ownsL args ++ lentR E.boxes (lentB E.boxes 2 args)
    · rw [if_pos hm] at hi
      cases hq : E.rows.lookup i with
      | none => simp [hq] at hi
      | some R0 =>
        simp only [hq, Option.map_some, Option.some.injEq] at hi
        subst hi
        split
        · exact ⟨R0.fx, rfl, fun _ => rfl⟩
        · exact ⟨R0.fx, rfl, fun h => h⟩
    · rw [if_neg hm] at hi
      simp at hi

theorem RowOk.fx {G : Gl} {X : RX} {i : Nat} {R : Row} {fx : Bool} (h : RowOk G X i { R with fx := fx }) (fx' : Bool) : RowOk G X i { R with fx := fx' } := ⟨h.lt, h.blk, h.rep⟩
theorem Inv.lent (h : Inv G X E.rows E.boxes) {C : Cx} (hp : Part E C) : Inv (.of X.w (lentL X C) X.F) X C.rows C.boxes := by
  refine ⟨⟨rfl, rfl, rfl, Nat.le_refl _, fun _ _ _ => rfl⟩, h.Flt, fun _ h => h, fun _ h => .inl h, ?_, ?_, ?_, ?_, ?_⟩
  · intro b B hb
    have := h.box b B (hp.box b B hb)
    exact ⟨this.lt, this.nf, .inl (.inl ⟨b, B, hb, rfl⟩), this.cells⟩
  · intro i R hi
    obtain ⟨fx, hi', _⟩ := hp.row i R hi
    have := h.row i _ hi'
    exact ⟨this.lt, fun g hg => ⟨(this.blk g hg).1, .inl (.inr ⟨i, R, hi, hg⟩)⟩, this.rep⟩
  · exact fun b b' B B' hb hb' => h.bb b b' B B' (hp.box b B hb) (hp.box b' B' hb')
  · intro i i' R R' hi hi'
    obtain ⟨fx, hi, _⟩ := hp.row i R hi
    obtain ⟨fx', hi', _⟩ := hp.row i' R' hi'
    exact h.rr i i' _ _ hi hi'
  · intro b i B R hb hi
    obtain ⟨fx, hi, _⟩ := hp.row i R hi
    exact h.br b i B _ (hp.box b B hb) hi

theorem not_lent_row (h : Inv G X E.rows E.boxes) {C : Cx} (hp : Part E C) {i g : Nat} {R : Row} (hi : E.rows.lookup i = some R) (hn : C.rows.lookup i = none) (hg : (X.κ i).ownBlock = some g) : ¬ lentL X C g := by
  rintro (⟨b, B, hb, rfl⟩ | ⟨i2, R2, h2, h3⟩)
  · exact h.br b i B R (hp.box b B hb) hi hg
  · obtain ⟨fx, h2', _⟩ := hp.row i2 R2 h2
    refine h.rr i i2 R _ hi h2' (fun e => ?_) g hg h3
    subst e
    rw [hn] at h2; cases h2
theorem not_lent_box (h : Inv G X E.rows E.boxes) {C : Cx} (hp : Part E C) {b : Nat} {B : Bx} (hb : E.boxes.lookup b = some B) (hn : C.boxes.lookup b = none) : ¬ lentL X C (X.β b) := by
  rintro (⟨b2, B2, h2, h3⟩ | ⟨i2, R2, h2, h3⟩)
  · refine h.bb b2 b B2 B (hp.box b2 B2 h2) hb (fun e => ?_) h3
    subst e
    rw [hn] at h2; cases h2
  · obtain ⟨fx, h2', _⟩ := hp.row i2 R2 h2
    exact h.br b i2 B _ hb h2' h3
theorem lent_mine (h : Inv G X E.rows E.boxes) {C : Cx} (hp : Part E C) {k : Nat} (hk : lentL X C k) : G.mine k ∧ ¬ X.F k ∧ k < X.w.heap.size := by
  rcases hk with ⟨b, B, hb, rfl⟩ | ⟨i, R, hi, hg⟩
  · have := h.box b B (hp.box b B hb)
    exact ⟨this.mine, this.nf, box_lt h (hp.box b B hb)⟩
  · obtain ⟨fx, hi', _⟩ := hp.row i R hi
    have := (h.row i _ hi').blk k hg
    exact ⟨this.2, this.1, row_lt h hi' hg⟩

theorem Sat.after (h : Sat G E X a) {C C' : Cx} (hp : Part E C) {X' : RX} (hi' : Inv (.of X.w (lentL X C) X.F) X' C'.rows C'.boxes) (hn : X'.n = E.n + 4)
    (hκ : ∀ i, i < E.n → (∀ R, C.rows.lookup i = some R → R.fx = true) → X'.κ i = X.κ i) (hβ : ∀ b, b < E.n → X'.β b = X.β b) : Sat G (E.after C C') X' a := by
  have hinv := h.inv
  have hEn := h.n
  have hFl : ∀ k, X.F k → ¬ lentL X C k := fun k hk hl => (lent_mine hinv hp hl).2.1 hk
  have hle : RX.le (fun j => j ∈ loose C.rows) X X' := by
    refine ⟨hi'.Fold, fun k hk => hi'.fr.block k (hinv.Flt k hk) (hFl k hk), fun i hi hU => hκ i (hEn ▸ hi) (fun R hR => ?_), fun b hb => hβ b (hEn ▸ hb), by omega⟩
    cases hf : R.fx with
    | true => rfl
    | false => exact (hU (loose_of i R _ hR hf)).elim
  have hmine : ∀ k, Gl.mine (Gl.of X.w (lentL X C) X.F) k → G.mine k := by
    rintro k (hk | hk)
    · exact (lent_mine hinv hp hk).1
    · exact .inr (Nat.le_trans hinv.fr.size hk)
  have hout : ∀ k, ¬ lentL X C k → k < X.w.heap.size → ¬ Gl.mine (Gl.of X.w (lentL X C) X.F) k := by
    rintro k h1 h2 (h3 | h3)
    · exact h1 h3
    · simp only at h3; omega
  have hrow : ∀ i R, (E.after C C').rows.lookup i = some R → (∃ fx, C'.rows.lookup i = some { R with fx := fx }) ∨ (E.rows.lookup i = some R ∧ C.rows.lookup i = none ∧ i < E.n ∧ X'.κ i = X.κ i) := by
    intro i R hi
    simp only [Env.after] at hi
    rcases lookup_app i _ _ hi with hi | ⟨h0, hi⟩
    · rw [lookup_refix] at hi
      cases hq : C'.rows.lookup i with
      | none => simp [hq] at hi
      | some R0 => simp only [hq, Option.map_some, Option.some.injEq] at hi; subst hi; exact .inl ⟨R0.fx, rfl⟩
    · rw [lookup_dropks] at hi
      split at hi
      · cases hi
      · rename_i hk
        rw [mem_keys] at hk
        have hnone : C.rows.lookup i = none := by cases hq : C.rows.lookup i with
          | none => rfl
          | some _ => simp [hq] at hk
        have hlt : i < E.n := hEn ▸ (hinv.row i R hi).lt
        exact .inr ⟨hi, hnone, hlt, hκ i hlt (fun R hR => by rw [hnone] at hR; cases hR)⟩
  have hbox : ∀ b B, (E.after C C').boxes.lookup b = some B → C'.boxes.lookup b = some B ∨ ∃ B0, E.boxes.lookup b = some B0 ∧ C.boxes.lookup b = none ∧ b < E.n ∧ B = ⟨B0.T, subAll (loose C.rows) B0.c⟩ := by
    intro b B hb
    rcases lookup_app b _ _ hb with hb | ⟨h0, hb⟩
    · exact .inl hb
    · rw [lookup_subBAll, lookup_dropks] at hb
      split at hb
      · simp at hb
      · rename_i hk
        rw [mem_keys] at hk
        have hnone : C.boxes.lookup b = none := by cases hq : C.boxes.lookup b with
          | none => rfl
          | some _ => simp [hq] at hk
        cases hq : E.boxes.lookup b with
        | none => simp [hq] at hb
        | some B0 =>
          simp only [hq, Option.map_some, Option.some.injEq] at hb
          exact .inr ⟨B0, rfl, hnone, hEn ▸ (hinv.box b B0 hq).lt, hb.symm⟩
  refine ⟨by simpa [Env.after] using hn, ⟨?_, hi'.Flt, fun k hk => hi'.Fold k (hinv.Fold k hk), ?_, ?_, ?_, ?_, ?_, ?_⟩, h.tm.subTAll _ hle, h.df, ?kp⟩
  case kp =>
    refine h.kp.up (by omega) (fun b hb => hβ b (hEn ▸ hb)) (fun i hi h0 hf => hκ i (hEn ▸ hi) (fun R hR => ?_)) (fun i R hi h0 hf => ?_)
    · obtain ⟨fx, h1, h2⟩ := hp.row i R hR
      exact h2 (h.kp.r i _ h1 h0 hf)
    · simp only [Env.after] at hi
      rcases lookup_app i _ _ hi with hi | ⟨_, hi⟩
      · rw [lookup_refix] at hi
        cases hq : C'.rows.lookup i with
        | none => simp [hq] at hi
        | some R0 =>
          simp only [hq, Option.map_some, Option.some.injEq] at hi
          subst hi
          refine .inl ?_
          simp only [fxOf]
          cases he : E.rows.lookup i with
          | some R1 => exact h.kp.r i R1 he h0 hf
          | none =>
            have := h.kp.n
            simp only [decide_eq_true_eq]
            omega
      · rw [lookup_dropks] at hi
        split at hi
        · cases hi
        · exact .inr ⟨R, hi, fun h => h⟩
  · exact hinv.fr.trans hi'.fr.os hi'.fr.tape hi'.fr.output hi'.fr.size (fun k hk hm => hi'.fr.block k hk (fun hl => hm (lent_mine hinv hp hl).1))
  · intro k hk
    rcases hi'.Fnew k hk with hk | hk
    · exact hinv.Fnew k hk
    · exact .inr (hmine k hk)
  · intro b B hb
    rcases hbox b B hb with hb | ⟨B0, hb0, hn0, hlt, rfl⟩
    · have := hi'.box b B hb
      exact ⟨this.lt, this.nf, hmine _ this.mine, this.cells⟩
    · have hB := hinv.box b B0 hb0
      obtain ⟨vs, h1, h2⟩ := hB.cells
      have hnl := not_lent_box hinv hp hb0 hn0
      have hsz := box_lt hinv hb0
      have hb' := hβ b hlt
      refine ⟨by omega, ?_, by rw [hb']; exact hB.mine, vs, by rw [hb', hi'.fr.block _ hsz hnl]; exact h1, h2.subAll _ hle⟩
      rw [hb']
      intro hF
      rcases hi'.Fnew _ hF with hF | hF
      · exact hB.nf hF
      · exact hout _ hnl hsz hF
  · intro i R hi
    rcases hrow i R hi with ⟨fx, hi⟩ | ⟨hi, hn0, hlt, hk⟩
    · have := hi'.row i _ hi
      exact ⟨this.lt, fun g hg => ⟨(this.blk g hg).1, hmine _ (this.blk g hg).2⟩, this.rep⟩
    · refine (hinv.row i R hi).up hle (fun hU => ?_) (fun g hg => ?_)
      · have := keys_of_loose i _ hU
        rw [mem_keys, hn0] at this
        cases this
      · have hnl := not_lent_row hinv hp hi hn0 hg
        have hsz := row_lt hinv hi hg
        refine ⟨fun hF => ?_, hi'.fr.block _ hsz hnl⟩
        rcases hi'.Fnew _ hF with hF | hF
        · exact ((hinv.row i R hi).blk g hg).1 hF
        · exact hout _ hnl hsz hF
  · intro b b' B B' hb hb' hne
    rcases hbox b B hb with hb | ⟨B0, hb0, hn0, hlt, rfl⟩ <;> rcases hbox b' B' hb' with hb' | ⟨B0', hb0', hn0', hlt', rfl⟩
    · exact hi'.bb b b' B B' hb hb' hne
    · intro e
      rw [hβ b' hlt'] at e
      exact hout _ (not_lent_box hinv hp hb0' hn0') (box_lt hinv hb0') (e ▸ (hi'.box b B hb).mine)
    · intro e
      rw [hβ b hlt] at e
      exact hout _ (not_lent_box hinv hp hb0 hn0) (box_lt hinv hb0) (e ▸ (hi'.box b' B' hb').mine)
    · rw [hβ b hlt, hβ b' hlt']
      exact hinv.bb b b' B0 B0' hb0 hb0' hne
  · intro i i' R R' hi hi2 hne g hg
    rcases hrow i R hi with ⟨fx, hi⟩ | ⟨hi, hn0, hlt, hk⟩ <;> rcases hrow i' R' hi2 with ⟨fx', hi2⟩ | ⟨hi2, hn0', hlt', hk'⟩
    · exact hi'.rr i i' _ _ hi hi2 hne g hg
    · rw [hk']
      exact fun e => hout _ (not_lent_row hinv hp hi2 hn0' e) (row_lt hinv hi2 e) ((hi'.row i _ hi).blk g hg).2
    · rw [hk] at hg
      exact fun e => hout _ (not_lent_row hinv hp hi hn0 hg) (row_lt hinv hi hg) ((hi'.row i' _ hi2).blk g e).2
    · rw [hk] at hg
      rw [hk']
      exact hinv.rr i i' R R' hi hi2 hne g hg
  · intro b i B R hb hi
    rcases hbox b B hb with hb | ⟨B0, hb0, hn0, hlt, rfl⟩ <;> rcases hrow i R hi with ⟨fx, hi⟩ | ⟨hi, hn1, hlt', hk⟩
    · exact hi'.br b i B _ hb hi
    · rw [hk]
      exact fun e => hout _ (not_lent_row hinv hp hi hn1 e) (row_lt hinv hi e) (hi'.box b B hb).mine
    · rw [hβ b hlt]
      exact fun e => hout _ (not_lent_box hinv hp hb0 hn0) (box_lt hinv hb0) ((hi'.row i _ hi).blk _ e).2
    · rw [hk, hβ b hlt]
      exact hinv.br b i B0 R hb0 hi

theorem call_sound (hs : Sat G E X a) {f : FuncId} {av : List AV} {vs : List Value} (hr : RepL X av vs) (h : Spec P f (E.lent av) E.n av fun r C' => K (E.after (E.lent av) C') r)
    (hrun : okFn P f → (execOp a.eval o).run P X.w = .ok (.enter f vs.toArray) X.w) : Acts P G X a o (lentL X (E.lent av)) K := by
  intro next Q hk
  unfold Oper.wp
  rw [hrun h.1, Oper.upon_enter]
  have hp := lent_part E av
  refine (h.2 X vs (lentL X (E.lent av)) hs.n (hs.inv.lent hp) hr).mono fun e w' hq => ?_
  obtain ⟨v, r, C', X', rfl, h1, rfl, h3, h4, h5, h6, h7⟩ := hq
  exact hk _ r v X' h1 (hs.after hp h4 h3 h6 h7) h5 ⟨h4.fr.size, fun k h1 h2 => h4.fr.block k h1 h2, fun _ b hb => h7 b (hs.n ▸ hb)⟩

theorem lentL_up (hs : Sat G E X a) {E1 : Env} {X1 : RX} {a1 : Act} {C : Cx} (h1 : Sat G E1 X1 a1) (hp : Part E1 C) (hle : RX.le (fun _ => False) X X1) (hn : E1.n = E.n) : ∀ k, lentL X1 C k → lentL X C k := by
  have e1 := hs.n
  have e2 := h1.n
  rintro k (⟨b, B, hb, rfl⟩ | ⟨i, R, hi, hg⟩)
  · have := (h1.inv.box b B (hp.box b B hb)).lt
    exact .inl ⟨b, B, hb, (hle.β b (by omega)).symm⟩
  · obtain ⟨fx, hi', _⟩ := hp.row i R hi
    have := (h1.inv.row i _ hi').lt
    exact .inr ⟨i, R, hi, by rw [← hle.κ i (by omega) (fun h => h)]; exact hg⟩
theorem frzL_n (E : Env) (ks : List Nat) : (E.frzL ks).n = E.n := by
  induction ks generalizing E with
  | nil => rfl
  | cons k t ih =>
    simp only [Env.frzL, ih]
    unfold Env.frz
    split <;> rfl

theorem vcCall_sound (hs : Sat G E X a) {f : FuncId} {args : List Opn} {ops : List Operand} (hc : compL ops = some args) {caps : List AV} {cv : List Value} (hcaps : ∀ X', RX.le (fun _ => False) X X' → RepL X' caps cv)
    (h : vcCall P mt E f args caps K) (hrun : okFn P f → (execOp a.eval o).run P X.w = .ok (.enter f (ops.map a.eval ++ cv).toArray) X.w) : Acts P G X a o (lentL X (lentOf E mt f args caps)) K := by
  simp only [vcCall, lentOf] at h
  have happ : ∀ {X' : RX} {l l' : List AV} {vs vs' : List Value}, RepL X' l vs → RepL X' l' vs' → RepL X' (l ++ l') (vs ++ vs') := by
    intro X' l l' vs vs' h h'
    refine ⟨by simp [h.1, h'.1], fun i b u hb hu => ?_⟩
    have hl := h.1
    rcases Nat.lt_or_ge i l.length with hi | hi
    · rw [List.getElem?_append_left hi] at hb
      rw [List.getElem?_append_left (by omega)] at hu
      exact h.2 i b u hb hu
    · rw [List.getElem?_append_right hi] at hb
      rw [List.getElem?_append_right (by omega), hl] at hu
      exact h'.2 _ b u hb hu
  have key : ∃ E1 X1, X1.w = X.w ∧ Sat G E1 X1 a ∧ RX.le (fun _ => False) X X1 ∧ E.toCall mt f args = E1 ∧ E1.n = E.n := by
    unfold Env.toCall
    split
    · exact ⟨E, X, rfl, hs, ⟨fun _ h => h, fun _ _ => rfl, fun _ _ _ => rfl, fun _ _ => rfl, Nat.le_refl _⟩, rfl, rfl⟩
    · obtain ⟨X1, h1, h2, h3⟩ := hs.frzL (AV.ownsL (args.map E.opd))
      exact ⟨_, X1, h1, h2, h3, rfl, frzL_n _ _⟩
  obtain ⟨E1, X1, hw, hs1, hle, e, en⟩ := key
  unfold lentOf
  rw [e] at h ⊢
  have := call_sound (o := o) hs1 (happ (compL_rep hs1 ops args hc) (hcaps X1 hle)) h (by rw [hw]; exact hrun)
  intro next Q hk
  rw [← hw]
  refine this next Q (fun E' av v X' h1 h2 h3 h4 => hk E' av v X' h1 h2 h3 ?_)
  have hup := lentL_up hs hs1 (lent_part E1 (args.map E1.opd ++ caps)) hle en
  have e1 := hs.n
  have e2 := hs1.n
  exact ⟨hw ▸ h4.1, fun k hk hn => (h4.2.1 k (hw ▸ hk) (fun hl => hn (hup k hl))).trans (by rw [hw]), fun hn b hb => (h4.2.2 (fun hl => hn (by rw [hw] at hl; exact hup _ hl)) b (by omega)).trans (hle.β b hb)⟩

theorem run_enter {f : FuncId} {fn : Func} {c : Code} (hf : P.funcs[f]? = some fn) (hname : (fn.name == "runtime.NumGoroutine") = false) (hb : fn.body = some c) {args args' : Array Value} (e : args = args') (w : World) :
    (callFunc f args).run P w = .ok (.enter f args') w := by
  have h1 : fn.name ≠ "runtime.NumGoroutine" := by simpa using hname
  simp [callFunc, hf, h1, hb, e]
theorem a_call {f : FuncId} {c : Call} {args : List Opn} (hs : Sat G E X a) (ho : o.op = .call c) (hcal : c.callee = .value (.func f)) (hargs : compL c.args.toList = some args) (h : vcE P mt E K (.call f args)) : Acts P G X a o (lentL X (lentOf E mt f args [])) K := by
  refine vcCall_sound hs hargs (cv := []) (fun X' _ => .nil) h (fun hok => ?_)
  obtain ⟨fn, b, h1, h2, h3⟩ := hok
  have e : (c.args.toList.map a.eval ++ []).toArray = c.args.map a.eval := by apply Array.ext'; simp
  unfold execOp
  simp only [ho, resolve, hcal, Deferred.ofValue, Act.eval, Sem.run_bind, Sem.run_pure, Result.andThen_ok, invoke]
  rw [e]
  exact run_enter h1 h2 h3 (by simp) X.w

end
end Go.VV
