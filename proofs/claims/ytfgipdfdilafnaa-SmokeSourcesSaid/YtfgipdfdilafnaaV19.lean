/- Whole functions. -/
import Derived.Test.YtfgipdfdilafnaaV18
import Derived.Deep.LoopGhost
set_option linter.unusedSimpArgs false
set_option linter.unusedVariables false
set_option linter.unnecessarySimpa false
namespace Go.VV
open Go.RowKit

inductive C where
  | skip
  | ops (ios : List Iop)
  | drw (t : T)
  | seq (x y : C)
  | cond (c : Opn) (x y : C)
  | block (id : Nat) (x : C)
  | loop (x : C)
  | exit (id : Nat)
  | ret
  | dead
/-- A region that ends in a panic: it is to be shown that nothing gets there. -/
def panics (ops : Array Oper) : Bool := ops.any fun o => match o.op with | .panic _ => true | _ => false
def comp (P : Program) (sch : Nat → List Nat × Sch) : Code → Option C
  | .skip => some .skip
  | .region id ops draw => match compIOs P ops ops.toList with
    | some ios =>
      if draw then
        if Region.noSelect ops && schOk .any ops (sch id).1 ops.size (Array.replicate ops.size false) (sch id).2 && (sch id).2.lzs.all (lzB .any ops ios) then (lay ios (sch id).1 (sch id).2).map .drw else none
      else some (.ops ios)
    | none => if panics ops then some .dead else none
  | .seq x y => match comp P sch x, comp P sch y with
    | some x', some y' => some (.seq x' y')
    | _, _ => none
  | .cond c x y => match compO c, comp P sch x, comp P sch y with
    | some c', some x', some y' => some (.cond c' x' y')
    | _, _, _ => none
  | .block id x => (comp P sch x).map (.block id)
  | .loop x => (comp P sch x).map .loop
  | .exit id => some (.exit id)
  | .ret => some .ret
  | _ => none

/-- A loop: states by number, a number that falls. -/
def Loop (n0 : Nat) (body : (Env → Prop) → Env → Prop) (E : Env) : Prop :=
  ∃ (σ : Type) (T : σ → Env) (μ : σ → Nat), (∃ s, Turn n0 (T s) E) ∧ ∀ s, body (fun E' => ∃ s', μ s' < μ s ∧ Turn n0 (T s') E') (T s)
def vc (P : Program) (mt : Mt) (n0 : Nat) : C → (Env → Prop) → (Nat → Env → Prop) → (Env → Prop) → Env → Prop
  | .skip, N, _, _, E => N E
  | .ops ios, N, _, _, E => vcOps P mt N ios E
  | .drw t, N, _, _, E => ∃ ub, vcT P mt ub N t E
  | .seq x y, N, Xt, R, E => ∃ (σ : Type) (J : σ → Env), vc P mt n0 x (fun E => vc P mt n0 y N Xt R E ∨ ∃ s, Turn n0 (J s) E) Xt R E ∧ ∀ s, vc P mt n0 y N Xt R (J s)
  | .cond c x y, N, Xt, R, E => (E.opd c).un True fun c => match c with
    | .bool b => (b = true → vc P mt n0 x N Xt R E) ∧ (b = false → vc P mt n0 y N Xt R E)
    | _ => False
  | .block id x, N, Xt, R, E => ∃ (σ : Type) (J : σ → Env), vc P mt n0 x (fun E => N E ∨ ∃ s, Turn n0 (J s) E) (fun i E => if i = id then N E ∨ ∃ s, Turn n0 (J s) E else Xt i E) R E ∧ ∀ s, N (J s)
  | .loop x, _, Xt, R, E => Loop n0 (fun N E => vc P mt n0 x N Xt R E) E
  | .exit id, _, Xt, _, E => Xt id E
  | .ret, _, _, R, E => R E
  | .dead, _, _, _, _ => False

def QX (G : Gl) (N : Env → Prop) (Xt : Nat → Env → Prop) (R : Env → Prop) : Exit → Act → World → Prop := fun e a w => ∃ E X, X.w = w ∧ Sat G E X a ∧ match e with
  | .normal => N E
  | .exit id => Xt id E
  | .ret => R E
  | _ => False

theorem compO_const {x : Operand} {x' : Opn} (h : compO x = some x') : True := trivial

section
variable {P : Program} {G : Gl} {mt : Mt}

theorem Sat.drew {E : Env} {X : RX} {a : Act} (h : Sat G E X a) : Sat G E { X with w := X.w.drew } a := by
  have hle : RX.le (fun _ => False) X { X with w := X.w.drew } := ⟨fun _ h => h, fun _ _ => rfl, fun _ _ _ => rfl, fun _ _ => rfl, Nat.le_refl _⟩
  refine ⟨h.n, ⟨h.inv.fr.trans rfl rfl rfl (Nat.le_refl _) (fun _ _ _ => rfl), h.inv.Flt, h.inv.Fold, h.inv.Fnew, fun b B hb => (h.inv.box b B hb).up hle (h.inv.box b B hb).nf rfl, fun i R hi => (h.inv.row i R hi).up hle (fun h => h) (fun g hg => ⟨((h.inv.row i R hi).blk g hg).1, rfl⟩), h.inv.bb, h.inv.rr, h.inv.br⟩, h.tm.up hle, h.df, h.kp.same (Nat.le_refl _) (fun _ _ => rfl) (fun _ _ => rfl)⟩

theorem vc_sound (hm : P.follows .mixedOrders = true) (sch : Nat → List Nat × Sch) : ∀ (c0 : Code) (c : C) (N : Env → Prop) (Xt : Nat → Env → Prop) (R : Env → Prop) (E : Env) (X : RX) (a : Act),
    comp P sch c0 = some c → Sat G E X a → vc P mt G.n0 c N Xt R E → c0.wp P (QX G N Xt R) a X.w := by
  intro c0
  induction c0 with
  | skip =>
    intro c N Xt R E X a hc hs h
    simp only [comp, Option.some.injEq] at hc
    subst hc
    exact wp_skip ⟨E, X, rfl, hs, h⟩
  | region id ops draw =>
    intro c N Xt R E X a hc hs h
    simp only [comp] at hc
    cases hios : compIOs P ops ops.toList with
    | none =>
      simp only [hios] at hc
      split at hc
      · simp only [Option.some.injEq] at hc
        subst hc
        exact h.elim
      · cases hc
    | some ios =>
      simp only [hios] at hc
      cases draw with
      | false =>
        simp only [Bool.false_eq_true, if_false, Option.some.injEq] at hc
        subst hc
        exact wp_region_list (vcOps_sound (Qe := N) (fun E' X' a' h1 h2 => ⟨E', X', rfl, h2, h1⟩) hios hs h)
      | true =>
        simp only [if_true] at hc
        split at hc
        · rename_i hok
          simp only [Bool.and_eq_true] at hok
          cases hl : lay ios (sch id).1 (sch id).2 with
          | none => simp [hl] at hc
          | some t =>
            simp only [hl, Option.map_some, Option.some.injEq] at hc
            subst hc
            obtain ⟨ub, h⟩ := h
            have := vcT_sound (Q := QX G N Xt R) (Qe := N) (fun E' X' a' h1 h2 => ⟨E', X', rfl, h2, h1⟩) (fun c a w h => by obtain ⟨_, _, _, _, h⟩ := h; exact h) hok.1.1 hios (sch id).2 ops.size ops.size _ _ [] t E _ a _ hok.1.2 hl (fun z hz => List.all_eq_true.1 hok.2 z hz) ⟨Sub.refl _, hs.drew, Rel.refl _, by simp, by simp, by simp⟩ rfl h
            exact wp_region_any hm (wpAny_of_X _ _ _ _ _ this)
        · cases hc
  | seq x y ihx ihy =>
    intro c N Xt R E X a hc hs h
    simp only [comp] at hc
    cases hx : comp P sch x with
    | none => simp [hx] at hc
    | some x' =>
      cases hy : comp P sch y with
      | none => simp [hx, hy] at hc
      | some y' =>
        simp only [hx, hy, Option.some.injEq] at hc
        subst hc
        obtain ⟨σ, J, h, hJ⟩ := h
        refine wp_seq (wp_mono (ihx x' _ Xt R E X a hx hs h) ?_)
        intro e a1 w1 hq
        obtain ⟨E1, X1, rfl, hs1, hq⟩ := hq
        cases e with
        | normal =>
          rcases hq with hq | ⟨s, hq⟩
          · exact ihy y' N Xt R E1 X1 a1 hy hs1 hq
          · obtain ⟨X2, hw2, hs2⟩ := Turn.sound hs1 hq
            rw [← hw2]
            exact ihy y' N Xt R _ X2 a1 hy hs2 (hJ s)
        | exit id => exact ⟨E1, X1, rfl, hs1, hq⟩
        | ret => exact ⟨E1, X1, rfl, hs1, hq⟩
        | _ => exact hq.elim
  | cond cnd x y ihx ihy =>
    intro c N Xt R E X a hc hs h
    simp only [comp] at hc
    cases h0 : compO cnd with
    | none => simp [h0] at hc
    | some c' =>
      cases hx : comp P sch x with
      | none => simp [h0, hx] at hc
      | some x' =>
        cases hy : comp P sch y with
        | none => simp [h0, hx, hy] at hc
        | some y' =>
          simp only [h0, hx, hy, Option.some.injEq] at hc
          subst hc
          simp only [vc] at h
          obtain ⟨cv, h1, h2⟩ := AV.un_of h
          have hr := h2 X _ (opd_rep hs h0) trivial
          cases cv with
          | bool b =>
            exact wp_cond_split hr.bool_inv (fun e => ihx x' N Xt R E X a hx hs (h1.1 e)) (fun e => ihy y' N Xt R E X a hy hs (h1.2 e))
          | _ => exact h1.elim
  | block id x ih =>
    intro c N Xt R E X a hc hs h
    simp only [comp, Option.map_eq_some_iff] at hc
    obtain ⟨x', hx, rfl⟩ := hc
    obtain ⟨σ, J, h, hJ⟩ := h
    have hfin : ∀ E1 X1 a1, Sat G E1 X1 a1 → (N E1 ∨ ∃ s, Turn G.n0 (J s) E1) → ∃ E X, X.w = X1.w ∧ Sat G E X a1 ∧ N E := by
      intro E1 X1 a1 hs1 hq
      rcases hq with hq | ⟨s, hq⟩
      · exact ⟨E1, X1, rfl, hs1, hq⟩
      · obtain ⟨X2, hw2, hs2⟩ := Turn.sound hs1 hq
        exact ⟨_, X2, hw2, hs2, hJ s⟩
    refine wp_block (wp_mono (ih x' _ _ R E X a hx hs h) ?_)
    intro e a1 w1 hq
    obtain ⟨E1, X1, rfl, hs1, hq⟩ := hq
    cases e with
    | normal => exact hfin E1 X1 a1 hs1 hq
    | exit id' =>
      simp only [Exit.inBlock]
      simp only at hq
      by_cases hid : id' = id
      · rw [if_pos hid] at hq ⊢; exact hfin E1 X1 a1 hs1 hq
      · rw [if_neg hid] at hq ⊢; exact ⟨E1, X1, rfl, hs1, hq⟩
    | ret => exact ⟨E1, X1, rfl, hs1, hq⟩
    | _ => exact hq.elim
  | loop x ih =>
    intro c N Xt R E X a hc hs h
    simp only [comp, Option.map_eq_some_iff] at hc
    obtain ⟨x', hx, rfl⟩ := hc
    obtain ⟨σ, Tt, μ, ⟨s, h0⟩, hstep⟩ := h
    obtain ⟨X0, hw0, hs0⟩ := Turn.sound hs h0
    refine wp_loop_ghost (fun n a w => ∃ s X, X.w = w ∧ Sat G (Tt s) X a ∧ μ s = n) (μ s) ⟨s, X0, hw0, hs0, rfl⟩ ?_
    rintro n a1 w1 ⟨s1, X1, rfl, hs1, rfl⟩
    refine wp_mono (ih x' _ Xt R (Tt s1) X1 a1 hx hs1 (hstep s1)) ?_
    intro e a2 w2 hq
    obtain ⟨E2, X2, rfl, hs2, hq⟩ := hq
    cases e with
    | normal =>
      obtain ⟨s', hlt, ht⟩ := hq
      obtain ⟨X3, hw3, hs3⟩ := Turn.sound hs2 ht
      exact ⟨μ s', hlt, s', X3, hw3, hs3, rfl⟩
    | exit id => exact ⟨E2, X2, rfl, hs2, hq⟩
    | ret => exact ⟨E2, X2, rfl, hs2, hq⟩
    | _ => exact hq.elim
  | exit id =>
    intro c N Xt R E X a hc hs h
    simp only [comp, Option.some.injEq] at hc
    subst hc
    exact wp_exit ⟨E, X, rfl, hs, h⟩
  | ret =>
    intro c N Xt R E X a hc hs h
    simp only [comp, Option.some.injEq] at hc
    subst hc
    exact wp_ret ⟨E, X, rfl, hs, h⟩
  | _ => intro c N Xt R E X a hc; simp [comp] at hc

end

/-! ### results, and the law of a call -/
inductive RV where
  | t (n : Nat)
  | c (a n : Nat) (agg : Bool)
def compRV (P : Program) : ResultVar → Option RV
  | .tmp t => some (.t t)
  | .cell a t => match P.info? t, P.underlying t with
    | some i, some _ => if Program.isAggT P t || i.size == 1 then some (.c a i.size (Program.isAggT P t)) else none
    | _, _ => none
def compRVs (P : Program) : List ResultVar → Option (List RV)
  | [] => some []
  | r :: l => match compRV P r, compRVs P l with
    | some x, some xs => some (x :: xs)
    | _, _ => none
def vcRes : List RV → Env → (List AV → Prop) → Prop
  | [], _, k => k []
  | .t n :: r, E, k => vcRes r E fun l => k (E.tmp n :: l)
  | .c a n agg :: r, E, k => match E.tmp a with
    | .ptr b off => match E.boxes.lookup b with
      | some B => off + n ≤ B.c.length ∧ vcRes r E fun l => k (ofCells agg ((B.c.drop off).take n) :: l)
      | none => False
    | _ => False
def retAV : List AV → AV
  | [v] => v
  | l => .tup l
/-- What is handed back. -/
def Ret (n0 : Nat) (Q : AV → Cx → Prop) (E : Env) (r0 : AV) : Prop := ∃ E1 r, Turn n0 E1 { E with tm := [(0, r0)], k := 1 } ∧ E1.tm = [(0, r)] ∧ E1.n = n0 + 4 ∧ Q r ⟨E1.rows, E1.boxes⟩
def vcRet (n0 : Nat) (rvs : List RV) (Q : AV → Cx → Prop) (E : Env) : Prop :=
  vcRes rvs E fun l => Ret n0 Q E (retAV l)

section
variable {P : Program} {G : Gl} {E : Env} {X : RX} {a : Act}
def resOf (tmps : Array Value) : ResultVar → Sem Value
  | .tmp t => pure (tmps.getD t undef)
  | .cell a t => do loadVar t (← asAddr (tmps.getD a undef))
theorem tm_getD (hs : Sat G E X a) (n : Nat) : Rep X (E.tmp n) (a.tmps.getD n undef) := opd_rep hs (x := .tmp n) rfl
theorem vcRes_sound (hs : Sat G E X a) : ∀ {l : List ResultVar} {rvs : List RV} {k : List AV → Prop}, compRVs P l = some rvs → vcRes rvs E k → ∃ avs vs, k avs ∧ RepL X avs vs ∧ (l.mapM (resOf a.tmps)).run P X.w = .ok vs X.w
  | [], rvs, k, hc, h => by
    simp only [compRVs, Option.some.injEq] at hc
    subst hc
    exact ⟨[], [], h, .nil, by simp⟩
  | r :: l, rvs, k, hc, h => by
    simp only [compRVs] at hc
    cases h1 : compRV P r with
    | none => simp [h1] at hc
    | some x =>
      cases h2 : compRVs P l with
      | none => simp [h1, h2] at hc
      | some xs =>
        simp only [h1, h2, Option.some.injEq] at hc
        subst hc
        cases r with
        | tmp t =>
          simp only [compRV, Option.some.injEq] at h1
          subst h1
          obtain ⟨avs, vs, h3, h4, h5⟩ := vcRes_sound hs h2 h
          refine ⟨_, a.tmps.getD t undef :: vs, h3, .cons (tm_getD hs t) h4, ?_⟩
          simp only [List.mapM_cons, resOf, Sem.run_bind, Sem.run_pure, Result.andThen_ok, h5]
        | cell ad t =>
          simp only [compRV] at h1
          split at h1
          · rename_i i d hi hd
            split at h1
            · rename_i hb
              simp only [Option.some.injEq] at h1
              subst h1
              simp only [vcRes] at h
              split at h
              · rename_i b off hp
                split at h
                · rename_i B hB
                  obtain ⟨avs, vs, h3, h4, h5⟩ := vcRes_sound hs h2 h.2
                  have hv := tm_getD hs ad
                  rw [hp] at hv
                  obtain ⟨e, _⟩ := hv.ptr_inv
                  obtain ⟨vals, hl, hcell, hrep, hlen⟩ := ptr_cells hs hB h.1
                  have hb' : Program.isAggT P t = true ∨ i.size = 1 := by simpa using hb
                  have hrun := run_loadN hi hd X.w ⟨X.β b, off, none⟩ vals hl hcell hb'
                  refine ⟨_, _ :: vs, h3, .cons (hrep.ofCells' _ (by rcases hb' with h1 | h1; exact .inl h1; exact .inr (hlen.trans h1))) h4, ?_⟩
                  simp only [List.mapM_cons, resOf, Sem.run_bind, e, asAddr, Sem.run_pure, Result.andThen_ok, hrun, h5]
                · exact h.elim
              · exact h.elim
            · cases h1
          · cases h1

end

def resV (vs : List Value) : Value := if h : vs.toArray.size = 1 then vs.toArray[0] else .tuple vs.toArray
theorem resV_rep {X : RX} {avs : List AV} {vs : List Value} (h : RepL X avs vs) : Rep X (retAV avs) (resV vs) := by
  obtain ⟨hl, hh⟩ := h
  match avs, vs, hl, hh with
  | [], [], _, _ => exact .tup [] [] rfl (by simp)
  | [x], [y], _, hh => exact hh 0 x y rfl rfl
  | x :: x2 :: l, y :: y2 :: l', hl, hh =>
    have : resV (y :: y2 :: l') = .tuple (y :: y2 :: l').toArray := by simp [resV]
    rw [this]
    exact .tup _ _ hl hh
theorem Inv.gl {G G' : Gl} {X : RX} {rows : List (Nat × Row)} {boxes : List (Nat × Bx)} (h : Inv G X rows boxes) (h1 : G'.w0 = G.w0) (h2 : G'.L = G.L) (h3 : G'.F0 = G.F0) : Inv G' X rows boxes := by
  obtain ⟨w, L, F, n, b, k, f⟩ := G
  obtain ⟨w', L', F', n', b', k', f'⟩ := G'
  simp only at h1 h2 h3
  subst h1 h2 h3
  exact ⟨⟨h.fr.os, h.fr.tape, h.fr.output, h.fr.size, h.fr.block⟩, h.Flt, h.Fold, h.Fnew, fun b B hb => ⟨(h.box b B hb).lt, (h.box b B hb).nf, (h.box b B hb).mine, (h.box b B hb).cells⟩, fun i R hi => ⟨(h.row i R hi).lt, (h.row i R hi).blk, (h.row i R hi).rep⟩, h.bb, h.rr, h.br⟩

def fxAll (rows : List (Nat × Row)) (i : Nat) : Bool := match rows.lookup i with | some R => R.fx | none => true

def argT : Nat → List AV → List (Nat × AV)
  | _, [] => []
  | i, a :: t => (i, a) :: argT (i + 1) t
theorem lookup_argT (l : List AV) : ∀ (i j : Nat) (b : AV), (argT i l).lookup j = some b → i ≤ j ∧ l[j - i]? = some b := by
  induction l with
  | nil => intro i j b h; simp [argT] at h
  | cons a t ih =>
    intro i j b h
    simp only [argT] at h
    rw [lookup_cons] at h
    split at h
    · rename_i e; subst e; cases h; exact ⟨Nat.le_refl _, by simp⟩
    · obtain ⟨h1, h2⟩ := ih (i + 1) j b h
      refine ⟨by omega, ?_⟩
      rw [show j - i = (j - (i + 1)) + 1 by omega]
      simpa using h2
theorem Spec.of_vc {P : Program} {mt : Mt} {f : FuncId} {fn : Func} {body : Code} {c : C} {rvs : List RV} {sch : Nat → List Nat × Sch} {Cx0 : Cx} {n : Nat} {args : List AV} {Q : AV → Cx → Prop} {k : Nat}
    (hf : P.funcs[f]? = some fn) (hname : (fn.name == "runtime.NumGoroutine") = false) (hb : fn.body = some body) (hm : P.follows .mixedOrders = true) (hc : comp P sch body = some c) (hr : compRVs P fn.results.toList = some rvs) (hk : fn.ntmps = k)
    (h : vc P mt n c (vcRet n rvs Q) (fun _ _ => False) (vcRet n rvs Q) ⟨argT 0 args, Cx0.rows, Cx0.boxes, n, k⟩) (hka : args.length ≤ k) : Spec P f Cx0 n args Q := by
  refine ⟨⟨fn, body, hf, hname, hb⟩, fun X vs L hn hi hrep => ?_⟩
  refine calls_of_wp hf hb ?_
  subst hn hk
  let G : Gl := ⟨X.w, L, X.F, X.n, X.β, X.κ, fxAll Cx0.rows⟩
  have hs : Sat G ⟨argT 0 args, Cx0.rows, Cx0.boxes, X.n, fn.ntmps⟩ X { tmps := vs.toArray ++ Array.replicate (fn.ntmps - vs.toArray.size) undef, defers := [] } := by
    refine ⟨rfl, hi.gl rfl rfl rfl, ?_, rfl, ⟨Nat.le_refl _, fun _ _ => rfl, fun _ _ _ => rfl, fun i R hl _ hf => by simpa [G, fxAll, hl] using hf⟩⟩
    have hl := hrep.1
    refine ⟨by simp; omega, fun i b hb => ?_⟩
    obtain ⟨_, hb⟩ := lookup_argT args 0 i b hb
    simp only [Nat.sub_zero] at hb
    have hlt := (List.getElem?_eq_some_iff.1 hb).1
    have hv : vs[i]? = some (vs[i]'(by omega)) := List.getElem?_eq_getElem _
    refine ⟨_, ?_, hrep.2 i b _ hb hv⟩
    rw [Array.getElem?_append_left (by simp; omega)]
    simpa using hv
  refine wp_mono (vc_sound hm sch body c _ _ _ _ X _ hc hs h) ?_
  have fin : ∀ a w, (∃ E' X', X'.w = w ∧ Sat G E' X' a ∧ vcRet X.n rvs Q E') → a.defers = [] ∧ ∃ v, (results fn a.tmps).run P w = .ok v w ∧ ∃ v' r C' X', Ending.returned v = .returned v' ∧ Q r C' ∧ X'.w = w ∧ X'.n = X.n + 4 ∧ Inv (.of X.w L X.F) X' C'.rows C'.boxes ∧ Rep X' r v' ∧
      (∀ i, i < X.n → (∀ R, Cx0.rows.lookup i = some R → R.fx = true) → X'.κ i = X.κ i) ∧ ∀ b, b < X.n → X'.β b = X.β b := by
    rintro a w ⟨E', X1, rfl, hs1, hret⟩
    obtain ⟨avs, vs', ⟨E1, r, ht, hr1, hn1, hq⟩, hrep1, hrun⟩ := vcRes_sound hs1 hr hret
    let v : Value := resV vs'
    have hres : (results fn a.tmps).run P X1.w = .ok v X1.w := by
      have e : results fn a.tmps = (do let vs ← fn.results.mapM (resOf a.tmps); pure (if h : vs.size = 1 then vs[0] else .tuple vs) : Sem Value) := by
        rfl
      rw [e, Array.mapM_eq_mapM_toList]
      have hmap : (List.toArray <$> fn.results.toList.mapM (resOf a.tmps) : Sem (Array Value)).run P X1.w = .ok vs'.toArray X1.w := by
        rw [map_eq_pure_bind]
        simp only [Sem.run_bind, hrun, Result.andThen_ok, Sem.run_pure]
      simp only [Sem.run_bind, hmap, Result.andThen_ok, Sem.run_pure, v, resV]
    have hv : Rep X1 (retAV avs) v := resV_rep hrep1
    have hs2 : Sat G { E' with tm := [(0, retAV avs)], k := 1 } X1 { tmps := #[v], defers := [] } := by
      refine ⟨hs1.n, hs1.inv, ⟨rfl, fun i b hb => ?_⟩, rfl, hs1.kp⟩
      rw [lookup_cons] at hb
      split at hb
      · rename_i e; subst e; cases hb; exact ⟨v, rfl, hv⟩
      · simp at hb
    obtain ⟨X2, hw2, hs3⟩ := Turn.sound hs2 ht
    refine ⟨hs1.df, v, hres, v, r, ⟨E1.rows, E1.boxes⟩, X2, rfl, hq, hw2, by rw [hs3.n, hn1], hs3.inv.gl rfl rfl rfl, ?_, fun i hi hfx => ?_, fun b hb => hs3.kp.b b hb⟩
    · obtain ⟨u, hu, hr⟩ := hs3.tm.2 0 r (by rw [hr1]; rfl)
      cases hu
      exact hr
    · refine hs3.kp.i i hi ?_
      simp only [G, fxAll]
      split
      · rename_i R hR; exact hfx R hR
      · rfl
  intro e a w hq
  obtain ⟨E', X1, rfl, hs1, hq⟩ := hq
  cases e with
  | normal => exact fin a X1.w ⟨E', X1, rfl, hs1, hq⟩
  | ret => exact fin a X1.w ⟨E', X1, rfl, hs1, hq⟩
  | _ => exact hq.elim

end Go.VV
