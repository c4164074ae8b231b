/- Regions: one order. -/
import Derived.Test.YtfgipdfdilafnaaV15
set_option linter.unusedSimpArgs false
set_option linter.unusedVariables false
namespace Go.VV
open Go.RowKit

structure Iop where
  d : Option Nat
  g : Option (Nat × Bool)
  q : Bool
  i : Ins
def opnT : Opn → List Nat
  | .t n => [n]
  | .k _ => []
def opnTs : List Opn → List Nat
  | [] => []
  | x :: r => opnT x ++ opnTs r
def optT : Option Opn → List Nat
  | some x => opnT x
  | none => []
def Ins.temps : Ins → List Nat
  | .box _ _ x => opnT x
  | .bsl _ _ ps => opnTs ps
  | .mksl _ _ _ _ x => opnT x
  | .slc _ x lo hi => opnT x ++ optT lo ++ optT hi
  | .store _ x y => opnT x ++ opnT y
  | .call _ as => opnTs as
  | .callv x as => opnT x ++ opnTs as
  | .app _ _ _ x y => opnT x ++ opnT y
  | _ => []
/-- Under p the guarded temporaries are laid open. -/
def force (p : Prop) : List Nat → (Env → Prop) → Env → Prop
  | [], k, E => k E
  | n :: t, k, E => match E.tmp n with
    | .cnd q a => (p → q) ∧ force p t k { E with tm := (n, a) :: E.tm }
    | _ => force p t k E
def vcG (E : Env) (g : Option (Nat × Bool)) (k0 : Prop) (k1 : Prop → Prop) : Prop :=
  match g with
  | none => k0
  | some (t, want) => match E.tmp t with
    | .bool b => k1 (b = want)
    | .cnd q (.bool b) => k1 (q ∧ b = want)
    | .cnd q _ => (q → False) ∧ k1 False
    | _ => False
/-- Under p the value may be said in other words. -/
def Alt (p : Prop) (av : AV) (K : AV → Prop) : Prop := ∃ av2 av3, (p → av2 = av) ∧ (av3 = .cnd p av2 ∨ (p ∧ av3 = av2)) ∧ K av3
def vcQ (E0 E : Env) (io : Iop) (K : Env → Prop) : Prop :=
  vcG E io.g (vq E0 True (fun av => K (E.set io.d av)) io.i) (fun p => vq E0 p (fun av => Alt p av fun av3 => K (E.set io.d av3)) io.i)
def chk (mt : Mt) (ub : Option (List Nat)) (E : Env) (i : Ins) : Prop :=
  match ub with
  | none => True
  | some ub => (ub.all fun b => (E.boxes.lookup b).isSome) = true ∧ modOk mt E ub i
def vcAct (P : Program) (mt : Mt) (ub : Option (List Nat)) (E : Env) (io : Iop) (K : Env → Prop) : Prop :=
  vcG E io.g (chk mt ub E io.i ∧ vcE P mt E (fun E' av => K (E'.set io.d av)) io.i)
    (fun p => (p → force p io.i.temps (fun E1 => chk mt ub E1 io.i ∧ vcE P mt E1 (fun E' av => K (E'.set io.d av)) io.i) E) ∧ (¬ p → K (E.set io.d (.cnd False .top))))
def vcOps (P : Program) (mt : Mt) (Q : Env → Prop) : List Iop → Env → Prop
  | [], E => Q E
  | io :: r, E => match io.q with
    | true => vcQ E E io (vcOps P mt Q r)
    | false => vcAct P mt none E io (vcOps P mt Q r)

def compG (ops : Array Oper) : Option (Nat × Bool) → Option (Option (Nat × Bool))
  | none => some none
  | some (j, w) => match (ops[j]?).bind (·.dst) with
    | some t => some (some (t, w))
    | none => none
def compIO (P : Program) (ops : Array Oper) (o : Oper) : Option Iop :=
  match compG ops o.guard with
  | none => none
  | some g => match compQ P o.op with
    | some i => some ⟨o.dst, g, true, i⟩
    | none => match compE P o.op with
      | some i => some ⟨o.dst, g, false, i⟩
      | none => none
def compIOs (P : Program) (ops : Array Oper) : List Oper → Option (List Iop)
  | [] => some []
  | o :: r => match compIO P ops o, compIOs P ops r with
    | some io, some ios => some (io :: ios)
    | _, _ => none

section
variable {P : Program} {G : Gl} {E : Env} {X : RX} {a : Act} {o : Oper} {mt : Mt} {ops : Array Oper}

theorem compIO_spec {io : Iop} (h : compIO P ops o = some io) : compG ops o.guard = some io.g ∧ io.d = o.dst ∧ (io.q = true → compQ P o.op = some io.i) ∧ (io.q = false → compE P o.op = some io.i) := by
  unfold compIO at h
  cases hg : compG ops o.guard with
  | none => simp [hg] at h
  | some g =>
    cases hq : compQ P o.op with
    | some i => simp only [hg, hq, Option.some.injEq] at h; subst h; simp
    | none =>
      cases he : compE P o.op with
      | none => simp [hg, hq, he] at h
      | some i => simp only [hg, hq, he, Option.some.injEq] at h; subst h; simp

theorem tm_rep (hs : Sat G E X a) {t : Nat} {x : AV} (h : E.tmp t = x) (hx : x ≠ .top) : ∃ v, a.tmps[t]? = some v ∧ Rep X x v := by
  unfold Env.tmp at h
  cases hl : E.tm.lookup t with
  | none => rw [hl] at h; exact (hx h.symm).elim
  | some b =>
    rw [hl] at h
    simp only [Option.getD_some] at h
    subst h
    exact hs.tm.2 t b hl

theorem vcG_sound (hs : Sat G E X a) {g : Option (Nat × Bool)} (hg : compG ops o.guard = some g) {k0 : Prop} {k1 : Prop → Prop} (h : vcG E g k0 k1) :
    (g = none ∧ Region.wanted o (yielded ops a.tmps) = true ∧ k0) ∨ ∃ p, k1 p ∧ (Region.wanted o (yielded ops a.tmps) = true ↔ p) := by
  unfold compG at hg
  split at hg
  · rename_i ho
    simp only [Option.some.injEq] at hg
    subst hg
    exact .inl ⟨rfl, by simp [Region.wanted, ho], h⟩
  · rename_i j w ho
    cases hj : (ops[j]?).bind (·.dst) with
    | none => simp [hj] at hg
    | some t =>
      simp only [hj, Option.some.injEq] at hg
      subst hg
      refine .inr ?_
      unfold vcG at h
      simp only at h
      split at h
      · rename_i b hx
        obtain ⟨v, hv, hr⟩ := tm_rep hs hx (by simp)
        refine ⟨_, h, ?_⟩
        rw [hr.bool_inv] at hv
        simp [Region.wanted, ho, yielded, hj, hv]
      · rename_i q b hx
        obtain ⟨v, hv, hr⟩ := tm_rep hs hx (by simp)
        refine ⟨_, h, ?_⟩
        cases hr with
        | cnd _ _ _ h1 h2 =>
          by_cases hq : q
          · rw [(h1 hq).bool_inv] at hv
            simp [Region.wanted, ho, yielded, hj, hv, hq]
          · rw [h2 hq] at hv
            simp [Region.wanted, ho, yielded, hj, hv, hq, undef]
      · rename_i q a _ hx
        obtain ⟨v, hv, hr⟩ := tm_rep hs hx (by simp)
        refine ⟨_, h.2, ?_⟩
        cases hr with
        | cnd _ _ _ h1 h2 =>
          rw [h2 h.1] at hv
          simp [Region.wanted, ho, yielded, hj, hv, undef]
      · exact h.elim

theorem force_sound {p : Prop} : ∀ {ts : List Nat} {k : Env → Prop} {E : Env}, force p ts k E → ∃ E1, k E1 ∧ E1.n = E.n ∧ E1.boxes = E.boxes ∧ E1.rows = E.rows ∧ (p → ∀ X a, Sat G E X a → Sat G E1 X a)
  | [], k, E, h => ⟨E, h, rfl, rfl, rfl, fun _ _ _ h => h⟩
  | n :: t, k, E, h => by
    simp only [force] at h
    split at h
    · rename_i q av hx
      obtain ⟨E1, h1, h2, h3, h4, h5⟩ := force_sound h.2
      refine ⟨E1, h1, h2, h3, h4, fun hp X a hs => h5 hp X a ?_⟩
      obtain ⟨v, hv, hr⟩ := tm_rep hs hx (by simp)
      have hr' : Rep X av v := by cases hr with | cnd _ _ _ h1 _ => exact h1 (h.1 hp)
      refine ⟨hs.n, hs.inv, ⟨hs.tm.1, fun i b hb => ?_⟩, hs.df, hs.kp⟩
      rw [lookup_cons] at hb
      split at hb
      · rename_i e; subst e; cases hb; exact ⟨v, hv, hr'⟩
      · exact hs.tm.2 i b hb
    · exact force_sound h

theorem vcQ_sound (hs : Sat G E X a) {E0 : Env} (h0 : Sat G E0 X a) {io : Iop} (hc : compIO P ops o = some io) (hq : io.q = true) {K : Env → Prop} (h : vcQ E0 E io K) :
    ∃ v E', K E' ∧ Sat G E' X (a.put o.dst v) ∧ ((Region.wanted o (yielded ops a.tmps) = true ∧ ∀ W, Same E0 X W → (execOp a.eval o).run P W = .ok (.value v) W) ∨ (Region.wanted o (yielded ops a.tmps) = false ∧ v = undef)) := by
  obtain ⟨hg, hd, hcq, _⟩ := compIO_spec hc
  have hi := hcq hq
  rcases vcG_sound hs hg h with ⟨e, hw, h⟩ | ⟨p, h, hw⟩
  · obtain ⟨av, hk, hy⟩ := vq_sound h0 hi h
    obtain ⟨v, hrun, hrep⟩ := hy trivial
    exact ⟨v, _, hk, hd ▸ hs.put io.d hrep, .inl ⟨hw, hrun⟩⟩
  · obtain ⟨av, ⟨av2, av3, he, h3, hk⟩, hy⟩ := vq_sound h0 hi h
    by_cases hp : p
    · obtain ⟨v, hrun, hrep⟩ := hy hp
      have hrep3 : Rep X av3 v := by
        rcases h3 with rfl | ⟨_, rfl⟩
        · exact .cnd p av2 v (fun _ => he hp ▸ hrep) (fun hn => (hn hp).elim)
        · exact he hp ▸ hrep
      exact ⟨v, _, hk, hd ▸ hs.put io.d hrep3, .inl ⟨hw.2 hp, hrun⟩⟩
    · have hwf : Region.wanted o (yielded ops a.tmps) = false := by
        cases hb : Region.wanted o (yielded ops a.tmps) with
        | false => rfl
        | true => exact (hp (hw.1 hb)).elim
      have hrep3 : Rep X av3 undef := by
        rcases h3 with rfl | ⟨h3, _⟩
        · exact .cnd p av2 undef (fun hp' => (hp hp').elim) (fun _ => rfl)
        · exact (hp h3).elim
      exact ⟨undef, _, hk, hd ▸ hs.put io.d hrep3, .inr ⟨hwf, rfl⟩⟩

/-- One that reads no heap. -/
theorem vcQ_sound0 (hn : heapless o.op = true) (hs : Sat G E X a) {E0 : Env} (h0 : Sat G E0 X a) {io : Iop} (hc : compIO P ops o = some io) (hq : io.q = true) {K : Env → Prop} (h : vcQ E0 E io K) :
    ∃ v E', K E' ∧ Sat G E' X (a.put o.dst v) ∧ ((Region.wanted o (yielded ops a.tmps) = true ∧ ∀ W, (execOp a.eval o).run P W = .ok (.value v) W) ∨ (Region.wanted o (yielded ops a.tmps) = false ∧ v = undef)) := by
  obtain ⟨hg, hd, hcq, _⟩ := compIO_spec hc
  have hi := hcq hq
  rcases vcG_sound hs hg h with ⟨e, hw, h⟩ | ⟨p, h, hw⟩
  · obtain ⟨av, hk, hy⟩ := vq_sound0 hn h0 hi h
    obtain ⟨v, hrun, hrep⟩ := hy trivial
    exact ⟨v, _, hk, hd ▸ hs.put io.d hrep, .inl ⟨hw, hrun⟩⟩
  · obtain ⟨av, ⟨av2, av3, he, h3, hk⟩, hy⟩ := vq_sound0 hn h0 hi h
    by_cases hp : p
    · obtain ⟨v, hrun, hrep⟩ := hy hp
      have hrep3 : Rep X av3 v := by
        rcases h3 with rfl | ⟨_, rfl⟩
        · exact .cnd p av2 v (fun _ => he hp ▸ hrep) (fun hn => (hn hp).elim)
        · exact he hp ▸ hrep
      exact ⟨v, _, hk, hd ▸ hs.put io.d hrep3, .inl ⟨hw.2 hp, hrun⟩⟩
    · have hwf : Region.wanted o (yielded ops a.tmps) = false := by
        cases hb : Region.wanted o (yielded ops a.tmps) with
        | false => rfl
        | true => exact (hp (hw.1 hb)).elim
      have hrep3 : Rep X av3 undef := by
        rcases h3 with rfl | ⟨h3, _⟩
        · exact .cnd p av2 undef (fun hp' => (hp hp').elim) (fun _ => rfl)
        · exact (hp h3).elim
      exact ⟨undef, _, hk, hd ▸ hs.put io.d hrep3, .inr ⟨hwf, rfl⟩⟩

/-- One operation that acts. -/
theorem vcAct_sound (hs : Sat G E X a) {ub : Option (List Nat)} {io : Iop} (hc : compIO P ops o = some io) (hq : io.q = false) {K : Env → Prop} (h : vcAct P mt ub E io K) (next : Act → World → Prop) (Q : Exit → Act → World → Prop)
    (hk : ∀ E' X' v, K E' → Sat G E' X' (a.put o.dst v) → (∃ M, Ch M X X' ∧ ∀ u, ub = some u → ((∀ b ∈ u, ∃ B, E.boxes.lookup b = some B) ∧ ∀ k, M k → ∃ b ∈ u, X.β b = k) ∨ X' = X) → next (a.put o.dst v) X'.w) :
    if Region.wanted o (yielded ops a.tmps) = true then o.wp P a X.w next Q else next (a.put o.dst undef) X.w := by
  obtain ⟨hg, hd, _, hce⟩ := compIO_spec hc
  have hi := hce hq
  have hmod : ∀ {E1 : Env}, Sat G E1 X a → E1.boxes = E.boxes → chk mt ub E1 io.i → ∀ u, ub = some u → (∀ b ∈ u, ∃ B, E.boxes.lookup b = some B) ∧ ∀ k, insM mt E1 X io.i k → ∃ b ∈ u, X.β b = k := by
    intro E1 hs1 hb hck u hu
    subst hu
    simp only [chk, hb] at hck
    refine ⟨fun b hb' => ?_, fun k hM => ?_⟩
    · have := List.all_eq_true.1 hck.1 b hb'
      exact Option.isSome_iff_exists.1 this
    · have hlent : ∀ (C : Cx), C.rows = [] → ((keys C.boxes).all fun b => decide (b ∈ u)) = true → lentL X C k → ∃ b ∈ u, X.β b = k := by
        intro C h1 h2 h3
        rcases h3 with ⟨b, B, hb, e⟩ | ⟨i, R, hi, _⟩
        · have hk : b ∈ keys C.boxes := (mem_keys b _).2 (by rw [hb]; rfl)
          have := List.all_eq_true.1 h2 b hk
          exact ⟨b, by simpa using this, e⟩
        · rw [h1] at hi; simp at hi
      have hck2 := hck.2
      revert hM hck2
      cases io.i <;> simp only [insM, modOk] <;> intro hM hck2
      case store n x y =>
        cases hx : E1.opd x with
        | ptr b off => rw [hx] at hM hck2; exact ⟨b, hck2, hM⟩
        | _ => rw [hx] at hck2; exact (show False from hck2).elim
      case call f args => exact hlent _ hck2.1 hck2.2 hM
      case callv x args =>
        cases hx : E1.opd x with
        | fn f caps => rw [hx] at hM hck2; exact hlent _ hck2.1 hck2.2 hM
        | _ => rw [hx] at hck2; exact hck2.elim
      all_goals first | exact hM.elim | exact hck2.elim
  rcases vcG_sound hs hg h with ⟨e, hw, h⟩ | ⟨p, h, hw⟩
  · rw [if_pos hw]
    exact vcE_sound hs hi h.2 next Q (fun E' av v X' h1 h2 h3 h4 => hk _ X' v h1 (hd ▸ h2.put io.d h3) ⟨_, h4, fun u hu => .inl (hmod hs rfl h.1 u hu)⟩)
  · by_cases hp : p
    · rw [if_pos (hw.2 hp)]
      obtain ⟨E1, ⟨hck, h1⟩, _, hb, _, h5⟩ := force_sound (G := G) (h.1 hp)
      have hs1 := h5 hp X a hs
      exact vcE_sound hs1 hi h1 next Q (fun E' av v X' h1 h2 h3 h4 => hk _ X' v h1 (hd ▸ h2.put io.d h3) ⟨_, h4, fun u hu => .inl (hmod hs1 hb hck u hu)⟩)
    · rw [if_neg (fun hb => hp (hw.1 hb))]
      exact hk _ X undef (h.2 hp) (hd ▸ hs.put io.d (.cnd False .top undef (fun h => h.elim) (fun _ => rfl))) ⟨fun _ => False, Ch.same rfl ⟨fun _ h => h, fun _ _ => rfl, fun _ _ _ => rfl, fun _ _ => rfl, Nat.le_refl _⟩, fun _ _ => .inr rfl⟩

theorem compIOs_cons {o : Oper} {l : List Oper} {ios : List Iop} (h : compIOs P ops (o :: l) = some ios) : ∃ io r, compIO P ops o = some io ∧ compIOs P ops l = some r ∧ ios = io :: r := by
  simp only [compIOs] at h
  cases h1 : compIO P ops o with
  | none => simp [h1] at h
  | some io =>
    cases h2 : compIOs P ops l with
    | none => simp [h1, h2] at h
    | some r => simp only [h1, h2, Option.some.injEq] at h; exact ⟨io, r, rfl, rfl, h.symm⟩

theorem vcOps_sound {Qe : Env → Prop} {Q : Exit → Act → World → Prop} (hQ : ∀ E' X' a', Qe E' → Sat G E' X' a' → Q .normal a' X'.w) :
    ∀ {l : List Oper} {ios : List Iop} {E : Env} {X : RX} {a : Act}, compIOs P ops l = some ios → Sat G E X a → vcOps P mt Qe ios E → wpList P ops Q l a X.w
  | [], ios, E, X, a, hc, hs, h => by simp only [compIOs, Option.some.injEq] at hc; subst hc; exact hQ E X a h hs
  | o :: l, ios, E, X, a, hc, hs, h => by
    obtain ⟨io, r, h1, h2, rfl⟩ := compIOs_cons hc
    refine wpList_step fun K hK => ?_
    simp only [vcOps] at h
    cases hq : io.q with
    | true =>
      rw [hq] at h
      obtain ⟨v, E', h3, h4, h5⟩ := vcQ_sound hs hs h1 hq h
      rcases h5 with ⟨hw, hrun⟩ | ⟨hw, rfl⟩
      · rw [if_pos hw]
        unfold Oper.wp
        rw [hrun X.w (fun _ _ => rfl)]
        exact hK _ _ (vcOps_sound hQ h2 h4 h3)
      · rw [if_neg (by rw [hw]; simp)]
        exact hK _ _ (vcOps_sound hQ h2 h4 h3)
    | false =>
      rw [hq] at h
      exact vcAct_sound hs h1 hq h K Q (fun E' X' v h3 h4 _ => hK _ _ (vcOps_sound hQ h2 h4 h3))

end
end Go.VV
