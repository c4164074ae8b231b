/- Regions: any order. -/
import Derived.Test.YtfcaebjpnakhhaaV16
import Derived.OrdersHeld
set_option linter.unusedSimpArgs false
set_option linter.unusedVariables false
namespace Go.VV
open Go.RowKit

def reachB (md : Region.Mode) (ops : Array Oper) (i : Nat) : Nat → Nat → Bool
  | 0, _ => false
  | f + 1, d => match ops[d]? with
    | some o => o.after.any fun e => Region.binds md e && (e.on == i || reachB md ops i f e.on)
    | none => false
def closedB (md : Region.Mode) (ops : Array Oper) (listed : Array Bool) : Bool :=
  (List.range ops.size).all fun j => !listed.getD j false || match ops[j]? with
    | some o => o.after.all fun e => !Region.binds md e || listed.getD e.on false
    | none => true
def Closed (md : Region.Mode) (ops : Array Oper) (listed : Array Bool) : Prop :=
  ∀ j oj, ops[j]? = some oj → listed.getD j false = true → ∀ e ∈ oj.after, Region.binds md e = true → listed.getD e.on false = true

section
variable {P : Program} {ops : Array Oper} {Q : Exit → Act → World → Prop} {md : Region.Mode} {ds : List Nat}

theorem closedB_spec {listed : Array Bool} (h : closedB md ops listed = true) : Closed md ops listed := by
  intro j oj hj hl e he hb
  have hlt : j < ops.size := (Array.getElem?_eq_some_iff.1 hj).1
  have h1 := List.all_eq_true.1 h j (List.mem_range.2 hlt)
  simp only [hl, hj, Bool.not_true, Bool.false_or] at h1
  have h2 := Array.all_eq_true_iff_forall_mem.1 h1 e he
  simpa [hb] using h2
theorem Closed.set {listed : Array Bool} {i : Nat} (h : Closed md ops listed) (hi : i ∈ Region.ready md ops listed) : Closed md ops (listed.setIfInBounds i true) := by
  obtain ⟨_, oi, hoi, hall⟩ := mem_ready.1 hi
  intro j oj hj hl e he hb
  by_cases hij : i = j
  · subst hij
    have : oj = oi := Option.some.inj (hj.symm.trans hoi)
    subst this
    exact getD_set_true (hall e he hb)
  · rw [getD_set_ne false hij] at hl
    exact getD_set_true (h j oj hj hl e he hb)
theorem reach_listed {listed : Array Bool} {i : Nat} (hc : Closed md ops listed) : ∀ (fuel d : Nat), reachB md ops i fuel d = true → listed.getD d false = true → listed.getD i false = true
  | 0, _, h, _ => by simp [reachB] at h
  | fuel + 1, d, h, hl => by
    unfold reachB at h
    cases ho : ops[d]? with
    | none => rw [ho] at h; simp at h
    | some o =>
      rw [ho] at h
      obtain ⟨e, he, h1⟩ := Array.any_eq_true'.1 h
      simp only [Bool.and_eq_true, Bool.or_eq_true, beq_iff_eq] at h1
      have hle := hc d o ho hl e he h1.1
      rcases h1.2 with h2 | h2
      · rw [← h2]; exact hle
      · exact reach_listed hc fuel e.on h2 hle
theorem unlisted_both {listed : Array Bool} {i : Nat} (h1 : listed.getD i true = false) (h2 : listed.getD i false = true) : False := by
  rcases Nat.lt_or_ge i listed.size with h' | h'
  · simp [h'] at h1 h2; rw [h1] at h2; cases h2
  · simp [Array.getElem?_eq_none h'] at h2
theorem reach_not_ready {listed : Array Bool} {i d fuel : Nat} (hc : Closed md ops listed) (hr : reachB md ops i fuel d = true) (hun : listed.getD i true = false) : d ∉ Region.ready md ops listed := by
  intro hd
  obtain ⟨_, o, ho, hall⟩ := mem_ready.1 hd
  refine unlisted_both hun ?_
  cases fuel with
  | zero => simp [reachB] at hr
  | succ n =>
    unfold reachB at hr
    rw [ho] at hr
    obtain ⟨e, he, h1⟩ := Array.any_eq_true'.1 hr
    simp only [Bool.and_eq_true, Bool.or_eq_true, beq_iff_eq] at h1
    have hle := hall e he h1.1
    rcases h1.2 with h2 | h2
    · rw [← h2]; exact hle
    · exact reach_listed hc n e.on h2 hle

/-- Whatever order is picked from here on; what the pending reads lean on, S, stays or grows, but for the operations of ds. -/
def wpX (P : Program) (md : Region.Mode) (ops : Array Oper) (Q : Exit → Act → World → Prop) (ds : List Nat) : Nat → Array Bool → Act → World → (World → Prop) → Prop
  | 0, listed, a, w, _ => Region.ready md ops listed = [] ∧ Q .normal a w
  | fuel + 1, listed, a, w, S =>
    (Region.ready md ops listed = [] → Q .normal a w) ∧
    ∀ i ∈ Region.ready md ops listed, wpOp P ops Q i (fun a' w' => ∃ S' : World → Prop, (i ∉ ds → ∀ W, S' W → S W) ∧ S' w' ∧ wpX P md ops Q ds fuel (listed.setIfInBounds i true) a' w' S') a w
theorem wpAny_of_X : ∀ (fuel : Nat) (listed : Array Bool) (a : Act) (w : World) (S : World → Prop), wpX P md ops Q ds fuel listed a w S → wpAny P md ops Q fuel listed a w
  | 0, _, _, _, _, h => h
  | fuel + 1, _, _, _, _, h => ⟨h.1, fun i hi => wpOp_mono (fun a' w' ⟨S', _, _, h'⟩ => wpAny_of_X fuel _ a' w' S' h') (h.2 i hi)⟩

theorem YieldsIf.le {S S' : World → Prop} {o : Oper} {v : Value} {a : Act} (h : YieldsIf P ops S o v a) (hle : ∀ W, S' W → S W) : YieldsIf P ops S' o v a :=
  h.imp (fun ⟨h1, h2⟩ => ⟨h1, fun w hw => h2 w (hle w hw)⟩) id

theorem wpX_first {i : Nat} {oi : Oper} {v : Value} (hi : ops[i]? = some oi) (hsel : ∀ (j : Nat) (o : Oper) cs b, ops[j]? = some o → o.op ≠ .select cs b)
    (hQ : ∀ c a w, Q (.panic c) (a.put oi.dst v) w → Q (.panic c) a w) (n : Nat) :
    ∀ (fuel : Nat) (listed : Array Bool) (a : Act) (w : World) (S : World → Prop),
      (∀ j oj, ops[j]? = some oj → j ≠ i → listed.getD j true = false → (∀ e ∈ oj.after, Region.binds md e = true → e.on ≠ i) → oi.apart ops oj = true) →
      Closed md ops listed → (∀ d ∈ ds, listed.getD d true = false → reachB md ops i n d = true) →
      i ∈ Region.ready md ops listed → YieldsIf P ops S oi v a → S w →
      wpX P md ops Q ds fuel (listed.setIfInBounds i true) (a.put oi.dst v) w S → wpX P md ops Q ds (fuel + 1) listed a w S := by
  intro fuel
  induction fuel with
  | zero =>
    intro listed a w S _ _ _ hr hy hS H
    refine ⟨fun h => (by rw [h] at hr; cases hr), fun j hj => ?_⟩
    by_cases hji : j = i
    · subst hji; exact hy.wpOp hi hS ⟨S, fun _ _ h => h, hS, H⟩
    · have := ready_mono hj hji
      rw [H.1] at this
      cases this
  | succ fuel ih =>
    intro listed a w S hfree hc hd hr hy hS H
    refine ⟨fun h => (by rw [h] at hr; cases hr), fun j hj => ?_⟩
    by_cases hji : j = i
    · subst hji; exact hy.wpOp hi hS ⟨S, fun _ _ h => h, hS, H⟩
    · have h1 := H.2 j (ready_mono hj hji)
      obtain ⟨hjun, oj, hoj, hall⟩ := mem_ready.1 hj
      have hiun := (mem_ready.1 hr).1
      have hnot : ∀ e ∈ oj.after, Region.binds md e = true → e.on ≠ i := fun e he hb heq => by
        have h1 := hall e he hb
        rw [heq] at h1
        exact unlisted_both hiun h1
      have hjd : j ∉ ds := fun hm => reach_not_ready hc (hd j hm hjun) hiun hj
      have h2 := wpOp_putIf hoj (hfree j oj hoj hji hjun hnot) (fun cs b => hsel i oi cs b hi) (fun cs b => hsel j oj cs b hoj) hQ hy h1
      have hfree' : ∀ k ok, ops[k]? = some ok → k ≠ i → (listed.setIfInBounds j true).getD k true = false →
          (∀ e ∈ ok.after, Region.binds md e = true → e.on ≠ i) → oi.apart ops ok = true := fun k ok hk hki hun hno => by
        refine hfree k ok hk hki ?_ hno
        by_cases hjk : j = k
        · subst hjk; exact hjun
        · rw [getD_set_ne true hjk] at hun; exact hun
      have hd' : ∀ d ∈ ds, (listed.setIfInBounds j true).getD d true = false → reachB md ops i n d = true := fun d hm hun => by
        refine hd d hm ?_
        by_cases hjk : j = d
        · subst hjk; exact hjun
        · rw [getD_set_ne true hjk] at hun; exact hun
      refine wpOp_mono (fun a' w' ⟨hy', S', hle, hS', h3⟩ => ⟨S', hle, hS', ih (listed.setIfInBounds j true) a' w' S' hfree' (hc.set hj) hd' (ready_mono hr (Ne.symm hji)) (YieldsIf.le hy' (hle hjd)) hS' ?_⟩) h2
      rw [Array.setIfInBounds_comm _ _ hji]
      exact h3

theorem wpX_first2 {i : Nat} {oi : Oper} {v : Value} (hi : ops[i]? = some oi) (hsel : ∀ (j : Nat) (o : Oper) cs b, ops[j]? = some o → o.op ≠ .select cs b)
    (hQ : ∀ c a w, Q (.panic c) (a.put oi.dst v) w → Q (.panic c) a w) :
    ∀ (fuel : Nat) (listed : Array Bool) (a : Act) (w : World) (S : World → Prop),
      (∀ j oj, ops[j]? = some oj → j ≠ i → listed.getD j true = false → (∀ e ∈ oj.after, Region.binds md e = true → e.on ≠ i) → oi.apart ops oj = true) →
      Closed md ops listed →
      i ∈ Region.ready md ops listed → YieldsIf P ops (fun _ => True) oi v a → S w →
      wpX P md ops Q ds fuel (listed.setIfInBounds i true) (a.put oi.dst v) w S → wpX P md ops Q ds (fuel + 1) listed a w S := by
  intro fuel
  induction fuel with
  | zero =>
    intro listed a w S _ _ hr hy hS H
    refine ⟨fun h => (by rw [h] at hr; cases hr), fun j hj => ?_⟩
    by_cases hji : j = i
    · subst hji; exact hy.wpOp hi trivial ⟨S, fun _ _ h => h, hS, H⟩
    · have := ready_mono hj hji
      rw [H.1] at this
      cases this
  | succ fuel ih =>
    intro listed a w S hfree hc hr hy hS H
    refine ⟨fun h => (by rw [h] at hr; cases hr), fun j hj => ?_⟩
    by_cases hji : j = i
    · subst hji; exact hy.wpOp hi trivial ⟨S, fun _ _ h => h, hS, H⟩
    · have h1 := H.2 j (ready_mono hj hji)
      obtain ⟨hjun, oj, hoj, hall⟩ := mem_ready.1 hj
      have hiun := (mem_ready.1 hr).1
      have hnot : ∀ e ∈ oj.after, Region.binds md e = true → e.on ≠ i := fun e he hb heq => by
        have h1 := hall e he hb
        rw [heq] at h1
        exact unlisted_both hiun h1
      have h2 := wpOp_putIf hoj (hfree j oj hoj hji hjun hnot) (fun cs b => hsel i oi cs b hi) (fun cs b => hsel j oj cs b hoj) hQ hy h1
      have hfree' : ∀ k ok, ops[k]? = some ok → k ≠ i → (listed.setIfInBounds j true).getD k true = false →
          (∀ e ∈ ok.after, Region.binds md e = true → e.on ≠ i) → oi.apart ops ok = true := fun k ok hk hki hun hno => by
        refine hfree k ok hk hki ?_ hno
        by_cases hjk : j = k
        · subst hjk; exact hjun
        · rw [getD_set_ne true hjk] at hun; exact hun
      refine wpOp_mono (fun a' w' ⟨hy', S', hle, hS', h3⟩ => ⟨S', hle, hS', ih (listed.setIfInBounds j true) a' w' S' hfree' (hc.set hj) (ready_mono hr (Ne.symm hji)) hy' hS' ?_⟩) h2
      rw [Array.setIfInBounds_comm _ _ hji]
      exact h3

theorem wpX_done {listed : Array Bool} {a : Act} {w : World} (hr : Region.ready md ops listed = []) (h : Q .normal a w) : ∀ fuel S, wpX P md ops Q ds fuel listed a w S
  | 0, _ => ⟨hr, h⟩
  | _ + 1, _ => ⟨fun _ => h, by rw [hr]; simp⟩
end

/-- An order of work: what is taken first, what must come up, or what may. -/
inductive Sch where
  | done
  | take (i : Nat) (r : Sch)
  | one (i : Nat) (r : Sch)
  | two (i : Nat) (r : Sch) (j : Nat) (r' : Sch)
def movB (ops : Array Oper) (i : Nat) : Bool := match ops[i]? with
  | some o => heapless o.op
  | none => false
def schOk (md : Region.Mode) (ops : Array Oper) (ds : List Nat) : Nat → Array Bool → Sch → Bool
  | _, l, .done => (Region.ready md ops l).isEmpty
  | f + 1, l, .take i r => Region.free md ops l i && (Region.ready md ops l).contains i && closedB md ops l && ((ds.all fun d => l.getD d true || reachB md ops i ops.size d) || movB ops i) && schOk md ops ds f (l.setIfInBounds i true) r
  | f + 1, l, .one i r => Region.ready md ops l == [i] && schOk md ops ds f (l.setIfInBounds i true) r
  | f + 1, l, .two i r j r' => Region.ready md ops l == [i, j] && schOk md ops ds f (l.setIfInBounds i true) r && schOk md ops ds f (l.setIfInBounds j true) r'
  | 0, _, _ => false
inductive T where
  | done
  | take (io : Iop) (r : T)
  | act (ex : Bool) (io : Iop) (r : T)
  | two (ex : Bool) (io : Iop) (r : T) (ex' : Bool) (io' : Iop) (r' : T)
def lay (ios : List Iop) (ds : List Nat) : Sch → Option T
  | .done => some .done
  | .take i r => match ios[i]?, lay ios ds r with
    | some io, some t => if io.q then some (.take io t) else none
    | _, _ => none
  | .one i r => match ios[i]?, lay ios ds r with
    | some io, some t => some (.act (decide (i ∈ ds)) io t)
    | _, _ => none
  | .two i r j r' => match ios[i]?, lay ios ds r, ios[j]?, lay ios ds r' with
    | some io, some t, some io', some t' => some (.two (decide (i ∈ ds)) io t (decide (j ∈ ds)) io' t')
    | _, _, _, _ => none
def Env.less (E : Env) (ub : List Nat) : Env := { E with boxes := dropks ub E.boxes }
def vcA (P : Program) (mt : Mt) (ub : Option (List Nat)) (E : Env) (io : Iop) (K : Env → Prop) : Prop :=
  match io.q with
  | true => vcQ E E io K
  | false => vcAct P mt ub E io K
def vcT (P : Program) (mt : Mt) (ub : List Nat) (Q : Env → Prop) : T → Env → Prop
  | .done, E => Q E
  | .take io r, E => (ub.all fun b => (E.boxes.lookup b).isSome) = true ∧ vcQ (E.less ub) E io (vcT P mt ub Q r)
  | .act ex io r, E => vcA P mt (if ex then none else some ub) E io (vcT P mt ub Q r)
  | .two ex io r ex' io' r', E => vcA P mt (if ex then none else some ub) E io (vcT P mt ub Q r) ∧ vcA P mt (if ex' then none else some ub) E io' (vcT P mt ub Q r')

section
variable {P : Program} {G : Gl} {E : Env} {X : RX} {a : Act} {o : Oper} {mt : Mt} {ops : Array Oper} {ub ds : List Nat}

theorem Sat.less (h : Sat G E X a) (ub : List Nat) : Sat G (E.less ub) X a := by
  have hb : ∀ b B, (dropks ub E.boxes).lookup b = some B → E.boxes.lookup b = some B := by
    intro b B hb
    rw [lookup_dropks] at hb
    split at hb
    · cases hb
    · exact hb
  exact ⟨h.n, ⟨h.inv.fr, h.inv.Flt, h.inv.Fold, h.inv.Fnew, fun b B hb' => h.inv.box b B (hb b B hb'), h.inv.row, fun b b' B B' h1 h2 => h.inv.bb b b' B B' (hb b B h1) (hb b' B' h2), h.inv.rr, fun b i B R h1 h2 => h.inv.br b i B R (hb b B h1) h2⟩, h.tm, h.df, h.kp⟩

/-- What the reads lean on. -/
def Sx (ub : List Nat) (X : RX) (W : World) : Prop := X.w.heap.size ≤ W.heap.size ∧ ∀ k, k < X.w.heap.size → (¬ ∃ b ∈ ub, X.β b = k) → W.heap[k]? = X.w.heap[k]?
theorem Sx.self (ub : List Nat) (X : RX) : Sx ub X X.w := ⟨Nat.le_refl _, fun _ _ _ => rfl⟩
theorem Sx.same (h : Sat G E X a) (hub : ∀ b ∈ ub, ∃ B, E.boxes.lookup b = some B) {W : World} (hS : Sx ub X W) : Same (E.less ub) X W := by
  intro k hk
  refine hS.2 k ?_ ?_
  · rcases hk with hk | ⟨b, B, hb, rfl⟩ | ⟨i, R, hi, hg⟩
    · exact h.inv.Flt k hk
    · exact box_lt (h.less ub).inv hb
    · exact row_lt h.inv hi hg
  · rintro ⟨b, hb, e⟩
    obtain ⟨B, hB⟩ := hub b hb
    rcases hk with hk | ⟨b', B', hb', e'⟩ | ⟨i, R, hi, hg⟩
    · exact (h.inv.box b B hB).nf (by rw [e]; exact hk)
    · simp only [Env.less] at hb'
      rw [lookup_dropks] at hb'
      split at hb'
      · cases hb'
      · rename_i hn
        refine h.inv.bb b b' B B' hB hb' (fun e2 => hn (e2 ▸ hb)) (e.trans e'.symm)
    · exact h.inv.br b i B R hB hi (e ▸ hg)
theorem Sx.step (h : Sat G E X a) (hub : ∀ b ∈ ub, ∃ B, E.boxes.lookup b = some B) {M : Nat → Prop} {X' : RX} (hc : Ch M X X') (hM : ∀ k, M k → ∃ b ∈ ub, X.β b = k) {W : World} (hS : Sx ub X' W) : Sx ub X W := by
  have hMs : ¬ M X.w.heap.size := by
    intro hm
    obtain ⟨b, hb, e⟩ := hM _ hm
    obtain ⟨B, hB⟩ := hub b hb
    have := box_lt h.inv hB
    omega
  refine ⟨Nat.le_trans hc.1 hS.1, fun k hk hn => ?_⟩
  rw [← hc.2.1 k hk (fun hm => hn (hM k hm))]
  refine hS.2 k (Nat.lt_of_lt_of_le hk hc.1) ?_
  rintro ⟨b, hb, e⟩
  obtain ⟨B, hB⟩ := hub b hb
  refine hn ⟨b, hb, ?_⟩
  rw [← e, hc.2.2 hMs b (h.inv.box b B hB).lt]

theorem vcT_sound {md : Region.Mode} {Qe : Env → Prop} {Q : Exit → Act → World → Prop} (hQ : ∀ E' X' a', Qe E' → Sat G E' X' a' → Q .normal a' X'.w) (hpan : ∀ c a w, ¬ Q (.panic c) a w) (hsel : Region.noSelect ops = true)
    {ios : List Iop} (hios : compIOs P ops ops.toList = some ios) :
    ∀ (s : Sch) (fuel : Nat) (listed : Array Bool) (t : T) (E : Env) (X : RX) (a : Act), schOk md ops ds fuel listed s = true → lay ios ds s = some t → Sat G E X a → vcT P mt ub Qe t E → wpX P md ops Q ds fuel listed a X.w (Sx ub X) := by
  have hget : ∀ (l : List Oper) (ios : List Iop), compIOs P ops l = some ios → ∀ (i : Nat) (io : Iop), ios[i]? = some io → ∃ o, l[i]? = some o ∧ compIO P ops o = some io := by
    intro l
    induction l with
    | nil => intro ios h i io hi; simp only [compIOs, Option.some.injEq] at h; subst h; simp at hi
    | cons o l ih =>
      intro ios h i io hi
      obtain ⟨io0, r, h1, h2, rfl⟩ := compIOs_cons h
      cases i with
      | zero => simp only [List.getElem?_cons_zero, Option.some.injEq] at hi; subst hi; exact ⟨o, rfl, h1⟩
      | succ i => simp only [List.getElem?_cons_succ] at hi ⊢; exact ih r h2 i io hi
  have hg := fun i io hi => hget ops.toList ios hios i io hi
  -- one operation that must or may come up
  have step : ∀ (i : Nat) (io : Iop) (fuel : Nat) (listed : Array Bool) (E : Env) (X : RX) (a : Act) (r : T), ios[i]? = some io → Sat G E X a → vcA P mt (if decide (i ∈ ds) then none else some ub) E io (vcT P mt ub Qe r) →
      (∀ E' X' a', Sat G E' X' a' → vcT P mt ub Qe r E' → wpX P md ops Q ds fuel (listed.setIfInBounds i true) a' X'.w (Sx ub X')) →
      wpOp P ops Q i (fun a' w' => ∃ S' : World → Prop, (i ∉ ds → ∀ W, S' W → Sx ub X W) ∧ S' w' ∧ wpX P md ops Q ds fuel (listed.setIfInBounds i true) a' w' S') a X.w := by
    intro i io fuel listed E X a r hi hs hv hnext
    obtain ⟨o, ho, hc⟩ := hg i io hi
    have ho' : ops[i]? = some o := by rw [← Array.getElem?_toList]; exact ho
    unfold wpOp
    rw [ho']
    cases hq : io.q with
    | true =>
      simp only [vcA, hq] at hv
      obtain ⟨v, E', h3, h4, h5⟩ := vcQ_sound hs hs hc hq hv
      rcases h5 with ⟨hw, hrun⟩ | ⟨hw, rfl⟩
      · simp only
        rw [if_pos hw]
        exact .inl (by
          unfold Oper.wp
          rw [hrun X.w (fun _ _ => rfl)]
          exact ⟨Sx ub X, fun _ W hW => hW, Sx.self ub X, hnext E' X _ h4 h3⟩)
      · simp only
        rw [if_neg (by rw [hw]; simp)]
        exact ⟨Sx ub X, fun _ W hW => hW, Sx.self ub X, hnext E' X _ h4 h3⟩
    | false =>
    simp only [vcA, hq] at hv
    have := vcAct_sound hs hc hq hv (fun a' w' => ∃ S' : World → Prop, (i ∉ ds → ∀ W, S' W → Sx ub X W) ∧ S' w' ∧ wpX P md ops Q ds fuel (listed.setIfInBounds i true) a' w' S') Q (fun E' X' v h1 h2 h3 => by
      obtain ⟨M, hch, hM⟩ := h3
      refine ⟨Sx ub X', fun hn W hW => ?_, Sx.self ub X', hnext E' X' _ h2 h1⟩
      rcases hM ub (by simp [hn]) with ⟨hub, hM⟩ | rfl
      · exact Sx.step hs hub hch hM hW
      · exact hW)
    simp only
    by_cases hw : Region.wanted o (yielded ops a.tmps) = true
    · rw [if_pos hw] at this ⊢; exact .inl this
    · rw [if_neg hw] at this ⊢; exact this
  intro s
  induction s with
  | done =>
    intro fuel listed t E X a hok hl hs hv
    simp only [lay, Option.some.injEq] at hl
    subst hl
    have hr : Region.ready md ops listed = [] := by
      cases fuel <;> simpa [schOk] using hok
    exact wpX_done hr (hQ E X a hv hs) fuel _
  | take i r ih =>
    intro fuel listed t E X a hok hl hs hv
    cases fuel with
    | zero => simp [schOk] at hok
    | succ fuel =>
      simp only [schOk, Bool.and_eq_true] at hok
      obtain ⟨⟨⟨⟨h1, h2⟩, h3⟩, h4⟩, h5⟩ := hok
      simp only [lay] at hl
      cases hi : ios[i]? with
      | none => simp [hi] at hl
      | some io =>
        cases hr : lay ios ds r with
        | none => simp [hi, hr] at hl
        | some t' =>
          simp only [hi, hr] at hl
          split at hl
          · rename_i hq
            simp only [Option.some.injEq] at hl
            subst hl
            obtain ⟨o, ho, hc⟩ := hg i io hi
            have ho' : ops[i]? = some o := by rw [← Array.getElem?_toList]; exact ho
            simp only [vcT] at hv
            have hub : ∀ b ∈ ub, ∃ B, E.boxes.lookup b = some B := fun b hb => Option.isSome_iff_exists.1 (List.all_eq_true.1 hv.1 b hb)
            rcases Bool.or_eq_true_iff.1 h4 with h4 | h4
            · obtain ⟨v, E', h6, h7, h8⟩ := vcQ_sound hs (hs.less ub) hc hq hv.2
              refine wpX_first ho' (Region.noSelect_spec hsel) (fun c a w h => (hpan _ _ _ h).elim) ops.size fuel listed a X.w (Sx ub X) (Region.free_spec ho' h1) (closedB_spec h3) (fun d hd hun => ?_) (by simpa using h2) ?_ (Sx.self ub X) (ih fuel _ t' E' X _ h5 hr h7 h6)
              · have := List.all_eq_true.1 h4 d hd
                rw [hun] at this
                simpa using this
              · rcases h8 with ⟨hw, hrun⟩ | ⟨hw, rfl⟩
                · exact .inl ⟨hw, fun W hW => hrun W (Sx.same hs hub hW)⟩
                · exact .inr ⟨hw, rfl⟩
            · have hn : heapless o.op = true := by simpa [movB, ho'] using h4
              obtain ⟨v, E', h6, h7, h8⟩ := vcQ_sound0 hn hs (hs.less ub) hc hq hv.2
              refine wpX_first2 ho' (Region.noSelect_spec hsel) (fun c a w h => (hpan _ _ _ h).elim) fuel listed a X.w (Sx ub X) (Region.free_spec ho' h1) (closedB_spec h3) (by simpa using h2) ?_ (Sx.self ub X) (ih fuel _ t' E' X _ h5 hr h7 h6)
              rcases h8 with ⟨hw, hrun⟩ | ⟨hw, rfl⟩
              · exact .inl ⟨hw, fun W _ => hrun W⟩
              · exact .inr ⟨hw, rfl⟩
          · cases hl
  | one i r ih =>
    intro fuel listed t E X a hok hl hs hv
    cases fuel with
    | zero => simp [schOk] at hok
    | succ fuel =>
      simp only [schOk, Bool.and_eq_true, beq_iff_eq] at hok
      simp only [lay] at hl
      cases hi : ios[i]? with
      | none => simp [hi] at hl
      | some io =>
        cases hr : lay ios ds r with
        | none => simp [hi, hr] at hl
        | some t' =>
          simp only [hi, hr] at hl
          simp only [Option.some.injEq] at hl
          subst hl
          simp only [vcT] at hv
          refine ⟨fun h => (by rw [hok.1] at h; cases h), fun j hj => ?_⟩
          rw [hok.1, List.mem_singleton] at hj
          subst hj
          exact step j io fuel listed E X a t' hi hs hv (fun E' X' a' h1 h2 => ih fuel _ t' E' X' a' hok.2 hr h1 h2)
  | two i r j r' ih ih' =>
    intro fuel listed t E X a hok hl hs hv
    cases fuel with
    | zero => simp [schOk] at hok
    | succ fuel =>
      simp only [schOk, Bool.and_eq_true, beq_iff_eq] at hok
      simp only [lay] at hl
      cases hi : ios[i]? with
      | none => simp [hi] at hl
      | some io =>
        cases hr : lay ios ds r with
        | none => simp [hi, hr] at hl
        | some t1 =>
          cases hi' : ios[j]? with
          | none => simp [hi, hr, hi'] at hl
          | some io' =>
            cases hr' : lay ios ds r' with
            | none => simp [hi, hr, hi', hr'] at hl
            | some t2 =>
              simp only [hi, hr, hi', hr'] at hl
              simp only [Option.some.injEq] at hl
              subst hl
              simp only [vcT] at hv
              refine ⟨fun h => (by rw [hok.1.1] at h; cases h), fun k hk => ?_⟩
              rw [hok.1.1] at hk
              simp only [List.mem_cons, List.not_mem_nil, or_false] at hk
              rcases hk with rfl | rfl
              · exact step k io fuel listed E X a t1 hi hs hv.1 (fun E' X' a' h1 h2 => ih fuel _ t1 E' X' a' hok.1.2 hr h1 h2)
              · exact step k io' fuel listed E X a t2 hi' hs hv.2 (fun E' X' a' h1 h2 => ih' fuel _ t2 E' X' a' hok.2 hr' h1 h2)

end
end Go.VV
