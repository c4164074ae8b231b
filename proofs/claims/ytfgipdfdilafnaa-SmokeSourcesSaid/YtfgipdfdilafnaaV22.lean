/- Steps of a proof: what follows stands behind a variable. -/
import Derived.Test.YtfgipdfdilafnaaV21
set_option linter.unusedSimpArgs false
set_option linter.unusedVariables false
namespace Go.VV
open Go.RowKit

abbrev I (x : Int) : AV := .int .i64 x
abbrev Bo (x : Bool) : AV := .bool x
abbrev no : Mt := fun _ => false

/-- A value without names is handed back, and nothing else. -/
theorem ret_val {n0 : Nat} {r : AV} {Q : AV → Cx → Prop} {E : Env} (hw : Wk id (n0 + 4) r r) (hQ : Q r ⟨[], []⟩) : Ret n0 Q E r :=
  ⟨⟨[(0, r)], [], [], n0 + 4, 1⟩, r, ⟨[], id, ⟨⟨Nat.le_add_right _ _, rfl, fun _ _ => rfl⟩, ⟨hw, trivial⟩, trivial, trivial, fun i j h => by simp [keys] at h, fun i j h => by simp [keys] at h⟩⟩, rfl, rfl, hQ⟩
/-- Handed back, with resources. -/
theorem ret_at {n0 : Nat} {r0 r : AV} {Q : AV → Cx → Prop} {E : Env} (adms : List Adm) (ρ : Nat → Nat) (rows : List (Nat × Row)) (boxes : List (Nat × Bx)) (hs : Steps adms (Le n0 ρ ⟨[(0, r)], rows, boxes, n0 + 4, 1⟩) { E with tm := [(0, r0)], k := 1 }) (hQ : Q r ⟨rows, boxes⟩) : Ret n0 Q E r0 :=
  ⟨⟨[(0, r)], rows, boxes, n0 + 4, 1⟩, r, ⟨adms, ρ, hs⟩, rfl, rfl, hQ⟩

/-- A value is handed back, and the box that was lent. -/
theorem ret_box0 {r : AV} {Q : AV → Cx → Prop} {E : Env} {B : Bx} (hb : E.boxes.lookup 0 = some B) (hw : Wk id 5 r r) (hB : WkL id 5 B.c B.c) (hQ : Q r ⟨[], [(0, B)]⟩) : Ret 1 Q E r :=
  ret_at [] id [] [(0, B)] ⟨⟨by simp, rfl, fun _ _ => rfl⟩, ⟨hw, trivial⟩, trivial, ⟨⟨by simp, by simp [hb, hB]⟩, trivial⟩, fun i j h => by simp [keys] at h, fun i j _ _ h => h⟩ hQ
/-- How the law of a function is begun: what is asked at the end stands behind variables. -/
theorem Laid.go {P : Program} {f : FuncId} {c : C} {rvs : List RV} {k : Nat} (h : Laid P f c rvs k) (hm : P.follows .mixedOrders = true) (mt : Mt) {Cx0 : Cx} {n : Nat} {args : List AV} {Q : AV → Cx → Prop} (hka : args.length ≤ k)
    (hv : ∀ Q0 : AV → Cx → Prop, (∀ r C, Q r C → Q0 r C) → ∀ Rt : Env → Prop, (∀ E, vcRes rvs E (fun l => Ret n Q0 E (retAV l)) → Rt E) → vc P mt n c Rt (fun _ _ => False) Rt ⟨argT 0 args, Cx0.rows, Cx0.boxes, n, k⟩) : Spec P f Cx0 n args Q :=
  h.spec hm mt (hv Q (fun _ _ h => h) _ (fun _ h => h)) hka
section
variable {P : Program} {mt : Mt} {n0 : Nat} {N : Env → Prop} {Xt : Nat → Env → Prop} {R : Env → Prop} {E : Env}
theorem vc_seq_i {x y : C} (h : ∀ K : Env → Prop, (∀ E, vc P mt n0 y N Xt R E → K E) → vc P mt n0 x K Xt R E) : vc P mt n0 (.seq x y) N Xt R E :=
  ⟨Empty, Empty.elim, h _ (fun _ h => .inl h), fun e => e.elim⟩
/-- A meeting point behind x. -/
theorem vc_seq_j {x y : C} (σ : Type) (J : σ → Env) (h : ∀ K : Env → Prop, (∀ E, (∃ s, Turn n0 (J s) E) → K E) → vc P mt n0 x K Xt R E) (hJ : ∀ s, vc P mt n0 y N Xt R (J s)) : vc P mt n0 (.seq x y) N Xt R E :=
  ⟨σ, J, h _ (fun _ h => .inr h), hJ⟩
theorem vc_ops_i {ios : List Iop} (h : vcOps P mt N ios E) : vc P mt n0 (.ops ios) N Xt R E := h
theorem vc_drw_i {t : T} (ub : List Nat) (h : vcT P mt ub N t E) : vc P mt n0 (.drw t) N Xt R E := ⟨ub, h⟩
theorem vc_skip_i (h : N E) : vc P mt n0 .skip N Xt R E := h
theorem vc_ret_i (h : R E) : vc P mt n0 .ret N Xt R E := h
theorem vc_dead_i (h : False) : vc P mt n0 .dead N Xt R E := h
theorem vc_exit_i {id : Nat} (h : Xt id E) : vc P mt n0 (.exit id) N Xt R E := h
theorem vc_block_i {id : Nat} {x : C} (h : ∀ Y : Nat → Env → Prop, (∀ E, N E → Y id E) → (∀ i E, i ≠ id → Xt i E → Y i E) → vc P mt n0 x N Y R E) : vc P mt n0 (.block id x) N Xt R E := by
  refine ⟨Empty, Empty.elim, ?_, fun e => e.elim⟩
  have e : (fun E => N E ∨ ∃ s : Empty, Turn n0 (Empty.elim s) E) = N := funext fun E => propext ⟨fun h => h.elim (fun h => h) (fun ⟨s, _⟩ => s.elim), .inl⟩
  rw [e]
  exact h _ (fun E h => by simp only [if_true]; exact .inl h) (fun i E hi h => by simp only [if_neg hi]; exact h)
/-- A meeting point behind a block. -/
theorem vc_block_j {id : Nat} {x : C} (σ : Type) (J : σ → Env) (h : ∀ K : Env → Prop, (∀ E, (∃ s, Turn n0 (J s) E) → K E) → ∀ Y : Nat → Env → Prop, (∀ E, (∃ s, Turn n0 (J s) E) → Y id E) → (∀ i E, i ≠ id → Xt i E → Y i E) → vc P mt n0 x K Y R E) (hJ : ∀ s, N (J s)) : vc P mt n0 (.block id x) N Xt R E :=
  ⟨σ, J, h _ (fun _ h => .inr h) _ (fun E h => by simp only [if_true]; exact .inr h) (fun i E hi h => by simp only [if_neg hi]; exact h), hJ⟩
theorem vc_cond_i {c : Opn} {x y : C} {b : Bool} (hc : E.opd c = .bool b) (ht : b = true → vc P mt n0 x N Xt R E) (hf : b = false → vc P mt n0 y N Xt R E) : vc P mt n0 (.cond c x y) N Xt R E := by
  simp only [vc, hc, AV.un]
  exact ⟨ht, hf⟩
theorem ops_nil (h : N E) : vcOps P mt N [] E := h
theorem ops_q {d : Option Nat} {g : Option (Nat × Bool)} {i : Ins} {r : List Iop} (h : ∀ K : Env → Prop, (∀ E, vcOps P mt N r E → K E) → vcQ E E ⟨d, g, true, i⟩ K) : vcOps P mt N (⟨d, g, true, i⟩ :: r) E := h _ (fun _ h => h)
theorem ops_a {d : Option Nat} {g : Option (Nat × Bool)} {i : Ins} {r : List Iop} (h : ∀ K : Env → Prop, (∀ E, vcOps P mt N r E → K E) → vcAct P mt none E ⟨d, g, false, i⟩ K) : vcOps P mt N (⟨d, g, false, i⟩ :: r) E := h _ (fun _ h => h)
theorem ops_a0 {d : Option Nat} {i : Ins} {r : List Iop} (h : ∀ K : Env → Prop, (∀ E, vcOps P mt N r E → K E) → vcAct P mt none E ⟨d, none, false, i⟩ K) : vcOps P mt N (⟨d, none, false, i⟩ :: r) E := h _ (fun _ h => h)
theorem ops_ag {d : Option Nat} {t : Nat} {w : Bool} {i : Ins} {r : List Iop} (h : ∀ K : Env → Prop, (∀ E, vcOps P mt N r E → K E) → vcAct P mt none E ⟨d, some (t, w), false, i⟩ K) : vcOps P mt N (⟨d, some (t, w), false, i⟩ :: r) E := h _ (fun _ h => h)
theorem act_T {d : Option Nat} {t : Nat} {w : Bool} {i : Ins} {K : Env → Prop} {ub : Option (List Nat)} (hb : E.tmp t = .bool w) (h : force True i.temps (fun E1 => chk mt ub E1 i ∧ vcE P mt E1 (fun E' av => K (E'.set d av)) i) E) : vcAct P mt ub E ⟨d, some (t, w), false, i⟩ K := by
  simp only [vcAct, vcG, hb]
  exact ⟨fun _ => h, fun h => absurd trivial h⟩
theorem act_F {d : Option Nat} {t : Nat} {w : Bool} {i : Ins} {K : Env → Prop} {ub : Option (List Nat)} (hb : E.tmp t = .bool (!w)) (h : K (E.set d (.cnd False .top))) : vcAct P mt ub E ⟨d, some (t, w), false, i⟩ K := by
  simp only [vcAct, vcG, hb]
  exact ⟨fun hp => absurd hp (by cases w <;> simp), fun _ => h⟩
theorem act_c {d : Option Nat} {t : Nat} {w b : Bool} {i : Ins} {K : Env → Prop} {ub : Option (List Nat)} (hb : E.tmp t = .bool b) (h : ∀ c, b = c → vcAct P mt ub E ⟨d, some (t, w), false, i⟩ K) : vcAct P mt ub E ⟨d, some (t, w), false, i⟩ K := h b rfl
theorem act_N {d : Option Nat} {t : Nat} {w : Bool} {av : AV} {i : Ins} {K : Env → Prop} {ub : Option (List Nat)} (hb : E.tmp t = .cnd False av) (h : K (E.set d (.cnd False .top))) : vcAct P mt ub E ⟨d, some (t, w), false, i⟩ K := by
  simp only [vcAct, vcG, hb]
  split
  · rename_i q h1; cases h1
  · rename_i q b h1; cases h1; exact ⟨fun hp => hp.1.elim, fun _ => h⟩
  · rename_i q a _ h1; cases h1; exact ⟨id, fun hp => hp.elim, fun _ => h⟩
  · rename_i h1 h2 h3; exact h3 _ _ rfl
theorem T_done {ub : List Nat} (h : N E) : vcT P mt ub N .done E := h
theorem T_take {ub : List Nat} {io : Iop} {r : T} (hub : (ub.all fun b => (E.boxes.lookup b).isSome) = true) (h : ∀ K : Env → Prop, (∀ E, vcT P mt ub N r E → K E) → vcQ (E.less ub) E io K) : vcT P mt ub N (.take io r) E := ⟨hub, h _ (fun _ h => h)⟩
theorem T_three {ub : List Nat} {ex ex' ex'' : Bool} {io io' io'' : Iop} {r r' r'' : T} (h1 : vcT P mt ub N (.act ex io r) E) (h2 : vcT P mt ub N (.act ex' io' r') E) (h3 : vcT P mt ub N (.act ex'' io'' r'') E) : vcT P mt ub N (.three ex io r ex' io' r' ex'' io'' r'') E := ⟨h1, h2, h3⟩
theorem T_actq {ub : List Nat} {ex : Bool} {d : Option Nat} {g : Option (Nat × Bool)} {i : Ins} {r : T} (h : ∀ K : Env → Prop, (∀ E, vcT P mt ub N r E → K E) → vcQ E E ⟨d, g, true, i⟩ K) : vcT P mt ub N (.act ex ⟨d, g, true, i⟩ r) E := h _ (fun _ h => h)
theorem T_fg {ub ds : List Nat} {r : T} (h : vcT P mt ub N r (E.forget ds)) : vcT P mt ub N (.fg ds r) E := h
theorem T_lz {ub : List Nat} {d : Option Nat} {g : Option (Nat × Bool)} {i : Ins} {r : T} (hub : (ub.all fun b => (E.boxes.lookup b).isSome) = true) (h : ∀ K : Env → Prop, (∀ E, vcT P mt ub N r E → K E) → vcAct P mt none E ⟨d, none, false, i⟩ K) : vcT P mt ub N (.lz ⟨d, g, false, i⟩ r) E := ⟨hub, (h _ (fun _ h => h)).2⟩
theorem T_two {ub : List Nat} {ex ex' : Bool} {io io' : Iop} {r r' : T} (h1 : vcT P mt ub N (.act ex io r) E) (h2 : vcT P mt ub N (.act ex' io' r') E) : vcT P mt ub N (.two ex io r ex' io' r') E := ⟨h1, h2⟩
theorem T_act {ub : List Nat} {ex : Bool} {io : Iop} {r : T} (h : ∀ K : Env → Prop, (∀ E, vcT P mt ub N r E → K E) → vcA P mt (if ex then none else some ub) E io K) : vcT P mt ub N (.act ex io r) E := h _ (fun _ h => h)
theorem T_act0 {ub : List Nat} {ex : Bool} {d : Option Nat} {i : Ins} {r : T} (h : ∀ K : Env → Prop, (∀ E, vcT P mt ub N r E → K E) → vcAct P mt (if ex then none else some ub) E ⟨d, none, false, i⟩ K) : vcT P mt ub N (.act ex ⟨d, none, false, i⟩ r) E := h _ (fun _ h => h)
theorem T_actg {ub : List Nat} {ex : Bool} {d : Option Nat} {t : Nat} {w : Bool} {i : Ins} {r : T} (h : ∀ K : Env → Prop, (∀ E, vcT P mt ub N r E → K E) → vcAct P mt (if ex then none else some ub) E ⟨d, some (t, w), false, i⟩ K) : vcT P mt ub N (.act ex ⟨d, some (t, w), false, i⟩ r) E := h _ (fun _ h => h)
theorem loop_i {x : C} (σ : Type) (T : σ → Env) (μ : σ → Nat) (s0 : σ) (h0 : Turn n0 (T s0) E) (h : ∀ s, ∀ K : Env → Prop, (∀ E', (∃ s', μ s' < μ s ∧ Turn n0 (T s') E') → K E') → vc P mt n0 x K Xt R (T s)) : vc P mt n0 (.loop x) N Xt R E :=
  ⟨σ, T, μ, ⟨s0, h0⟩, fun s => h s _ (fun E' h => h)⟩
/-- A call by the law of the function. -/
theorem call_i {f : FuncId} {args : List Opn} {caps : List AV} {K : Env → AV → Prop} {C : Cx} {n : Nat} {av : List AV} {Q : AV → Cx → Prop} (h : Spec P f C n av Q) (ρ τ : Nat → Nat)
    (h1 : ∀ j, j < n → ρ j < (E.toCall mt f args).n ∧ τ (ρ j) = j) (h2 : WkL ρ n av (args.map (E.toCall mt f args).opd ++ caps) ∧ rowsLe ρ n C.rows (lentOf E mt f args caps).rows ∧ boxesLe ρ n C.boxes (lentOf E mt f args caps).boxes)
    (hk : ∀ r C2, Q r C2 → K ((E.toCall mt f args).after (lentOf E mt f args caps) (C2.ren (rho n (E.toCall mt f args).n ρ))) (r.ren (rho n (E.toCall mt f args).n ρ))) : vcCall P mt E f args caps K :=
  h.use ρ τ h1 h2.1 h2.2.1 h2.2.2 hk
/-- A call of a function that is lent resources: their names in the caller. -/
theorem call_p {f : FuncId} {args : List Opn} {caps : List AV} {K : Env → AV → Prop} {C : Cx} {av : List AV} {Q : AV → Cx → Prop} (ns : List Nat) (h : Spec P f C ns.length av Q)
    (hb : (ns.all fun i => Nat.blt i (E.toCall mt f args).n) = true) (hi : ((List.range ns.length).all fun j => Nat.beq (ns.idxOf (ns.getD j 0)) j) = true)
    (h2 : WkL (fun i => ns.getD i 0) ns.length av (args.map (E.toCall mt f args).opd ++ caps) ∧ rowsLe (fun i => ns.getD i 0) ns.length C.rows (lentOf E mt f args caps).rows ∧ boxesLe (fun i => ns.getD i 0) ns.length C.boxes (lentOf E mt f args caps).boxes)
    (hk : ∀ r C2, Q r C2 → K ((E.toCall mt f args).after (lentOf E mt f args caps) (C2.ren (rho ns.length (E.toCall mt f args).n (fun i => ns.getD i 0)))) (r.ren (rho ns.length (E.toCall mt f args).n (fun i => ns.getD i 0)))) : vcCall P mt E f args caps K :=
  call_i h (fun i => ns.getD i 0) (fun i => ns.idxOf i) (fun j hj => by
    have h1 : ns.getD j 0 ∈ ns := by
      rw [List.getD_eq_getElem?_getD, List.getElem?_eq_getElem hj]; exact List.getElem_mem _
    have h3 := List.all_eq_true.1 hb _ h1
    have h4 := List.all_eq_true.1 hi j (List.mem_range.2 hj)
    exact ⟨by simpa [Nat.blt_eq] using h3, by simpa using h4⟩) h2 hk
/-- A call of a function that is lent nothing. -/
theorem call_0 {f : FuncId} {args : List Opn} {caps : List AV} {K : Env → AV → Prop} {av : List AV} {Q : AV → Cx → Prop} (h : Spec P f ⟨[], []⟩ 0 av Q) (h2 : WkL id 0 av (args.map (E.toCall mt f args).opd ++ caps))
    (hk : ∀ r C2, Q r C2 → K ((E.toCall mt f args).after (lentOf E mt f args caps) (C2.ren (rho 0 (E.toCall mt f args).n id))) (r.ren (rho 0 (E.toCall mt f args).n id))) : vcCall P mt E f args caps K :=
  h.use id id (fun j hj => absurd hj (Nat.not_lt_zero _)) h2 trivial trivial hk
/-- The states are one, names and all. -/
theorem turn_id {E1 E2 : Env} (hn : n0 ≤ E1.n) (hk : E1.k = E2.k) (h : tmLe id E1.n E1.tm E2.tm ∧ rowsLe id E1.n E1.rows E2.rows ∧ boxesLe id E1.n E1.boxes E2.boxes) : Turn n0 E1 E2 :=
  ⟨[], id, ⟨hn, hk, fun _ _ => rfl⟩, h.1, h.2.1, h.2.2, fun _ _ _ _ h => h, fun _ _ _ _ h => h⟩
/-- Names turned by ρ, undone by τ. -/
theorem turn_at {E1 E2 : Env} (adms : List Adm) (ρ τ : Nat → Nat) (h : Steps adms (fun E2 => (n0 ≤ E1.n ∧ E1.k = E2.k ∧ ∀ i, i < n0 → ρ i = i) ∧ (∀ i, i ∈ keys E1.rows ++ keys E1.boxes → τ (ρ i) = i) ∧ tmLe ρ E1.n E1.tm E2.tm ∧ rowsLe ρ E1.n E1.rows E2.rows ∧ boxesLe ρ E1.n E1.boxes E2.boxes) E2) : Turn n0 E1 E2 := by
  refine ⟨adms, ρ, ?_⟩
  have mono : ∀ (adms : List Adm) (k k' : Env → Prop), (∀ E, k E → k' E) → ∀ E, Steps adms k E → Steps adms k' E := by
    intro adms
    induction adms with
    | nil => exact fun k k' h E => h E
    | cons x t ih =>
      intro k k' hkk E hE
      cases x with
      | nilT d e s => exact ⟨hE.1, ih k k' hkk _ hE.2⟩
      | frz i => exact ih k k' hkk _ hE
      | nilB b off e s =>
        simp only [Steps] at hE ⊢
        split
        · rename_i B hB; rw [hB] at hE; exact ⟨hE.1, ih k k' hkk _ hE.2⟩
        · rename_i hB; rw [hB] at hE; exact hE.elim
      | wkR i c x =>
        simp only [Steps] at hE ⊢
        split
        · rename_i R hR; rw [hR] at hE; exact ⟨hE.1, ih k k' hkk _ hE.2⟩
        · rename_i hR; rw [hR] at hE; exact hE.elim
  refine mono adms _ _ (fun E ⟨h1, h2, h3, h4, h5⟩ => ⟨h1, h3, h4, h5, fun i j hi hj e => ?_, fun i j hi hj e => ?_⟩) _ h
  · rw [← h2 i (by simp [hi]), ← h2 j (by simp [hj]), e]
  · rw [← h2 i (by simp [hi]), ← h2 j (by simp [hj]), e]
theorem wrap64 {x : Int} (h1 : -9223372036854775808 ≤ x) (h2 : x ≤ 9223372036854775807) : IntKind.i64.wrap x = x := by
  rw [IntKind.wrap_i64]; omega
end
theorem alt_same {p : Prop} {av : AV} {K : AV → Prop} (h : K (.cnd p av)) : Alt p av K := ⟨av, _, fun _ => rfl, .inl rfl, h⟩
theorem alt_wrap {p : Prop} {x : Int} {K : AV → Prop} (h : p → -9223372036854775808 ≤ x ∧ x ≤ 9223372036854775807) (hk : K (.cnd p (I x))) : Alt p (.int .i64 (IntKind.i64.wrap x)) K := ⟨I x, _, fun hp => by rw [wrap64 (h hp).1 (h hp).2], .inl rfl, hk⟩
theorem alt_wrap' {c p : Prop} {x : Int} {K : AV → Prop} (h : p → -9223372036854775808 ≤ x ∧ x ≤ 9223372036854775807) (hk : K (.cnd p (I x))) (hc : c) : c ∧ Alt p (.int .i64 (IntKind.i64.wrap x)) K := ⟨hc, alt_wrap h hk⟩
theorem alt_same' {c p : Prop} {av : AV} {K : AV → Prop} (h : K (.cnd p av)) (hc : c) : c ∧ Alt p av K := ⟨hc, alt_same h⟩
/-- The guard is known to hold. -/
theorem alt_T {av : AV} {K : AV → Prop} (h : K av) : Alt True av K := ⟨av, av, fun _ => rfl, .inr ⟨trivial, rfl⟩, h⟩
theorem alt_T' {c : Prop} {av : AV} {K : AV → Prop} (h : K av) (hc : c) : c ∧ Alt True av K := ⟨hc, alt_T h⟩
theorem alt_by {p : Prop} {av : AV} {K : AV → Prop} (av2 : AV) (h : p → av2 = av) (hk : K (.cnd p av2)) : Alt p av K := ⟨av2, _, h, .inl rfl, hk⟩
theorem wk_sl {ρ : Nat → Nat} {n s m k : Nat} {f g : Nat → AV} (hk : k = m) (hf : ∀ j, j < m → f j = g j) : Wk ρ n (.sl s m f) (.sl s k g) := Or.inl ⟨g, by rw [hk], fun j hj => .inl (hf j hj)⟩
theorem wk_same {ρ : Nat → Nat} {n s m : Nat} {f : Nat → AV} : Wk ρ n (.sl s m f) (.sl s m f) := Or.inl ⟨f, rfl, fun _ _ => .inl rfl⟩
/-- Slices of structs that hold slices. -/
theorem wk_deep {ρ : Nat → Nat} {n s m k : Nat} {f g : Nat → AV} (hk : k = m) (hf : ∀ j, j < m → (f j).pure = true ∧ Wk ρ n (f j) (g j)) : Wk ρ n (.sl s m f) (.sl s k g) := Or.inl ⟨g, by rw [hk], fun j hj => .inr (hf j hj)⟩
theorem wk_nil {ρ : Nat → Nat} {n s : Nat} {f : Nat → AV} : Wk ρ n (.sl s 0 f) .nils := Or.inr ⟨rfl, rfl⟩
attribute [simp] Env.els1 Env.dstv Env.forget eqI Env.tmp Env.opd Env.set Env.opt vcQ vcG vcAct chk vq binA cmpI AV.un AV.unL vcRet vcRes retAV force Ins.temps opnT opnTs optT ofCells AV.cells zipP fillA AV.known Env.less dropks
attribute [simp] vcE Env.els Env.frzL Env.frz AV.owns AV.ownsL AV.pureL AV.pure AV.one AV.cell modOk stOk Env.toCall lentOf Env.lent lentB lentR AV.ptrs AV.ptrsL pickk fixed refix fxOf loose keys Env.after subAll subTAll subBAll AV.cut AV.cutL AV.cutT cutB repl dropk Env.grown AV.subL AV.sub AV.subT subB AV.setc lookup_cons
attribute [simp] AV.ren AV.renL renR renB Cx.ren rho Wk WkL tmLe rowsLe boxesLe argT Steps

end Go.VV
