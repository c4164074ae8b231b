/- All that act. -/
import Derived.Test.YtfgipdfdilafnaaV28
set_option linter.unusedSimpArgs false
set_option linter.unusedVariables false
namespace Go.VV
open Go.RowKit

section
variable {P : Program} {G : Gl} {E : Env} {X : RX} {a : Act} {o : Oper} {mt : Mt} {K : Env → AV → Prop}

theorem a_callv {c : Call} {x : Operand} {x' : Opn} {args : List Opn} (hs : Sat G E X a) (ho : o.op = .call c) (hcal : c.callee = .value x) (hx : compO x = some x') (hargs : compL c.args.toList = some args) (h : vcE P mt E K (.callv x' args)) : Acts P G X a o (insM mt E X (.callv x' args)) K := by
  have hv := opd_rep hs hx
  simp only [vcE] at h
  cases hx1 : E.opd x' with
  | fn f caps =>
    simp only [insM, hx1]
    rw [hx1] at h hv
    simp only at h
    obtain ⟨vs, hev, hr⟩ : ∃ vs : List Value, a.eval x = .func (.func f) #[] vs.toArray ∧ RepL X caps vs := by
      revert hv
      generalize a.eval x = v
      intro hv
      cases hv with
      | fn _ _ vs hl hh => exact ⟨vs, rfl, hl, hh⟩
    refine vcCall_sound hs hargs (cv := vs) (fun X' hle => hr.up hle) h (fun hok => ?_)
    obtain ⟨fn, b, h1, h2, h3⟩ := hok
    unfold execOp
    simp only [ho, resolve, hcal, Deferred.ofValue, hev, Sem.run_bind, Sem.run_pure, Result.andThen_ok, invoke]
    exact run_enter h1 h2 h3 (by apply Array.ext'; simp) X.w
  | _ => rw [hx1] at h; simp at h

theorem vcE_sound {ins : Ins} (hs : Sat G E X a) (hc : compE P o.op = some ins) (h : vcE P mt E K ins) : Acts P G X a o (insM mt E X ins) K := by
  cases hop : o.op
  case alloc T =>
    rw [hop] at hc
    simp only [compE, Option.map_eq_some_iff] at hc
    obtain ⟨z, hz, rfl⟩ := hc
    exact a_alloc hs hop hz h
  case box T x =>
    rw [hop] at hc
    simp only [compE, Option.map_eq_some_iff] at hc
    obtain ⟨x', hx, rfl⟩ := hc
    exact a_box hs hop hx h
  case buildSlice t len parts =>
    rw [hop] at hc
    simp only [compE] at hc
    cases hu : P.underlying t with
    | none => simp [hu] at hc
    | some d =>
      cases d with
      | slice e =>
        cases hi : P.info? e with
        | none => simp [hu, hi] at hc
        | some inf =>
          cases hp : compIdx 0 parts.toList with
          | none => simp [hu, hi, hp] at hc
          | some ps =>
            simp only [hu, hi, hp] at hc
            split at hc
            · rename_i hcond
              simp only [Option.some.injEq] at hc
              subst hc
              obtain ⟨z, hz⟩ := Option.isSome_iff_exists.1 hcond.2.2
              exact a_bsl hs hop hu hi hz hp hcond.1 h
            · cases hc
      | _ => simp [hu] at hc
  case makeSlice t n c =>
    rw [hop] at hc
    simp only [compE] at hc
    split at hc
    · rename_i e hu
      split at hc
      · rename_i inf zv n' c' hi hz hn hc'
        split at hc
        · rename_i hb
          simp only [Bool.and_eq_true, decide_eq_true_eq] at hb
          simp only [Option.some.injEq] at hc
          subst hc
          exact a_mksl hs hop hu hi hz hn hc' hb.1 hb.2 h
        · cases hc
      · cases hc
    · cases hc
  case slice t x lo hi mx =>
    rw [hop] at hc
    cases mx with
    | some m => simp [compE] at hc
    | none =>
      simp only [compE] at hc
      cases hu : P.underlying t with
      | none => simp [hu] at hc
      | some d =>
        cases d with
        | slice e =>
          cases hi0 : P.info? e with
          | none => simp [hu, hi0] at hc
          | some inf =>
            simp only [hu, hi0] at hc
            cases hx : compO x with
            | none => simp [hx] at hc
            | some x' =>
              cases hlo : compOpt lo with
              | none => simp [hx, hlo] at hc
              | some lo' =>
                cases hhi : compOpt hi with
                | none => simp [hx, hlo, hhi] at hc
                | some hi' =>
                  simp [hx, hlo, hhi] at hc
                  subst hc
                  exact a_slc hs hop hu hi0 hx hlo hhi h
        | _ => simp [hu] at hc
  case store t x y =>
    rw [hop] at hc
    simp only [compE] at hc
    cases hi0 : P.info? t with
    | none => simp [hi0] at hc
    | some inf =>
      cases hx : compO x with
      | none => simp [hi0, hx] at hc
      | some x' =>
        cases hy : compO y with
        | none => simp [hi0, hx, hy] at hc
        | some y' =>
          simp [hi0, hx, hy] at hc
          subst hc
          exact a_store hs hop hi0 hx hy h
  case call c =>
    rw [hop] at hc
    simp only [compE] at hc
    split at hc
    · rename_i f hcal
      simp only [Option.map_eq_some_iff] at hc
      obtain ⟨args, hargs, rfl⟩ := hc
      exact a_call hs hop hcal hargs h
    · rename_i x _ hcal
      cases hx : compO x with
      | none => simp [hx] at hc
      | some x' =>
        cases hargs : compL c.args.toList with
        | none => simp [hx, hargs] at hc
        | some args =>
          simp [hx, hargs] at hc
          subst hc
          exact a_callv hs hop hcal hx hargs h
    · rename_i hcal
      split at hc
      · rename_i x y t t' ha ht
        split at hc
        · rename_i e
          subst e
          cases hu : P.underlying t with
          | none => simp [hu] at hc
          | some d =>
            cases d with
            | slice e =>
              cases hi0 : P.info? e with
              | none => simp [hu, hi0] at hc
              | some inf =>
                simp only [hu, hi0] at hc
                split at hc
                · rename_i hcond
                  cases hx : compO x with
                  | none => simp [hx] at hc
                  | some x' =>
                    cases hy : compO y with
                    | none => simp [hx, hy] at hc
                    | some y' =>
                      simp [hx, hy] at hc
                      subst hc
                      obtain ⟨hpos, hz⟩ := hcond
                      cases hz0 : inf.zero with
                      | none => simp [hz0] at hz
                      | some z =>
                        simp only [hz0, Option.map_some, Option.some.injEq] at hz
                        obtain ⟨cal, args, tys⟩ := c
                        simp only at hcal ha ht
                        subst hcal
                        have ea : args = #[x, y] := by apply Array.ext'; simpa using ha
                        have et : tys = #[t, t] := by apply Array.ext'; simpa using ht
                        subst ea et
                        exact a_app hs hop hu hi0 hz0 hz hpos hx hy h
                · cases hc
            | _ => simp [hu] at hc
        · cases hc
      · cases hc
    · rename_i hcal
      split at hc
      · rename_i x y t t' ha ht
        split at hc
        · rename_i e hu
          split at hc
          · rename_i hsz
            cases hx : compO x with
            | none => simp [hx] at hc
            | some x' =>
              cases hy : compO y with
              | none => simp [hx, hy] at hc
              | some y' =>
                simp [hx, hy] at hc
                subst hc
                obtain ⟨cal, args, tys⟩ := c
                simp only at hcal ha ht
                subst hcal
                have ea : args = #[x, y] := by apply Array.ext'; simpa using ha
                have et : tys = #[t, t'] := by apply Array.ext'; simpa using ht
                subst ea et
                exact a_copy hs hop hu hsz hx hy h
          · cases hc
        · cases hc
      · cases hc
    · cases hc
  all_goals (rw [hop] at hc; simp [compE] at hc)

end
end Go.VV
