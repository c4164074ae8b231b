/- Instructions that act, proved: cuts, stores, append. -/
import Derived.Test.YtfgipdfdilafnaaV11
set_option linter.unusedSimpArgs false
set_option linter.unusedVariables false
namespace Go.VV
open Go.RowKit

section
variable {P : Program} {G : Gl} {E : Env} {X : RX} {a : Act} {o : Oper} {mt : Mt} {K : Env → AV → Prop}

theorem sl_cut {X : RX} {s m : Nat} {f : Nat → AV} {A : Option Addr} {c : Nat} (h : Rep X (.sl s m f) (.slice A m c)) {lo hi : Nat} (h1 : lo ≤ hi) (h2 : hi ≤ m) :
    Rep X (.sl s (hi - lo) fun j => f (lo + j)) (.slice (if c = lo then A else A.map (·.add (lo * s))) (hi - lo) (c - lo)) := by
  cases h with
  | sl _ _ _ _ _ val hl hm hp h0 h1' h3 h2' =>
    exact Rep.sl (X := X) s (hi - lo) (fun j => f (lo + j)) (if c = lo then A else A.map (·.add (lo * s))) (c - lo) (fun j i => val (lo + j) i) (by omega) (by omega)
      (fun j hj => hp _ (by omega))
      (fun hn => by
        obtain ⟨ad, e, hF, hc⟩ := h0 (by omega)
        refine ⟨ad.add (lo * s), by rw [if_neg (by omega), e]; rfl, by rw [add_block]; exact hF, fun j i q hj hi => ?_⟩
        have := hc (lo + j) i q (by omega) hi
        rw [add_add]
        rw [← this]
        congr 2
        rw [Nat.add_mul]; omega)
      (fun j hj => h1' _ (by omega)) (fun j i q hj hi => h3 _ i q (by omega) hi) (fun j i q hj hi => h2' _ i q (by omega) hi)

theorem run_cut (t e : TypeId) (inf : TypeInfo) (hu : P.underlying t = some (.slice e)) (hi : P.info? e = some inf) (w : World) (A : Option Addr) (n c : Nat) (lo hi : Option Value) (l h : Int) (h0 : 0 ≤ l) (h1 : l ≤ h) (h2 : h ≤ c)
    (hlo : (∃ k, lo = some (.int k l)) ∨ (lo = none ∧ l = 0)) (hhi : (∃ k, hi = some (.int k h)) ∨ (hi = none ∧ h = n)) :
    (Instr.sliceAt t (.slice A n c) lo hi none).run P w = .ok (.slice (if c = l.toNat then A else A.map (·.add (l.toNat * inf.size))) (h.toNat - l.toNat) (c - l.toNat)) w := by
  have eh : (h.toNat : Int) = h := Int.toNat_of_nonneg (by omega)
  have e1 : ∀ k, (Instr.sliceBound (.int k h) c .sliceAcap).run P w = .ok h.toNat w := fun k => run_sliceBound w k h c _ (by omega) h2
  have e2 : ∀ k, (Instr.sliceBound (.int k l) h.toNat .sliceB).run P w = .ok l.toNat w := fun k => run_sliceBound w k l _ _ h0 (by omega)
  rcases hlo with ⟨k, rfl⟩ | ⟨rfl, rfl⟩ <;> rcases hhi with ⟨k', rfl⟩ | ⟨rfl, rfl⟩ <;>
    simp_all [Instr.sliceAt, Instr.slice, run_underlying hu, Instr.sliceBounds, sizeOf, typeInfo, hi]

theorem compOpt_spec (hs : Sat G E X a) {x : Option Operand} {x' : Option Opn} (h : compOpt x = some x') : (x = none ∧ x' = none) ∨ ∃ y y', x = some y ∧ x' = some y' ∧ Rep X (E.opd y') (a.eval y) := by
  cases x with
  | none => simp only [compOpt, Option.some.injEq] at h; exact .inl ⟨rfl, h.symm⟩
  | some y =>
    simp only [compOpt, Option.map_eq_some_iff] at h
    obtain ⟨y', hy, rfl⟩ := h
    exact .inr ⟨y, y', rfl, rfl, opd_rep hs hy⟩

theorem a_slc {t e : TypeId} {inf : TypeInfo} {x : Operand} {x' : Opn} {lo hi : Option Operand} {lo' hi' : Option Opn} (hs : Sat G E X a) (ho : o.op = .slice t x lo hi none) (hu : P.underlying t = some (.slice e)) (hi0 : P.info? e = some inf)
    (hx : compO x = some x') (hlo : compOpt lo = some lo') (hhi : compOpt hi = some hi') (h : vcE P mt E K (.slc inf.size x' lo' hi')) : Acts P G X a o (fun _ => False) K := by
  simp only [vcE] at h
  have hv := opd_rep hs hx
  have hbnd : ∀ (m : Nat) (l1 h2 : Int) (k1 k2 : IntKind), E.opt lo' (.int .i64 0) = .int k1 l1 → E.opt hi' (.int .i64 m) = .int k2 h2 → ((∃ k, lo.map a.eval = some (.int k l1)) ∨ (lo.map a.eval = none ∧ l1 = 0)) ∧ ((∃ k, hi.map a.eval = some (.int k h2)) ∨ (hi.map a.eval = none ∧ h2 = m)) := by
    intro m l1 h2 k1 k2 ho' hh'
    refine ⟨?_, ?_⟩
    · rcases compOpt_spec hs hlo with ⟨rfl, rfl⟩ | ⟨y, y', rfl, rfl, hy⟩
      · simp only [Env.opt, AV.int.injEq] at ho'; exact .inr ⟨rfl, ho'.2.symm⟩
      · simp only [Env.opt] at ho'; rw [ho'] at hy; exact .inl ⟨k1, by simp [hy.int_inv]⟩
    · rcases compOpt_spec hs hhi with ⟨rfl, rfl⟩ | ⟨y, y', rfl, rfl, hy⟩
      · simp only [Env.opt, AV.int.injEq] at hh'; exact .inr ⟨rfl, hh'.2.symm⟩
      · simp only [Env.opt] at hh'; rw [hh'] at hy; exact .inl ⟨k2, by simp [hy.int_inv]⟩
  have e0 : (Option.map a.eval none) = none := rfl
  cases hx1 : E.opd x' with
  | sl s' m f =>
    simp only [hx1] at h hv
    obtain ⟨A, c, hv1, hc, hm, _⟩ := hv.sl_inv
    rw [hv1] at hv
    cases ho' : E.opt lo' (.int .i64 0) with
    | int k1 l1 =>
      cases hh' : E.opt hi' (.int .i64 m) with
      | int k2 h2 =>
        simp only [ho', hh'] at h
        obtain ⟨⟨rfl, b1, b2, b3⟩, hk⟩ := h
        obtain ⟨hlo2, hhi2⟩ := hbnd m l1 h2 k1 k2 ho' hh'
        have hrun := run_cut (P := P) t e inf hu hi0 X.w A m c (lo.map a.eval) (hi.map a.eval) l1 h2 b1 b2 (by omega) hlo2 hhi2
        refine acts_value ?_ rfl (Ch.same rfl ⟨fun _ h => h, fun _ _ => rfl, fun _ _ _ => rfl, fun _ _ => rfl, Nat.le_refl _⟩) hk hs (sl_cut hv (lo := l1.toNat) (hi := h2.toNat) (by omega) (by omega))
        unfold execOp
        simp only [ho, Sem.run_bind, hv1]
        rw [e0, hrun]
        rfl
      | _ => simp [ho', hh'] at h
    | _ => simp [ho'] at h
  | own i =>
    simp only [hx1] at h hv
    cases hR : E.rows.lookup i with
    | none => simp [hR] at h
    | some R =>
      simp only [hR] at h
      cases ho' : E.opt lo' (.int .i64 0) with
      | int k1 l1 =>
        cases hh' : E.opt hi' (.int .i64 R.l.length) with
        | int k2 h2 =>
          simp only [ho', hh'] at h
          obtain ⟨⟨hRs, b1, b2, b3, b4⟩, hk⟩ := h
          obtain ⟨hlo2, hhi2⟩ := hbnd R.l.length l1 h2 k1 k2 ho' hh'
          have hvk : a.eval x = X.κ i := by
            revert hv; generalize a.eval x = v; intro hv; cases hv; rfl
          obtain ⟨xs, hown, _, _⟩ := (hs.inv.row i R hR).rep
          rcases hown.2 with ⟨_, h0⟩ | ⟨g, cap, cur, e1, _, hg, hc1, hc2, hc3, hc4⟩
          · omega
          · have hrun := run_cut (P := P) t e inf hu hi0 X.w (some ⟨g, 0, none⟩) R.l.length cap (lo.map a.eval) (hi.map a.eval) l1 h2 b1 b2 (by omega) hlo2 hhi2
            have hrep := Rep.osl (X := X) i inf.size l1.toNat (h2.toNat - l1.toNat) ⟨g, 0, none⟩ R.l.length cap (cap - l1.toNat) (hs.inv.row i R hR).lt e1 (by omega) (by omega)
            refine acts_value ?_ rfl (Ch.same rfl ⟨fun _ h => h, fun _ _ => rfl, fun _ _ _ => rfl, fun _ _ => rfl, Nat.le_refl _⟩) hk hs hrep
            unfold execOp
            simp only [ho, Sem.run_bind, hvk, e1]
            rw [e0, hrun, if_neg (by omega)]
            rfl
        | _ => simp [ho', hh'] at h
      | _ => simp [ho'] at h
  | _ => simp [hx1] at h

theorem cell_one {X : RX} {c : AV} (h : c.cell = true) {v : Value} (hr : Rep X c v) : v.oneCell' = true := by
  cases c <;> simp [AV.cell] at h <;> cases hr <;> first | rfl | assumption
theorem run_storeAt {t : TypeId} {inf : TypeInfo} (hi : P.info? t = some inf) (g off : Nat) (v : Value) (hn : v.cells.size = inf.size) (w : World) {T : TypeId} {cur : Array Value} (hg : w.heap[g]? = some (.cells cur T (0, 0))) (hl : off + v.cells.size ≤ cur.size) (h1 : ∀ u ∈ v.cells.toList, u.oneCell' = true) :
    (Instr.storeAt t (.pointer (some ⟨g, off, none⟩)) v).run P w = .ok () (w.setRow g (cur.toList.take off ++ v.cells.toList ++ cur.toList.drop (off + v.cells.toList.length)).toArray) := by
  have := run_storeCells_at P g off T v.cells.toList 0 cur w hg (by simpa using hl) h1
  simp only [Nat.add_zero] at this
  simp [Instr.storeAt, Instr.sureAddr, storeVar, sizeOf, typeInfo, hi, hn, this]

theorem a_store {t : TypeId} {inf : TypeInfo} {x y : Operand} {x' y' : Opn} (hs : Sat G E X a) (ho : o.op = .store t x y) (hi0 : P.info? t = some inf) (hx : compO x = some x') (hy : compO y = some y') (h : vcE P mt E K (.store inf.size x' y')) : Acts P G X a o (insM mt E X (.store inf.size x' y')) K := by
  simp only [vcE] at h
  simp only [insM]
  have hvx := opd_rep hs hx
  cases hx1 : E.opd x' with
  | ptr b off =>
    simp only [hx1, stM] at h hvx ⊢
    cases hb : E.boxes.lookup b with
    | none => simp [hb] at h
    | some B =>
      simp only [hb] at h
      obtain ⟨⟨c1, c2, c3, c4⟩, hk⟩ := h
      obtain ⟨hv1, _⟩ := hvx.ptr_inv
      have hvy := (opd_rep hs hy).cells c1
      obtain ⟨vs, hg, hr⟩ := (hs.inv.box b B hb).cells
      have hn : (a.eval y).cells.size = inf.size := by have := hvy.1; simp only [Array.length_toList] at this; omega
      have hone : ∀ u ∈ (a.eval y).cells.toList, u.oneCell' = true := by
        intro u hu
        obtain ⟨i, hi, rfl⟩ := List.mem_iff_getElem.1 hu
        have hc : (E.opd y').cells[i]? = some ((E.opd y').cells[i]'(hvy.1 ▸ hi)) := List.getElem?_eq_getElem _
        rw [List.all_eq_true] at c3
        exact cell_one (c3 _ (List.mem_of_getElem? hc)) (hvy.2 i _ _ hc (List.getElem?_eq_getElem hi))
      have hvl := hvy.1
      have hrl := hr.1
      simp only [Array.length_toList] at hvl
      have hrun := run_storeAt (P := P) hi0 (X.β b) off (a.eval y) hn X.w hg (by simp only [List.size_toArray]; omega) hone
      have hrep : RepL X (B.c.take off ++ (E.opd y').cells ++ B.c.drop (off + (E.opd y').cells.length)) (vs.take off ++ (a.eval y).cells.toList ++ vs.drop (off + (a.eval y).cells.toList.length)) := by
        refine ⟨by simp only [List.length_append, List.length_take, List.length_drop, Array.length_toList]; omega, fun i c u hc hu => ?_⟩
        rw [splice_get _ _ _ _ rfl (by omega)] at hc
        rw [splice_get _ _ _ _ rfl (by simp only [Array.length_toList]; omega)] at hu
        simp only [Array.length_toList, hvl] at hu
        split at hc
        · rename_i h1; rw [if_pos h1] at hu; exact hr.2 i c u hc hu
        · rename_i h1
          rw [if_neg h1] at hu
          split at hc
          · rename_i h2; rw [if_pos h2] at hu; exact hvy.2 _ c u hc hu
          · rename_i h2; rw [if_neg h2] at hu; exact hr.2 i c u hc hu
      have hinv := hs.inv.setBox hb _ _ hrep
      have hle := le_setRow X (X.β b) (vs.take off ++ (a.eval y).cells.toList ++ vs.drop (off + (a.eval y).cells.toList.length)).toArray (hs.inv.box b B hb).nf
      have hS : Sat G { E with boxes := repl b ⟨B.T, B.c.take off ++ (E.opd y').cells ++ B.c.drop (off + (E.opd y').cells.length)⟩ E.boxes } { X with w := X.w.setRow (X.β b) (vs.take off ++ (a.eval y).cells.toList ++ vs.drop (off + (a.eval y).cells.toList.length)).toArray } a := ⟨hs.n, hinv, hs.tm.up hle, hs.df, hs.kp.same (Nat.le_refl _) (fun _ _ => rfl) (fun _ _ => rfl)⟩
      have hch : Ch (fun k => X.β b = k) X { X with w := X.w.setRow (X.β b) (vs.take off ++ (a.eval y).cells.toList ++ vs.drop (off + (a.eval y).cells.toList.length)).toArray } := ⟨by simp, fun k _ hk => setRow_other X.w _ k _ (fun e => hk e.symm), fun _ _ _ => rfl⟩
      refine acts_skip (hs := hS) (hm := hch) ?_ rfl hk
      unfold execOp
      simp only [ho, Sem.run_bind, hv1, hrun]
      simp
  | ept z s j off =>
    simp only [hx1, stM] at h ⊢
    cases z with
    | own i =>
      simp only at h
      obtain ⟨X1, hw1, hs1, hle1⟩ := hs.frzL (AV.owns (E.opd y'))
      have hvx1 : Rep X1 (.ept (.own i) s j off) (a.eval x) := by rw [hx1] at hvx; exact hvx.up hle1
      generalize hE1 : E.frzL (AV.owns (E.opd y')) = E1 at h hs1
      cases hR : E1.rows.lookup i with
      | none => simp [hR] at h
      | some R =>
        simp only [hR] at h
        obtain ⟨⟨c1, c2, c3, c4, rfl, c5, c6, c7⟩, hk⟩ := h
        have hvy := (opd_rep hs1 hy).cells c1
        obtain ⟨ad, n, c, hev, hkap, hjn⟩ : ∃ ad n c, a.eval x = .pointer (some (ad.add (j * R.s + off))) ∧ X1.κ i = .slice (some ad) n c ∧ j < n := by
          revert hvx1
          generalize a.eval x = v
          intro hvx1
          cases hvx1 with
          | eptO _ _ _ _ ad n c _ hk hj => exact ⟨ad, n, c, rfl, hk, hj⟩
        rw [List.all_eq_true] at c3
        obtain ⟨g, cur, rfl, hg, hsz, hinv⟩ := hs1.inv.setEl hR hkap c5 hvy c6 c7 (by rw [List.all_eq_true]; exact c3) ((AV.pureL_iff _).1 c4)
        have hn : (a.eval y).cells.size = inf.size := by have := hvy.1; simp only [Array.length_toList] at this; omega
        have hone : ∀ u ∈ (a.eval y).cells.toList, u.oneCell' = true := by
          intro u hu
          obtain ⟨q, hq, rfl⟩ := List.mem_iff_getElem.1 hu
          have hc : (E1.opd y').cells[q]? = some ((E1.opd y').cells[q]'(hvy.1 ▸ hq)) := List.getElem?_eq_getElem _
          exact one_cell' (c3 _ (List.mem_of_getElem? hc)) (hvy.2 q _ _ hc (List.getElem?_eq_getElem hq))
        have hrun := run_storeAt (P := P) hi0 g (j * R.s + off) (a.eval y) hn X1.w hg (by simpa using hsz) hone
        have hgF : ¬ X1.F g := ((hs1.inv.row i R hR).blk g (by rw [hkap]; rfl)).1
        have hle := le_setRow X1 g (cur.toList.take (j * R.s + off) ++ (a.eval y).cells.toList ++ cur.toList.drop (j * R.s + off + (a.eval y).cells.toList.length)).toArray hgF
        have hS : Sat G { E1 with rows := repl i { R with l := R.l.set j ((R.l.getD j .top).setc off (E1.opd y').cells) } E1.rows } { X1 with w := X1.w.setRow g (cur.toList.take (j * R.s + off) ++ (a.eval y).cells.toList ++ cur.toList.drop (j * R.s + off + (a.eval y).cells.toList.length)).toArray } a := ⟨hs1.n, hinv, hs1.tm.up hle, hs1.df, hs1.kp.up (Nat.le_refl _) (fun _ _ => rfl) (fun _ _ _ _ => rfl) (fun q R' hq _ _ => by
          simp only at hq
          rw [lookup_repl _ _ _ _ (by rw [hR]; rfl)] at hq
          split at hq
          · rename_i e; subst e; cases hq; exact .inr ⟨R, hR, fun h => h⟩
          · exact .inr ⟨R', hq, fun h => h⟩)⟩
        refine acts_skip (hs := hS) ?_ rfl (Ch.any (by simp [hw1])) hk
        unfold execOp
        rw [add_blk, Nat.zero_add] at hev
        simp only [ho, Sem.run_bind, hev]
        rw [← hw1, hrun]
        simp
    | _ => simp at h
  | _ => simp [hx1] at h

end
end Go.VV
