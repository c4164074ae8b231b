/- Part of a proof: the laws of single functions of the given program, shown step by step. -/
import Derived.Test.YtfgipdfdilafnaaC2
import Derived.Test.YtfgipdfdilafnaaW1
set_option linter.unusedSimpArgs false
set_option linter.unusedVariables false
set_option linter.unnecessarySimpa false
namespace Go.VV
open Go.Proofs
set_option maxRecDepth 4000
set_option maxHeartbeats 8000000
def edsAt (m : Mn) (fl : List (Int × Int)) (i : Nat) : List Ed := [⟨trv m i (fl[i]?.getD default) false, (m.rs[i]?.getD default).f.toNat, (m.rs[i]?.getD default).t.toNat⟩, ⟨trv m i (fl[i]?.getD default) true, (m.rs[i]?.getD default).t.toNat, (m.rs[i]?.getD default).f.toNat⟩]
def eds (m : Mn) (fl : List (Int × Int)) : List Ed := (List.range m.rs.length).flatMap (edsAt m fl)
def sumL (f : List Int) : Nat := (f.map Int.toNat).sum
theorem sumL_set {f : List Int} {q : Nat} {v : Int} (hq : q < f.length) (h0 : 0 ≤ v) (hv : v < f[q]?.getD 0) : sumL (f.set q v) < sumL f := by
  induction f generalizing q with
  | nil => simp at hq
  | cons a t ih =>
    cases q with
    | zero =>
      simp only [List.getElem?_cons_zero, Option.getD_some] at hv
      simp only [List.set_cons_zero, sumL, List.map_cons, List.sum_cons]
      omega
    | succ q =>
      simp only [List.getElem?_cons_succ] at hv
      have := ih (by simpa using hq) hv
      simp only [sumL] at this ⊢
      simp only [List.set_cons_succ, List.map_cons, List.sum_cons]
      omega
/-- Times on the way down. -/
structure Iv (es : List Ed) (f0 f : List Int) : Prop where
  len : f.length = f0.length
  le : leL f f0
  bd : ∀ x ∈ f, 0 ≤ x ∧ x ≤ 1099511627776
  gr : ∀ g : List Int, g.length = f0.length → leL g f0 → closedE es g → leL g f
  or : ∀ j, j < f0.length → f[j]?.getD 0 = f0[j]?.getD 0 ∨ f[j]?.getD 0 ≤ 2147483648
theorem Iv.start {es : List Ed} {f : List Int} (h : ∀ x ∈ f, 0 ≤ x ∧ x ≤ 1099511627776) : Iv es f f := ⟨rfl, fun _ _ => Int.le_refl _, h, fun _ _ h _ => h, fun _ _ => .inl rfl⟩
theorem lget_set {f : List Int} {q j : Nat} {v : Int} (hj : j < f.length) : (f.set q v)[j]?.getD 0 = if j = q then v else f[j]?.getD 0 := by
  rw [List.getElem?_set]
  by_cases h : q = j
  · subst h; simp [hj]
  · simp [h, Ne.symm h]
theorem Iv.step {es : List Ed} {f0 f : List Int} (h : Iv es f0 f) {e : Ed} (he : e ∈ es) (hp : e.p < f0.length) (hq : e.q < f0.length) (hr : rlx e.n f e.p e.q = true) : Iv es f0 (f.set e.q (f[e.p]?.getD 0 + e.n)) ∧ sumL (f.set e.q (f[e.p]?.getD 0 + e.n)) < sumL f := by
  simp only [rlx, Bool.and_eq_true, decide_eq_true_eq] at hr
  obtain ⟨⟨⟨r1, r2⟩, r3⟩, r4⟩ := hr
  have hpf : e.p < f.length := by rw [h.len]; exact hp
  have hqf : e.q < f.length := by rw [h.len]; exact hq
  have hbp := h.bd _ (get_mem (d := 0) hpf)
  refine ⟨⟨by simpa using h.len, fun j hj => ?_, fun x hx => ?_, fun g g1 g2 g3 => fun j hj => ?_, fun j hj => ?_⟩, sumL_set hqf (by omega) r4⟩
  · simp only [List.length_set] at hj
    rw [lget_set hj]
    have := h.le j hj
    split
    · rename_i e1; subst e1; omega
    · exact this
  · rcases List.mem_or_eq_of_mem_set hx with hx | rfl
    · exact h.bd x hx
    · omega
  · have hj' : j < f.length := by rw [h.len, ← g1]; exact hj
    rw [lget_set hj']
    have hg := h.gr g g1 g2 g3
    split
    · rename_i e1
      subst e1
      have a1 := hg e.p (by rw [g1]; exact hp)
      have a2 := g3 e he r1 (by omega) (by omega)
      omega
    · exact hg j hj
  · rw [lget_set (by rw [h.len]; exact hj)]
    split
    · exact .inr r3
    · exact h.or j hj
theorem rlx_ok {n : Int} {f : List Int} {p q : Nat} (h : rlx n f p q = false) : stepOk n (f[p]?.getD 0) (f[q]?.getD 0) := by
  intro h1 h2 h3
  rw [Bool.eq_false_iff] at h
  refine Classical.byContradiction fun hn => h ?_
  simp only [rlx, Bool.and_eq_true, decide_eq_true_eq]
  omega
/-- A mine that is valid: where its roads lead. -/
structure Rds (m : Mn) : Prop where
  r : ∀ r ∈ m.rs, (0 ≤ r.f ∧ r.f < m.ps.length) ∧ (0 ≤ r.t ∧ r.t < m.ps.length) ∧ (1 ≤ r.len ∧ r.len ≤ 100000) ∧ (1 ≤ r.area ∧ r.area ≤ 1000)
  n : m.rs.length ≤ 128 ∧ m.ps.length ≤ 64
theorem fst_mem {n : Int} : ∀ {l : List Ro}, fstR n l = 0 → ∀ r ∈ l, badR n r = 0
  | [], _, r, hr => by simp at hr
  | x :: l, h, r, hr => by
    unfold fstR at h
    by_cases hb : badR n x = 0
    · rw [if_pos hb] at h
      rcases List.mem_cons.1 hr with rfl | hr
      · exact hb
      · exact fst_mem h r hr
    · rw [if_neg hb] at h
      exact absurd h hb
theorem chk_rds {m : Mn} (h : chkM m = 0) : Rds m := by
  unfold chkM at h
  split at h
  · cases h
  · split at h
    · cases h
    · refine ⟨fun r hr => ?_, by omega⟩
      have := fst_mem h r hr
      unfold badR at this
      split at this
      · cases this
      · split at this
        · cases this
        · omega
theorem trvR_le {r : Ro} (h : (1 ≤ r.len ∧ r.len ≤ 100000) ∧ (1 ≤ r.area ∧ r.area ≤ 1000)) (a : Int) : -1 ≤ trvR r a ∧ trvR r a ≤ 100000 := by
  have hw : W (-500 * r.area) = -500 * r.area := wrap64 (by omega) (by omega)
  have ha : 1 ≤ r.len * r.area := by
    have := Int.mul_le_mul h.1.1 h.2.1 (by omega) (by omega : (0 : Int) ≤ r.len)
    simpa using this
  have hb : r.len * r.area ≤ 100000 * 1000 := Int.mul_le_mul h.1.2 h.2.2 (by omega) (by omega)
  unfold trvR
  simp only [hw]
  rw [show W (r.len * r.area) = r.len * r.area from wrap64 (by omega) (by omega), show W (r.len * r.area * 1000) = r.len * r.area * 1000 from wrap64 (by omega) (by omega)]
  by_cases h1 : 0 < a
  · have hq : 0 ≤ (r.len * r.area * 1000).tdiv a ∧ (r.len * r.area * 1000).tdiv a ≤ r.len * r.area * 1000 := by
      rw [Int.tdiv_eq_ediv_of_nonneg (by omega)]
      exact ⟨Int.ediv_nonneg (by omega) (by omega), Int.ediv_le_self _ (by omega)⟩
    rw [if_pos h1, show W ((r.len * r.area * 1000).tdiv a) = (r.len * r.area * 1000).tdiv a from wrap64 (by omega) (by omega), if_pos (show -500 * r.area < a by omega)]
    split <;> omega
  · rw [if_neg h1]
    split <;> omega
theorem trv_le {m : Mn} (hm : Rds m) (i : Int) (f : Int × Int) (b : Bool) : -1 ≤ trv m i f b ∧ trv m i f b ≤ 100000 := by
  unfold trv
  split
  · omega
  · rename_i h
    have hi : i.toNat < m.rs.length := by omega
    have := hm.r _ (get_mem (d := default) hi)
    exact trvR_le ⟨this.2.2.1, this.2.2.2⟩ _
theorem Iv.one {es : List Ed} {f0 f : List Int} (h : Iv es f0 f) {n : Int} {p q : Nat} (he : (⟨n, p, q⟩ : Ed) ∈ es) (hp : p < f0.length) (hq : q < f0.length) :
    Iv es f0 (if rlx n f p q = true then f.set q (f[p]?.getD 0 + n) else f) ∧ (rlx n f p q = true → sumL (if rlx n f p q = true then f.set q (f[p]?.getD 0 + n) else f) < sumL f) ∧ (rlx n f p q = false → (if rlx n f p q = true then f.set q (f[p]?.getD 0 + n) else f) = f ∧ stepOk n (f[p]?.getD 0) (f[q]?.getD 0)) := by
  cases hr : rlx n f p q with
  | true =>
    have := h.step he hp hq hr
    exact ⟨by simpa using this.1, fun _ => by simpa using this.2, fun h => (by cases h)⟩
  | false => exact ⟨by simpa using h, fun h => (by cases h), fun _ => ⟨by simp, rlx_ok hr⟩⟩
abbrev mtW : Mt := fun f => f == 47 || f == 31
theorem s31 (m : Mn) (fl : List (Int × Int)) (f0 : List Int) (hm : Rds m) (hl : fl.length = m.rs.length) (hf : f0.length = m.ps.length) (hb : ∀ x ∈ f0, 0 ≤ x ∧ x ≤ 1099511627776) :
    Spec Try.prog 31 ⟨frR f0, []⟩ 1 [.ag [Lpl m.ps, Lro m.rs, Lsn fl, .own 0]] (fun v C' => ∃ f, Iv (eds m fl) f0 f ∧ closedE (eds m fl) f ∧ v = .tup [] ∧ C' = ⟨frR f, []⟩) := by
  refine l31.go mixed mtW (by simp) fun Q hQ Rt hR => ?_
  unfold c31
  simp only [argT]
  repeat' (first
    | (with_reducible refine vc_seq_i fun K hK => ?_)
    | (with_reducible refine vc_ops_i ?_)
    | ((with_reducible refine ops_nil ?_); apply_assumption -exfalso -symm)
    | ((with_reducible refine ops_q fun K hK => ?_); simp; (try simp (disch := omega) only [wrap64]); (first | (with_reducible refine hK _ ?_) | (with_reducible refine alt_T (hK _ ?_)) | (with_reducible refine alt_wrap (by omega) (hK _ ?_)) | (with_reducible refine alt_same (hK _ ?_)) | (with_reducible refine alt_T' (hK _ ?_) ?_) | (with_reducible refine alt_wrap' (by omega) (hK _ ?_) ?_) | (with_reducible refine alt_same' (hK _ ?_) ?_) | (with_reducible refine And.intro ?_ (hK _ ?_)) | (refine fun _ => ?_; first | (with_reducible refine hK _ ?_) | (with_reducible refine alt_T (hK _ ?_)) | (with_reducible refine alt_wrap (by omega) (hK _ ?_)) | (with_reducible refine alt_same (hK _ ?_)))) <;> (clear hK; clear K))
    | ((with_reducible refine ops_a0 fun K hK => ?_); simp; (try simp (disch := omega) only [wrap64]); (first | ((with_reducible refine hK _ ?_); (clear hK; clear K)) | ((with_reducible refine And.intro ?_ (hK _ ?_)) <;> (clear hK; clear K)) | (repeat' (with_reducible refine And.intro ?_ ?_)) | skip))
    | ((with_reducible refine ops_ag fun K hK => ?_); first | (refine act_T rfl ?_; simp; (try simp (disch := omega) only [wrap64]); (first | ((with_reducible refine hK _ ?_); (clear hK; clear K)) | ((with_reducible refine And.intro ?_ (hK _ ?_)) <;> (clear hK; clear K)) | (repeat' (with_reducible refine And.intro ?_ ?_)) | skip)) | (refine act_F rfl ?_; simp; (with_reducible refine hK _ ?_); (clear hK; clear K)) | (refine act_N rfl ?_; simp; (with_reducible refine hK _ ?_); (clear hK; clear K)) | (refine act_c rfl fun c hc => ?_; cases c <;> (simp only [hc]; simp; (try simp (disch := omega) only [wrap64]); (try simp at hc); (first | ((with_reducible refine hK _ ?_); (clear hK; clear K)) | ((with_reducible refine And.intro ?_ (hK _ ?_)) <;> (clear hK; clear K)) | (repeat' (with_reducible refine And.intro ?_ ?_)) | skip))))
    | (with_reducible refine vc_drw_i [] ?_)
    | ((with_reducible refine T_done ?_); apply_assumption -exfalso -symm)
    | ((with_reducible refine T_take (by simp) fun K hK => ?_); simp; (try simp (disch := omega) only [wrap64]); (first | (with_reducible refine hK _ ?_) | (with_reducible refine alt_T (hK _ ?_)) | (with_reducible refine alt_wrap (by omega) (hK _ ?_)) | (with_reducible refine alt_same (hK _ ?_)) | (with_reducible refine alt_T' (hK _ ?_) ?_) | (with_reducible refine alt_wrap' (by omega) (hK _ ?_) ?_) | (with_reducible refine alt_same' (hK _ ?_) ?_) | (with_reducible refine And.intro ?_ (hK _ ?_)) | (refine fun _ => ?_; first | (with_reducible refine hK _ ?_) | (with_reducible refine alt_T (hK _ ?_)) | (with_reducible refine alt_wrap (by omega) (hK _ ?_)) | (with_reducible refine alt_same (hK _ ?_)))) <;> (clear hK; clear K))
    | ((with_reducible refine T_actq fun K hK => ?_); simp; (try simp (disch := omega) only [wrap64]); (first | (with_reducible refine hK _ ?_) | (with_reducible refine alt_T (hK _ ?_)) | (with_reducible refine alt_wrap (by omega) (hK _ ?_)) | (with_reducible refine alt_same (hK _ ?_)) | (with_reducible refine alt_T' (hK _ ?_) ?_) | (with_reducible refine alt_wrap' (by omega) (hK _ ?_) ?_) | (with_reducible refine alt_same' (hK _ ?_) ?_) | (with_reducible refine And.intro ?_ (hK _ ?_)) | (refine fun _ => ?_; first | (with_reducible refine hK _ ?_) | (with_reducible refine alt_T (hK _ ?_)) | (with_reducible refine alt_wrap (by omega) (hK _ ?_)) | (with_reducible refine alt_same (hK _ ?_)))) <;> (clear hK; clear K))
    | ((with_reducible refine T_fg ?_); simp)
    | ((with_reducible refine T_lz (by simp) fun K hK => ?_); simp; (try simp (disch := omega) only [wrap64]); (first | ((with_reducible refine hK _ ?_); (clear hK; clear K)) | ((with_reducible refine And.intro ?_ (hK _ ?_)) <;> (clear hK; clear K)) | (repeat' (with_reducible refine And.intro ?_ ?_)) | skip))
    | (with_reducible refine T_two ?_ ?_)
    | (with_reducible refine T_three ?_ ?_ ?_)
    | ((with_reducible refine T_act0 fun K hK => ?_); simp; (try simp (disch := omega) only [wrap64]); (first | ((with_reducible refine hK _ ?_); (clear hK; clear K)) | ((with_reducible refine And.intro ?_ (hK _ ?_)) <;> (clear hK; clear K)) | (repeat' (with_reducible refine And.intro ?_ ?_)) | skip))
    | ((with_reducible refine T_actg fun K hK => ?_); first | (refine act_T rfl ?_; simp; (try simp (disch := omega) only [wrap64]); (first | ((with_reducible refine hK _ ?_); (clear hK; clear K)) | ((with_reducible refine And.intro ?_ (hK _ ?_)) <;> (clear hK; clear K)) | (repeat' (with_reducible refine And.intro ?_ ?_)) | skip)) | (refine act_F rfl ?_; simp; (with_reducible refine hK _ ?_); (clear hK; clear K)) | (refine act_N rfl ?_; simp; (with_reducible refine hK _ ?_); (clear hK; clear K)) | (refine act_c rfl fun c hc => ?_; cases c <;> (simp only [hc]; simp; (try simp (disch := omega) only [wrap64]); (try simp at hc); (first | ((with_reducible refine hK _ ?_); (clear hK; clear K)) | ((with_reducible refine And.intro ?_ (hK _ ?_)) <;> (clear hK; clear K)) | (repeat' (with_reducible refine And.intro ?_ ?_)) | skip))))
    | (with_reducible refine vc_block_i fun Y hY hN => ?_)
    | ((with_reducible refine vc_skip_i ?_); apply_assumption -exfalso -symm)
    | ((with_reducible refine vc_cond_i rfl ?_ ?_) <;> (intro hb; try simp at hb))
    | ((with_reducible refine vc_dead_i ?_); first | omega | (exfalso; simp_all; done) | skip)
    | ((with_reducible refine vc_exit_i ?_); apply_assumption -exfalso -symm; try apply_assumption -exfalso -symm)
    | ((with_reducible refine vc_ret_i ?_); (with_reducible refine hR _ ?_); simp [r31]; skip)
    | ((with_reducible refine hR _ ?_); simp [r31]; skip)
    | (intros; omega))
  refine loop_i {s : List Int × Bool // Iv (eds m fl) f0 s.1 ∧ (s.2 = false → closedE (eds m fl) s.1)} (fun s => ⟨[(1, .ptr 1 0), (2, .bool s.1.2)], [(0, ⟨3, 1, s.1.1.map I, true⟩)], [(1, ⟨66, [Lpl m.ps, Lro m.rs, Lsn fl, .own 0]⟩)], 2, 39⟩) (fun s => 2 * sumL s.1.1 + if s.1.2 = true then 1 else 0) ⟨(f0, true), Iv.start hb, by simp⟩ ?_ ?_
  · exact turn_id (by simp) rfl (by simp)
  rintro ⟨⟨f, ch⟩, hI, hc⟩ K hK
  simp only at hI hc
  repeat' (first
    | (with_reducible refine vc_seq_i fun K hK => ?_)
    | (with_reducible refine vc_ops_i ?_)
    | ((with_reducible refine ops_nil ?_); apply_assumption -exfalso -symm)
    | ((with_reducible refine ops_q fun K hK => ?_); simp; (try simp (disch := omega) only [wrap64]); (first | (with_reducible refine hK _ ?_) | (with_reducible refine alt_T (hK _ ?_)) | (with_reducible refine alt_wrap (by omega) (hK _ ?_)) | (with_reducible refine alt_same (hK _ ?_)) | (with_reducible refine alt_T' (hK _ ?_) ?_) | (with_reducible refine alt_wrap' (by omega) (hK _ ?_) ?_) | (with_reducible refine alt_same' (hK _ ?_) ?_) | (with_reducible refine And.intro ?_ (hK _ ?_)) | (refine fun _ => ?_; first | (with_reducible refine hK _ ?_) | (with_reducible refine alt_T (hK _ ?_)) | (with_reducible refine alt_wrap (by omega) (hK _ ?_)) | (with_reducible refine alt_same (hK _ ?_)))) <;> (clear hK; clear K))
    | ((with_reducible refine ops_a0 fun K hK => ?_); simp; (try simp (disch := omega) only [wrap64]); (first | ((with_reducible refine hK _ ?_); (clear hK; clear K)) | ((with_reducible refine And.intro ?_ (hK _ ?_)) <;> (clear hK; clear K)) | (repeat' (with_reducible refine And.intro ?_ ?_)) | skip))
    | ((with_reducible refine ops_ag fun K hK => ?_); first | (refine act_T rfl ?_; simp; (try simp (disch := omega) only [wrap64]); (first | ((with_reducible refine hK _ ?_); (clear hK; clear K)) | ((with_reducible refine And.intro ?_ (hK _ ?_)) <;> (clear hK; clear K)) | (repeat' (with_reducible refine And.intro ?_ ?_)) | skip)) | (refine act_F rfl ?_; simp; (with_reducible refine hK _ ?_); (clear hK; clear K)) | (refine act_N rfl ?_; simp; (with_reducible refine hK _ ?_); (clear hK; clear K)) | (refine act_c rfl fun c hc => ?_; cases c <;> (simp only [hc]; simp; (try simp (disch := omega) only [wrap64]); (try simp at hc); (first | ((with_reducible refine hK _ ?_); (clear hK; clear K)) | ((with_reducible refine And.intro ?_ (hK _ ?_)) <;> (clear hK; clear K)) | (repeat' (with_reducible refine And.intro ?_ ?_)) | skip))))
    | (with_reducible refine vc_drw_i [] ?_)
    | ((with_reducible refine T_done ?_); apply_assumption -exfalso -symm)
    | ((with_reducible refine T_take (by simp) fun K hK => ?_); simp; (try simp (disch := omega) only [wrap64]); (first | (with_reducible refine hK _ ?_) | (with_reducible refine alt_T (hK _ ?_)) | (with_reducible refine alt_wrap (by omega) (hK _ ?_)) | (with_reducible refine alt_same (hK _ ?_)) | (with_reducible refine alt_T' (hK _ ?_) ?_) | (with_reducible refine alt_wrap' (by omega) (hK _ ?_) ?_) | (with_reducible refine alt_same' (hK _ ?_) ?_) | (with_reducible refine And.intro ?_ (hK _ ?_)) | (refine fun _ => ?_; first | (with_reducible refine hK _ ?_) | (with_reducible refine alt_T (hK _ ?_)) | (with_reducible refine alt_wrap (by omega) (hK _ ?_)) | (with_reducible refine alt_same (hK _ ?_)))) <;> (clear hK; clear K))
    | ((with_reducible refine T_actq fun K hK => ?_); simp; (try simp (disch := omega) only [wrap64]); (first | (with_reducible refine hK _ ?_) | (with_reducible refine alt_T (hK _ ?_)) | (with_reducible refine alt_wrap (by omega) (hK _ ?_)) | (with_reducible refine alt_same (hK _ ?_)) | (with_reducible refine alt_T' (hK _ ?_) ?_) | (with_reducible refine alt_wrap' (by omega) (hK _ ?_) ?_) | (with_reducible refine alt_same' (hK _ ?_) ?_) | (with_reducible refine And.intro ?_ (hK _ ?_)) | (refine fun _ => ?_; first | (with_reducible refine hK _ ?_) | (with_reducible refine alt_T (hK _ ?_)) | (with_reducible refine alt_wrap (by omega) (hK _ ?_)) | (with_reducible refine alt_same (hK _ ?_)))) <;> (clear hK; clear K))
    | ((with_reducible refine T_fg ?_); simp)
    | ((with_reducible refine T_lz (by simp) fun K hK => ?_); simp; (try simp (disch := omega) only [wrap64]); (first | ((with_reducible refine hK _ ?_); (clear hK; clear K)) | ((with_reducible refine And.intro ?_ (hK _ ?_)) <;> (clear hK; clear K)) | (repeat' (with_reducible refine And.intro ?_ ?_)) | skip))
    | (with_reducible refine T_two ?_ ?_)
    | (with_reducible refine T_three ?_ ?_ ?_)
    | ((with_reducible refine T_act0 fun K hK => ?_); simp; (try simp (disch := omega) only [wrap64]); (first | ((with_reducible refine hK _ ?_); (clear hK; clear K)) | ((with_reducible refine And.intro ?_ (hK _ ?_)) <;> (clear hK; clear K)) | (repeat' (with_reducible refine And.intro ?_ ?_)) | skip))
    | ((with_reducible refine T_actg fun K hK => ?_); first | (refine act_T rfl ?_; simp; (try simp (disch := omega) only [wrap64]); (first | ((with_reducible refine hK _ ?_); (clear hK; clear K)) | ((with_reducible refine And.intro ?_ (hK _ ?_)) <;> (clear hK; clear K)) | (repeat' (with_reducible refine And.intro ?_ ?_)) | skip)) | (refine act_F rfl ?_; simp; (with_reducible refine hK _ ?_); (clear hK; clear K)) | (refine act_N rfl ?_; simp; (with_reducible refine hK _ ?_); (clear hK; clear K)) | (refine act_c rfl fun c hc => ?_; cases c <;> (simp only [hc]; simp; (try simp (disch := omega) only [wrap64]); (try simp at hc); (first | ((with_reducible refine hK _ ?_); (clear hK; clear K)) | ((with_reducible refine And.intro ?_ (hK _ ?_)) <;> (clear hK; clear K)) | (repeat' (with_reducible refine And.intro ?_ ?_)) | skip))))
    | (with_reducible refine vc_block_i fun Y hY hN => ?_)
    | ((with_reducible refine vc_skip_i ?_); apply_assumption -exfalso -symm)
    | ((with_reducible refine vc_cond_i rfl ?_ ?_) <;> (intro hb; try simp at hb))
    | ((with_reducible refine vc_dead_i ?_); first | omega | (exfalso; simp_all; done) | skip)
    | ((with_reducible refine vc_exit_i ?_); apply_assumption -exfalso -symm; try apply_assumption -exfalso -symm)
    | ((with_reducible refine vc_ret_i ?_); (with_reducible refine hR _ ?_); simp [r31]; skip)
    | ((with_reducible refine hR _ ?_); simp [r31]; skip)
    | (intros; omega))
  · skip
    refine loop_i {s : Nat × List Int × Bool // s.1 ≤ m.rs.length ∧ Iv (eds m fl) f0 s.2.1 ∧ (s.2.2 = false → s.2.1 = f ∧ ∀ i, i < s.1 → ∀ e ∈ edsAt m fl i, stepOk e.n (f[e.p]?.getD 0) (f[e.q]?.getD 0)) ∧ (s.2.2 = true → sumL s.2.1 < sumL f)}
      (fun s => ⟨[(1, .ptr 1 0), (2, .bool s.1.2.2), (10, Lro m.rs), (11, I m.rs.length), (12, I s.1.1)], [(0, ⟨3, 1, s.1.2.1.map I, true⟩)], [(1, ⟨66, [Lpl m.ps, Lro m.rs, Lsn fl, .own 0]⟩)], 2, 39⟩) (fun s => m.rs.length - s.1.1) ⟨(0, f, false), Nat.zero_le _, hI, fun _ => ⟨rfl, fun i hi => by omega⟩, by simp⟩ ?_ ?_
    · exact turn_id (by simp) rfl (by simp)
    rintro ⟨⟨i, g, c⟩, hi, hG, hc0, hc1⟩ K hK
    simp only at hi hG hc0 hc1
    rcases Nat.lt_or_ge i m.rs.length with hlt | hge
    · have hr := hm.r _ (get_mem (d := default) hlt)
      obtain ⟨r, hre⟩ : ∃ r, m.rs[i]?.getD default = r := ⟨_, rfl⟩
      rw [hre] at hr
      have hglen : g.length = m.ps.length := by rw [hG.len, hf]
      have hm1 : (⟨trv m i (fl[i]?.getD default) false, r.f.toNat, r.t.toNat⟩ : Ed) ∈ edsAt m fl i := by simp [edsAt, hre]
      have hm2 : (⟨trv m i (fl[i]?.getD default) true, r.t.toNat, r.f.toNat⟩ : Ed) ∈ edsAt m fl i := by simp [edsAt, hre]
      have hsub : ∀ e ∈ edsAt m fl i, e ∈ eds m fl := fun e he => List.mem_flatMap.2 ⟨i, List.mem_range.2 hlt, he⟩
      have a1 := hG.one (hsub _ hm1) (by omega) (by omega)
      have c1 := s47 m fl g i r.f r.t false _ rfl (by have := (trv_le hm i (fl[i]?.getD default) false).2; omega) (by omega) (by omega) (by omega) hG.bd
      obtain ⟨g1, hg1⟩ : ∃ g1, (if rlx (trv m i (fl[i]?.getD default) false) g r.f.toNat r.t.toNat = true then g.set r.t.toNat (g[r.f.toNat]?.getD 0 + trv m i (fl[i]?.getD default) false) else g) = g1 := ⟨_, rfl⟩
      obtain ⟨b1, hb1⟩ : ∃ b1, rlx (trv m i (fl[i]?.getD default) false) g r.f.toNat r.t.toNat = b1 := ⟨_, rfl⟩
      rw [hg1] at a1 c1
      rw [hb1] at a1 c1
      have hg1len : g1.length = m.ps.length := by rw [a1.1.len, hf]
      have a2 := a1.1.one (hsub _ hm2) (by omega) (by omega)
      have c2 := s47 m fl g1 i r.t r.f true _ rfl (by have := (trv_le hm i (fl[i]?.getD default) true).2; omega) (by omega) (by omega) (by omega) a1.1.bd
      obtain ⟨g2, hg2⟩ : ∃ g2, (if rlx (trv m i (fl[i]?.getD default) true) g1 r.t.toNat r.f.toNat = true then g1.set r.f.toNat (g1[r.t.toNat]?.getD 0 + trv m i (fl[i]?.getD default) true) else g1) = g2 := ⟨_, rfl⟩
      obtain ⟨b2, hb2⟩ : ∃ b2, rlx (trv m i (fl[i]?.getD default) true) g1 r.t.toNat r.f.toNat = b2 := ⟨_, rfl⟩
      rw [hg2] at a2 c2
      rw [hb2] at a2 c2
      repeat' (first
        | (with_reducible refine vc_seq_i fun K hK => ?_)
        | (with_reducible refine vc_ops_i ?_)
        | ((with_reducible refine ops_nil ?_); apply_assumption -exfalso -symm)
        | ((with_reducible refine ops_q fun K hK => ?_); simp[hre]; (try simp (disch := omega) only [wrap64]); (first | (with_reducible refine hK _ ?_) | (with_reducible refine alt_T (hK _ ?_)) | (with_reducible refine alt_wrap (by omega) (hK _ ?_)) | (with_reducible refine alt_same (hK _ ?_)) | (with_reducible refine alt_T' (hK _ ?_) ?_) | (with_reducible refine alt_wrap' (by omega) (hK _ ?_) ?_) | (with_reducible refine alt_same' (hK _ ?_) ?_) | (with_reducible refine And.intro ?_ (hK _ ?_)) | (refine fun _ => ?_; first | (with_reducible refine hK _ ?_) | (with_reducible refine alt_T (hK _ ?_)) | (with_reducible refine alt_wrap (by omega) (hK _ ?_)) | (with_reducible refine alt_same (hK _ ?_)))) <;> (clear hK; clear K))
        | ((with_reducible refine ops_a0 fun K hK => ?_); simp[hre]; (try simp (disch := omega) only [wrap64]); (first | ((with_reducible refine hK _ ?_); (clear hK; clear K)) | ((with_reducible refine And.intro ?_ (hK _ ?_)) <;> (clear hK; clear K)) | (repeat' (with_reducible refine And.intro ?_ ?_)) | skip))
        | ((with_reducible refine ops_ag fun K hK => ?_); first | (refine act_T rfl ?_; simp[hre]; (try simp (disch := omega) only [wrap64]); (first | ((with_reducible refine hK _ ?_); (clear hK; clear K)) | ((with_reducible refine And.intro ?_ (hK _ ?_)) <;> (clear hK; clear K)) | (repeat' (with_reducible refine And.intro ?_ ?_)) | skip)) | (refine act_F rfl ?_; simp; (with_reducible refine hK _ ?_); (clear hK; clear K)) | (refine act_N rfl ?_; simp; (with_reducible refine hK _ ?_); (clear hK; clear K)) | (refine act_c rfl fun c hc => ?_; cases c <;> (simp only [hc]; simp[hre]; (try simp (disch := omega) only [wrap64]); (try simp at hc); (first | ((with_reducible refine hK _ ?_); (clear hK; clear K)) | ((with_reducible refine And.intro ?_ (hK _ ?_)) <;> (clear hK; clear K)) | (repeat' (with_reducible refine And.intro ?_ ?_)) | skip))))
        | (with_reducible refine vc_drw_i [] ?_)
        | ((with_reducible refine T_done ?_); apply_assumption -exfalso -symm)
        | ((with_reducible refine T_take (by simp) fun K hK => ?_); simp[hre]; (try simp (disch := omega) only [wrap64]); (first | (with_reducible refine hK _ ?_) | (with_reducible refine alt_T (hK _ ?_)) | (with_reducible refine alt_wrap (by omega) (hK _ ?_)) | (with_reducible refine alt_same (hK _ ?_)) | (with_reducible refine alt_T' (hK _ ?_) ?_) | (with_reducible refine alt_wrap' (by omega) (hK _ ?_) ?_) | (with_reducible refine alt_same' (hK _ ?_) ?_) | (with_reducible refine And.intro ?_ (hK _ ?_)) | (refine fun _ => ?_; first | (with_reducible refine hK _ ?_) | (with_reducible refine alt_T (hK _ ?_)) | (with_reducible refine alt_wrap (by omega) (hK _ ?_)) | (with_reducible refine alt_same (hK _ ?_)))) <;> (clear hK; clear K))
        | ((with_reducible refine T_actq fun K hK => ?_); simp[hre]; (try simp (disch := omega) only [wrap64]); (first | (with_reducible refine hK _ ?_) | (with_reducible refine alt_T (hK _ ?_)) | (with_reducible refine alt_wrap (by omega) (hK _ ?_)) | (with_reducible refine alt_same (hK _ ?_)) | (with_reducible refine alt_T' (hK _ ?_) ?_) | (with_reducible refine alt_wrap' (by omega) (hK _ ?_) ?_) | (with_reducible refine alt_same' (hK _ ?_) ?_) | (with_reducible refine And.intro ?_ (hK _ ?_)) | (refine fun _ => ?_; first | (with_reducible refine hK _ ?_) | (with_reducible refine alt_T (hK _ ?_)) | (with_reducible refine alt_wrap (by omega) (hK _ ?_)) | (with_reducible refine alt_same (hK _ ?_)))) <;> (clear hK; clear K))
        | ((with_reducible refine T_fg ?_); simp)
        | ((with_reducible refine T_lz (by simp) fun K hK => ?_); simp[hre]; (try simp (disch := omega) only [wrap64]); (first | ((with_reducible refine hK _ ?_); (clear hK; clear K)) | ((with_reducible refine And.intro ?_ (hK _ ?_)) <;> (clear hK; clear K)) | (repeat' (with_reducible refine And.intro ?_ ?_)) | skip))
        | (with_reducible refine T_two ?_ ?_)
        | (with_reducible refine T_three ?_ ?_ ?_)
        | ((with_reducible refine T_act0 fun K hK => ?_); simp[hre]; (try simp (disch := omega) only [wrap64]); (first | ((with_reducible refine hK _ ?_); (clear hK; clear K)) | ((with_reducible refine And.intro ?_ (hK _ ?_)) <;> (clear hK; clear K)) | (repeat' (with_reducible refine And.intro ?_ ?_)) | skip))
        | ((with_reducible refine T_actg fun K hK => ?_); first | (refine act_T rfl ?_; simp[hre]; (try simp (disch := omega) only [wrap64]); (first | ((with_reducible refine hK _ ?_); (clear hK; clear K)) | ((with_reducible refine And.intro ?_ (hK _ ?_)) <;> (clear hK; clear K)) | (repeat' (with_reducible refine And.intro ?_ ?_)) | skip)) | (refine act_F rfl ?_; simp; (with_reducible refine hK _ ?_); (clear hK; clear K)) | (refine act_N rfl ?_; simp; (with_reducible refine hK _ ?_); (clear hK; clear K)) | (refine act_c rfl fun c hc => ?_; cases c <;> (simp only [hc]; simp[hre]; (try simp (disch := omega) only [wrap64]); (try simp at hc); (first | ((with_reducible refine hK _ ?_); (clear hK; clear K)) | ((with_reducible refine And.intro ?_ (hK _ ?_)) <;> (clear hK; clear K)) | (repeat' (with_reducible refine And.intro ?_ ?_)) | skip))))
        | (with_reducible refine vc_block_i fun Y hY hN => ?_)
        | ((with_reducible refine vc_skip_i ?_); apply_assumption -exfalso -symm)
        | ((with_reducible refine vc_cond_i rfl ?_ ?_) <;> (intro hb; try simp at hb))
        | ((with_reducible refine vc_dead_i ?_); first | omega | (exfalso; simp_all; done) | skip)
        | ((with_reducible refine vc_exit_i ?_); apply_assumption -exfalso -symm; try apply_assumption -exfalso -symm)
        | ((with_reducible refine vc_ret_i ?_); (with_reducible refine hR _ ?_); simp [r31]; skip)
        | ((with_reducible refine hR _ ?_); simp [r31]; skip)
        | ((with_reducible show vcCall _ _ _ _ (Opn.t 17 :: _) _ _); refine call_p [0] c1 rfl rfl ⟨⟨⟨wk_same, wk_same, wk_same, by simp⟩, rfl, rfl, rfl, rfl, trivial⟩, by simp⟩ ?_; rintro _ _ ⟨rfl, rfl⟩; simp; first | ((with_reducible refine hK _ ?_); (clear hK; clear K)) | (with_reducible apply_assumption -exfalso -symm))
        | ((with_reducible show vcCall _ _ _ _ (Opn.t 24 :: _) _ _); refine call_p [0] c2 rfl rfl ⟨⟨⟨wk_same, wk_same, wk_same, by simp⟩, rfl, rfl, rfl, rfl, trivial⟩, by simp⟩ ?_; rintro _ _ ⟨rfl, rfl⟩; simp; first | ((with_reducible refine hK _ ?_); (clear hK; clear K)) | (with_reducible apply_assumption -exfalso -symm))
        | (intros; omega))
      refine ⟨⟨(i + 1, g2, c || b1 || b2), by omega, a2.1, fun h => ?_, fun h => ?_⟩, by simp; omega, turn_id (by simp) rfl (by simp)⟩
      · simp only [Bool.or_eq_false_iff] at h
        obtain ⟨⟨h1, h2⟩, h3⟩ := h
        obtain ⟨e0, k0⟩ := hc0 h1
        obtain ⟨e1, k1⟩ := a1.2.2 h2
        obtain ⟨e2, k2⟩ := a2.2.2 h3
        refine ⟨by rw [e2, e1, e0], fun j hj e he => ?_⟩
        rcases Nat.lt_succ_iff_lt_or_eq.1 hj with hj | rfl
        · exact k0 j hj e he
        · rw [e1, e0] at k2
          rw [e0] at k1
          simp only [edsAt, hre, List.mem_cons, List.not_mem_nil, or_false] at he
          rcases he with rfl | rfl
          · exact k1
          · exact k2
      · show sumL g2 < sumL f
        cases b2 with
        | true =>
          have h3 := a2.2.1 rfl
          have h4 : sumL g1 ≤ sumL g := by
            cases b1 with
            | true => exact Nat.le_of_lt (a1.2.1 rfl)
            | false => rw [(a1.2.2 rfl).1]; exact Nat.le_refl _
          have h5 : sumL g ≤ sumL f := by
            cases c with
            | true => exact Nat.le_of_lt (hc1 rfl)
            | false => rw [(hc0 rfl).1]; exact Nat.le_refl _
          omega
        | false =>
          rw [(a2.2.2 rfl).1]
          cases b1 with
          | true =>
            have h4 := a1.2.1 rfl
            have h5 : sumL g ≤ sumL f := by
              cases c with
              | true => exact Nat.le_of_lt (hc1 rfl)
              | false => rw [(hc0 rfl).1]; exact Nat.le_refl _
            omega
          | false =>
            rw [(a1.2.2 rfl).1]
            exact hc1 (by simpa using h)
    · skip
      repeat' (first
        | (with_reducible refine vc_seq_i fun K hK => ?_)
        | (with_reducible refine vc_ops_i ?_)
        | ((with_reducible refine ops_nil ?_); apply_assumption -exfalso -symm)
        | ((with_reducible refine ops_q fun K hK => ?_); simp; (try simp (disch := omega) only [wrap64]); (first | (with_reducible refine hK _ ?_) | (with_reducible refine alt_T (hK _ ?_)) | (with_reducible refine alt_wrap (by omega) (hK _ ?_)) | (with_reducible refine alt_same (hK _ ?_)) | (with_reducible refine alt_T' (hK _ ?_) ?_) | (with_reducible refine alt_wrap' (by omega) (hK _ ?_) ?_) | (with_reducible refine alt_same' (hK _ ?_) ?_) | (with_reducible refine And.intro ?_ (hK _ ?_)) | (refine fun _ => ?_; first | (with_reducible refine hK _ ?_) | (with_reducible refine alt_T (hK _ ?_)) | (with_reducible refine alt_wrap (by omega) (hK _ ?_)) | (with_reducible refine alt_same (hK _ ?_)))) <;> (clear hK; clear K))
        | ((with_reducible refine ops_a0 fun K hK => ?_); simp; (try simp (disch := omega) only [wrap64]); (first | ((with_reducible refine hK _ ?_); (clear hK; clear K)) | ((with_reducible refine And.intro ?_ (hK _ ?_)) <;> (clear hK; clear K)) | (repeat' (with_reducible refine And.intro ?_ ?_)) | skip))
        | ((with_reducible refine ops_ag fun K hK => ?_); first | (refine act_T rfl ?_; simp; (try simp (disch := omega) only [wrap64]); (first | ((with_reducible refine hK _ ?_); (clear hK; clear K)) | ((with_reducible refine And.intro ?_ (hK _ ?_)) <;> (clear hK; clear K)) | (repeat' (with_reducible refine And.intro ?_ ?_)) | skip)) | (refine act_F rfl ?_; simp; (with_reducible refine hK _ ?_); (clear hK; clear K)) | (refine act_N rfl ?_; simp; (with_reducible refine hK _ ?_); (clear hK; clear K)) | (refine act_c rfl fun c hc => ?_; cases c <;> (simp only [hc]; simp; (try simp (disch := omega) only [wrap64]); (try simp at hc); (first | ((with_reducible refine hK _ ?_); (clear hK; clear K)) | ((with_reducible refine And.intro ?_ (hK _ ?_)) <;> (clear hK; clear K)) | (repeat' (with_reducible refine And.intro ?_ ?_)) | skip))))
        | (with_reducible refine vc_drw_i [] ?_)
        | ((with_reducible refine T_done ?_); apply_assumption -exfalso -symm)
        | ((with_reducible refine T_take (by simp) fun K hK => ?_); simp; (try simp (disch := omega) only [wrap64]); (first | (with_reducible refine hK _ ?_) | (with_reducible refine alt_T (hK _ ?_)) | (with_reducible refine alt_wrap (by omega) (hK _ ?_)) | (with_reducible refine alt_same (hK _ ?_)) | (with_reducible refine alt_T' (hK _ ?_) ?_) | (with_reducible refine alt_wrap' (by omega) (hK _ ?_) ?_) | (with_reducible refine alt_same' (hK _ ?_) ?_) | (with_reducible refine And.intro ?_ (hK _ ?_)) | (refine fun _ => ?_; first | (with_reducible refine hK _ ?_) | (with_reducible refine alt_T (hK _ ?_)) | (with_reducible refine alt_wrap (by omega) (hK _ ?_)) | (with_reducible refine alt_same (hK _ ?_)))) <;> (clear hK; clear K))
        | ((with_reducible refine T_actq fun K hK => ?_); simp; (try simp (disch := omega) only [wrap64]); (first | (with_reducible refine hK _ ?_) | (with_reducible refine alt_T (hK _ ?_)) | (with_reducible refine alt_wrap (by omega) (hK _ ?_)) | (with_reducible refine alt_same (hK _ ?_)) | (with_reducible refine alt_T' (hK _ ?_) ?_) | (with_reducible refine alt_wrap' (by omega) (hK _ ?_) ?_) | (with_reducible refine alt_same' (hK _ ?_) ?_) | (with_reducible refine And.intro ?_ (hK _ ?_)) | (refine fun _ => ?_; first | (with_reducible refine hK _ ?_) | (with_reducible refine alt_T (hK _ ?_)) | (with_reducible refine alt_wrap (by omega) (hK _ ?_)) | (with_reducible refine alt_same (hK _ ?_)))) <;> (clear hK; clear K))
        | ((with_reducible refine T_fg ?_); simp)
        | ((with_reducible refine T_lz (by simp) fun K hK => ?_); simp; (try simp (disch := omega) only [wrap64]); (first | ((with_reducible refine hK _ ?_); (clear hK; clear K)) | ((with_reducible refine And.intro ?_ (hK _ ?_)) <;> (clear hK; clear K)) | (repeat' (with_reducible refine And.intro ?_ ?_)) | skip))
        | (with_reducible refine T_two ?_ ?_)
        | (with_reducible refine T_three ?_ ?_ ?_)
        | ((with_reducible refine T_act0 fun K hK => ?_); simp; (try simp (disch := omega) only [wrap64]); (first | ((with_reducible refine hK _ ?_); (clear hK; clear K)) | ((with_reducible refine And.intro ?_ (hK _ ?_)) <;> (clear hK; clear K)) | (repeat' (with_reducible refine And.intro ?_ ?_)) | skip))
        | ((with_reducible refine T_actg fun K hK => ?_); first | (refine act_T rfl ?_; simp; (try simp (disch := omega) only [wrap64]); (first | ((with_reducible refine hK _ ?_); (clear hK; clear K)) | ((with_reducible refine And.intro ?_ (hK _ ?_)) <;> (clear hK; clear K)) | (repeat' (with_reducible refine And.intro ?_ ?_)) | skip)) | (refine act_F rfl ?_; simp; (with_reducible refine hK _ ?_); (clear hK; clear K)) | (refine act_N rfl ?_; simp; (with_reducible refine hK _ ?_); (clear hK; clear K)) | (refine act_c rfl fun c hc => ?_; cases c <;> (simp only [hc]; simp; (try simp (disch := omega) only [wrap64]); (try simp at hc); (first | ((with_reducible refine hK _ ?_); (clear hK; clear K)) | ((with_reducible refine And.intro ?_ (hK _ ?_)) <;> (clear hK; clear K)) | (repeat' (with_reducible refine And.intro ?_ ?_)) | skip))))
        | (with_reducible refine vc_block_i fun Y hY hN => ?_)
        | ((with_reducible refine vc_skip_i ?_); apply_assumption -exfalso -symm)
        | ((with_reducible refine vc_cond_i rfl ?_ ?_) <;> (intro hb; try simp at hb))
        | ((with_reducible refine vc_dead_i ?_); first | omega | (exfalso; simp_all; done) | skip)
        | ((with_reducible refine vc_exit_i ?_); apply_assumption -exfalso -symm; try apply_assumption -exfalso -symm)
        | ((with_reducible refine vc_ret_i ?_); (with_reducible refine hR _ ?_); simp [r31]; skip)
        | ((with_reducible refine hR _ ?_); simp [r31]; skip)
        | (intros; omega))
      refine ⟨⟨(g, c), hG, fun h => ?_⟩, ?_, turn_id (by simp) rfl (by simp)⟩
      · obtain ⟨e0, k0⟩ := hc0 h
        simp only at e0 ⊢
        rw [e0]
        intro e he
        obtain ⟨j, hj, he⟩ := List.mem_flatMap.1 he
        exact k0 j (by have := List.mem_range.1 hj; omega) e he
      · simp only [‹ch = true›, if_true]
        cases c with
        | true => have := hc1 rfl; simp; omega
        | false => have e9 : sumL g = sumL f := by rw [(hc0 rfl).1]
                   simp; omega
  · simp [r31]
    exact ret_at (r := .tup []) [] id (frR f) [] (by simp [Le, keys]) (hQ _ _ ⟨f, hI, hc hb, rfl, rfl⟩)
end Go.VV
