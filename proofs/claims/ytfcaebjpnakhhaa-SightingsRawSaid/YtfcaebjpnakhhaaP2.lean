/- Part of a proof: the laws of single functions of the given program, shown step by step. -/
import Derived.Test.YtfcaebjpnakhhaaCR
import Derived.Test.YtfcaebjpnakhhaaP1
import Derived.Test.YtfcaebjpnakhhaaT7
set_option linter.unusedSimpArgs false
set_option linter.unusedVariables false
set_option linter.unnecessarySimpa false
namespace Go.VV
open Go.Proofs
set_option maxRecDepth 4000
set_option maxHeartbeats 8000000
theorem s46 (l : List Int) (n : Int) : Spec Try.prog 46 ⟨[], []⟩ 0 [Lint l, I n] (fun v C' => v = .bool (rises l 0 (n - 1)) ∧ C' = ⟨[], []⟩) := by
  refine l46.go mixed no (by simp) fun Q hQ Rt hR => ?_
  unfold c46
  simp only [argT]
  repeat' (first
    | (with_reducible refine vc_seq_i fun K hK => ?_)
    | (with_reducible refine vc_ops_i ?_)
    | ((with_reducible refine ops_nil ?_); apply_assumption -exfalso -symm)
    | ((with_reducible refine ops_q fun K hK => ?_); simp; (try simp (disch := omega) only [wrap64]); (first | (with_reducible refine hK _ ?_) | (with_reducible refine alt_T (hK _ ?_)) | (with_reducible refine alt_wrap (by omega) (hK _ ?_)) | (with_reducible refine alt_same (hK _ ?_)) | (with_reducible refine alt_T' (hK _ ?_) ?_) | (with_reducible refine alt_wrap' (by omega) (hK _ ?_) ?_) | (with_reducible refine alt_same' (hK _ ?_) ?_) | (with_reducible refine And.intro ?_ (hK _ ?_)) | (refine fun _ => ?_; first | (with_reducible refine hK _ ?_) | (with_reducible refine alt_T (hK _ ?_)) | (with_reducible refine alt_wrap (by omega) (hK _ ?_)) | (with_reducible refine alt_same (hK _ ?_)))) <;> (clear hK; clear K))
    | ((with_reducible refine ops_a0 fun K hK => ?_); simp; (try simp (disch := omega) only [wrap64]); (first | ((with_reducible refine hK _ ?_); (clear hK; clear K)) | ((with_reducible refine And.intro ?_ (hK _ ?_)) <;> (clear hK; clear K)) | (repeat' (with_reducible refine And.intro ?_ ?_)) | skip))
    | ((with_reducible refine ops_ag fun K hK => ?_); first | (refine act_T rfl ?_; simp; (try simp (disch := omega) only [wrap64]); (first | ((with_reducible refine hK _ ?_); (clear hK; clear K)) | ((with_reducible refine And.intro ?_ (hK _ ?_)) <;> (clear hK; clear K)) | (repeat' (with_reducible refine And.intro ?_ ?_)) | skip)) | (refine act_F rfl ?_; simp; (with_reducible refine hK _ ?_); (clear hK; clear K)) | (refine act_N rfl ?_; simp; (with_reducible refine hK _ ?_); (clear hK; clear K)) | (refine act_c rfl fun c hc => ?_; cases c <;> (simp only [hc]; simp; (try simp (disch := omega) only [wrap64]); (try simp at hc); (first | ((with_reducible refine hK _ ?_); (clear hK; clear K)) | ((with_reducible refine And.intro ?_ (hK _ ?_)) <;> (clear hK; clear K)) | (repeat' (with_reducible refine And.intro ?_ ?_)) | skip))))
    | (with_reducible refine vc_drw_i [] ?_)
    | ((with_reducible refine T_done ?_); apply_assumption -exfalso -symm)
    | ((with_reducible refine T_take (by simp) fun K hK => ?_); simp; (try simp (disch := omega) only [wrap64]); (first | (with_reducible refine hK _ ?_) | (with_reducible refine alt_T (hK _ ?_)) | (with_reducible refine alt_wrap (by omega) (hK _ ?_)) | (with_reducible refine alt_same (hK _ ?_)) | (with_reducible refine alt_T' (hK _ ?_) ?_) | (with_reducible refine alt_wrap' (by omega) (hK _ ?_) ?_) | (with_reducible refine alt_same' (hK _ ?_) ?_) | (with_reducible refine And.intro ?_ (hK _ ?_)) | (refine fun _ => ?_; first | (with_reducible refine hK _ ?_) | (with_reducible refine alt_T (hK _ ?_)) | (with_reducible refine alt_wrap (by omega) (hK _ ?_)) | (with_reducible refine alt_same (hK _ ?_)))) <;> (clear hK; clear K))
    | ((with_reducible refine T_actq fun K hK => ?_); simp; (try simp (disch := omega) only [wrap64]); (first | (with_reducible refine hK _ ?_) | (with_reducible refine alt_T (hK _ ?_)) | (with_reducible refine alt_wrap (by omega) (hK _ ?_)) | (with_reducible refine alt_same (hK _ ?_)) | (with_reducible refine alt_T' (hK _ ?_) ?_) | (with_reducible refine alt_wrap' (by omega) (hK _ ?_) ?_) | (with_reducible refine alt_same' (hK _ ?_) ?_) | (with_reducible refine And.intro ?_ (hK _ ?_)) | (refine fun _ => ?_; first | (with_reducible refine hK _ ?_) | (with_reducible refine alt_T (hK _ ?_)) | (with_reducible refine alt_wrap (by omega) (hK _ ?_)) | (with_reducible refine alt_same (hK _ ?_)))) <;> (clear hK; clear K))
    | (with_reducible refine T_two ?_ ?_)
    | ((with_reducible refine T_act0 fun K hK => ?_); simp; (try simp (disch := omega) only [wrap64]); (first | ((with_reducible refine hK _ ?_); (clear hK; clear K)) | ((with_reducible refine And.intro ?_ (hK _ ?_)) <;> (clear hK; clear K)) | (repeat' (with_reducible refine And.intro ?_ ?_)) | skip))
    | ((with_reducible refine T_actg fun K hK => ?_); first | (refine act_T rfl ?_; simp; (try simp (disch := omega) only [wrap64]); (first | ((with_reducible refine hK _ ?_); (clear hK; clear K)) | ((with_reducible refine And.intro ?_ (hK _ ?_)) <;> (clear hK; clear K)) | (repeat' (with_reducible refine And.intro ?_ ?_)) | skip)) | (refine act_F rfl ?_; simp; (with_reducible refine hK _ ?_); (clear hK; clear K)) | (refine act_N rfl ?_; simp; (with_reducible refine hK _ ?_); (clear hK; clear K)) | (refine act_c rfl fun c hc => ?_; cases c <;> (simp only [hc]; simp; (try simp (disch := omega) only [wrap64]); (try simp at hc); (first | ((with_reducible refine hK _ ?_); (clear hK; clear K)) | ((with_reducible refine And.intro ?_ (hK _ ?_)) <;> (clear hK; clear K)) | (repeat' (with_reducible refine And.intro ?_ ?_)) | skip))))
    | (with_reducible refine vc_block_i fun Y hY hN => ?_)
    | ((with_reducible refine vc_skip_i ?_); apply_assumption -exfalso -symm)
    | ((with_reducible refine vc_cond_i rfl ?_ ?_) <;> (intro hb; try simp at hb))
    | ((with_reducible refine vc_exit_i ?_); apply_assumption -exfalso -symm; try apply_assumption -exfalso -symm)
    | ((with_reducible refine vc_ret_i ?_); (with_reducible refine hR _ ?_); simp [r46]; (try refine ret_val (by simp) (hQ _ _ ?_)))
    | ((with_reducible refine hR _ ?_); simp [r46]; (try refine ret_val (by simp) (hQ _ _ ?_)))
    | (intros; omega))
  refine loop_i {i : Nat // i ≤ l.length ∧ ∀ j, j < i → (0 ≤ l[j]?.getD 0 ∧ l[j]?.getD 0 ≤ n - 1) ∧ (0 < j → l[j - 1]?.getD 0 < l[j]?.getD 0)} (fun s => ⟨[(0, Lint l), (1, I n), (5, I s.1)], [], [], 0, 41⟩) (fun s => l.length - s.1) ⟨0, Nat.zero_le _, fun j hj => by omega⟩ ?_ ?_
  · exact turn_id (by simp) rfl (by simp)
  rintro ⟨i, hi', hr⟩ K hK
  repeat' (first
    | (with_reducible refine vc_seq_i fun K hK => ?_)
    | (with_reducible refine vc_ops_i ?_)
    | ((with_reducible refine ops_nil ?_); apply_assumption -exfalso -symm)
    | ((with_reducible refine ops_q fun K hK => ?_); simp; (try simp (disch := omega) only [wrap64]); (first | (with_reducible refine hK _ ?_) | (with_reducible refine alt_T (hK _ ?_)) | (with_reducible refine alt_wrap (by omega) (hK _ ?_)) | (with_reducible refine alt_same (hK _ ?_)) | (with_reducible refine alt_T' (hK _ ?_) ?_) | (with_reducible refine alt_wrap' (by omega) (hK _ ?_) ?_) | (with_reducible refine alt_same' (hK _ ?_) ?_) | (with_reducible refine And.intro ?_ (hK _ ?_)) | (refine fun _ => ?_; first | (with_reducible refine hK _ ?_) | (with_reducible refine alt_T (hK _ ?_)) | (with_reducible refine alt_wrap (by omega) (hK _ ?_)) | (with_reducible refine alt_same (hK _ ?_)))) <;> (clear hK; clear K))
    | ((with_reducible refine ops_a0 fun K hK => ?_); simp; (try simp (disch := omega) only [wrap64]); (first | ((with_reducible refine hK _ ?_); (clear hK; clear K)) | ((with_reducible refine And.intro ?_ (hK _ ?_)) <;> (clear hK; clear K)) | (repeat' (with_reducible refine And.intro ?_ ?_)) | skip))
    | ((with_reducible refine ops_ag fun K hK => ?_); first | (refine act_T rfl ?_; simp; (try simp (disch := omega) only [wrap64]); (first | ((with_reducible refine hK _ ?_); (clear hK; clear K)) | ((with_reducible refine And.intro ?_ (hK _ ?_)) <;> (clear hK; clear K)) | (repeat' (with_reducible refine And.intro ?_ ?_)) | skip)) | (refine act_F rfl ?_; simp; (with_reducible refine hK _ ?_); (clear hK; clear K)) | (refine act_N rfl ?_; simp; (with_reducible refine hK _ ?_); (clear hK; clear K)) | (refine act_c rfl fun c hc => ?_; cases c <;> (simp only [hc]; simp; (try simp (disch := omega) only [wrap64]); (try simp at hc); (first | ((with_reducible refine hK _ ?_); (clear hK; clear K)) | ((with_reducible refine And.intro ?_ (hK _ ?_)) <;> (clear hK; clear K)) | (repeat' (with_reducible refine And.intro ?_ ?_)) | skip))))
    | (with_reducible refine vc_drw_i [] ?_)
    | ((with_reducible refine T_done ?_); apply_assumption -exfalso -symm)
    | ((with_reducible refine T_take (by simp) fun K hK => ?_); simp; (try simp (disch := omega) only [wrap64]); (first | (with_reducible refine hK _ ?_) | (with_reducible refine alt_T (hK _ ?_)) | (with_reducible refine alt_wrap (by omega) (hK _ ?_)) | (with_reducible refine alt_same (hK _ ?_)) | (with_reducible refine alt_T' (hK _ ?_) ?_) | (with_reducible refine alt_wrap' (by omega) (hK _ ?_) ?_) | (with_reducible refine alt_same' (hK _ ?_) ?_) | (with_reducible refine And.intro ?_ (hK _ ?_)) | (refine fun _ => ?_; first | (with_reducible refine hK _ ?_) | (with_reducible refine alt_T (hK _ ?_)) | (with_reducible refine alt_wrap (by omega) (hK _ ?_)) | (with_reducible refine alt_same (hK _ ?_)))) <;> (clear hK; clear K))
    | ((with_reducible refine T_actq fun K hK => ?_); simp; (try simp (disch := omega) only [wrap64]); (first | (with_reducible refine hK _ ?_) | (with_reducible refine alt_T (hK _ ?_)) | (with_reducible refine alt_wrap (by omega) (hK _ ?_)) | (with_reducible refine alt_same (hK _ ?_)) | (with_reducible refine alt_T' (hK _ ?_) ?_) | (with_reducible refine alt_wrap' (by omega) (hK _ ?_) ?_) | (with_reducible refine alt_same' (hK _ ?_) ?_) | (with_reducible refine And.intro ?_ (hK _ ?_)) | (refine fun _ => ?_; first | (with_reducible refine hK _ ?_) | (with_reducible refine alt_T (hK _ ?_)) | (with_reducible refine alt_wrap (by omega) (hK _ ?_)) | (with_reducible refine alt_same (hK _ ?_)))) <;> (clear hK; clear K))
    | (with_reducible refine T_two ?_ ?_)
    | ((with_reducible refine T_act0 fun K hK => ?_); simp; (try simp (disch := omega) only [wrap64]); (first | ((with_reducible refine hK _ ?_); (clear hK; clear K)) | ((with_reducible refine And.intro ?_ (hK _ ?_)) <;> (clear hK; clear K)) | (repeat' (with_reducible refine And.intro ?_ ?_)) | skip))
    | ((with_reducible refine T_actg fun K hK => ?_); first | (refine act_T rfl ?_; simp; (try simp (disch := omega) only [wrap64]); (first | ((with_reducible refine hK _ ?_); (clear hK; clear K)) | ((with_reducible refine And.intro ?_ (hK _ ?_)) <;> (clear hK; clear K)) | (repeat' (with_reducible refine And.intro ?_ ?_)) | skip)) | (refine act_F rfl ?_; simp; (with_reducible refine hK _ ?_); (clear hK; clear K)) | (refine act_N rfl ?_; simp; (with_reducible refine hK _ ?_); (clear hK; clear K)) | (refine act_c rfl fun c hc => ?_; cases c <;> (simp only [hc]; simp; (try simp (disch := omega) only [wrap64]); (try simp at hc); (first | ((with_reducible refine hK _ ?_); (clear hK; clear K)) | ((with_reducible refine And.intro ?_ (hK _ ?_)) <;> (clear hK; clear K)) | (repeat' (with_reducible refine And.intro ?_ ?_)) | skip))))
    | (with_reducible refine vc_block_i fun Y hY hN => ?_)
    | ((with_reducible refine vc_skip_i ?_); apply_assumption -exfalso -symm)
    | ((with_reducible refine vc_cond_i rfl ?_ ?_) <;> (intro hb; try simp at hb))
    | ((with_reducible refine vc_exit_i ?_); apply_assumption -exfalso -symm; try apply_assumption -exfalso -symm)
    | ((with_reducible refine vc_ret_i ?_); (with_reducible refine hR _ ?_); simp [r46]; (try refine ret_val (by simp) (hQ _ _ ?_)))
    | ((with_reducible refine hR _ ?_); simp [r46]; (try refine ret_val (by simp) (hQ _ _ ?_)))
    | (intros; omega))
  · refine ⟨by simp only [rises, AV.bool.injEq]; symm; simp only [decide_eq_false_iff_not]; intro h; have := h i ‹_›; omega, rfl⟩
  · refine ⟨⟨i + 1, by omega, fun j hj => ?_⟩, by simp; omega, turn_id (by simp) rfl (by simp)⟩
    rcases Nat.lt_succ_iff_lt_or_eq.1 hj with h | rfl
    · exact hr j h
    · omega
  · refine ⟨by simp only [rises, AV.bool.injEq]; symm; simp only [decide_eq_true_eq]; intro j hj; exact hr j (by omega), rfl⟩
noncomputable def okRd (n : Int) (x : Rd) : Bool := x.places.length != 0 && rises x.places 0 (n - 1) && inB x.period 1 600 && inB x.miss 0 10 && inB x.skew 0 60
abbrev mnC (m : Mn) : Cx := ⟨[], [(0, ⟨41, [Lpl m.ps, Lro m.rs]⟩)]⟩
theorem w_pred {n : Nat} {l : List Int} (h : n ≤ 9223372036854775807 ∨ l = []) : l ≠ [] → IntKind.i64.wrap ((n : Int) - 1) = n - 1 := by
  intro h2
  rcases h with h | h
  · exact wrap64 (by omega) (by omega)
  · exact absurd h h2
theorem s42 (x : Rd) (m : Mn) : Spec Try.prog 42 (mnC m) 1 [aRd x, .ptr 0 0] (fun v C' => v = .bool (!okRd m.ps.length x) ∧ C' = mnC m) := by
  refine l42.go mixed no (by simp) fun Q hQ Rt hR => ?_
  unfold c42
  simp only [argT]
  repeat' (first
    | (with_reducible refine vc_seq_i fun K hK => ?_)
    | (with_reducible refine vc_ops_i ?_)
    | ((with_reducible refine ops_nil ?_); apply_assumption -exfalso -symm)
    | ((with_reducible refine ops_q fun K hK => ?_); simp; (try simp (disch := omega) only [wrap64]); (first | (with_reducible refine hK _ ?_) | (with_reducible refine alt_T (hK _ ?_)) | (with_reducible refine alt_wrap (by omega) (hK _ ?_)) | (with_reducible refine alt_same (hK _ ?_)) | (with_reducible refine alt_T' (hK _ ?_) ?_) | (with_reducible refine alt_wrap' (by omega) (hK _ ?_) ?_) | (with_reducible refine alt_same' (hK _ ?_) ?_) | (with_reducible refine And.intro ?_ (hK _ ?_)) | (refine fun _ => ?_; first | (with_reducible refine hK _ ?_) | (with_reducible refine alt_T (hK _ ?_)) | (with_reducible refine alt_wrap (by omega) (hK _ ?_)) | (with_reducible refine alt_same (hK _ ?_)))) <;> (clear hK; clear K))
    | ((with_reducible refine ops_a0 fun K hK => ?_); simp; (try simp (disch := omega) only [wrap64]); (first | ((with_reducible refine hK _ ?_); (clear hK; clear K)) | ((with_reducible refine And.intro ?_ (hK _ ?_)) <;> (clear hK; clear K)) | (repeat' (with_reducible refine And.intro ?_ ?_)) | skip))
    | ((with_reducible refine ops_ag fun K hK => ?_); first | (refine act_T rfl ?_; simp; (try simp (disch := omega) only [wrap64]); (first | ((with_reducible refine hK _ ?_); (clear hK; clear K)) | ((with_reducible refine And.intro ?_ (hK _ ?_)) <;> (clear hK; clear K)) | (repeat' (with_reducible refine And.intro ?_ ?_)) | skip)) | (refine act_F rfl ?_; simp; (with_reducible refine hK _ ?_); (clear hK; clear K)) | (refine act_N rfl ?_; simp; (with_reducible refine hK _ ?_); (clear hK; clear K)) | (refine act_c rfl fun c hc => ?_; cases c <;> (simp only [hc]; simp; (try simp (disch := omega) only [wrap64]); (try simp at hc); (first | ((with_reducible refine hK _ ?_); (clear hK; clear K)) | ((with_reducible refine And.intro ?_ (hK _ ?_)) <;> (clear hK; clear K)) | (repeat' (with_reducible refine And.intro ?_ ?_)) | skip))))
    | (with_reducible refine vc_drw_i [] ?_)
    | ((with_reducible refine T_done ?_); apply_assumption -exfalso -symm)
    | ((with_reducible refine T_take (by simp) fun K hK => ?_); simp; (try simp (disch := omega) only [wrap64]); (first | (with_reducible refine hK _ ?_) | (with_reducible refine alt_T (hK _ ?_)) | (with_reducible refine alt_wrap (by omega) (hK _ ?_)) | (with_reducible refine alt_same (hK _ ?_)) | (with_reducible refine alt_T' (hK _ ?_) ?_) | (with_reducible refine alt_wrap' (by omega) (hK _ ?_) ?_) | (with_reducible refine alt_same' (hK _ ?_) ?_) | (with_reducible refine And.intro ?_ (hK _ ?_)) | (refine fun _ => ?_; first | (with_reducible refine hK _ ?_) | (with_reducible refine alt_T (hK _ ?_)) | (with_reducible refine alt_wrap (by omega) (hK _ ?_)) | (with_reducible refine alt_same (hK _ ?_)))) <;> (clear hK; clear K))
    | ((with_reducible refine T_actq fun K hK => ?_); simp; (try simp (disch := omega) only [wrap64]); (first | (with_reducible refine hK _ ?_) | (with_reducible refine alt_T (hK _ ?_)) | (with_reducible refine alt_wrap (by omega) (hK _ ?_)) | (with_reducible refine alt_same (hK _ ?_)) | (with_reducible refine alt_T' (hK _ ?_) ?_) | (with_reducible refine alt_wrap' (by omega) (hK _ ?_) ?_) | (with_reducible refine alt_same' (hK _ ?_) ?_) | (with_reducible refine And.intro ?_ (hK _ ?_)) | (refine fun _ => ?_; first | (with_reducible refine hK _ ?_) | (with_reducible refine alt_T (hK _ ?_)) | (with_reducible refine alt_wrap (by omega) (hK _ ?_)) | (with_reducible refine alt_same (hK _ ?_)))) <;> (clear hK; clear K))
    | (with_reducible refine T_two ?_ ?_)
    | ((with_reducible refine T_act0 fun K hK => ?_); simp; (try simp (disch := omega) only [wrap64]); (first | ((with_reducible refine hK _ ?_); (clear hK; clear K)) | ((with_reducible refine And.intro ?_ (hK _ ?_)) <;> (clear hK; clear K)) | (repeat' (with_reducible refine And.intro ?_ ?_)) | skip))
    | ((with_reducible refine T_actg fun K hK => ?_); first | (refine act_T rfl ?_; simp; (try simp (disch := omega) only [wrap64]); (first | ((with_reducible refine hK _ ?_); (clear hK; clear K)) | ((with_reducible refine And.intro ?_ (hK _ ?_)) <;> (clear hK; clear K)) | (repeat' (with_reducible refine And.intro ?_ ?_)) | skip)) | (refine act_F rfl ?_; simp; (with_reducible refine hK _ ?_); (clear hK; clear K)) | (refine act_N rfl ?_; simp; (with_reducible refine hK _ ?_); (clear hK; clear K)) | (refine act_c rfl fun c hc => ?_; cases c <;> (simp only [hc]; simp; (try simp (disch := omega) only [wrap64]); (try simp at hc); (first | ((with_reducible refine hK _ ?_); (clear hK; clear K)) | ((with_reducible refine And.intro ?_ (hK _ ?_)) <;> (clear hK; clear K)) | (repeat' (with_reducible refine And.intro ?_ ?_)) | skip))))
    | (with_reducible refine vc_block_i fun Y hY hN => ?_)
    | ((with_reducible refine vc_skip_i ?_); apply_assumption -exfalso -symm)
    | ((with_reducible refine vc_cond_i rfl ?_ ?_) <;> (intro hb; try simp at hb))
    | ((with_reducible refine vc_exit_i ?_); apply_assumption -exfalso -symm; try apply_assumption -exfalso -symm)
    | ((with_reducible refine vc_ret_i ?_); (with_reducible refine hR _ ?_); simp [r42]; (refine ret_box0 rfl (by simp) (by simp) (hQ _ _ ?_)))
    | ((with_reducible refine hR _ ?_); simp [r42]; (refine ret_box0 rfl (by simp) (by simp) (hQ _ _ ?_)))
    | ((with_reducible show vcCall _ _ _ _ _ _ _); refine call_0 (s38 _ _ _) ⟨rfl, rfl, rfl, trivial⟩ ?_; rintro _ _ ⟨rfl, rfl⟩; simp; first | ((with_reducible refine hK _ ?_); (clear hK; clear K)) | (with_reducible apply_assumption -exfalso -symm))
    | ((with_reducible show vcCall _ _ _ _ _ _ _); refine call_0 (s43 _ _ _) ⟨wk_same, rfl, rfl, trivial⟩ ?_; rintro _ _ ⟨rfl, rfl⟩; simp; first | ((with_reducible refine hK _ ?_); (clear hK; clear K)) | (with_reducible apply_assumption -exfalso -symm))
    | (intros; omega))
  all_goals (clear hQ hR; have hw := w_pred ‹m.ps.length ≤ 9223372036854775807 ∨ x.places = []›)
  all_goals simp_all [okRd]
theorem s55 (l : List Rd) (m : Mn) : Spec Try.prog 55 (mnC m) 1 [Lrd l, .fn 42 [.ptr 0 0]] (fun v C' => ∃ k, (0 ≤ k ↔ ∃ r ∈ l, okRd m.ps.length r = false) ∧ v = I k ∧ C' = mnC m) := by
  refine l55.go mixed no (by simp) fun Q hQ Rt hR => ?_
  unfold c55
  simp only [argT]
  repeat' (first
    | (with_reducible refine vc_seq_i fun K hK => ?_)
    | (with_reducible refine vc_ops_i ?_)
    | ((with_reducible refine ops_nil ?_); apply_assumption -exfalso -symm)
    | ((with_reducible refine ops_q fun K hK => ?_); simp; (try simp (disch := omega) only [wrap64]); (first | (with_reducible refine hK _ ?_) | (with_reducible refine alt_T (hK _ ?_)) | (with_reducible refine alt_wrap (by omega) (hK _ ?_)) | (with_reducible refine alt_same (hK _ ?_)) | (with_reducible refine alt_T' (hK _ ?_) ?_) | (with_reducible refine alt_wrap' (by omega) (hK _ ?_) ?_) | (with_reducible refine alt_same' (hK _ ?_) ?_) | (with_reducible refine And.intro ?_ (hK _ ?_)) | (refine fun _ => ?_; first | (with_reducible refine hK _ ?_) | (with_reducible refine alt_T (hK _ ?_)) | (with_reducible refine alt_wrap (by omega) (hK _ ?_)) | (with_reducible refine alt_same (hK _ ?_)))) <;> (clear hK; clear K))
    | ((with_reducible refine ops_a0 fun K hK => ?_); simp; (try simp (disch := omega) only [wrap64]); (first | ((with_reducible refine hK _ ?_); (clear hK; clear K)) | ((with_reducible refine And.intro ?_ (hK _ ?_)) <;> (clear hK; clear K)) | (repeat' (with_reducible refine And.intro ?_ ?_)) | skip))
    | ((with_reducible refine ops_ag fun K hK => ?_); first | (refine act_T rfl ?_; simp; (try simp (disch := omega) only [wrap64]); (first | ((with_reducible refine hK _ ?_); (clear hK; clear K)) | ((with_reducible refine And.intro ?_ (hK _ ?_)) <;> (clear hK; clear K)) | (repeat' (with_reducible refine And.intro ?_ ?_)) | skip)) | (refine act_F rfl ?_; simp; (with_reducible refine hK _ ?_); (clear hK; clear K)) | (refine act_N rfl ?_; simp; (with_reducible refine hK _ ?_); (clear hK; clear K)) | (refine act_c rfl fun c hc => ?_; cases c <;> (simp only [hc]; simp; (try simp (disch := omega) only [wrap64]); (try simp at hc); (first | ((with_reducible refine hK _ ?_); (clear hK; clear K)) | ((with_reducible refine And.intro ?_ (hK _ ?_)) <;> (clear hK; clear K)) | (repeat' (with_reducible refine And.intro ?_ ?_)) | skip))))
    | (with_reducible refine vc_drw_i [] ?_)
    | ((with_reducible refine T_done ?_); apply_assumption -exfalso -symm)
    | ((with_reducible refine T_take (by simp) fun K hK => ?_); simp; (try simp (disch := omega) only [wrap64]); (first | (with_reducible refine hK _ ?_) | (with_reducible refine alt_T (hK _ ?_)) | (with_reducible refine alt_wrap (by omega) (hK _ ?_)) | (with_reducible refine alt_same (hK _ ?_)) | (with_reducible refine alt_T' (hK _ ?_) ?_) | (with_reducible refine alt_wrap' (by omega) (hK _ ?_) ?_) | (with_reducible refine alt_same' (hK _ ?_) ?_) | (with_reducible refine And.intro ?_ (hK _ ?_)) | (refine fun _ => ?_; first | (with_reducible refine hK _ ?_) | (with_reducible refine alt_T (hK _ ?_)) | (with_reducible refine alt_wrap (by omega) (hK _ ?_)) | (with_reducible refine alt_same (hK _ ?_)))) <;> (clear hK; clear K))
    | ((with_reducible refine T_actq fun K hK => ?_); simp; (try simp (disch := omega) only [wrap64]); (first | (with_reducible refine hK _ ?_) | (with_reducible refine alt_T (hK _ ?_)) | (with_reducible refine alt_wrap (by omega) (hK _ ?_)) | (with_reducible refine alt_same (hK _ ?_)) | (with_reducible refine alt_T' (hK _ ?_) ?_) | (with_reducible refine alt_wrap' (by omega) (hK _ ?_) ?_) | (with_reducible refine alt_same' (hK _ ?_) ?_) | (with_reducible refine And.intro ?_ (hK _ ?_)) | (refine fun _ => ?_; first | (with_reducible refine hK _ ?_) | (with_reducible refine alt_T (hK _ ?_)) | (with_reducible refine alt_wrap (by omega) (hK _ ?_)) | (with_reducible refine alt_same (hK _ ?_)))) <;> (clear hK; clear K))
    | (with_reducible refine T_two ?_ ?_)
    | ((with_reducible refine T_act0 fun K hK => ?_); simp; (try simp (disch := omega) only [wrap64]); (first | ((with_reducible refine hK _ ?_); (clear hK; clear K)) | ((with_reducible refine And.intro ?_ (hK _ ?_)) <;> (clear hK; clear K)) | (repeat' (with_reducible refine And.intro ?_ ?_)) | skip))
    | ((with_reducible refine T_actg fun K hK => ?_); first | (refine act_T rfl ?_; simp; (try simp (disch := omega) only [wrap64]); (first | ((with_reducible refine hK _ ?_); (clear hK; clear K)) | ((with_reducible refine And.intro ?_ (hK _ ?_)) <;> (clear hK; clear K)) | (repeat' (with_reducible refine And.intro ?_ ?_)) | skip)) | (refine act_F rfl ?_; simp; (with_reducible refine hK _ ?_); (clear hK; clear K)) | (refine act_N rfl ?_; simp; (with_reducible refine hK _ ?_); (clear hK; clear K)) | (refine act_c rfl fun c hc => ?_; cases c <;> (simp only [hc]; simp; (try simp (disch := omega) only [wrap64]); (try simp at hc); (first | ((with_reducible refine hK _ ?_); (clear hK; clear K)) | ((with_reducible refine And.intro ?_ (hK _ ?_)) <;> (clear hK; clear K)) | (repeat' (with_reducible refine And.intro ?_ ?_)) | skip))))
    | (with_reducible refine vc_block_i fun Y hY hN => ?_)
    | ((with_reducible refine vc_skip_i ?_); apply_assumption -exfalso -symm)
    | ((with_reducible refine vc_cond_i rfl ?_ ?_) <;> (intro hb; try simp at hb))
    | ((with_reducible refine vc_exit_i ?_); apply_assumption -exfalso -symm; try apply_assumption -exfalso -symm)
    | ((with_reducible refine vc_ret_i ?_); (with_reducible refine hR _ ?_); simp [r55]; (refine ret_box0 rfl (by simp) (by simp) (hQ _ _ ?_)))
    | ((with_reducible refine hR _ ?_); simp [r55]; (refine ret_box0 rfl (by simp) (by simp) (hQ _ _ ?_)))
    | (intros; omega))
  refine loop_i {i : Nat // i ≤ l.length ∧ ∀ j, j < i → ¬ okRd m.ps.length (l[j]?.getD default) = false} (fun s => ⟨[(0, Lrd l), (1, .fn 42 [.ptr 0 0]), (7, I l.length), (8, I s.1)], [], [(0, ⟨41, [Lpl m.ps, Lro m.rs]⟩)], 1, 19⟩) (fun s => l.length - s.1) ⟨0, Nat.zero_le _, fun j hj => by omega⟩ ?_ ?_
  · exact turn_id (by simp) rfl (by simp)
  rintro ⟨i, hi', hr⟩ K hK
  repeat' (first
    | (with_reducible refine vc_seq_i fun K hK => ?_)
    | (with_reducible refine vc_ops_i ?_)
    | ((with_reducible refine ops_nil ?_); apply_assumption -exfalso -symm)
    | ((with_reducible refine ops_q fun K hK => ?_); simp; (try simp (disch := omega) only [wrap64]); (first | (with_reducible refine hK _ ?_) | (with_reducible refine alt_T (hK _ ?_)) | (with_reducible refine alt_wrap (by omega) (hK _ ?_)) | (with_reducible refine alt_same (hK _ ?_)) | (with_reducible refine alt_T' (hK _ ?_) ?_) | (with_reducible refine alt_wrap' (by omega) (hK _ ?_) ?_) | (with_reducible refine alt_same' (hK _ ?_) ?_) | (with_reducible refine And.intro ?_ (hK _ ?_)) | (refine fun _ => ?_; first | (with_reducible refine hK _ ?_) | (with_reducible refine alt_T (hK _ ?_)) | (with_reducible refine alt_wrap (by omega) (hK _ ?_)) | (with_reducible refine alt_same (hK _ ?_)))) <;> (clear hK; clear K))
    | ((with_reducible refine ops_a0 fun K hK => ?_); simp; (try simp (disch := omega) only [wrap64]); (first | ((with_reducible refine hK _ ?_); (clear hK; clear K)) | ((with_reducible refine And.intro ?_ (hK _ ?_)) <;> (clear hK; clear K)) | (repeat' (with_reducible refine And.intro ?_ ?_)) | skip))
    | ((with_reducible refine ops_ag fun K hK => ?_); first | (refine act_T rfl ?_; simp; (try simp (disch := omega) only [wrap64]); (first | ((with_reducible refine hK _ ?_); (clear hK; clear K)) | ((with_reducible refine And.intro ?_ (hK _ ?_)) <;> (clear hK; clear K)) | (repeat' (with_reducible refine And.intro ?_ ?_)) | skip)) | (refine act_F rfl ?_; simp; (with_reducible refine hK _ ?_); (clear hK; clear K)) | (refine act_N rfl ?_; simp; (with_reducible refine hK _ ?_); (clear hK; clear K)) | (refine act_c rfl fun c hc => ?_; cases c <;> (simp only [hc]; simp; (try simp (disch := omega) only [wrap64]); (try simp at hc); (first | ((with_reducible refine hK _ ?_); (clear hK; clear K)) | ((with_reducible refine And.intro ?_ (hK _ ?_)) <;> (clear hK; clear K)) | (repeat' (with_reducible refine And.intro ?_ ?_)) | skip))))
    | (with_reducible refine vc_drw_i [] ?_)
    | ((with_reducible refine T_done ?_); apply_assumption -exfalso -symm)
    | ((with_reducible refine T_take (by simp) fun K hK => ?_); simp; (try simp (disch := omega) only [wrap64]); (first | (with_reducible refine hK _ ?_) | (with_reducible refine alt_T (hK _ ?_)) | (with_reducible refine alt_wrap (by omega) (hK _ ?_)) | (with_reducible refine alt_same (hK _ ?_)) | (with_reducible refine alt_T' (hK _ ?_) ?_) | (with_reducible refine alt_wrap' (by omega) (hK _ ?_) ?_) | (with_reducible refine alt_same' (hK _ ?_) ?_) | (with_reducible refine And.intro ?_ (hK _ ?_)) | (refine fun _ => ?_; first | (with_reducible refine hK _ ?_) | (with_reducible refine alt_T (hK _ ?_)) | (with_reducible refine alt_wrap (by omega) (hK _ ?_)) | (with_reducible refine alt_same (hK _ ?_)))) <;> (clear hK; clear K))
    | ((with_reducible refine T_actq fun K hK => ?_); simp; (try simp (disch := omega) only [wrap64]); (first | (with_reducible refine hK _ ?_) | (with_reducible refine alt_T (hK _ ?_)) | (with_reducible refine alt_wrap (by omega) (hK _ ?_)) | (with_reducible refine alt_same (hK _ ?_)) | (with_reducible refine alt_T' (hK _ ?_) ?_) | (with_reducible refine alt_wrap' (by omega) (hK _ ?_) ?_) | (with_reducible refine alt_same' (hK _ ?_) ?_) | (with_reducible refine And.intro ?_ (hK _ ?_)) | (refine fun _ => ?_; first | (with_reducible refine hK _ ?_) | (with_reducible refine alt_T (hK _ ?_)) | (with_reducible refine alt_wrap (by omega) (hK _ ?_)) | (with_reducible refine alt_same (hK _ ?_)))) <;> (clear hK; clear K))
    | (with_reducible refine T_two ?_ ?_)
    | ((with_reducible refine T_act0 fun K hK => ?_); simp; (try simp (disch := omega) only [wrap64]); (first | ((with_reducible refine hK _ ?_); (clear hK; clear K)) | ((with_reducible refine And.intro ?_ (hK _ ?_)) <;> (clear hK; clear K)) | (repeat' (with_reducible refine And.intro ?_ ?_)) | skip))
    | ((with_reducible refine T_actg fun K hK => ?_); first | (refine act_T rfl ?_; simp; (try simp (disch := omega) only [wrap64]); (first | ((with_reducible refine hK _ ?_); (clear hK; clear K)) | ((with_reducible refine And.intro ?_ (hK _ ?_)) <;> (clear hK; clear K)) | (repeat' (with_reducible refine And.intro ?_ ?_)) | skip)) | (refine act_F rfl ?_; simp; (with_reducible refine hK _ ?_); (clear hK; clear K)) | (refine act_N rfl ?_; simp; (with_reducible refine hK _ ?_); (clear hK; clear K)) | (refine act_c rfl fun c hc => ?_; cases c <;> (simp only [hc]; simp; (try simp (disch := omega) only [wrap64]); (try simp at hc); (first | ((with_reducible refine hK _ ?_); (clear hK; clear K)) | ((with_reducible refine And.intro ?_ (hK _ ?_)) <;> (clear hK; clear K)) | (repeat' (with_reducible refine And.intro ?_ ?_)) | skip))))
    | (with_reducible refine vc_block_i fun Y hY hN => ?_)
    | ((with_reducible refine vc_skip_i ?_); apply_assumption -exfalso -symm)
    | ((with_reducible refine vc_cond_i rfl ?_ ?_) <;> (intro hb; try simp at hb))
    | ((with_reducible refine vc_exit_i ?_); apply_assumption -exfalso -symm; try apply_assumption -exfalso -symm)
    | ((with_reducible refine vc_ret_i ?_); (with_reducible refine hR _ ?_); simp [r55]; (refine ret_box0 rfl (by simp) (by simp) (hQ _ _ ?_)))
    | ((with_reducible refine hR _ ?_); simp [r55]; (refine ret_box0 rfl (by simp) (by simp) (hQ _ _ ?_)))
    | ((with_reducible show vcCall _ _ _ _ _ _ _); refine call_p [0] (s42 _ m) rfl rfl ⟨⟨⟨wk_same, rfl, rfl, rfl, trivial⟩, by simp⟩, by simp⟩ ?_; rintro _ _ ⟨rfl, rfl⟩; simp; first | ((with_reducible refine hK _ ?_); (clear hK; clear K)) | (with_reducible apply_assumption -exfalso -symm))
    | (intros; omega))
  · exact ⟨_, ⟨fun _ => ⟨_, get_mem (d := default) ‹_›, hb⟩, fun _ => by omega⟩, rfl, rfl⟩
  · exact ⟨⟨i + 1, by omega, upto_succ hr (by simp [hb])⟩, by simp; omega, turn_id (by simp) rfl (by simp)⟩
  · exact ⟨_, ⟨fun h => by omega, fun ⟨r, h1, h2⟩ => absurd h2 (none_upto (p := fun r => okRd m.ps.length r = false) hr hb r h1)⟩, rfl, rfl⟩
theorem s45 (l : List Rd) (m : Mn) : Spec Try.prog 45 (mnC m) 1 [Lrd l, .fn 42 [.ptr 0 0]] (fun v C' => v = .bool (!l.all (okRd m.ps.length)) ∧ C' = mnC m) := by
  refine l45.go mixed no (by simp) fun Q hQ Rt hR => ?_
  unfold c45
  simp only [argT]
  repeat' (first
    | (with_reducible refine vc_seq_i fun K hK => ?_)
    | (with_reducible refine vc_ops_i ?_)
    | ((with_reducible refine ops_nil ?_); apply_assumption -exfalso -symm)
    | ((with_reducible refine ops_q fun K hK => ?_); simp; (try simp (disch := omega) only [wrap64]); (first | (with_reducible refine hK _ ?_) | (with_reducible refine alt_T (hK _ ?_)) | (with_reducible refine alt_wrap (by omega) (hK _ ?_)) | (with_reducible refine alt_same (hK _ ?_)) | (with_reducible refine alt_T' (hK _ ?_) ?_) | (with_reducible refine alt_wrap' (by omega) (hK _ ?_) ?_) | (with_reducible refine alt_same' (hK _ ?_) ?_) | (with_reducible refine And.intro ?_ (hK _ ?_)) | (refine fun _ => ?_; first | (with_reducible refine hK _ ?_) | (with_reducible refine alt_T (hK _ ?_)) | (with_reducible refine alt_wrap (by omega) (hK _ ?_)) | (with_reducible refine alt_same (hK _ ?_)))) <;> (clear hK; clear K))
    | ((with_reducible refine ops_a0 fun K hK => ?_); simp; (try simp (disch := omega) only [wrap64]); (first | ((with_reducible refine hK _ ?_); (clear hK; clear K)) | ((with_reducible refine And.intro ?_ (hK _ ?_)) <;> (clear hK; clear K)) | (repeat' (with_reducible refine And.intro ?_ ?_)) | skip))
    | ((with_reducible refine ops_ag fun K hK => ?_); first | (refine act_T rfl ?_; simp; (try simp (disch := omega) only [wrap64]); (first | ((with_reducible refine hK _ ?_); (clear hK; clear K)) | ((with_reducible refine And.intro ?_ (hK _ ?_)) <;> (clear hK; clear K)) | (repeat' (with_reducible refine And.intro ?_ ?_)) | skip)) | (refine act_F rfl ?_; simp; (with_reducible refine hK _ ?_); (clear hK; clear K)) | (refine act_N rfl ?_; simp; (with_reducible refine hK _ ?_); (clear hK; clear K)) | (refine act_c rfl fun c hc => ?_; cases c <;> (simp only [hc]; simp; (try simp (disch := omega) only [wrap64]); (try simp at hc); (first | ((with_reducible refine hK _ ?_); (clear hK; clear K)) | ((with_reducible refine And.intro ?_ (hK _ ?_)) <;> (clear hK; clear K)) | (repeat' (with_reducible refine And.intro ?_ ?_)) | skip))))
    | (with_reducible refine vc_drw_i [] ?_)
    | ((with_reducible refine T_done ?_); apply_assumption -exfalso -symm)
    | ((with_reducible refine T_take (by simp) fun K hK => ?_); simp; (try simp (disch := omega) only [wrap64]); (first | (with_reducible refine hK _ ?_) | (with_reducible refine alt_T (hK _ ?_)) | (with_reducible refine alt_wrap (by omega) (hK _ ?_)) | (with_reducible refine alt_same (hK _ ?_)) | (with_reducible refine alt_T' (hK _ ?_) ?_) | (with_reducible refine alt_wrap' (by omega) (hK _ ?_) ?_) | (with_reducible refine alt_same' (hK _ ?_) ?_) | (with_reducible refine And.intro ?_ (hK _ ?_)) | (refine fun _ => ?_; first | (with_reducible refine hK _ ?_) | (with_reducible refine alt_T (hK _ ?_)) | (with_reducible refine alt_wrap (by omega) (hK _ ?_)) | (with_reducible refine alt_same (hK _ ?_)))) <;> (clear hK; clear K))
    | ((with_reducible refine T_actq fun K hK => ?_); simp; (try simp (disch := omega) only [wrap64]); (first | (with_reducible refine hK _ ?_) | (with_reducible refine alt_T (hK _ ?_)) | (with_reducible refine alt_wrap (by omega) (hK _ ?_)) | (with_reducible refine alt_same (hK _ ?_)) | (with_reducible refine alt_T' (hK _ ?_) ?_) | (with_reducible refine alt_wrap' (by omega) (hK _ ?_) ?_) | (with_reducible refine alt_same' (hK _ ?_) ?_) | (with_reducible refine And.intro ?_ (hK _ ?_)) | (refine fun _ => ?_; first | (with_reducible refine hK _ ?_) | (with_reducible refine alt_T (hK _ ?_)) | (with_reducible refine alt_wrap (by omega) (hK _ ?_)) | (with_reducible refine alt_same (hK _ ?_)))) <;> (clear hK; clear K))
    | (with_reducible refine T_two ?_ ?_)
    | ((with_reducible refine T_act0 fun K hK => ?_); simp; (try simp (disch := omega) only [wrap64]); (first | ((with_reducible refine hK _ ?_); (clear hK; clear K)) | ((with_reducible refine And.intro ?_ (hK _ ?_)) <;> (clear hK; clear K)) | (repeat' (with_reducible refine And.intro ?_ ?_)) | skip))
    | ((with_reducible refine T_actg fun K hK => ?_); first | (refine act_T rfl ?_; simp; (try simp (disch := omega) only [wrap64]); (first | ((with_reducible refine hK _ ?_); (clear hK; clear K)) | ((with_reducible refine And.intro ?_ (hK _ ?_)) <;> (clear hK; clear K)) | (repeat' (with_reducible refine And.intro ?_ ?_)) | skip)) | (refine act_F rfl ?_; simp; (with_reducible refine hK _ ?_); (clear hK; clear K)) | (refine act_N rfl ?_; simp; (with_reducible refine hK _ ?_); (clear hK; clear K)) | (refine act_c rfl fun c hc => ?_; cases c <;> (simp only [hc]; simp; (try simp (disch := omega) only [wrap64]); (try simp at hc); (first | ((with_reducible refine hK _ ?_); (clear hK; clear K)) | ((with_reducible refine And.intro ?_ (hK _ ?_)) <;> (clear hK; clear K)) | (repeat' (with_reducible refine And.intro ?_ ?_)) | skip))))
    | (with_reducible refine vc_block_i fun Y hY hN => ?_)
    | ((with_reducible refine vc_skip_i ?_); apply_assumption -exfalso -symm)
    | ((with_reducible refine vc_cond_i rfl ?_ ?_) <;> (intro hb; try simp at hb))
    | ((with_reducible refine vc_exit_i ?_); apply_assumption -exfalso -symm; try apply_assumption -exfalso -symm)
    | ((with_reducible refine vc_ret_i ?_); (with_reducible refine hR _ ?_); simp [r45]; (refine ret_box0 rfl (by simp) (by simp) (hQ _ _ ?_)))
    | ((with_reducible refine hR _ ?_); simp [r45]; (refine ret_box0 rfl (by simp) (by simp) (hQ _ _ ?_)))
    | ((with_reducible show vcCall _ _ _ _ _ _ _); refine call_p [0] (s55 _ m) rfl rfl ⟨⟨wk_same, ⟨rfl, by simp⟩, trivial⟩, by simp⟩ ?_; rintro _ _ ⟨k, hk, rfl, rfl⟩; simp; first | ((with_reducible refine hK _ ?_); (clear hK; clear K)) | (with_reducible apply_assumption -exfalso -symm))
    | (intros; omega))
  refine ⟨?_, rfl⟩
  simp only [AV.bool.injEq]
  by_cases h : ∃ r ∈ l, okRd m.ps.length r = false
  · have := hk.2 h
    simp [this, h]
  · have h2 : ¬ 0 ≤ k := fun h' => h (hk.1 h')
    simp [h2]
    simpa using h
noncomputable def okRds (m : Mn) (l : List Rd) : Bool := decide (chkM m = 0) && decide (l.length ≤ 32) && l.all (okRd m.ps.length)
theorem okRds_no {m : Mn} {l : List Rd} {x : Rd} (hx : x ∈ l) (h : okRd m.ps.length x = false) : false = okRds m l := by
  unfold okRds
  have : l.all (okRd m.ps.length) = false := List.all_eq_false.2 ⟨x, hx, by simp [h]⟩
  rw [this, Bool.and_false]
theorem s26 (m : Mn) (l : List Rd) : Spec Try.prog 26 ⟨[], []⟩ 0 [aMn m, Lrd l] (fun v C' => v = .bool (okRds m l) ∧ C' = ⟨[], []⟩) := by
  refine l26.go mixed no (by simp) fun Q hQ Rt hR => ?_
  unfold c26
  simp only [argT]
  repeat' (first
    | (with_reducible refine vc_seq_i fun K hK => ?_)
    | (with_reducible refine vc_ops_i ?_)
    | ((with_reducible refine ops_nil ?_); apply_assumption -exfalso -symm)
    | ((with_reducible refine ops_q fun K hK => ?_); simp; (try simp (disch := omega) only [wrap64]); (first | (with_reducible refine hK _ ?_) | (with_reducible refine alt_T (hK _ ?_)) | (with_reducible refine alt_wrap (by omega) (hK _ ?_)) | (with_reducible refine alt_same (hK _ ?_)) | (with_reducible refine alt_T' (hK _ ?_) ?_) | (with_reducible refine alt_wrap' (by omega) (hK _ ?_) ?_) | (with_reducible refine alt_same' (hK _ ?_) ?_) | (with_reducible refine And.intro ?_ (hK _ ?_)) | (refine fun _ => ?_; first | (with_reducible refine hK _ ?_) | (with_reducible refine alt_T (hK _ ?_)) | (with_reducible refine alt_wrap (by omega) (hK _ ?_)) | (with_reducible refine alt_same (hK _ ?_)))) <;> (clear hK; clear K))
    | ((with_reducible refine ops_a0 fun K hK => ?_); simp; (try simp (disch := omega) only [wrap64]); (first | ((with_reducible refine hK _ ?_); (clear hK; clear K)) | ((with_reducible refine And.intro ?_ (hK _ ?_)) <;> (clear hK; clear K)) | (repeat' (with_reducible refine And.intro ?_ ?_)) | skip))
    | ((with_reducible refine ops_ag fun K hK => ?_); first | (refine act_T rfl ?_; simp; (try simp (disch := omega) only [wrap64]); (first | ((with_reducible refine hK _ ?_); (clear hK; clear K)) | ((with_reducible refine And.intro ?_ (hK _ ?_)) <;> (clear hK; clear K)) | (repeat' (with_reducible refine And.intro ?_ ?_)) | skip)) | (refine act_F rfl ?_; simp; (with_reducible refine hK _ ?_); (clear hK; clear K)) | (refine act_N rfl ?_; simp; (with_reducible refine hK _ ?_); (clear hK; clear K)) | (refine act_c rfl fun c hc => ?_; cases c <;> (simp only [hc]; simp; (try simp (disch := omega) only [wrap64]); (try simp at hc); (first | ((with_reducible refine hK _ ?_); (clear hK; clear K)) | ((with_reducible refine And.intro ?_ (hK _ ?_)) <;> (clear hK; clear K)) | (repeat' (with_reducible refine And.intro ?_ ?_)) | skip))))
    | (with_reducible refine vc_drw_i [] ?_)
    | ((with_reducible refine T_done ?_); apply_assumption -exfalso -symm)
    | ((with_reducible refine T_take (by simp) fun K hK => ?_); simp; (try simp (disch := omega) only [wrap64]); (first | (with_reducible refine hK _ ?_) | (with_reducible refine alt_T (hK _ ?_)) | (with_reducible refine alt_wrap (by omega) (hK _ ?_)) | (with_reducible refine alt_same (hK _ ?_)) | (with_reducible refine alt_T' (hK _ ?_) ?_) | (with_reducible refine alt_wrap' (by omega) (hK _ ?_) ?_) | (with_reducible refine alt_same' (hK _ ?_) ?_) | (with_reducible refine And.intro ?_ (hK _ ?_)) | (refine fun _ => ?_; first | (with_reducible refine hK _ ?_) | (with_reducible refine alt_T (hK _ ?_)) | (with_reducible refine alt_wrap (by omega) (hK _ ?_)) | (with_reducible refine alt_same (hK _ ?_)))) <;> (clear hK; clear K))
    | ((with_reducible refine T_actq fun K hK => ?_); simp; (try simp (disch := omega) only [wrap64]); (first | (with_reducible refine hK _ ?_) | (with_reducible refine alt_T (hK _ ?_)) | (with_reducible refine alt_wrap (by omega) (hK _ ?_)) | (with_reducible refine alt_same (hK _ ?_)) | (with_reducible refine alt_T' (hK _ ?_) ?_) | (with_reducible refine alt_wrap' (by omega) (hK _ ?_) ?_) | (with_reducible refine alt_same' (hK _ ?_) ?_) | (with_reducible refine And.intro ?_ (hK _ ?_)) | (refine fun _ => ?_; first | (with_reducible refine hK _ ?_) | (with_reducible refine alt_T (hK _ ?_)) | (with_reducible refine alt_wrap (by omega) (hK _ ?_)) | (with_reducible refine alt_same (hK _ ?_)))) <;> (clear hK; clear K))
    | (with_reducible refine T_two ?_ ?_)
    | ((with_reducible refine T_act0 fun K hK => ?_); simp; (try simp (disch := omega) only [wrap64]); (first | ((with_reducible refine hK _ ?_); (clear hK; clear K)) | ((with_reducible refine And.intro ?_ (hK _ ?_)) <;> (clear hK; clear K)) | (repeat' (with_reducible refine And.intro ?_ ?_)) | skip))
    | ((with_reducible refine T_actg fun K hK => ?_); first | (refine act_T rfl ?_; simp; (try simp (disch := omega) only [wrap64]); (first | ((with_reducible refine hK _ ?_); (clear hK; clear K)) | ((with_reducible refine And.intro ?_ (hK _ ?_)) <;> (clear hK; clear K)) | (repeat' (with_reducible refine And.intro ?_ ?_)) | skip)) | (refine act_F rfl ?_; simp; (with_reducible refine hK _ ?_); (clear hK; clear K)) | (refine act_N rfl ?_; simp; (with_reducible refine hK _ ?_); (clear hK; clear K)) | (refine act_c rfl fun c hc => ?_; cases c <;> (simp only [hc]; simp; (try simp (disch := omega) only [wrap64]); (try simp at hc); (first | ((with_reducible refine hK _ ?_); (clear hK; clear K)) | ((with_reducible refine And.intro ?_ (hK _ ?_)) <;> (clear hK; clear K)) | (repeat' (with_reducible refine And.intro ?_ ?_)) | skip))))
    | (with_reducible refine vc_block_i fun Y hY hN => ?_)
    | ((with_reducible refine vc_skip_i ?_); apply_assumption -exfalso -symm)
    | ((with_reducible refine vc_cond_i rfl ?_ ?_) <;> (intro hb; try simp at hb))
    | ((with_reducible refine vc_exit_i ?_); apply_assumption -exfalso -symm; try apply_assumption -exfalso -symm)
    | ((with_reducible refine vc_ret_i ?_); (with_reducible refine hR _ ?_); simp [r26]; (try refine ret_val (by simp) (hQ _ _ ?_)))
    | ((with_reducible refine hR _ ?_); simp [r26]; (try refine ret_val (by simp) (hQ _ _ ?_)))
    | ((with_reducible show vcCall _ _ _ _ _ _ _); refine call_0 (s44 _) ⟨⟨wk_same, wk_same, trivial⟩, trivial⟩ ?_; rintro _ _ ⟨rfl, rfl⟩; simp; first | ((with_reducible refine hK _ ?_); (clear hK; clear K)) | (with_reducible apply_assumption -exfalso -symm))
    | ((with_reducible show vcCall _ _ _ _ _ _ _); refine call_p [0] (s45 _ m) rfl rfl ⟨⟨wk_same, ⟨rfl, by simp⟩, trivial⟩, by simp⟩ ?_; rintro _ _ ⟨rfl, rfl⟩; simp; first | ((with_reducible refine hK _ ?_); (clear hK; clear K)) | (with_reducible apply_assumption -exfalso -symm))
    | (intros; omega))
  · refine ⟨?_, rfl⟩
    simp only [AV.bool.injEq, okRds]
    by_cases h1 : chkM m = 0
    · have := hc h1
      simp [h1, show ¬ l.length ≤ 32 by omega]
    · simp [h1]
  · refine ⟨?_, rfl⟩
    simp [okRds, hc.1, show l.length ≤ 32 by omega]
theorem s27 (m : Mn) (l : List Rd) : Spec Try.prog 27 ⟨[], []⟩ 0 [aMn m, Lrd l] (fun v C' => v = .bool (okRds m l) ∧ C' = ⟨[], []⟩) := by
  refine l27.go mixed no (by simp) fun Q hQ Rt hR => ?_
  unfold c27
  simp only [argT]
  repeat' (first
    | (with_reducible refine vc_seq_i fun K hK => ?_)
    | (with_reducible refine vc_ops_i ?_)
    | ((with_reducible refine ops_nil ?_); apply_assumption -exfalso -symm)
    | ((with_reducible refine ops_q fun K hK => ?_); simp; (try simp (disch := omega) only [wrap64]); (first | (with_reducible refine hK _ ?_) | (with_reducible refine alt_T (hK _ ?_)) | (with_reducible refine alt_wrap (by omega) (hK _ ?_)) | (with_reducible refine alt_same (hK _ ?_)) | (with_reducible refine alt_T' (hK _ ?_) ?_) | (with_reducible refine alt_wrap' (by omega) (hK _ ?_) ?_) | (with_reducible refine alt_same' (hK _ ?_) ?_) | (with_reducible refine And.intro ?_ (hK _ ?_)) | (refine fun _ => ?_; first | (with_reducible refine hK _ ?_) | (with_reducible refine alt_T (hK _ ?_)) | (with_reducible refine alt_wrap (by omega) (hK _ ?_)) | (with_reducible refine alt_same (hK _ ?_)))) <;> (clear hK; clear K))
    | ((with_reducible refine ops_a0 fun K hK => ?_); simp; (try simp (disch := omega) only [wrap64]); (first | ((with_reducible refine hK _ ?_); (clear hK; clear K)) | ((with_reducible refine And.intro ?_ (hK _ ?_)) <;> (clear hK; clear K)) | (repeat' (with_reducible refine And.intro ?_ ?_)) | skip))
    | ((with_reducible refine ops_ag fun K hK => ?_); first | (refine act_T rfl ?_; simp; (try simp (disch := omega) only [wrap64]); (first | ((with_reducible refine hK _ ?_); (clear hK; clear K)) | ((with_reducible refine And.intro ?_ (hK _ ?_)) <;> (clear hK; clear K)) | (repeat' (with_reducible refine And.intro ?_ ?_)) | skip)) | (refine act_F rfl ?_; simp; (with_reducible refine hK _ ?_); (clear hK; clear K)) | (refine act_N rfl ?_; simp; (with_reducible refine hK _ ?_); (clear hK; clear K)) | (refine act_c rfl fun c hc => ?_; cases c <;> (simp only [hc]; simp; (try simp (disch := omega) only [wrap64]); (try simp at hc); (first | ((with_reducible refine hK _ ?_); (clear hK; clear K)) | ((with_reducible refine And.intro ?_ (hK _ ?_)) <;> (clear hK; clear K)) | (repeat' (with_reducible refine And.intro ?_ ?_)) | skip))))
    | (with_reducible refine vc_drw_i [] ?_)
    | ((with_reducible refine T_done ?_); apply_assumption -exfalso -symm)
    | ((with_reducible refine T_take (by simp) fun K hK => ?_); simp; (try simp (disch := omega) only [wrap64]); (first | (with_reducible refine hK _ ?_) | (with_reducible refine alt_T (hK _ ?_)) | (with_reducible refine alt_wrap (by omega) (hK _ ?_)) | (with_reducible refine alt_same (hK _ ?_)) | (with_reducible refine alt_T' (hK _ ?_) ?_) | (with_reducible refine alt_wrap' (by omega) (hK _ ?_) ?_) | (with_reducible refine alt_same' (hK _ ?_) ?_) | (with_reducible refine And.intro ?_ (hK _ ?_)) | (refine fun _ => ?_; first | (with_reducible refine hK _ ?_) | (with_reducible refine alt_T (hK _ ?_)) | (with_reducible refine alt_wrap (by omega) (hK _ ?_)) | (with_reducible refine alt_same (hK _ ?_)))) <;> (clear hK; clear K))
    | ((with_reducible refine T_actq fun K hK => ?_); simp; (try simp (disch := omega) only [wrap64]); (first | (with_reducible refine hK _ ?_) | (with_reducible refine alt_T (hK _ ?_)) | (with_reducible refine alt_wrap (by omega) (hK _ ?_)) | (with_reducible refine alt_same (hK _ ?_)) | (with_reducible refine alt_T' (hK _ ?_) ?_) | (with_reducible refine alt_wrap' (by omega) (hK _ ?_) ?_) | (with_reducible refine alt_same' (hK _ ?_) ?_) | (with_reducible refine And.intro ?_ (hK _ ?_)) | (refine fun _ => ?_; first | (with_reducible refine hK _ ?_) | (with_reducible refine alt_T (hK _ ?_)) | (with_reducible refine alt_wrap (by omega) (hK _ ?_)) | (with_reducible refine alt_same (hK _ ?_)))) <;> (clear hK; clear K))
    | (with_reducible refine T_two ?_ ?_)
    | ((with_reducible refine T_act0 fun K hK => ?_); simp; (try simp (disch := omega) only [wrap64]); (first | ((with_reducible refine hK _ ?_); (clear hK; clear K)) | ((with_reducible refine And.intro ?_ (hK _ ?_)) <;> (clear hK; clear K)) | (repeat' (with_reducible refine And.intro ?_ ?_)) | skip))
    | ((with_reducible refine T_actg fun K hK => ?_); first | (refine act_T rfl ?_; simp; (try simp (disch := omega) only [wrap64]); (first | ((with_reducible refine hK _ ?_); (clear hK; clear K)) | ((with_reducible refine And.intro ?_ (hK _ ?_)) <;> (clear hK; clear K)) | (repeat' (with_reducible refine And.intro ?_ ?_)) | skip)) | (refine act_F rfl ?_; simp; (with_reducible refine hK _ ?_); (clear hK; clear K)) | (refine act_N rfl ?_; simp; (with_reducible refine hK _ ?_); (clear hK; clear K)) | (refine act_c rfl fun c hc => ?_; cases c <;> (simp only [hc]; simp; (try simp (disch := omega) only [wrap64]); (try simp at hc); (first | ((with_reducible refine hK _ ?_); (clear hK; clear K)) | ((with_reducible refine And.intro ?_ (hK _ ?_)) <;> (clear hK; clear K)) | (repeat' (with_reducible refine And.intro ?_ ?_)) | skip))))
    | (with_reducible refine vc_block_i fun Y hY hN => ?_)
    | ((with_reducible refine vc_skip_i ?_); apply_assumption -exfalso -symm)
    | ((with_reducible refine vc_cond_i rfl ?_ ?_) <;> (intro hb; try simp at hb))
    | ((with_reducible refine vc_exit_i ?_); apply_assumption -exfalso -symm; try apply_assumption -exfalso -symm)
    | ((with_reducible refine vc_ret_i ?_); (with_reducible refine hR _ ?_); simp [r27]; (try refine ret_val (by simp) (hQ _ _ ?_)))
    | ((with_reducible refine hR _ ?_); simp [r27]; (try refine ret_val (by simp) (hQ _ _ ?_)))
    | (intros; omega))
  refine loop_i {i : Nat // i ≤ l.length ∧ ∀ j, j < i → ¬ okRd m.ps.length (l[j]?.getD default) = false} (fun s => ⟨[(1, Lrd l), (2, .ptr 0 0), (5, I s.1)], [], [(0, ⟨41, [Lpl m.ps, Lro m.rs]⟩)], 1, 68⟩) (fun s => l.length - s.1) ⟨0, Nat.zero_le _, fun j hj => by omega⟩ ?_ ?_
  · exact turn_id (by simp) rfl (by simp)
  rintro ⟨i, hi', hr⟩ K hK
  repeat' (first
    | (with_reducible refine vc_seq_i fun K hK => ?_)
    | (with_reducible refine vc_ops_i ?_)
    | ((with_reducible refine ops_nil ?_); apply_assumption -exfalso -symm)
    | ((with_reducible refine ops_q fun K hK => ?_); simp; (try simp (disch := omega) only [wrap64]); (first | (with_reducible refine hK _ ?_) | (with_reducible refine alt_T (hK _ ?_)) | (with_reducible refine alt_wrap (by omega) (hK _ ?_)) | (with_reducible refine alt_same (hK _ ?_)) | (with_reducible refine alt_T' (hK _ ?_) ?_) | (with_reducible refine alt_wrap' (by omega) (hK _ ?_) ?_) | (with_reducible refine alt_same' (hK _ ?_) ?_) | (with_reducible refine And.intro ?_ (hK _ ?_)) | (refine fun _ => ?_; first | (with_reducible refine hK _ ?_) | (with_reducible refine alt_T (hK _ ?_)) | (with_reducible refine alt_wrap (by omega) (hK _ ?_)) | (with_reducible refine alt_same (hK _ ?_)))) <;> (clear hK; clear K))
    | ((with_reducible refine ops_a0 fun K hK => ?_); simp; (try simp (disch := omega) only [wrap64]); (first | ((with_reducible refine hK _ ?_); (clear hK; clear K)) | ((with_reducible refine And.intro ?_ (hK _ ?_)) <;> (clear hK; clear K)) | (repeat' (with_reducible refine And.intro ?_ ?_)) | skip))
    | ((with_reducible refine ops_ag fun K hK => ?_); first | (refine act_T rfl ?_; simp; (try simp (disch := omega) only [wrap64]); (first | ((with_reducible refine hK _ ?_); (clear hK; clear K)) | ((with_reducible refine And.intro ?_ (hK _ ?_)) <;> (clear hK; clear K)) | (repeat' (with_reducible refine And.intro ?_ ?_)) | skip)) | (refine act_F rfl ?_; simp; (with_reducible refine hK _ ?_); (clear hK; clear K)) | (refine act_N rfl ?_; simp; (with_reducible refine hK _ ?_); (clear hK; clear K)) | (refine act_c rfl fun c hc => ?_; cases c <;> (simp only [hc]; simp; (try simp (disch := omega) only [wrap64]); (try simp at hc); (first | ((with_reducible refine hK _ ?_); (clear hK; clear K)) | ((with_reducible refine And.intro ?_ (hK _ ?_)) <;> (clear hK; clear K)) | (repeat' (with_reducible refine And.intro ?_ ?_)) | skip))))
    | (with_reducible refine vc_drw_i [] ?_)
    | ((with_reducible refine T_done ?_); apply_assumption -exfalso -symm)
    | ((with_reducible refine T_take (by simp) fun K hK => ?_); simp; (try simp (disch := omega) only [wrap64]); (first | (with_reducible refine hK _ ?_) | (with_reducible refine alt_T (hK _ ?_)) | (with_reducible refine alt_wrap (by omega) (hK _ ?_)) | (with_reducible refine alt_same (hK _ ?_)) | (with_reducible refine alt_T' (hK _ ?_) ?_) | (with_reducible refine alt_wrap' (by omega) (hK _ ?_) ?_) | (with_reducible refine alt_same' (hK _ ?_) ?_) | (with_reducible refine And.intro ?_ (hK _ ?_)) | (refine fun _ => ?_; first | (with_reducible refine hK _ ?_) | (with_reducible refine alt_T (hK _ ?_)) | (with_reducible refine alt_wrap (by omega) (hK _ ?_)) | (with_reducible refine alt_same (hK _ ?_)))) <;> (clear hK; clear K))
    | ((with_reducible refine T_actq fun K hK => ?_); simp; (try simp (disch := omega) only [wrap64]); (first | (with_reducible refine hK _ ?_) | (with_reducible refine alt_T (hK _ ?_)) | (with_reducible refine alt_wrap (by omega) (hK _ ?_)) | (with_reducible refine alt_same (hK _ ?_)) | (with_reducible refine alt_T' (hK _ ?_) ?_) | (with_reducible refine alt_wrap' (by omega) (hK _ ?_) ?_) | (with_reducible refine alt_same' (hK _ ?_) ?_) | (with_reducible refine And.intro ?_ (hK _ ?_)) | (refine fun _ => ?_; first | (with_reducible refine hK _ ?_) | (with_reducible refine alt_T (hK _ ?_)) | (with_reducible refine alt_wrap (by omega) (hK _ ?_)) | (with_reducible refine alt_same (hK _ ?_)))) <;> (clear hK; clear K))
    | (with_reducible refine T_two ?_ ?_)
    | ((with_reducible refine T_act0 fun K hK => ?_); simp; (try simp (disch := omega) only [wrap64]); (first | ((with_reducible refine hK _ ?_); (clear hK; clear K)) | ((with_reducible refine And.intro ?_ (hK _ ?_)) <;> (clear hK; clear K)) | (repeat' (with_reducible refine And.intro ?_ ?_)) | skip))
    | ((with_reducible refine T_actg fun K hK => ?_); first | (refine act_T rfl ?_; simp; (try simp (disch := omega) only [wrap64]); (first | ((with_reducible refine hK _ ?_); (clear hK; clear K)) | ((with_reducible refine And.intro ?_ (hK _ ?_)) <;> (clear hK; clear K)) | (repeat' (with_reducible refine And.intro ?_ ?_)) | skip)) | (refine act_F rfl ?_; simp; (with_reducible refine hK _ ?_); (clear hK; clear K)) | (refine act_N rfl ?_; simp; (with_reducible refine hK _ ?_); (clear hK; clear K)) | (refine act_c rfl fun c hc => ?_; cases c <;> (simp only [hc]; simp; (try simp (disch := omega) only [wrap64]); (try simp at hc); (first | ((with_reducible refine hK _ ?_); (clear hK; clear K)) | ((with_reducible refine And.intro ?_ (hK _ ?_)) <;> (clear hK; clear K)) | (repeat' (with_reducible refine And.intro ?_ ?_)) | skip))))
    | (with_reducible refine vc_block_i fun Y hY hN => ?_)
    | ((with_reducible refine vc_skip_i ?_); apply_assumption -exfalso -symm)
    | ((with_reducible refine vc_cond_i rfl ?_ ?_) <;> (intro hb; try simp at hb))
    | ((with_reducible refine vc_exit_i ?_); apply_assumption -exfalso -symm; try apply_assumption -exfalso -symm)
    | ((with_reducible refine vc_ret_i ?_); (with_reducible refine hR _ ?_); simp [r27]; (try refine ret_val (by simp) (hQ _ _ ?_)))
    | ((with_reducible refine hR _ ?_); simp [r27]; (try refine ret_val (by simp) (hQ _ _ ?_)))
    | ((with_reducible show vcCall _ _ _ _ _ _ _); refine call_0 (s46 _ _) ⟨wk_same, rfl, trivial⟩ ?_; rintro _ _ ⟨rfl, rfl⟩; simp; first | ((with_reducible refine hK _ ?_); (clear hK; clear K)) | (with_reducible apply_assumption -exfalso -symm))
    | ((with_reducible show vcCall _ _ _ _ _ _ _); refine call_0 (s47 _) ⟨⟨wk_same, wk_same, trivial⟩, trivial⟩ ?_; rintro _ _ ⟨rfl, rfl⟩; simp; first | ((with_reducible refine hK _ ?_); (clear hK; clear K)) | (with_reducible apply_assumption -exfalso -symm))
    | (intros; omega))
  · refine ⟨?_, rfl⟩
    have h1 : okRd m.ps.length (l[i]?.getD default) = false := by
      cases h2 : okRd m.ps.length (l[i]?.getD default) with
      | false => rfl
      | true => simp only [okRd, inB, Bool.and_eq_true, decide_eq_true_eq] at h2; rcases hb with (((((h | h) | h) | h) | h) | h) | h <;> first | omega | (rw [h] at h2; simp at h2)
    exact congrArg _ (okRds_no (get_mem ‹i < l.length›) h1)
  · refine ⟨⟨i + 1, by omega, upto_succ hr ?_⟩, by simp; omega, turn_id (by simp) rfl (by simp)⟩
    have hc' : (l[i]?.getD default).places.length ≠ 0 := fun h => hc (List.length_eq_zero_iff.1 h)
    simp [okRd, inB, hb, hc, hc']
  · refine ⟨?_, rfl⟩
    have h1 : okRd m.ps.length (l[i]?.getD default) = false := by simp [okRd, hc]
    exact congrArg _ (okRds_no (get_mem ‹i < l.length›) h1)
  · refine ⟨?_, rfl⟩
    have h1 : l.all (okRd m.ps.length) = true := List.all_eq_true.2 fun x hx => by simpa using none_upto (p := fun r => okRd m.ps.length r = false) hr hb x hx
    simp only [okRds, h1, Bool.and_true, AV.bool.injEq]
    congr 1
    exact decide_eq_decide.2 (by omega)
end Go.VV
