/- Part of a proof: the laws of single functions of the given program, shown step by step. -/
import Derived.Test.YtfcaebjpnakhhaaCB
import Derived.Test.YtfcaebjpnakhhaaT3
set_option linter.unusedSimpArgs false
set_option linter.unusedVariables false
set_option linter.unnecessarySimpa false
namespace Go.VV
open Go.Proofs
set_option maxRecDepth 4000
set_option maxHeartbeats 4000000
abbrev runC (x : Rd) (rd tag : Int) (run : List Rp) (out : List Q4) : Cx :=
  ⟨[(5, ⟨50, 4, run.map aRp, false⟩), (6, ⟨61, 4, out.map aQ4, false⟩)], [(0, ⟨47, [.own 5]⟩), (1, ⟨46, [Lint x.places, I x.period, I x.miss, I x.skew]⟩), (2, ⟨56, [.own 6]⟩), (3, ⟨3, [I rd]⟩), (4, ⟨3, [I tag]⟩)]⟩
abbrev endC (x : Rd) (rd tag : Int) (out : List Q4) : Cx :=
  ⟨[(6, ⟨61, 4, out.map aQ4, false⟩)], [(0, ⟨47, [.nils]⟩), (1, ⟨46, [Lint x.places, I x.period, I x.miss, I x.skew]⟩), (2, ⟨56, [.own 6]⟩), (3, ⟨3, [I rd]⟩), (4, ⟨3, [I tag]⟩)]⟩
theorem s39 (x : Rd) (rd tag : Int) (run : List Rp) (out : List Q4) (hr : run.length ≤ 400) (ho : out.length ≤ 400) : Spec Try.prog 39 (runC x rd tag run out) 7 [.ptr 0 0, .ptr 1 0, .ptr 2 0, .ptr 3 0, .ptr 4 0] (fun v C' => v = .tup [] ∧ C' = endC x rd tag (endO x rd tag run out)) := by
  have hcase : run = [] ∨ (∃ q, run = [q]) ∨ ∃ q mid z, run = q :: (mid ++ [z]) := by
    rcases run with _ | ⟨q, run⟩
    · exact .inl rfl
    · rcases List.eq_nil_or_concat run with rfl | ⟨mid, z, rfl⟩
      · exact .inr (.inl ⟨q, rfl⟩)
      · exact .inr (.inr ⟨q, mid, z, by simp⟩)
  rcases hcase with rfl | ⟨q, rfl⟩ | ⟨q, mid, z, rfl⟩
  · skip
    refine l39.go mixed no (by simp) fun Q hQ Rt hR => ?_
    unfold c39
    simp only [argT]
    repeat' (first
      | (with_reducible refine vc_seq_i fun K hK => ?_)
      | (with_reducible refine vc_ops_i ?_)
      | ((with_reducible refine ops_nil ?_); apply_assumption -exfalso -symm)
      | ((with_reducible refine ops_q fun K hK => ?_); simp; (try simp (disch := omega) only [wrap64]); (first | (with_reducible refine hK _ ?_) | (with_reducible refine alt_T (hK _ ?_)) | (with_reducible refine alt_wrap (by omega) (hK _ ?_)) | (with_reducible refine alt_same (hK _ ?_)) | (with_reducible refine alt_T' (hK _ ?_) ?_) | (with_reducible refine alt_wrap' (by omega) (hK _ ?_) ?_) | (with_reducible refine alt_same' (hK _ ?_) ?_) | (with_reducible refine And.intro ?_ (hK _ ?_)) | (refine fun _ => ?_; first | (with_reducible refine hK _ ?_) | (with_reducible refine alt_T (hK _ ?_)) | (with_reducible refine alt_wrap (by omega) (hK _ ?_)) | (with_reducible refine alt_same (hK _ ?_)))) <;> (clear hK; clear K))
      | ((with_reducible refine ops_a0 fun K hK => ?_); simp; (try simp (disch := omega) only [wrap64]); (first | ((with_reducible refine hK _ ?_); (clear hK; clear K)) | ((with_reducible refine And.intro ?_ (hK _ ?_)) <;> (clear hK; clear K)) | (repeat' (with_reducible refine And.intro ?_ ?_)) | skip))
      | ((with_reducible refine ops_ag fun K hK => ?_); first | (refine act_T rfl ?_; simp; (try simp (disch := omega) only [wrap64]); (first | ((with_reducible refine hK _ ?_); (clear hK; clear K)) | ((with_reducible refine And.intro ?_ (hK _ ?_)) <;> (clear hK; clear K)) | (repeat' (with_reducible refine And.intro ?_ ?_)) | skip)) | (refine act_F rfl ?_; simp; (with_reducible refine hK _ ?_); (clear hK; clear K)) | (refine act_N rfl ?_; simp; (with_reducible refine hK _ ?_); (clear hK; clear K)) | (refine act_c rfl fun c hc => ?_; cases c <;> (simp only [hc]; simp; (try simp (disch := omega) only [wrap64]); (try simp at hc); (first | ((with_reducible refine hK _ ?_); (clear hK; clear K)) | ((with_reducible refine And.intro ?_ (hK _ ?_)) <;> (clear hK; clear K)) | (repeat' (with_reducible refine And.intro ?_ ?_)) | skip))))
      | (with_reducible refine vc_drw_i [] ?_)
      | ((with_reducible refine T_done ?_); apply_assumption -exfalso -symm)
      | ((with_reducible refine T_take (by simp) fun K hK => ?_); simp; (try simp (disch := omega) only [wrap64]); (first | (with_reducible refine hK _ ?_) | (with_reducible refine alt_T (hK _ ?_)) | (with_reducible refine alt_wrap (by omega) (hK _ ?_)) | (with_reducible refine alt_same (hK _ ?_)) | (with_reducible refine alt_T' (hK _ ?_) ?_) | (with_reducible refine alt_wrap' (by omega) (hK _ ?_) ?_) | (with_reducible refine alt_same' (hK _ ?_) ?_) | (with_reducible refine And.intro ?_ (hK _ ?_)) | (refine fun _ => ?_; first | (with_reducible refine hK _ ?_) | (with_reducible refine alt_T (hK _ ?_)) | (with_reducible refine alt_wrap (by omega) (hK _ ?_)) | (with_reducible refine alt_same (hK _ ?_)))) <;> (clear hK; clear K))
      | ((with_reducible refine T_actq fun K hK => ?_); simp; (try simp (disch := omega) only [wrap64]); (first | (with_reducible refine hK _ ?_) | (with_reducible refine alt_T (hK _ ?_)) | (with_reducible refine alt_wrap (by omega) (hK _ ?_)) | (with_reducible refine alt_same (hK _ ?_)) | (with_reducible refine alt_T' (hK _ ?_) ?_) | (with_reducible refine alt_wrap' (by omega) (hK _ ?_) ?_) | (with_reducible refine alt_same' (hK _ ?_) ?_) | (with_reducible refine And.intro ?_ (hK _ ?_)) | (refine fun _ => ?_; first | (with_reducible refine hK _ ?_) | (with_reducible refine alt_T (hK _ ?_)) | (with_reducible refine alt_wrap (by omega) (hK _ ?_)) | (with_reducible refine alt_same (hK _ ?_)))) <;> (clear hK; clear K))
      | (with_reducible refine T_two ?_ ?_)
      | ((with_reducible refine T_act0 fun K hK => ?_); simp; (try simp (disch := omega) only [wrap64]); (first | ((with_reducible refine hK _ ?_); (clear hK; clear K)) | ((with_reducible refine And.intro ?_ (hK _ ?_)) <;> (clear hK; clear K)) | (repeat' (with_reducible refine And.intro ?_ ?_)) | skip))
      | ((with_reducible refine T_actg fun K hK => ?_); first | (refine act_T rfl ?_; simp; (try simp (disch := omega) only [wrap64]); (first | ((with_reducible refine hK _ ?_); (clear hK; clear K)) | ((with_reducible refine And.intro ?_ (hK _ ?_)) <;> (clear hK; clear K)) | (repeat' (with_reducible refine And.intro ?_ ?_)) | skip)) | (refine act_F rfl ?_; simp; (with_reducible refine hK _ ?_); (clear hK; clear K)) | (refine act_N rfl ?_; simp; (with_reducible refine hK _ ?_); (clear hK; clear K)) | (refine act_c rfl fun c hc => ?_; cases c <;> (simp only [hc]; simp; (try simp (disch := omega) only [wrap64]); (try simp at hc); (first | ((with_reducible refine hK _ ?_); (clear hK; clear K)) | ((with_reducible refine And.intro ?_ (hK _ ?_)) <;> (clear hK; clear K)) | (repeat' (with_reducible refine And.intro ?_ ?_)) | skip))))
      | (with_reducible refine vc_block_i fun Y hY hN => ?_)
      | ((with_reducible refine vc_skip_i ?_); apply_assumption -exfalso -symm)
      | ((with_reducible refine vc_cond_i rfl ?_ ?_) <;> (intro hb; try simp at hb))
      | ((with_reducible refine vc_exit_i ?_); apply_assumption -exfalso -symm; try apply_assumption -exfalso -symm)
      | ((with_reducible refine vc_ret_i ?_); (with_reducible refine hR _ ?_); simp [r39]; skip)
      | ((with_reducible refine hR _ ?_); simp [r39]; skip)
      | (intros; omega))
    simp [r39]
    exact ret_at (r := .tup []) [] id (endC x rd tag out).rows (endC x rd tag out).boxes (by simp [Le, keys]) (hQ _ _ ⟨rfl, by simp [endO]⟩)
  · skip
    refine l39.go mixed no (by simp) fun Q hQ Rt hR => ?_
    unfold c39
    simp only [argT]
    repeat' (first
      | (with_reducible refine vc_seq_i fun K hK => ?_)
      | (with_reducible refine vc_ops_i ?_)
      | ((with_reducible refine ops_nil ?_); apply_assumption -exfalso -symm)
      | ((with_reducible refine ops_q fun K hK => ?_); simp; (try simp (disch := omega) only [wrap64]); (first | (with_reducible refine hK _ ?_) | (with_reducible refine alt_T (hK _ ?_)) | (with_reducible refine alt_wrap (by omega) (hK _ ?_)) | (with_reducible refine alt_same (hK _ ?_)) | (with_reducible refine alt_T' (hK _ ?_) ?_) | (with_reducible refine alt_wrap' (by omega) (hK _ ?_) ?_) | (with_reducible refine alt_same' (hK _ ?_) ?_) | (with_reducible refine And.intro ?_ (hK _ ?_)) | (refine fun _ => ?_; first | (with_reducible refine hK _ ?_) | (with_reducible refine alt_T (hK _ ?_)) | (with_reducible refine alt_wrap (by omega) (hK _ ?_)) | (with_reducible refine alt_same (hK _ ?_)))) <;> (clear hK; clear K))
      | ((with_reducible refine ops_a0 fun K hK => ?_); simp; (try simp (disch := omega) only [wrap64]); (first | ((with_reducible refine hK _ ?_); (clear hK; clear K)) | ((with_reducible refine And.intro ?_ (hK _ ?_)) <;> (clear hK; clear K)) | (repeat' (with_reducible refine And.intro ?_ ?_)) | skip))
      | ((with_reducible refine ops_ag fun K hK => ?_); first | (refine act_T rfl ?_; simp; (try simp (disch := omega) only [wrap64]); (first | ((with_reducible refine hK _ ?_); (clear hK; clear K)) | ((with_reducible refine And.intro ?_ (hK _ ?_)) <;> (clear hK; clear K)) | (repeat' (with_reducible refine And.intro ?_ ?_)) | skip)) | (refine act_F rfl ?_; simp; (with_reducible refine hK _ ?_); (clear hK; clear K)) | (refine act_N rfl ?_; simp; (with_reducible refine hK _ ?_); (clear hK; clear K)) | (refine act_c rfl fun c hc => ?_; cases c <;> (simp only [hc]; simp; (try simp (disch := omega) only [wrap64]); (try simp at hc); (first | ((with_reducible refine hK _ ?_); (clear hK; clear K)) | ((with_reducible refine And.intro ?_ (hK _ ?_)) <;> (clear hK; clear K)) | (repeat' (with_reducible refine And.intro ?_ ?_)) | skip))))
      | (with_reducible refine vc_drw_i [] ?_)
      | ((with_reducible refine T_done ?_); apply_assumption -exfalso -symm)
      | ((with_reducible refine T_take (by simp) fun K hK => ?_); simp; (try simp (disch := omega) only [wrap64]); (first | (with_reducible refine hK _ ?_) | (with_reducible refine alt_T (hK _ ?_)) | (with_reducible refine alt_wrap (by omega) (hK _ ?_)) | (with_reducible refine alt_same (hK _ ?_)) | (with_reducible refine alt_T' (hK _ ?_) ?_) | (with_reducible refine alt_wrap' (by omega) (hK _ ?_) ?_) | (with_reducible refine alt_same' (hK _ ?_) ?_) | (with_reducible refine And.intro ?_ (hK _ ?_)) | (refine fun _ => ?_; first | (with_reducible refine hK _ ?_) | (with_reducible refine alt_T (hK _ ?_)) | (with_reducible refine alt_wrap (by omega) (hK _ ?_)) | (with_reducible refine alt_same (hK _ ?_)))) <;> (clear hK; clear K))
      | ((with_reducible refine T_actq fun K hK => ?_); simp; (try simp (disch := omega) only [wrap64]); (first | (with_reducible refine hK _ ?_) | (with_reducible refine alt_T (hK _ ?_)) | (with_reducible refine alt_wrap (by omega) (hK _ ?_)) | (with_reducible refine alt_same (hK _ ?_)) | (with_reducible refine alt_T' (hK _ ?_) ?_) | (with_reducible refine alt_wrap' (by omega) (hK _ ?_) ?_) | (with_reducible refine alt_same' (hK _ ?_) ?_) | (with_reducible refine And.intro ?_ (hK _ ?_)) | (refine fun _ => ?_; first | (with_reducible refine hK _ ?_) | (with_reducible refine alt_T (hK _ ?_)) | (with_reducible refine alt_wrap (by omega) (hK _ ?_)) | (with_reducible refine alt_same (hK _ ?_)))) <;> (clear hK; clear K))
      | (with_reducible refine T_two ?_ ?_)
      | ((with_reducible refine T_act0 fun K hK => ?_); simp; (try simp (disch := omega) only [wrap64]); (first | ((with_reducible refine hK _ ?_); (clear hK; clear K)) | ((with_reducible refine And.intro ?_ (hK _ ?_)) <;> (clear hK; clear K)) | (repeat' (with_reducible refine And.intro ?_ ?_)) | skip))
      | ((with_reducible refine T_actg fun K hK => ?_); first | (refine act_T rfl ?_; simp; (try simp (disch := omega) only [wrap64]); (first | ((with_reducible refine hK _ ?_); (clear hK; clear K)) | ((with_reducible refine And.intro ?_ (hK _ ?_)) <;> (clear hK; clear K)) | (repeat' (with_reducible refine And.intro ?_ ?_)) | skip)) | (refine act_F rfl ?_; simp; (with_reducible refine hK _ ?_); (clear hK; clear K)) | (refine act_N rfl ?_; simp; (with_reducible refine hK _ ?_); (clear hK; clear K)) | (refine act_c rfl fun c hc => ?_; cases c <;> (simp only [hc]; simp; (try simp (disch := omega) only [wrap64]); (try simp at hc); (first | ((with_reducible refine hK _ ?_); (clear hK; clear K)) | ((with_reducible refine And.intro ?_ (hK _ ?_)) <;> (clear hK; clear K)) | (repeat' (with_reducible refine And.intro ?_ ?_)) | skip))))
      | (with_reducible refine vc_block_i fun Y hY hN => ?_)
      | ((with_reducible refine vc_skip_i ?_); apply_assumption -exfalso -symm)
      | ((with_reducible refine vc_cond_i rfl ?_ ?_) <;> (intro hb; try simp at hb))
      | ((with_reducible refine vc_exit_i ?_); apply_assumption -exfalso -symm; try apply_assumption -exfalso -symm)
      | ((with_reducible refine vc_ret_i ?_); (with_reducible refine hR _ ?_); simp [r39]; skip)
      | ((with_reducible refine hR _ ?_); simp [r39]; skip)
      | (intros; omega))
    simp [r39]
    exact ret_at (r := .tup []) [] id (endC x rd tag out).rows (endC x rd tag out).boxes (by simp [Le, keys]) (hQ _ _ ⟨rfl, by simp [endO]⟩)
  · have e1 : (q :: (mid ++ [z])).getLast?.getD default = z := by rw [← List.cons_append, List.getLast?_append]; rfl
    have e2 : 1 < (q :: (mid ++ [z])).length := by simp only [List.length_cons, List.length_append, List.length_nil]; omega
    refine l39.go mixed no (by simp) fun Q hQ Rt hR => ?_
    unfold c39
    simp only [argT]
    repeat' (first
      | (with_reducible refine vc_seq_i fun K hK => ?_)
      | (with_reducible refine vc_ops_i ?_)
      | ((with_reducible refine ops_nil ?_); apply_assumption -exfalso -symm)
      | ((with_reducible refine ops_q fun K hK => ?_); simp; (try simp (disch := omega) only [wrap64]); (first | (with_reducible refine hK _ ?_) | (with_reducible refine alt_T (hK _ ?_)) | (with_reducible refine alt_wrap (by omega) (hK _ ?_)) | (with_reducible refine alt_same (hK _ ?_)) | (with_reducible refine alt_T' (hK _ ?_) ?_) | (with_reducible refine alt_wrap' (by omega) (hK _ ?_) ?_) | (with_reducible refine alt_same' (hK _ ?_) ?_) | (with_reducible refine And.intro ?_ (hK _ ?_)) | (refine fun _ => ?_; first | (with_reducible refine hK _ ?_) | (with_reducible refine alt_T (hK _ ?_)) | (with_reducible refine alt_wrap (by omega) (hK _ ?_)) | (with_reducible refine alt_same (hK _ ?_)))) <;> (clear hK; clear K))
      | ((with_reducible refine ops_a0 fun K hK => ?_); simp; (try simp (disch := omega) only [wrap64]); (first | ((with_reducible refine hK _ ?_); (clear hK; clear K)) | ((with_reducible refine And.intro ?_ (hK _ ?_)) <;> (clear hK; clear K)) | (repeat' (with_reducible refine And.intro ?_ ?_)) | skip))
      | ((with_reducible refine ops_ag fun K hK => ?_); first | (refine act_T rfl ?_; simp; (try simp (disch := omega) only [wrap64]); (first | ((with_reducible refine hK _ ?_); (clear hK; clear K)) | ((with_reducible refine And.intro ?_ (hK _ ?_)) <;> (clear hK; clear K)) | (repeat' (with_reducible refine And.intro ?_ ?_)) | skip)) | (refine act_F rfl ?_; simp; (with_reducible refine hK _ ?_); (clear hK; clear K)) | (refine act_N rfl ?_; simp; (with_reducible refine hK _ ?_); (clear hK; clear K)) | (refine act_c rfl fun c hc => ?_; cases c <;> (simp only [hc]; simp; (try simp (disch := omega) only [wrap64]); (try simp at hc); (first | ((with_reducible refine hK _ ?_); (clear hK; clear K)) | ((with_reducible refine And.intro ?_ (hK _ ?_)) <;> (clear hK; clear K)) | (repeat' (with_reducible refine And.intro ?_ ?_)) | skip))))
      | (with_reducible refine vc_drw_i [] ?_)
      | ((with_reducible refine T_done ?_); apply_assumption -exfalso -symm)
      | ((with_reducible refine T_take (by simp) fun K hK => ?_); simp; (try simp (disch := omega) only [wrap64]); (first | (with_reducible refine hK _ ?_) | (with_reducible refine alt_T (hK _ ?_)) | (with_reducible refine alt_wrap (by omega) (hK _ ?_)) | (with_reducible refine alt_same (hK _ ?_)) | (with_reducible refine alt_T' (hK _ ?_) ?_) | (with_reducible refine alt_wrap' (by omega) (hK _ ?_) ?_) | (with_reducible refine alt_same' (hK _ ?_) ?_) | (with_reducible refine And.intro ?_ (hK _ ?_)) | (refine fun _ => ?_; first | (with_reducible refine hK _ ?_) | (with_reducible refine alt_T (hK _ ?_)) | (with_reducible refine alt_wrap (by omega) (hK _ ?_)) | (with_reducible refine alt_same (hK _ ?_)))) <;> (clear hK; clear K))
      | ((with_reducible refine T_actq fun K hK => ?_); simp; (try simp (disch := omega) only [wrap64]); (first | (with_reducible refine hK _ ?_) | (with_reducible refine alt_T (hK _ ?_)) | (with_reducible refine alt_wrap (by omega) (hK _ ?_)) | (with_reducible refine alt_same (hK _ ?_)) | (with_reducible refine alt_T' (hK _ ?_) ?_) | (with_reducible refine alt_wrap' (by omega) (hK _ ?_) ?_) | (with_reducible refine alt_same' (hK _ ?_) ?_) | (with_reducible refine And.intro ?_ (hK _ ?_)) | (refine fun _ => ?_; first | (with_reducible refine hK _ ?_) | (with_reducible refine alt_T (hK _ ?_)) | (with_reducible refine alt_wrap (by omega) (hK _ ?_)) | (with_reducible refine alt_same (hK _ ?_)))) <;> (clear hK; clear K))
      | (with_reducible refine T_two ?_ ?_)
      | ((with_reducible refine T_act0 fun K hK => ?_); simp; (try simp (disch := omega) only [wrap64]); (first | ((with_reducible refine hK _ ?_); (clear hK; clear K)) | ((with_reducible refine And.intro ?_ (hK _ ?_)) <;> (clear hK; clear K)) | (repeat' (with_reducible refine And.intro ?_ ?_)) | skip))
      | ((with_reducible refine T_actg fun K hK => ?_); first | (refine act_T rfl ?_; simp; (try simp (disch := omega) only [wrap64]); (first | ((with_reducible refine hK _ ?_); (clear hK; clear K)) | ((with_reducible refine And.intro ?_ (hK _ ?_)) <;> (clear hK; clear K)) | (repeat' (with_reducible refine And.intro ?_ ?_)) | skip)) | (refine act_F rfl ?_; simp; (with_reducible refine hK _ ?_); (clear hK; clear K)) | (refine act_N rfl ?_; simp; (with_reducible refine hK _ ?_); (clear hK; clear K)) | (refine act_c rfl fun c hc => ?_; cases c <;> (simp only [hc]; simp; (try simp (disch := omega) only [wrap64]); (try simp at hc); (first | ((with_reducible refine hK _ ?_); (clear hK; clear K)) | ((with_reducible refine And.intro ?_ (hK _ ?_)) <;> (clear hK; clear K)) | (repeat' (with_reducible refine And.intro ?_ ?_)) | skip))))
      | (with_reducible refine vc_block_i fun Y hY hN => ?_)
      | ((with_reducible refine vc_skip_i ?_); apply_assumption -exfalso -symm)
      | ((with_reducible refine vc_cond_i rfl ?_ ?_) <;> (intro hb; try simp at hb))
      | ((with_reducible refine vc_exit_i ?_); apply_assumption -exfalso -symm; try apply_assumption -exfalso -symm)
      | ((with_reducible refine vc_ret_i ?_); (with_reducible refine hR _ ?_); simp [r39]; skip)
      | ((with_reducible refine hR _ ?_); simp [r39]; skip)
      | (intros; omega))
    · simp [r39]
      refine ret_at (r := .tup []) [] id (endC x rd tag (out ++ [⟨rd, tag, W (q.time + x.skew), W (z.time - x.skew)⟩])).rows (endC x rd tag (out ++ [⟨rd, tag, W (q.time + x.skew), W (z.time - x.skew)⟩])).boxes (by simp [Le, keys]) (hQ _ _ ⟨rfl, ?_⟩)
      unfold endO
      rw [e1, if_pos ⟨e2, hb⟩]
      rfl
    · simp [r39]
      refine ret_at (r := .tup []) [] id (endC x rd tag out).rows (endC x rd tag out).boxes (by simp [Le, keys]) (hQ _ _ ⟨rfl, ?_⟩)
      unfold endO
      rw [e1, if_neg (fun h => absurd h.2 (Int.not_lt.2 hb))]
theorem scan_succ {x : Rd} {rd tag : Int} {rs : List Rp} {i : Nat} {s : List Rp × List Q4} (hi : i < rs.length) (hf : ((rs.take i).filter (fun r => r.reader == rd)).foldl (stepO x rd tag) ([], []) = s) :
    ((rs.take (i + 1)).filter (fun r => r.reader == rd)).foldl (stepO x rd tag) ([], []) = if (rs[i]?.getD default).reader = rd then stepO x rd tag s (rs[i]?.getD default) else s := by
  rw [take_getD default hi, List.filter_append, List.foldl_append, hf]
  by_cases h : (rs[i]?.getD default).reader = rd
  · simp [h]
  · simp [h]
theorem endO_len (x : Rd) (rd tag : Int) (run : List Rp) (out : List Q4) : (endO x rd tag run out).length ≤ out.length + 1 := by
  unfold endO
  split <;> simp
theorem s22o (l : List Rd) (rd tag : Int) (rs : List Rp) : Spec Try.prog 22 ⟨[], []⟩ 0 [Lrd l, I rd, I tag, Lrp rs] (fun v C' => ((absF l rd tag rs).2 = 0 ∧ v = .tup [.own 0, I 0] ∧ C' = ⟨[(0, ⟨61, 4, (absF l rd tag rs).1.map aQ4, false⟩)], []⟩) ∨ ((absF l rd tag rs).2 ≠ 0 ∧ v = .tup [LQ4 [], I (absF l rd tag rs).2] ∧ C' = ⟨[], []⟩)) := by
  refine l22.go mixed no (by simp) fun Q hQ Rt hR => ?_
  unfold c22
  simp only [argT]
  repeat' (first
    | (with_reducible refine vc_seq_i fun K hK => ?_)
    | (with_reducible refine vc_ops_i ?_)
    | ((with_reducible refine ops_nil ?_); apply_assumption -exfalso -symm)
    | ((with_reducible refine ops_q fun K hK => ?_); simp; (try simp (disch := omega) only [wrap64]); (first | (with_reducible refine hK _ ?_) | (with_reducible refine alt_T (hK _ ?_)) | (with_reducible refine alt_wrap (by omega) (hK _ ?_)) | (with_reducible refine alt_same (hK _ ?_)) | (with_reducible refine alt_T' (hK _ ?_) ?_) | (with_reducible refine alt_wrap' (by omega) (hK _ ?_) ?_) | (with_reducible refine alt_same' (hK _ ?_) ?_) | (with_reducible refine And.intro ?_ (hK _ ?_)) | (refine fun _ => ?_; first | (with_reducible refine hK _ ?_) | (with_reducible refine alt_T (hK _ ?_)) | (with_reducible refine alt_wrap (by omega) (hK _ ?_)) | (with_reducible refine alt_same (hK _ ?_)))) <;> (clear hK; clear K))
    | ((with_reducible refine ops_a0 fun K hK => ?_); simp; (try simp (disch := omega) only [wrap64]); (first | ((with_reducible refine hK _ ?_); (clear hK; clear K)) | ((with_reducible refine And.intro ?_ (hK _ ?_)) <;> (clear hK; clear K)) | (repeat' (with_reducible refine And.intro ?_ ?_)) | skip))
    | ((with_reducible refine ops_ag fun K hK => ?_); first | (refine act_T rfl ?_; simp; (try simp (disch := omega) only [wrap64]); (first | ((with_reducible refine hK _ ?_); (clear hK; clear K)) | ((with_reducible refine And.intro ?_ (hK _ ?_)) <;> (clear hK; clear K)) | (repeat' (with_reducible refine And.intro ?_ ?_)) | skip)) | (refine act_F rfl ?_; simp; (with_reducible refine hK _ ?_); (clear hK; clear K)) | (refine act_N rfl ?_; simp; (with_reducible refine hK _ ?_); (clear hK; clear K)) | (refine act_c rfl fun c hc => ?_; cases c <;> (simp only [hc]; simp; (try simp (disch := omega) only [wrap64]); (try simp at hc); (first | ((with_reducible refine hK _ ?_); (clear hK; clear K)) | ((with_reducible refine And.intro ?_ (hK _ ?_)) <;> (clear hK; clear K)) | (repeat' (with_reducible refine And.intro ?_ ?_)) | skip))))
    | (with_reducible refine vc_drw_i [] ?_)
    | ((with_reducible refine T_done ?_); apply_assumption -exfalso -symm)
    | ((with_reducible refine T_take (by simp) fun K hK => ?_); simp; (try simp (disch := omega) only [wrap64]); (first | (with_reducible refine hK _ ?_) | (with_reducible refine alt_T (hK _ ?_)) | (with_reducible refine alt_wrap (by omega) (hK _ ?_)) | (with_reducible refine alt_same (hK _ ?_)) | (with_reducible refine alt_T' (hK _ ?_) ?_) | (with_reducible refine alt_wrap' (by omega) (hK _ ?_) ?_) | (with_reducible refine alt_same' (hK _ ?_) ?_) | (with_reducible refine And.intro ?_ (hK _ ?_)) | (refine fun _ => ?_; first | (with_reducible refine hK _ ?_) | (with_reducible refine alt_T (hK _ ?_)) | (with_reducible refine alt_wrap (by omega) (hK _ ?_)) | (with_reducible refine alt_same (hK _ ?_)))) <;> (clear hK; clear K))
    | ((with_reducible refine T_actq fun K hK => ?_); simp; (try simp (disch := omega) only [wrap64]); (first | (with_reducible refine hK _ ?_) | (with_reducible refine alt_T (hK _ ?_)) | (with_reducible refine alt_wrap (by omega) (hK _ ?_)) | (with_reducible refine alt_same (hK _ ?_)) | (with_reducible refine alt_T' (hK _ ?_) ?_) | (with_reducible refine alt_wrap' (by omega) (hK _ ?_) ?_) | (with_reducible refine alt_same' (hK _ ?_) ?_) | (with_reducible refine And.intro ?_ (hK _ ?_)) | (refine fun _ => ?_; first | (with_reducible refine hK _ ?_) | (with_reducible refine alt_T (hK _ ?_)) | (with_reducible refine alt_wrap (by omega) (hK _ ?_)) | (with_reducible refine alt_same (hK _ ?_)))) <;> (clear hK; clear K))
    | (with_reducible refine T_two ?_ ?_)
    | ((with_reducible refine T_act0 fun K hK => ?_); simp; (try simp (disch := omega) only [wrap64]); (first | ((with_reducible refine hK _ ?_); (clear hK; clear K)) | ((with_reducible refine And.intro ?_ (hK _ ?_)) <;> (clear hK; clear K)) | (repeat' (with_reducible refine And.intro ?_ ?_)) | skip))
    | ((with_reducible refine T_actg fun K hK => ?_); first | (refine act_T rfl ?_; simp; (try simp (disch := omega) only [wrap64]); (first | ((with_reducible refine hK _ ?_); (clear hK; clear K)) | ((with_reducible refine And.intro ?_ (hK _ ?_)) <;> (clear hK; clear K)) | (repeat' (with_reducible refine And.intro ?_ ?_)) | skip)) | (refine act_F rfl ?_; simp; (with_reducible refine hK _ ?_); (clear hK; clear K)) | (refine act_N rfl ?_; simp; (with_reducible refine hK _ ?_); (clear hK; clear K)) | (refine act_c rfl fun c hc => ?_; cases c <;> (simp only [hc]; simp; (try simp (disch := omega) only [wrap64]); (try simp at hc); (first | ((with_reducible refine hK _ ?_); (clear hK; clear K)) | ((with_reducible refine And.intro ?_ (hK _ ?_)) <;> (clear hK; clear K)) | (repeat' (with_reducible refine And.intro ?_ ?_)) | skip))))
    | (with_reducible refine vc_block_i fun Y hY hN => ?_)
    | ((with_reducible refine vc_skip_i ?_); apply_assumption -exfalso -symm)
    | ((with_reducible refine vc_cond_i rfl ?_ ?_) <;> (intro hb; try simp at hb))
    | ((with_reducible refine vc_exit_i ?_); apply_assumption -exfalso -symm; try apply_assumption -exfalso -symm)
    | ((with_reducible refine vc_ret_i ?_); (with_reducible refine hR _ ?_); simp [r22]; skip)
    | ((with_reducible refine hR _ ?_); simp [r22]; skip)
    | ((with_reducible show vcCall _ _ _ _ _ _ _); refine call_0 (s35 _) ⟨wk_same, ⟨rfl, trivial⟩, trivial⟩ ?_; rintro _ _ ⟨rfl, rfl⟩; simp; first | ((with_reducible refine hK _ ?_); (clear hK; clear K)) | (with_reducible apply_assumption -exfalso -symm))
    | ((with_reducible show vcCall _ _ _ _ _ _ _); refine call_0 (s38 _ _ _) ⟨rfl, rfl, rfl, trivial⟩ ?_; rintro _ _ ⟨rfl, rfl⟩; simp; first | ((with_reducible refine hK _ ?_); (clear hK; clear K)) | (with_reducible apply_assumption -exfalso -symm))
    | (intros; omega))
  · have e : absF l rd tag rs = ([], 2) := by unfold absF; rw [if_pos hb]
    exact ret_wk (.tup [LQ4 [], I 2]) (by simp) (hQ _ _ (.inr ⟨by rw [e]; simp, by rw [e], rfl⟩))
  · have h1 : rs.all validT = false := by simpa using hb
    have e : absF l rd tag rs = ([], 6) := by unfold absF; rw [if_neg (by omega), if_pos h1]
    exact ret_wk (.tup [LQ4 [], I 6]) (by simp) (hQ _ _ (.inr ⟨by rw [e]; simp, by rw [e], rfl⟩))
  · have h1 : ¬ rs.all validT = false := by simpa using ‹∀ x, x ∈ rs → validT x = true›
    have e : absF l rd tag rs = ([], 40) := by unfold absF; rw [if_neg (by omega), if_neg h1, if_pos hb]
    exact ret_wk (.tup [LQ4 [], I 40]) (by simp) (hQ _ _ (.inr ⟨by rw [e]; simp, by rw [e], rfl⟩))
  · have h1 : ¬ rs.all validT = false := by simpa using ‹∀ x, x ∈ rs → validT x = true›
    have e : absF l rd tag rs = ([], 41) := by unfold absF; rw [if_neg (by omega), if_neg h1, if_neg (by omega), if_pos hb]
    exact ret_wk (.tup [LQ4 [], I 41]) (by simp) (hQ _ _ (.inr ⟨by rw [e]; simp, by rw [e], rfl⟩))
  have h1 : ¬ rs.all validT = false := by simpa using ‹∀ x, x ∈ rs → validT x = true›
  have e : absF l rd tag rs = (scanO (l[rd.toNat]?.getD default) rd tag (rs.filter fun r => r.reader == rd), 0) := by unfold absF; rw [if_neg (by omega), if_neg h1, if_neg (by omega), if_neg (by simp [hb])]
  rw [e] at hQ
  obtain ⟨x, hx⟩ : ∃ x, l[rd.toNat]?.getD default = x := ⟨_, rfl⟩
  rw [hx] at hQ ⊢
  clear e h1
  refine loop_i {s : Nat × List Rp × List Q4 // s.1 ≤ rs.length ∧ s.2.1.length ≤ s.1 ∧ s.2.2.length ≤ s.1 ∧ ((rs.take s.1).filter (fun r => r.reader == rd)).foldl (stepO x rd tag) ([], []) = s.2}
    (fun s => ⟨[(5, .ptr 0 0), (6, .ptr 1 0), (10, .ptr 10 0), (11, .ptr 11 0), (12, .ptr 12 0), (13, .fn 39 [.ptr 12 0, .ptr 10 0, .ptr 11 0, .ptr 0 0, .ptr 1 0]), (42, Lrp rs), (43, I rs.length), (44, I s.1.1)], [(13, ⟨61, 4, s.1.2.2.map aQ4, false⟩), (14, ⟨50, 4, s.1.2.1.map aRp, false⟩)],
      [(0, ⟨3, [I rd]⟩), (1, ⟨3, [I tag]⟩), (10, ⟨46, [Lint x.places, I x.period, I x.miss, I x.skew]⟩), (11, ⟨56, [.own 13]⟩), (12, ⟨47, [.own 14]⟩)], 15, 83⟩) (fun s => rs.length - s.1.1) ⟨(0, [], []), by simp⟩ ?_ ?_
  · exact turn_at [.nilB 11 0 61 4, .nilB 12 0 50 4] id id (by simp [keys])
  rintro ⟨⟨i, run, out⟩, hi, hl1, hl2, hf⟩ K hK
  simp only at hi hl1 hl2 hf
  have hcase : run = [] ∨ ∃ pre z, run = pre ++ [z] := by
    rcases List.eq_nil_or_concat run with rfl | ⟨mid, z, rfl⟩
    · exact .inl rfl
    · exact .inr ⟨mid, z, by simp⟩
  rcases hcase with e | ⟨pre, z, e⟩
  · simp only [e] at hl1 hf ⊢
    repeat' (first
      | (with_reducible refine vc_seq_i fun K hK => ?_)
      | (with_reducible refine vc_ops_i ?_)
      | ((with_reducible refine ops_nil ?_); apply_assumption -exfalso -symm)
      | ((with_reducible refine ops_q fun K hK => ?_); simp; (try simp (disch := omega) only [wrap64]); (first | (with_reducible refine hK _ ?_) | (with_reducible refine alt_T (hK _ ?_)) | (with_reducible refine alt_wrap (by omega) (hK _ ?_)) | (with_reducible refine alt_same (hK _ ?_)) | (with_reducible refine alt_T' (hK _ ?_) ?_) | (with_reducible refine alt_wrap' (by omega) (hK _ ?_) ?_) | (with_reducible refine alt_same' (hK _ ?_) ?_) | (with_reducible refine And.intro ?_ (hK _ ?_)) | (refine fun _ => ?_; first | (with_reducible refine hK _ ?_) | (with_reducible refine alt_T (hK _ ?_)) | (with_reducible refine alt_wrap (by omega) (hK _ ?_)) | (with_reducible refine alt_same (hK _ ?_)))) <;> (clear hK; clear K))
      | ((with_reducible refine ops_a0 fun K hK => ?_); simp; (try simp (disch := omega) only [wrap64]); (first | ((with_reducible refine hK _ ?_); (clear hK; clear K)) | ((with_reducible refine And.intro ?_ (hK _ ?_)) <;> (clear hK; clear K)) | (repeat' (with_reducible refine And.intro ?_ ?_)) | skip))
      | ((with_reducible refine ops_ag fun K hK => ?_); first | (refine act_T rfl ?_; simp; (try simp (disch := omega) only [wrap64]); (first | ((with_reducible refine hK _ ?_); (clear hK; clear K)) | ((with_reducible refine And.intro ?_ (hK _ ?_)) <;> (clear hK; clear K)) | (repeat' (with_reducible refine And.intro ?_ ?_)) | skip)) | (refine act_F rfl ?_; simp; (with_reducible refine hK _ ?_); (clear hK; clear K)) | (refine act_N rfl ?_; simp; (with_reducible refine hK _ ?_); (clear hK; clear K)) | (refine act_c rfl fun c hc => ?_; cases c <;> (simp only [hc]; simp; (try simp (disch := omega) only [wrap64]); (try simp at hc); (first | ((with_reducible refine hK _ ?_); (clear hK; clear K)) | ((with_reducible refine And.intro ?_ (hK _ ?_)) <;> (clear hK; clear K)) | (repeat' (with_reducible refine And.intro ?_ ?_)) | skip))))
      | (with_reducible refine vc_drw_i [] ?_)
      | ((with_reducible refine T_done ?_); apply_assumption -exfalso -symm)
      | ((with_reducible refine T_take (by simp) fun K hK => ?_); simp; (try simp (disch := omega) only [wrap64]); (first | (with_reducible refine hK _ ?_) | (with_reducible refine alt_T (hK _ ?_)) | (with_reducible refine alt_wrap (by omega) (hK _ ?_)) | (with_reducible refine alt_same (hK _ ?_)) | (with_reducible refine alt_T' (hK _ ?_) ?_) | (with_reducible refine alt_wrap' (by omega) (hK _ ?_) ?_) | (with_reducible refine alt_same' (hK _ ?_) ?_) | (with_reducible refine And.intro ?_ (hK _ ?_)) | (refine fun _ => ?_; first | (with_reducible refine hK _ ?_) | (with_reducible refine alt_T (hK _ ?_)) | (with_reducible refine alt_wrap (by omega) (hK _ ?_)) | (with_reducible refine alt_same (hK _ ?_)))) <;> (clear hK; clear K))
      | ((with_reducible refine T_actq fun K hK => ?_); simp; (try simp (disch := omega) only [wrap64]); (first | (with_reducible refine hK _ ?_) | (with_reducible refine alt_T (hK _ ?_)) | (with_reducible refine alt_wrap (by omega) (hK _ ?_)) | (with_reducible refine alt_same (hK _ ?_)) | (with_reducible refine alt_T' (hK _ ?_) ?_) | (with_reducible refine alt_wrap' (by omega) (hK _ ?_) ?_) | (with_reducible refine alt_same' (hK _ ?_) ?_) | (with_reducible refine And.intro ?_ (hK _ ?_)) | (refine fun _ => ?_; first | (with_reducible refine hK _ ?_) | (with_reducible refine alt_T (hK _ ?_)) | (with_reducible refine alt_wrap (by omega) (hK _ ?_)) | (with_reducible refine alt_same (hK _ ?_)))) <;> (clear hK; clear K))
      | (with_reducible refine T_two ?_ ?_)
      | ((with_reducible refine T_act0 fun K hK => ?_); simp; (try simp (disch := omega) only [wrap64]); (first | ((with_reducible refine hK _ ?_); (clear hK; clear K)) | ((with_reducible refine And.intro ?_ (hK _ ?_)) <;> (clear hK; clear K)) | (repeat' (with_reducible refine And.intro ?_ ?_)) | skip))
      | ((with_reducible refine T_actg fun K hK => ?_); first | (refine act_T rfl ?_; simp; (try simp (disch := omega) only [wrap64]); (first | ((with_reducible refine hK _ ?_); (clear hK; clear K)) | ((with_reducible refine And.intro ?_ (hK _ ?_)) <;> (clear hK; clear K)) | (repeat' (with_reducible refine And.intro ?_ ?_)) | skip)) | (refine act_F rfl ?_; simp; (with_reducible refine hK _ ?_); (clear hK; clear K)) | (refine act_N rfl ?_; simp; (with_reducible refine hK _ ?_); (clear hK; clear K)) | (refine act_c rfl fun c hc => ?_; cases c <;> (simp only [hc]; simp; (try simp (disch := omega) only [wrap64]); (try simp at hc); (first | ((with_reducible refine hK _ ?_); (clear hK; clear K)) | ((with_reducible refine And.intro ?_ (hK _ ?_)) <;> (clear hK; clear K)) | (repeat' (with_reducible refine And.intro ?_ ?_)) | skip))))
      | (with_reducible refine vc_block_i fun Y hY hN => ?_)
      | ((with_reducible refine vc_skip_i ?_); apply_assumption -exfalso -symm)
      | ((with_reducible refine vc_cond_i rfl ?_ ?_) <;> (intro hb; try simp at hb))
      | ((with_reducible refine vc_exit_i ?_); apply_assumption -exfalso -symm; try apply_assumption -exfalso -symm)
      | ((with_reducible refine vc_ret_i ?_); (with_reducible refine hR _ ?_); simp [r22]; skip)
      | ((with_reducible refine hR _ ?_); simp [r22]; skip)
      | ((with_reducible show vcCall _ _ _ _ _ _ _); refine call_0 (s40 _ _) ⟨wk_same, rfl, trivial⟩ ?_; rintro _ _ ⟨rfl, rfl⟩; simp; first | ((with_reducible refine hK _ ?_); (clear hK; clear K)) | (with_reducible apply_assumption -exfalso -symm))
      | ((with_reducible show vcCall _ _ _ _ _ _ _); refine call_0 (s41 _ _ _) ⟨⟨wk_same, rfl, rfl, rfl, trivial⟩, ⟨rfl, rfl, rfl, wk_same, trivial⟩, ⟨rfl, rfl, rfl, wk_same, trivial⟩, trivial⟩ ?_; rintro _ _ ⟨rfl, rfl⟩; simp; first | ((with_reducible refine hK _ ?_); (clear hK; clear K)) | (with_reducible apply_assumption -exfalso -symm))
      | ((with_reducible show vcCall _ _ _ _ _ _ _); refine call_p [12, 10, 11, 0, 1, 14, 13] (s39 x rd tag [] out (by simp) (by omega)) rfl rfl (by simp) ?_; rintro _ _ ⟨rfl, rfl⟩; simp; first | ((with_reducible refine hK _ ?_); (clear hK; clear K)) | (with_reducible apply_assumption -exfalso -symm))
      | (intros; omega))
    · refine ⟨⟨(i + 1, [], out), by simp; omega, by simp at hl1 ⊢ <;> omega, by simp; omega, ?_⟩, by simp; omega, turn_id (by simp) rfl (by simp)⟩
      simp only
      rw [scan_succ ‹_› hf, if_neg hb]
    · have hE := endO_len x rd tag [] out
      refine ⟨⟨(i + 1, [], endO x rd tag [] out), by simp; omega, by simp, by simp; omega, ?_⟩, by simp; omega, turn_at [.nilB 12 0 50 4] (fun j => if j = 14 then 24 else j) (fun j => if j = 24 then 14 else j) (by simp [keys] <;> omega)⟩
      simp only
      rw [scan_succ ‹_› hf, if_pos ‹_›, stepO, if_pos hb]
    · refine ⟨⟨(i + 1, [rs[i]?.getD default], out), by simp; omega, by simp, by simp; omega, ?_⟩, by simp; omega, turn_id (by simp) rfl (by simp)⟩
      simp only
      rw [scan_succ ‹_› hf, if_pos ‹_›, stepO, if_neg ‹_›, if_neg (by simp)]
      simp
    · rw [List.take_of_length_le hb] at hf
      refine ret_at (r := .tup [.own 0, I 0]) [] (fun j => if j = 0 then 13 else j) [(0, ⟨61, 4, (endO x rd tag [] out).map aQ4, false⟩)] [] (by simp [Le, keys]) (hQ _ _ (.inl ⟨rfl, rfl, ?_⟩))
      rw [scanO, hf, finO]
  · simp only [e] at hl1 hf ⊢
    repeat' (first
      | (with_reducible refine vc_seq_i fun K hK => ?_)
      | (with_reducible refine vc_ops_i ?_)
      | ((with_reducible refine ops_nil ?_); apply_assumption -exfalso -symm)
      | ((with_reducible refine ops_q fun K hK => ?_); simp; (try simp (disch := omega) only [wrap64]); (first | (with_reducible refine hK _ ?_) | (with_reducible refine alt_T (hK _ ?_)) | (with_reducible refine alt_wrap (by omega) (hK _ ?_)) | (with_reducible refine alt_same (hK _ ?_)) | (with_reducible refine alt_T' (hK _ ?_) ?_) | (with_reducible refine alt_wrap' (by omega) (hK _ ?_) ?_) | (with_reducible refine alt_same' (hK _ ?_) ?_) | (with_reducible refine And.intro ?_ (hK _ ?_)) | (refine fun _ => ?_; first | (with_reducible refine hK _ ?_) | (with_reducible refine alt_T (hK _ ?_)) | (with_reducible refine alt_wrap (by omega) (hK _ ?_)) | (with_reducible refine alt_same (hK _ ?_)))) <;> (clear hK; clear K))
      | ((with_reducible refine ops_a0 fun K hK => ?_); simp; (try simp (disch := omega) only [wrap64]); (first | ((with_reducible refine hK _ ?_); (clear hK; clear K)) | ((with_reducible refine And.intro ?_ (hK _ ?_)) <;> (clear hK; clear K)) | (repeat' (with_reducible refine And.intro ?_ ?_)) | skip))
      | ((with_reducible refine ops_ag fun K hK => ?_); first | (refine act_T rfl ?_; simp; (try simp (disch := omega) only [wrap64]); (first | ((with_reducible refine hK _ ?_); (clear hK; clear K)) | ((with_reducible refine And.intro ?_ (hK _ ?_)) <;> (clear hK; clear K)) | (repeat' (with_reducible refine And.intro ?_ ?_)) | skip)) | (refine act_F rfl ?_; simp; (with_reducible refine hK _ ?_); (clear hK; clear K)) | (refine act_N rfl ?_; simp; (with_reducible refine hK _ ?_); (clear hK; clear K)) | (refine act_c rfl fun c hc => ?_; cases c <;> (simp only [hc]; simp; (try simp (disch := omega) only [wrap64]); (try simp at hc); (first | ((with_reducible refine hK _ ?_); (clear hK; clear K)) | ((with_reducible refine And.intro ?_ (hK _ ?_)) <;> (clear hK; clear K)) | (repeat' (with_reducible refine And.intro ?_ ?_)) | skip))))
      | (with_reducible refine vc_drw_i [] ?_)
      | ((with_reducible refine T_done ?_); apply_assumption -exfalso -symm)
      | ((with_reducible refine T_take (by simp) fun K hK => ?_); simp; (try simp (disch := omega) only [wrap64]); (first | (with_reducible refine hK _ ?_) | (with_reducible refine alt_T (hK _ ?_)) | (with_reducible refine alt_wrap (by omega) (hK _ ?_)) | (with_reducible refine alt_same (hK _ ?_)) | (with_reducible refine alt_T' (hK _ ?_) ?_) | (with_reducible refine alt_wrap' (by omega) (hK _ ?_) ?_) | (with_reducible refine alt_same' (hK _ ?_) ?_) | (with_reducible refine And.intro ?_ (hK _ ?_)) | (refine fun _ => ?_; first | (with_reducible refine hK _ ?_) | (with_reducible refine alt_T (hK _ ?_)) | (with_reducible refine alt_wrap (by omega) (hK _ ?_)) | (with_reducible refine alt_same (hK _ ?_)))) <;> (clear hK; clear K))
      | ((with_reducible refine T_actq fun K hK => ?_); simp; (try simp (disch := omega) only [wrap64]); (first | (with_reducible refine hK _ ?_) | (with_reducible refine alt_T (hK _ ?_)) | (with_reducible refine alt_wrap (by omega) (hK _ ?_)) | (with_reducible refine alt_same (hK _ ?_)) | (with_reducible refine alt_T' (hK _ ?_) ?_) | (with_reducible refine alt_wrap' (by omega) (hK _ ?_) ?_) | (with_reducible refine alt_same' (hK _ ?_) ?_) | (with_reducible refine And.intro ?_ (hK _ ?_)) | (refine fun _ => ?_; first | (with_reducible refine hK _ ?_) | (with_reducible refine alt_T (hK _ ?_)) | (with_reducible refine alt_wrap (by omega) (hK _ ?_)) | (with_reducible refine alt_same (hK _ ?_)))) <;> (clear hK; clear K))
      | (with_reducible refine T_two ?_ ?_)
      | ((with_reducible refine T_act0 fun K hK => ?_); simp; (try simp (disch := omega) only [wrap64]); (first | ((with_reducible refine hK _ ?_); (clear hK; clear K)) | ((with_reducible refine And.intro ?_ (hK _ ?_)) <;> (clear hK; clear K)) | (repeat' (with_reducible refine And.intro ?_ ?_)) | skip))
      | ((with_reducible refine T_actg fun K hK => ?_); first | (refine act_T rfl ?_; simp; (try simp (disch := omega) only [wrap64]); (first | ((with_reducible refine hK _ ?_); (clear hK; clear K)) | ((with_reducible refine And.intro ?_ (hK _ ?_)) <;> (clear hK; clear K)) | (repeat' (with_reducible refine And.intro ?_ ?_)) | skip)) | (refine act_F rfl ?_; simp; (with_reducible refine hK _ ?_); (clear hK; clear K)) | (refine act_N rfl ?_; simp; (with_reducible refine hK _ ?_); (clear hK; clear K)) | (refine act_c rfl fun c hc => ?_; cases c <;> (simp only [hc]; simp; (try simp (disch := omega) only [wrap64]); (try simp at hc); (first | ((with_reducible refine hK _ ?_); (clear hK; clear K)) | ((with_reducible refine And.intro ?_ (hK _ ?_)) <;> (clear hK; clear K)) | (repeat' (with_reducible refine And.intro ?_ ?_)) | skip))))
      | (with_reducible refine vc_block_i fun Y hY hN => ?_)
      | ((with_reducible refine vc_skip_i ?_); apply_assumption -exfalso -symm)
      | ((with_reducible refine vc_cond_i rfl ?_ ?_) <;> (intro hb; try simp at hb))
      | ((with_reducible refine vc_exit_i ?_); apply_assumption -exfalso -symm; try apply_assumption -exfalso -symm)
      | ((with_reducible refine vc_ret_i ?_); (with_reducible refine hR _ ?_); simp [r22]; skip)
      | ((with_reducible refine hR _ ?_); simp [r22]; skip)
      | ((with_reducible show vcCall _ _ _ _ _ _ _); refine call_0 (s40 _ _) ⟨wk_same, rfl, trivial⟩ ?_; rintro _ _ ⟨rfl, rfl⟩; simp; first | ((with_reducible refine hK _ ?_); (clear hK; clear K)) | (with_reducible apply_assumption -exfalso -symm))
      | ((with_reducible show vcCall _ _ _ _ _ _ _); refine call_0 (s41 _ _ _) ⟨⟨wk_same, rfl, rfl, rfl, trivial⟩, ⟨rfl, rfl, rfl, wk_same, trivial⟩, ⟨rfl, rfl, rfl, wk_same, trivial⟩, trivial⟩ ?_; rintro _ _ ⟨rfl, rfl⟩; simp; first | ((with_reducible refine hK _ ?_); (clear hK; clear K)) | (with_reducible apply_assumption -exfalso -symm))
      | ((with_reducible show vcCall _ _ _ _ _ _ _); refine call_p [12, 10, 11, 0, 1, 14, 13] (s39 x rd tag (pre ++ [z]) out (by omega) (by omega)) rfl rfl (by simp) ?_; rintro _ _ ⟨rfl, rfl⟩; simp; first | ((with_reducible refine hK _ ?_); (clear hK; clear K)) | (with_reducible apply_assumption -exfalso -symm))
      | (intros; omega))
    · refine ⟨⟨(i + 1, pre ++ [z], out), by simp; omega, by simp at hl1 ⊢ <;> omega, by simp; omega, ?_⟩, by simp; omega, turn_id (by simp) rfl (by simp)⟩
      simp only
      rw [scan_succ ‹_› hf, if_neg hb]
    · have hE := endO_len x rd tag (pre ++ [z]) out
      refine ⟨⟨(i + 1, [], endO x rd tag (pre ++ [z]) out), by simp; omega, by simp, by simp; omega, ?_⟩, by simp; omega, turn_at [.nilB 12 0 50 4] (fun j => if j = 14 then 24 else j) (fun j => if j = 24 then 14 else j) (by simp [keys] <;> omega)⟩
      simp only
      rw [scan_succ ‹_› hf, if_pos ‹_›, stepO, if_pos hb]
    · have hE := endO_len x rd tag (pre ++ [z]) out
      refine ⟨⟨(i + 1, [rs[i]?.getD default], endO x rd tag (pre ++ [z]) out), by simp; omega, by simp, by simp; omega, ?_⟩, by simp; omega, turn_at [] (fun j => if j = 14 then 29 else j) (fun j => if j = 29 then 14 else j) (by simp [keys] <;> omega)⟩
      simp only
      rw [scan_succ ‹_› hf, if_pos ‹_›, stepO, if_neg ‹_›, if_pos ⟨by simp, by simpa using hb⟩]
    · simp at hl1; omega
    · refine ⟨⟨(i + 1, pre ++ [z, rs[i]?.getD default], out), by simp; omega, by simp at hl1 ⊢ <;> omega, by simp; omega, ?_⟩, by simp; omega, turn_id (by simp) rfl (by simp)⟩
      simp only
      rw [scan_succ ‹_› hf, if_pos ‹_›, stepO, if_neg ‹_›, if_neg (by simp [hb])]
      simp
    · rw [List.take_of_length_le hb] at hf
      refine ret_at (r := .tup [.own 0, I 0]) [] (fun j => if j = 0 then 13 else j) [(0, ⟨61, 4, (endO x rd tag (pre ++ [z]) out).map aQ4, false⟩)] [] (by simp [Le, keys]) (hQ _ _ (.inl ⟨rfl, rfl, ?_⟩))
      rw [scanO, hf, finO]
theorem s22 (l : List Rd) (rd tag : Int) (rs : List Rp) : Spec Try.prog 22 ⟨[], []⟩ 0 [Lrd l, I rd, I tag, Lrp rs] (fun v C' => v = .tup [LQ4 (absF l rd tag rs).1, I (absF l rd tag rs).2] ∧ C' = ⟨[], []⟩) := by
  refine (s22o l rd tag rs).turn fun r C' h => ?_
  rcases h with ⟨h1, rfl, rfl⟩ | ⟨h1, rfl, rfl⟩
  · refine ⟨_, _, turn_at [.frz 0] id id ?_, fun i R _ hi => by omega, rfl, rfl⟩
    simp [keys, h1]
    exact fun j hj => .inl ((lq4_get _ j (by simpa using hj)).trans (by simp [List.getD_eq_getElem?_getD]))
  · have e : (absF l rd tag rs).1 = [] := by
      unfold absF at h1 ⊢
      split <;> try rfl
      split <;> try rfl
      split <;> try rfl
      split <;> try rfl
      rw [if_neg ‹_›, if_neg ‹_›, if_neg ‹_›, if_neg ‹_›] at h1
      exact absurd rfl h1
    refine ⟨_, _, turn_at [] id id ?_, fun i R _ hi => by omega, rfl, rfl⟩
    simp [keys, e]
end Go.VV
