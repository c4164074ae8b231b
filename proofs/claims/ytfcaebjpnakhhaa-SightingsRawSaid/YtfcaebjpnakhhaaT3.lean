/- Part of a proof: the laws of single functions of the given program, shown step by step. -/
import Derived.Test.YtfcaebjpnakhhaaCB
import Derived.Test.YtfcaebjpnakhhaaT2
set_option linter.unusedSimpArgs false
set_option linter.unusedVariables false
set_option linter.unnecessarySimpa false
namespace Go.VV
open Go.Proofs
set_option maxRecDepth 4000
set_option maxHeartbeats 4000000
def endO (x : Rd) (rd tag : Int) (run : List Rp) (out : List Q4) : List Q4 :=
  if 1 < run.length ∧ W ((run.head?.getD default).time + x.skew) < W ((run.getLast?.getD default).time - x.skew) then out ++ [⟨rd, tag, W ((run.head?.getD default).time + x.skew), W ((run.getLast?.getD default).time - x.skew)⟩] else out
def stepO (x : Rd) (rd tag : Int) (s : List Rp × List Q4) (r : Rp) : List Rp × List Q4 :=
  if tag ∈ r.tags then ([], endO x rd tag s.1 s.2)
  else if s.1 ≠ [] ∧ fol x (s.1.getLast?.getD default) r = false then ([r], endO x rd tag s.1 s.2)
  else (s.1 ++ [r], s.2)
def finO (x : Rd) (rd tag : Int) (s : List Rp × List Q4) : List Q4 := endO x rd tag s.1 s.2
def scanO (x : Rd) (rd tag : Int) (l : List Rp) : List Q4 := finO x rd tag (l.foldl (stepO x rd tag) ([], []))
noncomputable def absF (l : List Rd) (rd tag : Int) (rs : List Rp) : List Q4 × Int :=
  if 400 < (rs.length : Int) then ([], 2) else if rs.all validT = false then ([], 6) else if rd < 0 ∨ (l.length : Int) ≤ rd then ([], 40) else if inB tag 1 65535 = false then ([], 41)
  else (scanO (l[rd.toNat]?.getD default) rd tag (rs.filter fun r => r.reader == rd), 0)
theorem drop_getD {α : Type} (d : α) {l : List α} {i : Nat} (hi : i < l.length) : l.drop i = l[i]?.getD d :: l.drop (i + 1) := by
  rw [List.drop_eq_getElem_cons hi, List.getElem?_eq_getElem hi]; rfl
theorem lrp_get (l : List Rp) (j : Nat) (hj : j < l.length) : aRp (l[j]?.getD default) = (l.map aRp).getD j .top := by
  simp [List.getD_eq_getElem?_getD, List.getElem?_eq_getElem hj]
theorem run_len {mine : List Rp} {i k : Nat} (hk : i ≤ k) (h : k < mine.length) : ((mine.drop i).take (k + 1 - i)).length = k + 1 - i := by simp; omega
theorem run_head {mine : List Rp} {i k : Nat} (hk : i ≤ k) (h : k < mine.length) : ((mine.drop i).take (k + 1 - i)).head?.getD default = mine[i]?.getD default := by
  rw [drop_getD default (show i < mine.length by omega), show k + 1 - i = (k - i) + 1 by omega]
  simp
theorem run_last {mine : List Rp} {i k : Nat} (hk : i ≤ k) (h : k < mine.length) : ((mine.drop i).take (k + 1 - i)).getLast?.getD default = mine[k]?.getD default := by
  rw [List.getLast?_eq_getElem?, run_len hk h, List.getElem?_take, if_pos (by omega), List.getElem?_drop, show i + (k + 1 - i - 1) = k by omega]
theorem endO_run {x : Rd} {rd tag : Int} {mine : List Rp} {out : List Q4} {i k : Nat} (hk : i ≤ k) (h : k < mine.length) : endO x rd tag ((mine.drop i).take (k + 1 - i)) out =
    if i < k ∧ W ((mine[i]?.getD default).time + x.skew) < W ((mine[k]?.getD default).time - x.skew) then out ++ [⟨rd, tag, W ((mine[i]?.getD default).time + x.skew), W ((mine[k]?.getD default).time - x.skew)⟩] else out := by
  unfold endO
  rw [run_len hk h, run_head hk h, run_last hk h]
  have e : (1 < k + 1 - i) = (i < k) := propext (by omega)
  simp only [e]
theorem endO_nil {x : Rd} {rd tag : Int} {out : List Q4} : endO x rd tag [] out = out := by simp [endO]
theorem close_run {x : Rd} {rd tag : Int} {mine : List Rp} {out R0 : List Q4} {i k : Nat} (hk : i ≤ k) (h : k < mine.length) (hr : mine.length ≤ k + 1 ∨ tag ∈ (mine[k + 1]?.getD default).tags ∨ fol x (mine[k]?.getD default) (mine[k + 1]?.getD default) = false)
    (hf : finO x rd tag ((mine.drop (k + 1)).foldl (stepO x rd tag) ((mine.drop i).take (k + 1 - i), out)) = R0) : finO x rd tag ((mine.drop (k + 1)).foldl (stepO x rd tag) ([], endO x rd tag ((mine.drop i).take (k + 1 - i)) out)) = R0 := by
  rcases Nat.lt_or_ge (k + 1) mine.length with hlt | hge
  · rw [drop_getD default hlt] at hf ⊢
    simp only [List.foldl_cons] at hf ⊢
    rcases hr with hr | hr | hr
    · omega
    · simp only [stepO, if_pos hr, endO_nil] at hf ⊢
      exact hf
    · by_cases ht : tag ∈ (mine[k + 1]?.getD default).tags
      · simp only [stepO, if_pos ht, endO_nil] at hf ⊢
        exact hf
      · have hne : (mine.drop i).take (k + 1 - i) ≠ [] := by
          intro e
          have := run_len hk h
          rw [e] at this
          simp at this
          omega
        rw [stepO, if_neg ht, if_pos ⟨hne, by rw [run_last hk h]; exact hr⟩] at hf
        rw [stepO, if_neg ht, if_neg (by simp)]
        exact hf
  · rw [List.drop_of_length_le hge] at hf ⊢
    simp only [List.foldl_nil, finO, endO_nil] at hf ⊢
    exact hf
theorem s34 (l : List Rd) (rd tag : Int) (rs : List Rp) : Spec Try.prog 34 ⟨[], []⟩ 0 [Lrd l, I rd, I tag, Lrp rs] (fun v C' => v = .tup [LQ4 (absF l rd tag rs).1, I (absF l rd tag rs).2] ∧ C' = ⟨[], []⟩) := by
  refine l34.go mixed no (by simp) fun Q hQ Rt hR => ?_
  unfold c34
  simp only [argT]
  repeat' (first
    | (with_reducible refine vc_seq_i fun K hK => ?_)
    | (with_reducible refine vc_ops_i ?_)
    | ((with_reducible refine ops_nil ?_); apply_assumption -exfalso -symm)
    | ((with_reducible refine ops_q fun K hK => ?_); simp; (try simp (disch := omega) only [wrap64]); (first | (with_reducible refine hK _ ?_) | (with_reducible refine alt_T (hK _ ?_)) | (with_reducible refine alt_wrap (by omega) (hK _ ?_)) | (with_reducible refine alt_same (hK _ ?_)) | (with_reducible refine alt_T' (hK _ ?_) ?_) | (with_reducible refine alt_wrap' (by omega) (hK _ ?_) ?_) | (with_reducible refine alt_same' (hK _ ?_) ?_) | (with_reducible refine And.intro ?_ (hK _ ?_)) | (refine fun _ => ?_; first | (with_reducible refine hK _ ?_) | (with_reducible refine alt_T (hK _ ?_)) | (with_reducible refine alt_wrap (by omega) (hK _ ?_)) | (with_reducible refine alt_same (hK _ ?_)))) <;> (clear hK; clear K))
    | ((with_reducible refine ops_a0 fun K hK => ?_); simp; (try simp (disch := omega) only [wrap64]); (first | ((with_reducible refine hK _ ?_); (clear hK; clear K)) | ((with_reducible refine And.intro ?_ (hK _ ?_)) <;> (clear hK; clear K)) | (repeat' (with_reducible refine And.intro ?_ ?_)) | skip))
    | ((with_reducible refine ops_ag fun K hK => ?_); first | (refine act_T rfl ?_; simp; (try simp (disch := omega) only [wrap64]); (first | ((with_reducible refine hK _ ?_); (clear hK; clear K)) | ((with_reducible refine And.intro ?_ (hK _ ?_)) <;> (clear hK; clear K)) | (repeat' (with_reducible refine And.intro ?_ ?_)) | skip)) | (refine act_F rfl ?_; simp; (with_reducible refine hK _ ?_); (clear hK; clear K)) | (refine act_N rfl ?_; simp; (with_reducible refine hK _ ?_); (clear hK; clear K)) | (refine act_c rfl fun c hc => ?_; cases c <;> (simp only [hc]; simp; (try simp (disch := omega) only [wrap64]); (try simp at hc); (first | ((with_reducible refine hK _ ?_); (clear hK; clear K)) | ((with_reducible refine And.intro ?_ (hK _ ?_)) <;> (clear hK; clear K)) | (repeat' (with_reducible refine And.intro ?_ ?_)) | skip))))
    | (with_reducible refine vc_drw_i [] ?_)
    | ((with_reducible refine T_done ?_); apply_assumption -exfalso -symm)
    | ((with_reducible refine T_take (by simp) fun K hK => ?_); simp; (try simp (disch := omega) only [wrap64]); (first | (with_reducible refine hK _ ?_) | (with_reducible refine alt_T (hK _ ?_)) | (with_reducible refine alt_wrap (by omega) (hK _ ?_)) | (with_reducible refine alt_same (hK _ ?_)) | (with_reducible refine alt_T' (hK _ ?_) ?_) | (with_reducible refine alt_wrap' (by omega) (hK _ ?_) ?_) | (with_reducible refine alt_same' (hK _ ?_) ?_) | (with_reducible refine And.intro ?_ (hK _ ?_)) | (refine fun _ => ?_; first | (with_reducible refine hK _ ?_) | (with_reducible refine alt_T (hK _ ?_)) | (with_reducible refine alt_wrap (by omega) (hK _ ?_)) | (with_reducible refine alt_same (hK _ ?_)))) <;> (clear hK; clear K))
    | ((with_reducible refine T_actq fun K hK => ?_); simp; (try simp (disch := omega) only [wrap64]); (first | (with_reducible refine hK _ ?_) | (with_reducible refine alt_T (hK _ ?_)) | (with_reducible refine alt_wrap (by omega) (hK _ ?_)) | (with_reducible refine alt_same (hK _ ?_)) | (with_reducible refine alt_T' (hK _ ?_) ?_) | (with_reducible refine alt_wrap' (by omega) (hK _ ?_) ?_) | (with_reducible refine alt_same' (hK _ ?_) ?_) | (with_reducible refine And.intro ?_ (hK _ ?_)) | (refine fun _ => ?_; first | (with_reducible refine hK _ ?_) | (with_reducible refine alt_T (hK _ ?_)) | (with_reducible refine alt_wrap (by omega) (hK _ ?_)) | (with_reducible refine alt_same (hK _ ?_)))) <;> (clear hK; clear K))
    | (with_reducible refine T_two ?_ ?_)
    | ((with_reducible refine T_act0 fun K hK => ?_); simp; (try simp (disch := omega) only [wrap64]); (first | ((with_reducible refine hK _ ?_); (clear hK; clear K)) | ((with_reducible refine And.intro ?_ (hK _ ?_)) <;> (clear hK; clear K)) | (repeat' (with_reducible refine And.intro ?_ ?_)) | skip))
    | ((with_reducible refine T_actg fun K hK => ?_); first | (refine act_T rfl ?_; simp; (try simp (disch := omega) only [wrap64]); (first | ((with_reducible refine hK _ ?_); (clear hK; clear K)) | ((with_reducible refine And.intro ?_ (hK _ ?_)) <;> (clear hK; clear K)) | (repeat' (with_reducible refine And.intro ?_ ?_)) | skip)) | (refine act_F rfl ?_; simp; (with_reducible refine hK _ ?_); (clear hK; clear K)) | (refine act_N rfl ?_; simp; (with_reducible refine hK _ ?_); (clear hK; clear K)) | (refine act_c rfl fun c hc => ?_; cases c <;> (simp only [hc]; simp; (try simp (disch := omega) only [wrap64]); (try simp at hc); (first | ((with_reducible refine hK _ ?_); (clear hK; clear K)) | ((with_reducible refine And.intro ?_ (hK _ ?_)) <;> (clear hK; clear K)) | (repeat' (with_reducible refine And.intro ?_ ?_)) | skip))))
    | (with_reducible refine vc_block_i fun Y hY hN => ?_)
    | ((with_reducible refine vc_skip_i ?_); apply_assumption -exfalso -symm)
    | ((with_reducible refine vc_cond_i rfl ?_ ?_) <;> (intro hb; try simp at hb))
    | ((with_reducible refine vc_exit_i ?_); apply_assumption -exfalso -symm; try apply_assumption -exfalso -symm)
    | ((with_reducible refine vc_ret_i ?_); (with_reducible refine hR _ ?_); simp [r34]; skip)
    | ((with_reducible refine hR _ ?_); simp [r34]; skip)
    | (intros; omega))
  · exact ret_wk (.tup [LQ4 [], I 2]) (by simp) (hQ _ _ ⟨by simp [absF, hb], rfl⟩)
  refine loop_i {i : Nat // i ≤ rs.length ∧ ∀ j, j < i → ¬ validT (rs[j]?.getD default) = false} (fun s => ⟨[(0, Lrd l), (1, I rd), (2, I tag), (3, Lrp rs), (10, I s.1)], [], [], 0, 152⟩) (fun s => rs.length - s.1) ⟨0, Nat.zero_le _, fun j hj => by omega⟩ ?_ ?_
  · exact turn_id (by simp) rfl (by simp)
  rintro ⟨i, hi', hr⟩ K hK
  repeat' (first
    | (with_reducible refine vc_seq_i fun K hK => ?_)
    | (with_reducible refine vc_ops_i ?_)
    | ((with_reducible refine ops_nil ?_); apply_assumption -exfalso -symm)
    | ((with_reducible refine ops_q fun K hK => ?_); simp; (try simp (disch := omega) only [wrap64]); (first | (with_reducible refine hK _ ?_) | (with_reducible refine alt_T (hK _ ?_)) | (with_reducible refine alt_wrap (by omega) (hK _ ?_)) | (with_reducible refine alt_same (hK _ ?_)) | (with_reducible refine alt_T' (hK _ ?_) ?_) | (with_reducible refine alt_wrap' (by omega) (hK _ ?_) ?_) | (with_reducible refine alt_same' (hK _ ?_) ?_) | (with_reducible refine And.intro ?_ (hK _ ?_)) | (refine fun _ => ?_; first | (with_reducible refine hK _ ?_) | (with_reducible refine alt_T (hK _ ?_)) | (with_reducible refine alt_wrap (by omega) (hK _ ?_)) | (with_reducible refine alt_same (hK _ ?_)))) <;> (clear hK; clear K))
    | ((with_reducible refine ops_a0 fun K hK => ?_); simp; (try simp (disch := omega) only [wrap64]); (first | ((with_reducible refine hK _ ?_); (clear hK; clear K)) | ((with_reducible refine And.intro ?_ (hK _ ?_)) <;> (clear hK; clear K)) | (repeat' (with_reducible refine And.intro ?_ ?_)) | skip))
    | ((with_reducible refine ops_ag fun K hK => ?_); first | (refine act_T rfl ?_; simp; (try simp (disch := omega) only [wrap64]); (first | ((with_reducible refine hK _ ?_); (clear hK; clear K)) | ((with_reducible refine And.intro ?_ (hK _ ?_)) <;> (clear hK; clear K)) | (repeat' (with_reducible refine And.intro ?_ ?_)) | skip)) | (refine act_F rfl ?_; simp; (with_reducible refine hK _ ?_); (clear hK; clear K)) | (refine act_N rfl ?_; simp; (with_reducible refine hK _ ?_); (clear hK; clear K)) | (refine act_c rfl fun c hc => ?_; cases c <;> (simp only [hc]; simp; (try simp (disch := omega) only [wrap64]); (try simp at hc); (first | ((with_reducible refine hK _ ?_); (clear hK; clear K)) | ((with_reducible refine And.intro ?_ (hK _ ?_)) <;> (clear hK; clear K)) | (repeat' (with_reducible refine And.intro ?_ ?_)) | skip))))
    | (with_reducible refine vc_drw_i [] ?_)
    | ((with_reducible refine T_done ?_); apply_assumption -exfalso -symm)
    | ((with_reducible refine T_take (by simp) fun K hK => ?_); simp; (try simp (disch := omega) only [wrap64]); (first | (with_reducible refine hK _ ?_) | (with_reducible refine alt_T (hK _ ?_)) | (with_reducible refine alt_wrap (by omega) (hK _ ?_)) | (with_reducible refine alt_same (hK _ ?_)) | (with_reducible refine alt_T' (hK _ ?_) ?_) | (with_reducible refine alt_wrap' (by omega) (hK _ ?_) ?_) | (with_reducible refine alt_same' (hK _ ?_) ?_) | (with_reducible refine And.intro ?_ (hK _ ?_)) | (refine fun _ => ?_; first | (with_reducible refine hK _ ?_) | (with_reducible refine alt_T (hK _ ?_)) | (with_reducible refine alt_wrap (by omega) (hK _ ?_)) | (with_reducible refine alt_same (hK _ ?_)))) <;> (clear hK; clear K))
    | ((with_reducible refine T_actq fun K hK => ?_); simp; (try simp (disch := omega) only [wrap64]); (first | (with_reducible refine hK _ ?_) | (with_reducible refine alt_T (hK _ ?_)) | (with_reducible refine alt_wrap (by omega) (hK _ ?_)) | (with_reducible refine alt_same (hK _ ?_)) | (with_reducible refine alt_T' (hK _ ?_) ?_) | (with_reducible refine alt_wrap' (by omega) (hK _ ?_) ?_) | (with_reducible refine alt_same' (hK _ ?_) ?_) | (with_reducible refine And.intro ?_ (hK _ ?_)) | (refine fun _ => ?_; first | (with_reducible refine hK _ ?_) | (with_reducible refine alt_T (hK _ ?_)) | (with_reducible refine alt_wrap (by omega) (hK _ ?_)) | (with_reducible refine alt_same (hK _ ?_)))) <;> (clear hK; clear K))
    | (with_reducible refine T_two ?_ ?_)
    | ((with_reducible refine T_act0 fun K hK => ?_); simp; (try simp (disch := omega) only [wrap64]); (first | ((with_reducible refine hK _ ?_); (clear hK; clear K)) | ((with_reducible refine And.intro ?_ (hK _ ?_)) <;> (clear hK; clear K)) | (repeat' (with_reducible refine And.intro ?_ ?_)) | skip))
    | ((with_reducible refine T_actg fun K hK => ?_); first | (refine act_T rfl ?_; simp; (try simp (disch := omega) only [wrap64]); (first | ((with_reducible refine hK _ ?_); (clear hK; clear K)) | ((with_reducible refine And.intro ?_ (hK _ ?_)) <;> (clear hK; clear K)) | (repeat' (with_reducible refine And.intro ?_ ?_)) | skip)) | (refine act_F rfl ?_; simp; (with_reducible refine hK _ ?_); (clear hK; clear K)) | (refine act_N rfl ?_; simp; (with_reducible refine hK _ ?_); (clear hK; clear K)) | (refine act_c rfl fun c hc => ?_; cases c <;> (simp only [hc]; simp; (try simp (disch := omega) only [wrap64]); (try simp at hc); (first | ((with_reducible refine hK _ ?_); (clear hK; clear K)) | ((with_reducible refine And.intro ?_ (hK _ ?_)) <;> (clear hK; clear K)) | (repeat' (with_reducible refine And.intro ?_ ?_)) | skip))))
    | (with_reducible refine vc_block_i fun Y hY hN => ?_)
    | ((with_reducible refine vc_skip_i ?_); apply_assumption -exfalso -symm)
    | ((with_reducible refine vc_cond_i rfl ?_ ?_) <;> (intro hb; try simp at hb))
    | ((with_reducible refine vc_exit_i ?_); apply_assumption -exfalso -symm; try apply_assumption -exfalso -symm)
    | ((with_reducible refine vc_ret_i ?_); (with_reducible refine hR _ ?_); simp [r34]; skip)
    | ((with_reducible refine hR _ ?_); simp [r34]; skip)
    | ((with_reducible show vcCall _ _ _ _ _ _ _); refine call_0 (s49 _) ⟨⟨rfl, rfl, rfl, wk_same, trivial⟩, trivial⟩ ?_; rintro _ _ ⟨rfl, rfl⟩; simp; first | ((with_reducible refine hK _ ?_); (clear hK; clear K)) | (with_reducible apply_assumption -exfalso -symm))
    | (intros; omega))
  · refine ret_wk (.tup [LQ4 [], I 6]) (by simp) (hQ _ _ ⟨?_, rfl⟩)
    have h1 : rs.all validT = false := by
      rw [List.all_eq_false]
      exact ⟨_, get_mem (d := default) ‹_›, by simp [hb]⟩
    have e : absF l rd tag rs = ([], 6) := by unfold absF; rw [if_neg (by omega), if_pos h1]
    rw [e]
  · exact ⟨⟨i + 1, by omega, upto_succ hr (by simp [hb])⟩, by simp; omega, turn_id (by simp) rfl (by simp)⟩
  · refine ret_wk (.tup [LQ4 [], I 40]) (by simp) (hQ _ _ ⟨?_, rfl⟩)
    have h1 : ¬ rs.all validT = false := by
      rw [List.all_eq_false]
      rintro ⟨r, h1, h2⟩
      exact none_upto (p := fun r => validT r = false) hr ‹_› r h1 (by simpa using h2)
    have e : absF l rd tag rs = ([], 40) := by unfold absF; rw [if_neg (by omega), if_neg h1, if_pos hb]
    rw [e]
  · refine ret_wk (.tup [LQ4 [], I 41]) (by simp) (hQ _ _ ⟨?_, rfl⟩)
    have h1 : ¬ rs.all validT = false := by
      rw [List.all_eq_false]
      rintro ⟨r, h1, h2⟩
      exact none_upto (p := fun r => validT r = false) hr ‹_› r h1 (by simpa using h2)
    have h2 : inB tag 1 65535 = false := by simp [inB]; omega
    have e : absF l rd tag rs = ([], 41) := by unfold absF; rw [if_neg (by omega), if_neg h1, if_neg (by omega), if_pos h2]
    rw [e]
  have h1 : ¬ rs.all validT = false := by
    rw [List.all_eq_false]
    rintro ⟨r, h1, h2⟩
    exact none_upto (p := fun r => validT r = false) hr ‹_› r h1 (by simpa using h2)
  have h2 : ¬ inB tag 1 65535 = false := by simp [inB]; omega
  have e : absF l rd tag rs = (scanO (l[rd.toNat]?.getD default) rd tag (rs.filter fun r => r.reader == rd), 0) := by unfold absF; rw [if_neg (by omega), if_neg h1, if_neg (by omega), if_neg h2]
  rw [e] at hQ
  obtain ⟨x, hx⟩ : ∃ x, l[rd.toNat]?.getD default = x := ⟨_, rfl⟩
  rw [hx] at hQ ⊢
  refine loop_i {s : Nat × List Rp // s.1 ≤ rs.length ∧ s.2 = (rs.take s.1).filter (fun r => r.reader == rd)} (fun s => ⟨[(1, I rd), (2, I tag), (3, Lrp rs), (11, .ptr 0 0), (12, .own 1), (13, I s.1.1)], [(1, ⟨50, 4, s.1.2.map aRp, false⟩)], [(0, ⟨46, [Lint x.places, I x.period, I x.miss, I x.skew]⟩)], 2, 152⟩) (fun s => rs.length - s.1.1) ⟨(0, []), by simp⟩ ?_ ?_
  · exact turn_at [.nilT 12 50 4] id id (by simp)
  rintro ⟨⟨j, mine⟩, hj, hm⟩ K hK
  simp only at hj hm
  have hml : mine.length ≤ 400 := by
    rw [hm]
    have := List.length_filter_le (fun r : Rp => r.reader == rd) (rs.take j)
    have := List.length_take_le j rs
    omega
  repeat' (first
    | (with_reducible refine vc_seq_i fun K hK => ?_)
    | (with_reducible refine vc_ops_i ?_)
    | ((with_reducible refine ops_nil ?_); apply_assumption -exfalso -symm)
    | ((with_reducible refine ops_q fun K hK => ?_); simp; (try simp (disch := omega) only [wrap64]); (first | (with_reducible refine hK _ ?_) | (with_reducible refine alt_T (hK _ ?_)) | (with_reducible refine alt_wrap (by omega) (hK _ ?_)) | (with_reducible refine alt_same (hK _ ?_)) | (with_reducible refine alt_T' (hK _ ?_) ?_) | (with_reducible refine alt_wrap' (by omega) (hK _ ?_) ?_) | (with_reducible refine alt_same' (hK _ ?_) ?_) | (with_reducible refine And.intro ?_ (hK _ ?_)) | (refine fun _ => ?_; first | (with_reducible refine hK _ ?_) | (with_reducible refine alt_T (hK _ ?_)) | (with_reducible refine alt_wrap (by omega) (hK _ ?_)) | (with_reducible refine alt_same (hK _ ?_)))) <;> (clear hK; clear K))
    | ((with_reducible refine ops_a0 fun K hK => ?_); simp; (try simp (disch := omega) only [wrap64]); (first | ((with_reducible refine hK _ ?_); (clear hK; clear K)) | ((with_reducible refine And.intro ?_ (hK _ ?_)) <;> (clear hK; clear K)) | (repeat' (with_reducible refine And.intro ?_ ?_)) | skip))
    | ((with_reducible refine ops_ag fun K hK => ?_); first | (refine act_T rfl ?_; simp; (try simp (disch := omega) only [wrap64]); (first | ((with_reducible refine hK _ ?_); (clear hK; clear K)) | ((with_reducible refine And.intro ?_ (hK _ ?_)) <;> (clear hK; clear K)) | (repeat' (with_reducible refine And.intro ?_ ?_)) | skip)) | (refine act_F rfl ?_; simp; (with_reducible refine hK _ ?_); (clear hK; clear K)) | (refine act_N rfl ?_; simp; (with_reducible refine hK _ ?_); (clear hK; clear K)) | (refine act_c rfl fun c hc => ?_; cases c <;> (simp only [hc]; simp; (try simp (disch := omega) only [wrap64]); (try simp at hc); (first | ((with_reducible refine hK _ ?_); (clear hK; clear K)) | ((with_reducible refine And.intro ?_ (hK _ ?_)) <;> (clear hK; clear K)) | (repeat' (with_reducible refine And.intro ?_ ?_)) | skip))))
    | (with_reducible refine vc_drw_i [] ?_)
    | ((with_reducible refine T_done ?_); apply_assumption -exfalso -symm)
    | ((with_reducible refine T_take (by simp) fun K hK => ?_); simp; (try simp (disch := omega) only [wrap64]); (first | (with_reducible refine hK _ ?_) | (with_reducible refine alt_T (hK _ ?_)) | (with_reducible refine alt_wrap (by omega) (hK _ ?_)) | (with_reducible refine alt_same (hK _ ?_)) | (with_reducible refine alt_T' (hK _ ?_) ?_) | (with_reducible refine alt_wrap' (by omega) (hK _ ?_) ?_) | (with_reducible refine alt_same' (hK _ ?_) ?_) | (with_reducible refine And.intro ?_ (hK _ ?_)) | (refine fun _ => ?_; first | (with_reducible refine hK _ ?_) | (with_reducible refine alt_T (hK _ ?_)) | (with_reducible refine alt_wrap (by omega) (hK _ ?_)) | (with_reducible refine alt_same (hK _ ?_)))) <;> (clear hK; clear K))
    | ((with_reducible refine T_actq fun K hK => ?_); simp; (try simp (disch := omega) only [wrap64]); (first | (with_reducible refine hK _ ?_) | (with_reducible refine alt_T (hK _ ?_)) | (with_reducible refine alt_wrap (by omega) (hK _ ?_)) | (with_reducible refine alt_same (hK _ ?_)) | (with_reducible refine alt_T' (hK _ ?_) ?_) | (with_reducible refine alt_wrap' (by omega) (hK _ ?_) ?_) | (with_reducible refine alt_same' (hK _ ?_) ?_) | (with_reducible refine And.intro ?_ (hK _ ?_)) | (refine fun _ => ?_; first | (with_reducible refine hK _ ?_) | (with_reducible refine alt_T (hK _ ?_)) | (with_reducible refine alt_wrap (by omega) (hK _ ?_)) | (with_reducible refine alt_same (hK _ ?_)))) <;> (clear hK; clear K))
    | (with_reducible refine T_two ?_ ?_)
    | ((with_reducible refine T_act0 fun K hK => ?_); simp; (try simp (disch := omega) only [wrap64]); (first | ((with_reducible refine hK _ ?_); (clear hK; clear K)) | ((with_reducible refine And.intro ?_ (hK _ ?_)) <;> (clear hK; clear K)) | (repeat' (with_reducible refine And.intro ?_ ?_)) | skip))
    | ((with_reducible refine T_actg fun K hK => ?_); first | (refine act_T rfl ?_; simp; (try simp (disch := omega) only [wrap64]); (first | ((with_reducible refine hK _ ?_); (clear hK; clear K)) | ((with_reducible refine And.intro ?_ (hK _ ?_)) <;> (clear hK; clear K)) | (repeat' (with_reducible refine And.intro ?_ ?_)) | skip)) | (refine act_F rfl ?_; simp; (with_reducible refine hK _ ?_); (clear hK; clear K)) | (refine act_N rfl ?_; simp; (with_reducible refine hK _ ?_); (clear hK; clear K)) | (refine act_c rfl fun c hc => ?_; cases c <;> (simp only [hc]; simp; (try simp (disch := omega) only [wrap64]); (try simp at hc); (first | ((with_reducible refine hK _ ?_); (clear hK; clear K)) | ((with_reducible refine And.intro ?_ (hK _ ?_)) <;> (clear hK; clear K)) | (repeat' (with_reducible refine And.intro ?_ ?_)) | skip))))
    | (with_reducible refine vc_block_i fun Y hY hN => ?_)
    | ((with_reducible refine vc_skip_i ?_); apply_assumption -exfalso -symm)
    | ((with_reducible refine vc_cond_i rfl ?_ ?_) <;> (intro hb; try simp at hb))
    | ((with_reducible refine vc_exit_i ?_); apply_assumption -exfalso -symm; try apply_assumption -exfalso -symm)
    | ((with_reducible refine vc_ret_i ?_); (with_reducible refine hR _ ?_); simp [r34]; skip)
    | ((with_reducible refine hR _ ?_); simp [r34]; skip)
    | (intros; omega))
  · refine ⟨⟨(j + 1, mine ++ [rs[j]?.getD default]), by simp; omega, ?_⟩, by simp; omega, turn_id (by simp) rfl (by simp)⟩
    simp only
    rw [take_getD default ‹_›, List.filter_append, hm]
    simp [hb]
  · refine ⟨⟨(j + 1, mine), by simp; omega, ?_⟩, by simp; omega, turn_id (by simp) rfl (by simp)⟩
    simp only
    rw [take_getD default ‹_›, List.filter_append, hm]
    simp [hb]
  rw [List.take_of_length_le hb] at hm
  rw [← hm] at hQ
  clear e h1 h2
  generalize hR0 : scanO x rd tag mine = R0 at hQ
  refine loop_i {s : Nat × List Q4 // s.1 ≤ mine.length ∧ s.2.length ≤ s.1 ∧ finO x rd tag ((mine.drop s.1).foldl (stepO x rd tag) ([], s.2)) = R0} (fun s => ⟨[(1, I rd), (2, I tag), (11, .ptr 0 0), (12, Lrp mine), (14, .own 2), (15, I s.1.1)], [(2, ⟨61, 4, s.1.2.map aQ4, false⟩)], [(0, ⟨46, [Lint x.places, I x.period, I x.miss, I x.skew]⟩)], 3, 152⟩) (fun s => mine.length - s.1.1) ⟨(0, []), by simp, by simp, by simpa [scanO] using hR0⟩ ?_ ?_
  · refine turn_at [.frz 1, .nilT 14 61 4] id id ?_
    simp
    exact fun j hj => .inl ((lrp_get mine j hj).trans (by simp [List.getD_eq_getElem?_getD]))
  rintro ⟨⟨i, out⟩, hi, ho, hf⟩ K hK
  simp only at hi ho hf
  repeat' (first
    | (with_reducible refine vc_seq_i fun K hK => ?_)
    | (with_reducible refine vc_ops_i ?_)
    | ((with_reducible refine ops_nil ?_); apply_assumption -exfalso -symm)
    | ((with_reducible refine ops_q fun K hK => ?_); simp; (try simp (disch := omega) only [wrap64]); (first | (with_reducible refine hK _ ?_) | (with_reducible refine alt_T (hK _ ?_)) | (with_reducible refine alt_wrap (by omega) (hK _ ?_)) | (with_reducible refine alt_same (hK _ ?_)) | (with_reducible refine alt_T' (hK _ ?_) ?_) | (with_reducible refine alt_wrap' (by omega) (hK _ ?_) ?_) | (with_reducible refine alt_same' (hK _ ?_) ?_) | (with_reducible refine And.intro ?_ (hK _ ?_)) | (refine fun _ => ?_; first | (with_reducible refine hK _ ?_) | (with_reducible refine alt_T (hK _ ?_)) | (with_reducible refine alt_wrap (by omega) (hK _ ?_)) | (with_reducible refine alt_same (hK _ ?_)))) <;> (clear hK; clear K))
    | ((with_reducible refine ops_a0 fun K hK => ?_); simp; (try simp (disch := omega) only [wrap64]); (first | ((with_reducible refine hK _ ?_); (clear hK; clear K)) | ((with_reducible refine And.intro ?_ (hK _ ?_)) <;> (clear hK; clear K)) | (repeat' (with_reducible refine And.intro ?_ ?_)) | skip))
    | ((with_reducible refine ops_ag fun K hK => ?_); first | (refine act_T rfl ?_; simp; (try simp (disch := omega) only [wrap64]); (first | ((with_reducible refine hK _ ?_); (clear hK; clear K)) | ((with_reducible refine And.intro ?_ (hK _ ?_)) <;> (clear hK; clear K)) | (repeat' (with_reducible refine And.intro ?_ ?_)) | skip)) | (refine act_F rfl ?_; simp; (with_reducible refine hK _ ?_); (clear hK; clear K)) | (refine act_N rfl ?_; simp; (with_reducible refine hK _ ?_); (clear hK; clear K)) | (refine act_c rfl fun c hc => ?_; cases c <;> (simp only [hc]; simp; (try simp (disch := omega) only [wrap64]); (try simp at hc); (first | ((with_reducible refine hK _ ?_); (clear hK; clear K)) | ((with_reducible refine And.intro ?_ (hK _ ?_)) <;> (clear hK; clear K)) | (repeat' (with_reducible refine And.intro ?_ ?_)) | skip))))
    | (with_reducible refine vc_drw_i [] ?_)
    | ((with_reducible refine T_done ?_); apply_assumption -exfalso -symm)
    | ((with_reducible refine T_take (by simp) fun K hK => ?_); simp; (try simp (disch := omega) only [wrap64]); (first | (with_reducible refine hK _ ?_) | (with_reducible refine alt_T (hK _ ?_)) | (with_reducible refine alt_wrap (by omega) (hK _ ?_)) | (with_reducible refine alt_same (hK _ ?_)) | (with_reducible refine alt_T' (hK _ ?_) ?_) | (with_reducible refine alt_wrap' (by omega) (hK _ ?_) ?_) | (with_reducible refine alt_same' (hK _ ?_) ?_) | (with_reducible refine And.intro ?_ (hK _ ?_)) | (refine fun _ => ?_; first | (with_reducible refine hK _ ?_) | (with_reducible refine alt_T (hK _ ?_)) | (with_reducible refine alt_wrap (by omega) (hK _ ?_)) | (with_reducible refine alt_same (hK _ ?_)))) <;> (clear hK; clear K))
    | ((with_reducible refine T_actq fun K hK => ?_); simp; (try simp (disch := omega) only [wrap64]); (first | (with_reducible refine hK _ ?_) | (with_reducible refine alt_T (hK _ ?_)) | (with_reducible refine alt_wrap (by omega) (hK _ ?_)) | (with_reducible refine alt_same (hK _ ?_)) | (with_reducible refine alt_T' (hK _ ?_) ?_) | (with_reducible refine alt_wrap' (by omega) (hK _ ?_) ?_) | (with_reducible refine alt_same' (hK _ ?_) ?_) | (with_reducible refine And.intro ?_ (hK _ ?_)) | (refine fun _ => ?_; first | (with_reducible refine hK _ ?_) | (with_reducible refine alt_T (hK _ ?_)) | (with_reducible refine alt_wrap (by omega) (hK _ ?_)) | (with_reducible refine alt_same (hK _ ?_)))) <;> (clear hK; clear K))
    | (with_reducible refine T_two ?_ ?_)
    | ((with_reducible refine T_act0 fun K hK => ?_); simp; (try simp (disch := omega) only [wrap64]); (first | ((with_reducible refine hK _ ?_); (clear hK; clear K)) | ((with_reducible refine And.intro ?_ (hK _ ?_)) <;> (clear hK; clear K)) | (repeat' (with_reducible refine And.intro ?_ ?_)) | skip))
    | ((with_reducible refine T_actg fun K hK => ?_); first | (refine act_T rfl ?_; simp; (try simp (disch := omega) only [wrap64]); (first | ((with_reducible refine hK _ ?_); (clear hK; clear K)) | ((with_reducible refine And.intro ?_ (hK _ ?_)) <;> (clear hK; clear K)) | (repeat' (with_reducible refine And.intro ?_ ?_)) | skip)) | (refine act_F rfl ?_; simp; (with_reducible refine hK _ ?_); (clear hK; clear K)) | (refine act_N rfl ?_; simp; (with_reducible refine hK _ ?_); (clear hK; clear K)) | (refine act_c rfl fun c hc => ?_; cases c <;> (simp only [hc]; simp; (try simp (disch := omega) only [wrap64]); (try simp at hc); (first | ((with_reducible refine hK _ ?_); (clear hK; clear K)) | ((with_reducible refine And.intro ?_ (hK _ ?_)) <;> (clear hK; clear K)) | (repeat' (with_reducible refine And.intro ?_ ?_)) | skip))))
    | (with_reducible refine vc_block_i fun Y hY hN => ?_)
    | ((with_reducible refine vc_skip_i ?_); apply_assumption -exfalso -symm)
    | ((with_reducible refine vc_cond_i rfl ?_ ?_) <;> (intro hb; try simp at hb))
    | ((with_reducible refine vc_exit_i ?_); apply_assumption -exfalso -symm; try apply_assumption -exfalso -symm)
    | ((with_reducible refine vc_ret_i ?_); (with_reducible refine hR _ ?_); simp [r34]; skip)
    | ((with_reducible refine hR _ ?_); simp [r34]; skip)
    | ((with_reducible show vcCall _ _ _ _ _ _ _); refine call_0 (s50 _ _) ⟨wk_same, rfl, trivial⟩ ?_; rintro _ _ ⟨rfl, rfl⟩; simp; first | ((with_reducible refine hK _ ?_); (clear hK; clear K)) | (with_reducible apply_assumption -exfalso -symm))
    | (intros; omega))
  · refine ⟨⟨(i + 1, out), by simp; omega, by simp; omega, ?_⟩, by simp; omega, turn_id (by simp) rfl (by simp)⟩
    simp only
    rw [drop_getD default ‹_›] at hf
    simpa [stepO, hb, endO] using hf
  · have hi0 : i < mine.length := ‹_›
    have hbt : ¬ tag ∈ (mine[i]?.getD default).tags := hb
    refine loop_i {k : Nat // i ≤ k ∧ k < mine.length ∧ finO x rd tag ((mine.drop (k + 1)).foldl (stepO x rd tag) ((mine.drop i).take (k + 1 - i), out)) = R0} (fun s => ⟨[(1, I rd), (2, I tag), (11, .ptr 0 0), (12, Lrp mine), (14, .own 2), (15, I i), (16, I s.1)], [(2, ⟨61, 4, out.map aQ4, false⟩)], [(0, ⟨46, [Lint x.places, I x.period, I x.miss, I x.skew]⟩)], 3, 152⟩) (fun s => mine.length - s.1) ⟨i, Nat.le_refl _, hi0, ?_⟩ ?_ ?_
    · rw [drop_getD default hi0] at hf ⊢
      rw [show i + 1 - i = 1 by omega]
      simpa [stepO, hbt] using hf
    · exact turn_id (by simp) rfl (by simp)
    rintro ⟨k, hk, hk2, hfk⟩ K hK
    repeat' (first
      | (with_reducible refine vc_seq_i fun K hK => ?_)
      | (with_reducible refine vc_ops_i ?_)
      | ((with_reducible refine ops_nil ?_); apply_assumption -exfalso -symm)
      | ((with_reducible refine ops_q fun K hK => ?_); simp; (try simp (disch := omega) only [wrap64]); (first | (with_reducible refine hK _ ?_) | (with_reducible refine alt_T (hK _ ?_)) | (with_reducible refine alt_wrap (by omega) (hK _ ?_)) | (with_reducible refine alt_same (hK _ ?_)) | (with_reducible refine alt_T' (hK _ ?_) ?_) | (with_reducible refine alt_wrap' (by omega) (hK _ ?_) ?_) | (with_reducible refine alt_same' (hK _ ?_) ?_) | (with_reducible refine And.intro ?_ (hK _ ?_)) | (refine fun _ => ?_; first | (with_reducible refine hK _ ?_) | (with_reducible refine alt_T (hK _ ?_)) | (with_reducible refine alt_wrap (by omega) (hK _ ?_)) | (with_reducible refine alt_same (hK _ ?_)))) <;> (clear hK; clear K))
      | ((with_reducible refine ops_a0 fun K hK => ?_); simp; (try simp (disch := omega) only [wrap64]); (first | ((with_reducible refine hK _ ?_); (clear hK; clear K)) | ((with_reducible refine And.intro ?_ (hK _ ?_)) <;> (clear hK; clear K)) | (repeat' (with_reducible refine And.intro ?_ ?_)) | skip))
      | ((with_reducible refine ops_ag fun K hK => ?_); first | (refine act_T rfl ?_; simp; (try simp (disch := omega) only [wrap64]); (first | ((with_reducible refine hK _ ?_); (clear hK; clear K)) | ((with_reducible refine And.intro ?_ (hK _ ?_)) <;> (clear hK; clear K)) | (repeat' (with_reducible refine And.intro ?_ ?_)) | skip)) | (refine act_F rfl ?_; simp; (with_reducible refine hK _ ?_); (clear hK; clear K)) | (refine act_N rfl ?_; simp; (with_reducible refine hK _ ?_); (clear hK; clear K)) | (refine act_c rfl fun c hc => ?_; cases c <;> (simp only [hc]; simp; (try simp (disch := omega) only [wrap64]); (try simp at hc); (first | ((with_reducible refine hK _ ?_); (clear hK; clear K)) | ((with_reducible refine And.intro ?_ (hK _ ?_)) <;> (clear hK; clear K)) | (repeat' (with_reducible refine And.intro ?_ ?_)) | skip))))
      | (with_reducible refine vc_drw_i [] ?_)
      | ((with_reducible refine T_done ?_); apply_assumption -exfalso -symm)
      | ((with_reducible refine T_take (by simp) fun K hK => ?_); simp; (try simp (disch := omega) only [wrap64]); (first | (with_reducible refine hK _ ?_) | (with_reducible refine alt_T (hK _ ?_)) | (with_reducible refine alt_wrap (by omega) (hK _ ?_)) | (with_reducible refine alt_same (hK _ ?_)) | (with_reducible refine alt_T' (hK _ ?_) ?_) | (with_reducible refine alt_wrap' (by omega) (hK _ ?_) ?_) | (with_reducible refine alt_same' (hK _ ?_) ?_) | (with_reducible refine And.intro ?_ (hK _ ?_)) | (refine fun _ => ?_; first | (with_reducible refine hK _ ?_) | (with_reducible refine alt_T (hK _ ?_)) | (with_reducible refine alt_wrap (by omega) (hK _ ?_)) | (with_reducible refine alt_same (hK _ ?_)))) <;> (clear hK; clear K))
      | ((with_reducible refine T_actq fun K hK => ?_); simp; (try simp (disch := omega) only [wrap64]); (first | (with_reducible refine hK _ ?_) | (with_reducible refine alt_T (hK _ ?_)) | (with_reducible refine alt_wrap (by omega) (hK _ ?_)) | (with_reducible refine alt_same (hK _ ?_)) | (with_reducible refine alt_T' (hK _ ?_) ?_) | (with_reducible refine alt_wrap' (by omega) (hK _ ?_) ?_) | (with_reducible refine alt_same' (hK _ ?_) ?_) | (with_reducible refine And.intro ?_ (hK _ ?_)) | (refine fun _ => ?_; first | (with_reducible refine hK _ ?_) | (with_reducible refine alt_T (hK _ ?_)) | (with_reducible refine alt_wrap (by omega) (hK _ ?_)) | (with_reducible refine alt_same (hK _ ?_)))) <;> (clear hK; clear K))
      | (with_reducible refine T_two ?_ ?_)
      | ((with_reducible refine T_act0 fun K hK => ?_); simp; (try simp (disch := omega) only [wrap64]); (first | ((with_reducible refine hK _ ?_); (clear hK; clear K)) | ((with_reducible refine And.intro ?_ (hK _ ?_)) <;> (clear hK; clear K)) | (repeat' (with_reducible refine And.intro ?_ ?_)) | skip))
      | ((with_reducible refine T_actg fun K hK => ?_); first | (refine act_T rfl ?_; simp; (try simp (disch := omega) only [wrap64]); (first | ((with_reducible refine hK _ ?_); (clear hK; clear K)) | ((with_reducible refine And.intro ?_ (hK _ ?_)) <;> (clear hK; clear K)) | (repeat' (with_reducible refine And.intro ?_ ?_)) | skip)) | (refine act_F rfl ?_; simp; (with_reducible refine hK _ ?_); (clear hK; clear K)) | (refine act_N rfl ?_; simp; (with_reducible refine hK _ ?_); (clear hK; clear K)) | (refine act_c rfl fun c hc => ?_; cases c <;> (simp only [hc]; simp; (try simp (disch := omega) only [wrap64]); (try simp at hc); (first | ((with_reducible refine hK _ ?_); (clear hK; clear K)) | ((with_reducible refine And.intro ?_ (hK _ ?_)) <;> (clear hK; clear K)) | (repeat' (with_reducible refine And.intro ?_ ?_)) | skip))))
      | (with_reducible refine vc_block_i fun Y hY hN => ?_)
      | ((with_reducible refine vc_skip_i ?_); apply_assumption -exfalso -symm)
      | ((with_reducible refine vc_cond_i rfl ?_ ?_) <;> (intro hb; try simp at hb))
      | ((with_reducible refine vc_exit_i ?_); apply_assumption -exfalso -symm; try apply_assumption -exfalso -symm)
      | ((with_reducible refine vc_ret_i ?_); (with_reducible refine hR _ ?_); simp [r34]; skip)
      | ((with_reducible refine hR _ ?_); simp [r34]; skip)
      | ((with_reducible show vcCall _ _ _ _ _ _ _); refine call_0 (s50 _ _) ⟨wk_same, rfl, trivial⟩ ?_; rintro _ _ ⟨rfl, rfl⟩; simp; first | ((with_reducible refine hK _ ?_); (clear hK; clear K)) | (with_reducible apply_assumption -exfalso -symm))
      | ((with_reducible show vcCall _ _ _ _ _ _ _); refine call_0 (s51 _ _ _) ⟨⟨wk_same, rfl, rfl, rfl, trivial⟩, ⟨rfl, rfl, rfl, wk_same, trivial⟩, ⟨rfl, rfl, rfl, wk_same, trivial⟩, trivial⟩ ?_; rintro _ _ ⟨rfl, rfl⟩; simp; first | ((with_reducible refine hK _ ?_); (clear hK; clear K)) | (with_reducible apply_assumption -exfalso -symm))
      | (intros; omega))
    · refine ⟨⟨(k + 1, out ++ [⟨rd, tag, W ((mine[i]?.getD default).time + x.skew), W ((mine[k]?.getD default).time - x.skew)⟩]), by simp; omega, by simp; omega, ?_⟩, by simp; omega, turn_id (by simp) rfl (by simp)⟩
      have := close_run hk hk2 (.inl (by omega)) hfk
      rwa [endO_run hk hk2, if_pos hb] at this
    · refine ⟨⟨(k + 1, out), by simp; omega, by simp; omega, ?_⟩, by simp; omega, turn_id (by simp) rfl (by simp)⟩
      have := close_run hk hk2 (.inl (by omega)) hfk
      rwa [endO_run hk hk2, if_neg (fun h => absurd h.2 (Int.not_lt.2 (hb h.1)))] at this
    · refine ⟨⟨(k + 1, out ++ [⟨rd, tag, W ((mine[i]?.getD default).time + x.skew), W ((mine[k]?.getD default).time - x.skew)⟩]), by simp; omega, by simp; omega, ?_⟩, by simp; omega, turn_id (by simp) rfl (by simp)⟩
      have := close_run hk hk2 (.inr (.inl hc)) hfk
      rwa [endO_run hk hk2, if_pos hb] at this
    · refine ⟨⟨(k + 1, out), by simp; omega, by simp; omega, ?_⟩, by simp; omega, turn_id (by simp) rfl (by simp)⟩
      have := close_run hk hk2 (.inr (.inl hc)) hfk
      rwa [endO_run hk hk2, if_neg (fun h => absurd h.2 (Int.not_lt.2 (hb h.1)))] at this
    · refine ⟨⟨k + 1, by omega, by omega, ?_⟩, by simp; omega, turn_id (by simp) rfl (by simp)⟩
      rw [drop_getD default (show k + 1 < mine.length by omega)] at hfk
      simp only [List.foldl_cons] at hfk
      rw [stepO, if_neg hc, if_neg (by rw [run_last hk hk2]; simp [hb])] at hfk
      rw [show k + 1 + 1 - i = (k + 1 - i) + 1 by omega, take_getD default (by simp; omega)]
      rw [List.getElem?_drop, show i + (k + 1 - i) = k + 1 by omega]
      exact hfk
    · refine ⟨⟨(k + 1, out ++ [⟨rd, tag, W ((mine[i]?.getD default).time + x.skew), W ((mine[k]?.getD default).time - x.skew)⟩]), by simp; omega, by simp; omega, ?_⟩, by simp; omega, turn_id (by simp) rfl (by simp)⟩
      have := close_run hk hk2 (.inr (.inr ‹fol x _ _ = false›)) hfk
      rwa [endO_run hk hk2, if_pos hb] at this
    · refine ⟨⟨(k + 1, out), by simp; omega, by simp; omega, ?_⟩, by simp; omega, turn_id (by simp) rfl (by simp)⟩
      have := close_run hk hk2 (.inr (.inr ‹fol x _ _ = false›)) hfk
      rwa [endO_run hk hk2, if_neg (fun h => absurd h.2 (Int.not_lt.2 (hb h.1)))] at this
  · refine ret_frz (.tup [LQ4 out, I 0]) 2 ⟨wk_sl (by simp) (fun j hj => lq4_get out j hj), rfl, trivial⟩ (hQ _ _ ⟨?_, rfl⟩)
    rw [List.drop_of_length_le hb] at hf
    simp only [List.foldl_nil, finO, endO] at hf
    simp at hf
    rw [hf]
end Go.VV
