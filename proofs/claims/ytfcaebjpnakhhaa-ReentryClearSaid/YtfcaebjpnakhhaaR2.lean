/- Part of a proof: the laws of single functions of the given program, shown step by step. -/
import Derived.Test.YtfcaebjpnakhhaaCA
import Derived.Test.YtfcaebjpnakhhaaR1
set_option linter.unusedSimpArgs false
set_option linter.unusedVariables false
set_option linter.unnecessarySimpa false
namespace Go.VV
open Go.Proofs
set_option maxRecDepth 4000
noncomputable def inspF (w li : Int) (ro : List Int) (st si f s ti : Int) (hi : List Int) (ms : List (Int × Int)) (a b fi t : Int) : AV × Int :=
  if validE w li ro st si f s = false then (aEnt st si f s, 6)
  else if ¬ st = 0 then (aEnt st si f s, 10)
  else if inB t (maxI (maxI 0 si) fi) 2147483648 = false then (aEnt st si f s, 8)
  else if pairB a b = false then (aEnt st si f s, 19)
  else if fi < 0 ∨ IntKind.i64.wrap (t - w) < fi then (aEnt st si f s, 8)
  else if clearB w li ro ti hi ms t = false then (aEnt st si f s, 50)
  else (aEnt 1 t a b, 0)
theorem s28 (w li : Int) (ro : List Int) (st si f s ti : Int) (hi : List Int) (ms : List (Int × Int)) (a b fi t : Int) : Spec Try.prog 28 ⟨[], []⟩ 0 [aRule w li ro, aEnt st si f s, aFum ti hi, Lspan ms, I a, I b, I fi, I t] (fun r C' => r = .tup [(inspF w li ro st si f s ti hi ms a b fi t).1, I (inspF w li ro st si f s ti hi ms a b fi t).2] ∧ C' = ⟨[], []⟩) := by
  refine l28.go mixed no (by simp) fun Q hQ Rt hR => ?_
  unfold c28
  simp only [argT]
  repeat' (first
    | (with_reducible refine vc_seq_i fun K hK => ?_)
    | (with_reducible refine vc_ops_i ?_)
    | ((with_reducible refine ops_nil ?_); apply_assumption -exfalso -symm)
    | ((with_reducible refine ops_q fun K hK => ?_); simp; (try simp (disch := omega) only [wrap64]); (first | (with_reducible refine hK _ ?_) | (with_reducible refine alt_T (hK _ ?_)) | (with_reducible refine alt_wrap (by omega) (hK _ ?_)) | (with_reducible refine alt_same (hK _ ?_)) | (with_reducible refine alt_T' (hK _ ?_) ?_) | (with_reducible refine alt_wrap' (by omega) (hK _ ?_) ?_) | (with_reducible refine alt_same' (hK _ ?_) ?_) | (with_reducible refine And.intro ?_ (hK _ ?_)) | (refine fun _ => ?_; first | (with_reducible refine hK _ ?_) | (with_reducible refine alt_T (hK _ ?_)) | (with_reducible refine alt_wrap (by omega) (hK _ ?_)) | (with_reducible refine alt_same (hK _ ?_)))) <;> (clear hK; clear K))
    | ((with_reducible refine ops_a0 fun K hK => ?_); simp; (try simp (disch := omega) only [wrap64]); (first | ((with_reducible refine hK _ ?_); (clear hK; clear K)) | ((with_reducible refine And.intro ?_ (hK _ ?_)) <;> (clear hK; clear K)) | (repeat' (with_reducible refine And.intro ?_ ?_)) | skip))
    | ((with_reducible refine ops_ag fun K hK => ?_); first | (refine act_T rfl ?_; simp; (try simp (disch := omega) only [wrap64]); (first | ((with_reducible refine hK _ ?_); (clear hK; clear K)) | ((with_reducible refine And.intro ?_ (hK _ ?_)) <;> (clear hK; clear K)) | (repeat' (with_reducible refine And.intro ?_ ?_)) | skip)) | (refine act_F rfl ?_; simp; (with_reducible refine hK _ ?_); (clear hK; clear K)) | (refine act_N rfl ?_; simp; (with_reducible refine hK _ ?_); (clear hK; clear K)) | (refine act_c rfl fun c hc => ?_; cases c <;> (simp only [hc]; simp; (try simp (disch := omega) only [wrap64]); (try simp at hc); (first | ((with_reducible refine hK _ ?_); (clear hK; clear K)) | ((with_reducible refine And.intro ?_ (hK _ ?_)) <;> (clear hK; clear K)) | (repeat' (with_reducible refine And.intro ?_ ?_)) | skip))))
    | (with_reducible refine vc_drw_i [] ?_)
    | ((with_reducible refine T_done ?_); apply_assumption -exfalso -symm)
    | ((with_reducible refine T_take (by simp) fun K hK => ?_); simp; (try simp (disch := omega) only [wrap64]); (first | (with_reducible refine hK _ ?_) | (with_reducible refine alt_T (hK _ ?_)) | (with_reducible refine alt_wrap (by omega) (hK _ ?_)) | (with_reducible refine alt_same (hK _ ?_)) | (with_reducible refine alt_T' (hK _ ?_) ?_) | (with_reducible refine alt_wrap' (by omega) (hK _ ?_) ?_) | (with_reducible refine alt_same' (hK _ ?_) ?_) | (with_reducible refine And.intro ?_ (hK _ ?_)) | (refine fun _ => ?_; first | (with_reducible refine hK _ ?_) | (with_reducible refine alt_T (hK _ ?_)) | (with_reducible refine alt_wrap (by omega) (hK _ ?_)) | (with_reducible refine alt_same (hK _ ?_)))) <;> (clear hK; clear K))
    | ((with_reducible refine T_act0 fun K hK => ?_); simp; (try simp (disch := omega) only [wrap64]); (first | ((with_reducible refine hK _ ?_); (clear hK; clear K)) | ((with_reducible refine And.intro ?_ (hK _ ?_)) <;> (clear hK; clear K)) | (repeat' (with_reducible refine And.intro ?_ ?_)) | skip))
    | ((with_reducible refine T_actg fun K hK => ?_); first | (refine act_T rfl ?_; simp; (try simp (disch := omega) only [wrap64]); (first | ((with_reducible refine hK _ ?_); (clear hK; clear K)) | ((with_reducible refine And.intro ?_ (hK _ ?_)) <;> (clear hK; clear K)) | (repeat' (with_reducible refine And.intro ?_ ?_)) | skip)) | (refine act_F rfl ?_; simp; (with_reducible refine hK _ ?_); (clear hK; clear K)) | (refine act_N rfl ?_; simp; (with_reducible refine hK _ ?_); (clear hK; clear K)) | (refine act_c rfl fun c hc => ?_; cases c <;> (simp only [hc]; simp; (try simp (disch := omega) only [wrap64]); (try simp at hc); (first | ((with_reducible refine hK _ ?_); (clear hK; clear K)) | ((with_reducible refine And.intro ?_ (hK _ ?_)) <;> (clear hK; clear K)) | (repeat' (with_reducible refine And.intro ?_ ?_)) | skip))))
    | (with_reducible refine vc_block_i fun Y hY hN => ?_)
    | ((with_reducible refine vc_skip_i ?_); apply_assumption -exfalso -symm)
    | ((with_reducible refine vc_cond_i rfl ?_ ?_) <;> (intro hb; try simp at hb))
    | ((with_reducible refine vc_exit_i ?_); apply_assumption -exfalso -symm; try apply_assumption -exfalso -symm)
    | ((with_reducible refine vc_ret_i ?_); (with_reducible refine hR _ ?_); simp [r28]; (try refine ret_val (by simp) (hQ _ _ ?_)))
    | ((with_reducible refine hR _ ?_); simp [r28]; (try refine ret_val (by simp) (hQ _ _ ?_)))
    | ((with_reducible show vcCall _ _ _ _ _ _ _); refine call_0 (s30 _ _ _ _ _ _ _) ⟨⟨rfl, rfl, ⟨Or.inl ⟨_, rfl, fun _ _ => rfl⟩, trivial⟩⟩, ⟨rfl, rfl, rfl, rfl, trivial⟩, trivial⟩ ?_; rintro _ _ ⟨rfl, rfl⟩; simp; first | ((with_reducible refine hK _ ?_); (clear hK; clear K)) | (with_reducible apply_assumption -exfalso -symm))
    | ((with_reducible show vcCall _ _ _ _ _ _ _); refine call_0 (s38 _ _ _) ⟨rfl, rfl, rfl, trivial⟩ ?_; rintro _ _ ⟨rfl, rfl⟩; simp; first | ((with_reducible refine hK _ ?_); (clear hK; clear K)) | (with_reducible apply_assumption -exfalso -symm))
    | ((with_reducible show vcCall _ _ _ _ _ _ _); refine call_0 (s48 _ _) ⟨rfl, rfl, trivial⟩ ?_; rintro _ _ ⟨rfl, rfl⟩; simp; first | ((with_reducible refine hK _ ?_); (clear hK; clear K)) | (with_reducible apply_assumption -exfalso -symm))
    | ((with_reducible show vcCall _ _ _ _ _ _ _); refine call_0 (s13 _ _ _ _ _ _ _) ⟨⟨rfl, rfl, ⟨Or.inl ⟨_, rfl, fun _ _ => rfl⟩, trivial⟩⟩, ⟨rfl, Or.inl ⟨_, rfl, fun _ _ => rfl⟩, trivial⟩, Or.inl ⟨_, rfl, fun _ _ => rfl⟩, rfl, trivial⟩ ?_; rintro _ _ ⟨rfl, rfl⟩; simp; first | ((with_reducible refine hK _ ?_); (clear hK; clear K)) | (with_reducible apply_assumption -exfalso -symm))
    | (intros; omega))
  all_goals (clear hQ hR; simp_all [inspF]; try omega)
  all_goals (rw [if_neg (by omega)]; simp)
noncomputable def relF (w li : Int) (ro : List Int) (st si f s ti : Int) (hi : List Int) (ms : List (Int × Int)) (t : Int) : AV × Int :=
  if validE w li ro st si f s = false then (aEnt st si f s, 6)
  else if ¬ st = 1 then (aEnt st si f s, 10)
  else if inB t si 2147483648 = false then (aEnt st si f s, 8)
  else if clearB w li ro ti hi ms t = false then (aEnt st si f s, 50)
  else (aEnt 2 t f s, 0)
theorem s29 (w li : Int) (ro : List Int) (st si f s ti : Int) (hi : List Int) (ms : List (Int × Int)) (t : Int) : Spec Try.prog 29 ⟨[], []⟩ 0 [aRule w li ro, aEnt st si f s, aFum ti hi, Lspan ms, I t] (fun r C' => r = .tup [(relF w li ro st si f s ti hi ms t).1, I (relF w li ro st si f s ti hi ms t).2] ∧ C' = ⟨[], []⟩) := by
  refine l29.go mixed no (by simp) fun Q hQ Rt hR => ?_
  unfold c29
  simp only [argT]
  repeat' (first
    | (with_reducible refine vc_seq_i fun K hK => ?_)
    | (with_reducible refine vc_ops_i ?_)
    | ((with_reducible refine ops_nil ?_); apply_assumption -exfalso -symm)
    | ((with_reducible refine ops_q fun K hK => ?_); simp; (try simp (disch := omega) only [wrap64]); (first | (with_reducible refine hK _ ?_) | (with_reducible refine alt_T (hK _ ?_)) | (with_reducible refine alt_wrap (by omega) (hK _ ?_)) | (with_reducible refine alt_same (hK _ ?_)) | (with_reducible refine alt_T' (hK _ ?_) ?_) | (with_reducible refine alt_wrap' (by omega) (hK _ ?_) ?_) | (with_reducible refine alt_same' (hK _ ?_) ?_) | (with_reducible refine And.intro ?_ (hK _ ?_)) | (refine fun _ => ?_; first | (with_reducible refine hK _ ?_) | (with_reducible refine alt_T (hK _ ?_)) | (with_reducible refine alt_wrap (by omega) (hK _ ?_)) | (with_reducible refine alt_same (hK _ ?_)))) <;> (clear hK; clear K))
    | ((with_reducible refine ops_a0 fun K hK => ?_); simp; (try simp (disch := omega) only [wrap64]); (first | ((with_reducible refine hK _ ?_); (clear hK; clear K)) | ((with_reducible refine And.intro ?_ (hK _ ?_)) <;> (clear hK; clear K)) | (repeat' (with_reducible refine And.intro ?_ ?_)) | skip))
    | ((with_reducible refine ops_ag fun K hK => ?_); first | (refine act_T rfl ?_; simp; (try simp (disch := omega) only [wrap64]); (first | ((with_reducible refine hK _ ?_); (clear hK; clear K)) | ((with_reducible refine And.intro ?_ (hK _ ?_)) <;> (clear hK; clear K)) | (repeat' (with_reducible refine And.intro ?_ ?_)) | skip)) | (refine act_F rfl ?_; simp; (with_reducible refine hK _ ?_); (clear hK; clear K)) | (refine act_N rfl ?_; simp; (with_reducible refine hK _ ?_); (clear hK; clear K)) | (refine act_c rfl fun c hc => ?_; cases c <;> (simp only [hc]; simp; (try simp (disch := omega) only [wrap64]); (try simp at hc); (first | ((with_reducible refine hK _ ?_); (clear hK; clear K)) | ((with_reducible refine And.intro ?_ (hK _ ?_)) <;> (clear hK; clear K)) | (repeat' (with_reducible refine And.intro ?_ ?_)) | skip))))
    | (with_reducible refine vc_drw_i [] ?_)
    | ((with_reducible refine T_done ?_); apply_assumption -exfalso -symm)
    | ((with_reducible refine T_take (by simp) fun K hK => ?_); simp; (try simp (disch := omega) only [wrap64]); (first | (with_reducible refine hK _ ?_) | (with_reducible refine alt_T (hK _ ?_)) | (with_reducible refine alt_wrap (by omega) (hK _ ?_)) | (with_reducible refine alt_same (hK _ ?_)) | (with_reducible refine alt_T' (hK _ ?_) ?_) | (with_reducible refine alt_wrap' (by omega) (hK _ ?_) ?_) | (with_reducible refine alt_same' (hK _ ?_) ?_) | (with_reducible refine And.intro ?_ (hK _ ?_)) | (refine fun _ => ?_; first | (with_reducible refine hK _ ?_) | (with_reducible refine alt_T (hK _ ?_)) | (with_reducible refine alt_wrap (by omega) (hK _ ?_)) | (with_reducible refine alt_same (hK _ ?_)))) <;> (clear hK; clear K))
    | ((with_reducible refine T_act0 fun K hK => ?_); simp; (try simp (disch := omega) only [wrap64]); (first | ((with_reducible refine hK _ ?_); (clear hK; clear K)) | ((with_reducible refine And.intro ?_ (hK _ ?_)) <;> (clear hK; clear K)) | (repeat' (with_reducible refine And.intro ?_ ?_)) | skip))
    | ((with_reducible refine T_actg fun K hK => ?_); first | (refine act_T rfl ?_; simp; (try simp (disch := omega) only [wrap64]); (first | ((with_reducible refine hK _ ?_); (clear hK; clear K)) | ((with_reducible refine And.intro ?_ (hK _ ?_)) <;> (clear hK; clear K)) | (repeat' (with_reducible refine And.intro ?_ ?_)) | skip)) | (refine act_F rfl ?_; simp; (with_reducible refine hK _ ?_); (clear hK; clear K)) | (refine act_N rfl ?_; simp; (with_reducible refine hK _ ?_); (clear hK; clear K)) | (refine act_c rfl fun c hc => ?_; cases c <;> (simp only [hc]; simp; (try simp (disch := omega) only [wrap64]); (try simp at hc); (first | ((with_reducible refine hK _ ?_); (clear hK; clear K)) | ((with_reducible refine And.intro ?_ (hK _ ?_)) <;> (clear hK; clear K)) | (repeat' (with_reducible refine And.intro ?_ ?_)) | skip))))
    | (with_reducible refine vc_block_i fun Y hY hN => ?_)
    | ((with_reducible refine vc_skip_i ?_); apply_assumption -exfalso -symm)
    | ((with_reducible refine vc_cond_i rfl ?_ ?_) <;> (intro hb; try simp at hb))
    | ((with_reducible refine vc_exit_i ?_); apply_assumption -exfalso -symm; try apply_assumption -exfalso -symm)
    | ((with_reducible refine vc_ret_i ?_); (with_reducible refine hR _ ?_); simp [r29]; (try refine ret_val (by simp) (hQ _ _ ?_)))
    | ((with_reducible refine hR _ ?_); simp [r29]; (try refine ret_val (by simp) (hQ _ _ ?_)))
    | ((with_reducible show vcCall _ _ _ _ _ _ _); refine call_0 (s30 _ _ _ _ _ _ _) ⟨⟨rfl, rfl, ⟨Or.inl ⟨_, rfl, fun _ _ => rfl⟩, trivial⟩⟩, ⟨rfl, rfl, rfl, rfl, trivial⟩, trivial⟩ ?_; rintro _ _ ⟨rfl, rfl⟩; simp; first | ((with_reducible refine hK _ ?_); (clear hK; clear K)) | (with_reducible apply_assumption -exfalso -symm))
    | ((with_reducible show vcCall _ _ _ _ _ _ _); refine call_0 (s38 _ _ _) ⟨rfl, rfl, rfl, trivial⟩ ?_; rintro _ _ ⟨rfl, rfl⟩; simp; first | ((with_reducible refine hK _ ?_); (clear hK; clear K)) | (with_reducible apply_assumption -exfalso -symm))
    | ((with_reducible show vcCall _ _ _ _ _ _ _); refine call_0 (s48 _ _) ⟨rfl, rfl, trivial⟩ ?_; rintro _ _ ⟨rfl, rfl⟩; simp; first | ((with_reducible refine hK _ ?_); (clear hK; clear K)) | (with_reducible apply_assumption -exfalso -symm))
    | ((with_reducible show vcCall _ _ _ _ _ _ _); refine call_0 (s13 _ _ _ _ _ _ _) ⟨⟨rfl, rfl, ⟨Or.inl ⟨_, rfl, fun _ _ => rfl⟩, trivial⟩⟩, ⟨rfl, Or.inl ⟨_, rfl, fun _ _ => rfl⟩, trivial⟩, Or.inl ⟨_, rfl, fun _ _ => rfl⟩, rfl, trivial⟩ ?_; rintro _ _ ⟨rfl, rfl⟩; simp; first | ((with_reducible refine hK _ ?_); (clear hK; clear K)) | (with_reducible apply_assumption -exfalso -symm))
    | (intros; omega))
  all_goals (clear hQ hR; simp_all [relF]; try omega)
theorem lspan_get (l : List (Int × Int)) (j : Nat) (hj : j < l.length) : AV.ag [I (l[j]?.getD (0, 0)).1, I (l[j]?.getD (0, 0)).2] = (l.map fun x => AV.ag [I x.1, I x.2]).getD j .top := by
  simp [List.getD_eq_getElem?_getD, List.getElem?_eq_getElem hj]
theorem v1 (st si f s : Int) (h : (st = 0 ∧ si = 0 ∧ f = 0 ∧ s = 0) ∨ (st = 1 ∧ si = 1900 ∧ f = 1 ∧ s = 2)) : validE 1800 30 [0] st si f s = true := by
  rcases h with ⟨rfl, rfl, rfl, rfl⟩ | ⟨rfl, rfl, rfl, rfl⟩ <;> simp [validE, rises, inB, pairB]
theorem cl1 (t : Int) (h : 0 ≤ t) : clearB 1800 30 [0] 0 [20] [(0, 25)] t = true := by
  simp [clearB, v1, okAt, h]
theorem cl2 (t : Int) : clearB 1800 30 [0] 0 [20] [(0, 40)] t = false := by
  simp [clearB, v1, okAt]
theorem a1 : inspF 1800 30 [0] 0 0 0 0 0 [20] [(0, 25)] 1 2 100 1800 = (aEnt 0 0 0 0, 8) := by
  simp [inspF, v1, inB, pairB, maxI, wrap64]
theorem a2 : inspF 1800 30 [0] 0 0 0 0 0 [20] [(0, 25)] 1 2 100 1900 = (aEnt 1 1900 1 2, 0) := by
  simp [inspF, v1, inB, pairB, maxI, wrap64, cl1]
theorem a3 : relF 1800 30 [0] 1 1900 1 2 0 [20] [(0, 25)] 2000 = (aEnt 2 2000 1 2, 0) := by
  simp [relF, v1, inB, pairB, maxI, wrap64, cl1]
theorem s9 : Spec Try.prog 9 ⟨[], []⟩ 0 [] (fun r C' => r = .bool true ∧ C' = ⟨[], []⟩) := by
  have h1 := s28 1800 30 [0] 0 0 0 0 0 [20] [(0, 25)] 1 2 100 1800
  have h2 := s28 1800 30 [0] 0 0 0 0 0 [20] [(0, 25)] 1 2 100 1900
  have h3 := s29 1800 30 [0] 1 1900 1 2 0 [20] [(0, 25)] 2000
  have h4 := s13 1800 30 [0] 0 [20] [(0, 40)] 2000
  rw [a1] at h1
  rw [a2] at h2
  rw [a3] at h3
  rw [cl2] at h4
  refine l9.go mixed no (by simp) fun Q hQ Rt hR => ?_
  unfold c9
  simp only [argT]
  repeat' (first
    | (with_reducible refine vc_seq_i fun K hK => ?_)
    | (with_reducible refine vc_ops_i ?_)
    | ((with_reducible refine ops_nil ?_); apply_assumption -exfalso -symm)
    | ((with_reducible refine ops_q fun K hK => ?_); simp; (try simp (disch := omega) only [wrap64]); (first | (with_reducible refine hK _ ?_) | (with_reducible refine alt_T (hK _ ?_)) | (with_reducible refine alt_wrap (by omega) (hK _ ?_)) | (with_reducible refine alt_same (hK _ ?_)) | (with_reducible refine alt_T' (hK _ ?_) ?_) | (with_reducible refine alt_wrap' (by omega) (hK _ ?_) ?_) | (with_reducible refine alt_same' (hK _ ?_) ?_) | (with_reducible refine And.intro ?_ (hK _ ?_)) | (refine fun _ => ?_; first | (with_reducible refine hK _ ?_) | (with_reducible refine alt_T (hK _ ?_)) | (with_reducible refine alt_wrap (by omega) (hK _ ?_)) | (with_reducible refine alt_same (hK _ ?_)))) <;> (clear hK; clear K))
    | ((with_reducible refine ops_a0 fun K hK => ?_); simp; (try simp (disch := omega) only [wrap64]); (first | ((with_reducible refine hK _ ?_); (clear hK; clear K)) | ((with_reducible refine And.intro ?_ (hK _ ?_)) <;> (clear hK; clear K)) | (repeat' (with_reducible refine And.intro ?_ ?_)) | skip))
    | ((with_reducible refine ops_ag fun K hK => ?_); first | (refine act_T rfl ?_; simp; (try simp (disch := omega) only [wrap64]); (first | ((with_reducible refine hK _ ?_); (clear hK; clear K)) | ((with_reducible refine And.intro ?_ (hK _ ?_)) <;> (clear hK; clear K)) | (repeat' (with_reducible refine And.intro ?_ ?_)) | skip)) | (refine act_F rfl ?_; simp; (with_reducible refine hK _ ?_); (clear hK; clear K)) | (refine act_N rfl ?_; simp; (with_reducible refine hK _ ?_); (clear hK; clear K)) | (refine act_c rfl fun c hc => ?_; cases c <;> (simp only [hc]; simp; (try simp (disch := omega) only [wrap64]); (try simp at hc); (first | ((with_reducible refine hK _ ?_); (clear hK; clear K)) | ((with_reducible refine And.intro ?_ (hK _ ?_)) <;> (clear hK; clear K)) | (repeat' (with_reducible refine And.intro ?_ ?_)) | skip))))
    | (with_reducible refine vc_drw_i [] ?_)
    | ((with_reducible refine T_done ?_); apply_assumption -exfalso -symm)
    | ((with_reducible refine T_take (by simp) fun K hK => ?_); simp; (try simp (disch := omega) only [wrap64]); (first | (with_reducible refine hK _ ?_) | (with_reducible refine alt_T (hK _ ?_)) | (with_reducible refine alt_wrap (by omega) (hK _ ?_)) | (with_reducible refine alt_same (hK _ ?_)) | (with_reducible refine alt_T' (hK _ ?_) ?_) | (with_reducible refine alt_wrap' (by omega) (hK _ ?_) ?_) | (with_reducible refine alt_same' (hK _ ?_) ?_) | (with_reducible refine And.intro ?_ (hK _ ?_)) | (refine fun _ => ?_; first | (with_reducible refine hK _ ?_) | (with_reducible refine alt_T (hK _ ?_)) | (with_reducible refine alt_wrap (by omega) (hK _ ?_)) | (with_reducible refine alt_same (hK _ ?_)))) <;> (clear hK; clear K))
    | ((with_reducible refine T_act0 fun K hK => ?_); simp; (try simp (disch := omega) only [wrap64]); (first | ((with_reducible refine hK _ ?_); (clear hK; clear K)) | ((with_reducible refine And.intro ?_ (hK _ ?_)) <;> (clear hK; clear K)) | (repeat' (with_reducible refine And.intro ?_ ?_)) | skip))
    | ((with_reducible refine T_actg fun K hK => ?_); first | (refine act_T rfl ?_; simp; (try simp (disch := omega) only [wrap64]); (first | ((with_reducible refine hK _ ?_); (clear hK; clear K)) | ((with_reducible refine And.intro ?_ (hK _ ?_)) <;> (clear hK; clear K)) | (repeat' (with_reducible refine And.intro ?_ ?_)) | skip)) | (refine act_F rfl ?_; simp; (with_reducible refine hK _ ?_); (clear hK; clear K)) | (refine act_N rfl ?_; simp; (with_reducible refine hK _ ?_); (clear hK; clear K)) | (refine act_c rfl fun c hc => ?_; cases c <;> (simp only [hc]; simp; (try simp (disch := omega) only [wrap64]); (try simp at hc); (first | ((with_reducible refine hK _ ?_); (clear hK; clear K)) | ((with_reducible refine And.intro ?_ (hK _ ?_)) <;> (clear hK; clear K)) | (repeat' (with_reducible refine And.intro ?_ ?_)) | skip))))
    | (with_reducible refine vc_block_i fun Y hY hN => ?_)
    | ((with_reducible refine vc_skip_i ?_); apply_assumption -exfalso -symm)
    | ((with_reducible refine vc_cond_i rfl ?_ ?_) <;> (intro hb; try simp at hb))
    | ((with_reducible refine vc_exit_i ?_); apply_assumption -exfalso -symm; try apply_assumption -exfalso -symm)
    | ((with_reducible refine vc_ret_i ?_); (with_reducible refine hR _ ?_); simp [r9]; (try refine ret_val (by simp) (hQ _ _ ?_)))
    | ((with_reducible refine hR _ ?_); simp [r9]; (try refine ret_val (by simp) (hQ _ _ ?_)))
    | ((with_reducible show vcCall _ _ _ _ _ _ _); refine call_0 (h1) ⟨⟨rfl, rfl, ⟨Or.inl ⟨_, rfl, lint_get [0]⟩, trivial⟩⟩, ⟨rfl, rfl, rfl, rfl, trivial⟩, ⟨rfl, Or.inl ⟨_, rfl, lint_get [20]⟩, trivial⟩, Or.inl ⟨_, rfl, lspan_get [(0, 25)]⟩, rfl, rfl, rfl, rfl, trivial⟩ ?_; rintro _ _ ⟨rfl, rfl⟩; simp; first | ((with_reducible refine hK _ ?_); (clear hK; clear K)) | (with_reducible apply_assumption -exfalso -symm))
    | ((with_reducible show vcCall _ _ _ _ _ _ _); refine call_0 (h2) ⟨⟨rfl, rfl, ⟨Or.inl ⟨_, rfl, lint_get [0]⟩, trivial⟩⟩, ⟨rfl, rfl, rfl, rfl, trivial⟩, ⟨rfl, Or.inl ⟨_, rfl, lint_get [20]⟩, trivial⟩, Or.inl ⟨_, rfl, lspan_get [(0, 25)]⟩, rfl, rfl, rfl, rfl, trivial⟩ ?_; rintro _ _ ⟨rfl, rfl⟩; simp; first | ((with_reducible refine hK _ ?_); (clear hK; clear K)) | (with_reducible apply_assumption -exfalso -symm))
    | ((with_reducible show vcCall _ _ _ _ _ _ _); refine call_0 (h3) ⟨⟨rfl, rfl, ⟨Or.inl ⟨_, rfl, lint_get [0]⟩, trivial⟩⟩, ⟨rfl, rfl, rfl, rfl, trivial⟩, ⟨rfl, Or.inl ⟨_, rfl, lint_get [20]⟩, trivial⟩, Or.inl ⟨_, rfl, lspan_get [(0, 25)]⟩, rfl, trivial⟩ ?_; rintro _ _ ⟨rfl, rfl⟩; simp; first | ((with_reducible refine hK _ ?_); (clear hK; clear K)) | (with_reducible apply_assumption -exfalso -symm))
    | ((with_reducible show vcCall _ _ _ _ _ _ _); refine call_0 (h4) ⟨⟨rfl, rfl, ⟨Or.inl ⟨_, rfl, lint_get [0]⟩, trivial⟩⟩, ⟨rfl, Or.inl ⟨_, rfl, lint_get [20]⟩, trivial⟩, Or.inl ⟨_, rfl, lspan_get [(0, 40)]⟩, rfl, trivial⟩ ?_; rintro _ _ ⟨rfl, rfl⟩; simp; first | ((with_reducible refine hK _ ?_); (clear hK; clear K)) | (with_reducible apply_assumption -exfalso -symm))
    | (intros; omega))
  simp
end Go.VV
