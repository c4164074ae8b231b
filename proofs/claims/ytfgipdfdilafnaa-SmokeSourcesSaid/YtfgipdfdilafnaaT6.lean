/- Part of a proof: the laws of single functions of the given program, shown step by step. -/
import Derived.Test.YtfgipdfdilafnaaC1
import Derived.Test.YtfgipdfdilafnaaT5
set_option linter.unusedSimpArgs false
set_option linter.unusedVariables false
set_option linter.unnecessarySimpa false
namespace Go.VV
open Go.Proofs
set_option maxRecDepth 4000
set_option maxHeartbeats 8000000
abbrev aPl (p : Int × Bool) : AV := .ag [I p.1, Bo p.2]
structure Ro where
  f : Int
  t : Int
  len : Int
  area : Int
  walk : Bool
  closed : Bool
  r1 : Int
  r2 : Int
  l1 : Int
  l2 : Int
  deriving Inhabited
abbrev aRo (r : Ro) : AV := .ag [I r.f, I r.t, I r.len, I r.area, Bo r.walk, Bo r.closed, I r.r1, I r.r2, I r.l1, I r.l2]
abbrev Lpl (l : List (Int × Bool)) : AV := .sl 2 l.length fun j => aPl (l[j]?.getD default)
abbrev Lro (l : List Ro) : AV := .sl 10 l.length fun j => aRo (l[j]?.getD default)
structure Mn where
  ps : List (Int × Bool)
  rs : List Ro
abbrev aMn (m : Mn) : AV := .ag [Lpl m.ps, Lro m.rs]
def okP (p : Int × Bool) : Prop := -30 ≤ p.1 ∧ p.1 ≤ 0
def okR (n : Int) (r : Ro) : Prop := (0 ≤ r.f ∧ r.f < n) ∧ (0 ≤ r.t ∧ r.t < n) ∧ r.f ≠ r.t ∧ (1 ≤ r.len ∧ r.len ≤ 200) ∧ (1 ≤ r.area ∧ r.area ≤ 20) ∧ r.r1 = 1 ∧ r.r2 = 1 ∧ r.l1 = 0 ∧ r.l2 = 0
/-- The road to the place j + 1, in a mine that is made. -/
def okT (j : Nat) (r : Ro) : Prop := r.t = j + 1 ∧ r.f ≤ j ∧ r.walk = true ∧ r.closed = false
structure okM (m : Mn) : Prop where
  n2 : 2 ≤ m.ps.length
  n7 : m.ps.length ≤ 7
  ps : ∀ p ∈ m.ps, okP p
  top : (m.ps[0]?.getD default).2 = true
  r9 : m.rs.length ≤ 10
  rn : m.ps.length ≤ m.rs.length + 1
  rs : ∀ r ∈ m.rs, okR m.ps.length r
  tree : ∀ j : Nat, j + 1 < m.ps.length → okT j (m.rs[j]?.getD default)
theorem forall_snoc {α : Type} {p : α → Prop} {l : List α} {x : α} (h : ∀ y ∈ l, p y) (hx : p x) : ∀ y ∈ l ++ [x], p y := by
  intro y hy
  rcases List.mem_append.1 hy with hy | hy
  · exact h y hy
  · simp only [List.mem_singleton] at hy
    exact hy ▸ hx
theorem lpl_get (l : List (Int × Bool)) (j : Nat) (hj : j < l.length) : aPl (l[j]?.getD default) = (l.map aPl).getD j .top := by
  simp [List.getD_eq_getElem?_getD, List.getElem?_eq_getElem hj]
theorem lro_get (l : List Ro) (j : Nat) (hj : j < l.length) : aRo (l[j]?.getD default) = (l.map aRo).getD j .top := by
  simp [List.getD_eq_getElem?_getD, List.getElem?_eq_getElem hj]
theorem s10 (L : List Int) (a : Nat) : Spec Try.prog 10 (diceC L a) 1 [.ptr 0 0] (fun v C' => ∃ (m : Mn) (b : Nat), okM m ∧ v = aMn m ∧ C' = diceC L b) := by
  refine l10.go mixed no (by simp) fun Q hQ Rt hR => ?_
  unfold c10
  simp only [argT]
  repeat' (first
    | (with_reducible refine vc_seq_j (x := .seq _ (.cond (.t 19) _ _)) {n : Nat × Nat // 2 ≤ n.1 ∧ n.1 ≤ 7} (fun s => ⟨[(0, .ptr 0 0), (2, .ptr 1 0), (3, .ptr 2 0), (4, I s.1.1)], [], [(0, ⟨60, [Lint L, I s.1.2]⟩), (1, ⟨30, [.nils, .nils]⟩), (2, ⟨30, [.nils, .nils]⟩)], 7, 124⟩) (fun K hK => ?_) (fun s => ?_))
    | (with_reducible refine vc_seq_i fun K hK => ?_)
    | (with_reducible refine vc_ops_i ?_)
    | ((with_reducible refine ops_nil ?_); apply_assumption -exfalso -symm)
    | ((with_reducible refine ops_q fun K hK => ?_); simp; (try simp (disch := omega) only [wrap64]); (first | (with_reducible refine hK _ ?_) | (with_reducible refine alt_T (hK _ ?_)) | (with_reducible refine alt_wrap (by omega) (hK _ ?_)) | (with_reducible refine alt_same (hK _ ?_)) | (with_reducible refine alt_T' (hK _ ?_) ?_) | (with_reducible refine alt_wrap' (by omega) (hK _ ?_) ?_) | (with_reducible refine alt_same' (hK _ ?_) ?_) | (with_reducible refine And.intro ?_ (hK _ ?_)) | (refine fun _ => ?_; first | (with_reducible refine hK _ ?_) | (with_reducible refine alt_T (hK _ ?_)) | (with_reducible refine alt_wrap (by omega) (hK _ ?_)) | (with_reducible refine alt_same (hK _ ?_)))) <;> (clear hK; clear K))
    | ((with_reducible refine ops_a0 fun K hK => ?_); simp; (try simp (disch := omega) only [wrap64]); (first | ((with_reducible refine hK _ ?_); (clear hK; clear K)) | ((with_reducible refine And.intro ?_ (hK _ ?_)) <;> (clear hK; clear K)) | (repeat' (with_reducible refine And.intro ?_ ?_)) | skip))
    | ((with_reducible refine ops_ag fun K hK => ?_); first | (refine act_T rfl ?_; simp; (try simp (disch := omega) only [wrap64]); (first | ((with_reducible refine hK _ ?_); (clear hK; clear K)) | ((with_reducible refine And.intro ?_ (hK _ ?_)) <;> (clear hK; clear K)) | (repeat' (with_reducible refine And.intro ?_ ?_)) | skip)) | (refine act_F rfl ?_; simp; (with_reducible refine hK _ ?_); (clear hK; clear K)) | (refine act_N rfl ?_; simp; (with_reducible refine hK _ ?_); (clear hK; clear K)) | (refine act_c rfl fun c hc => ?_; cases c <;> (simp only [hc]; simp; (try simp (disch := omega) only [wrap64]); (try simp at hc); (first | ((with_reducible refine hK _ ?_); (clear hK; clear K)) | ((with_reducible refine And.intro ?_ (hK _ ?_)) <;> (clear hK; clear K)) | (repeat' (with_reducible refine And.intro ?_ ?_)) | skip))))
    | (with_reducible refine vc_drw_i [] ?_)
    | ((with_reducible refine T_done ?_); apply_assumption -exfalso -symm)
    | ((with_reducible refine T_take (by simp) fun K hK => ?_); simp; (try simp (disch := omega) only [wrap64]); (first | (with_reducible refine hK _ ?_) | (with_reducible refine alt_T (hK _ ?_)) | (with_reducible refine alt_wrap (by omega) (hK _ ?_)) | (with_reducible refine alt_same (hK _ ?_)) | (with_reducible refine alt_T' (hK _ ?_) ?_) | (with_reducible refine alt_wrap' (by omega) (hK _ ?_) ?_) | (with_reducible refine alt_same' (hK _ ?_) ?_) | (with_reducible refine And.intro ?_ (hK _ ?_)) | (refine fun _ => ?_; first | (with_reducible refine hK _ ?_) | (with_reducible refine alt_T (hK _ ?_)) | (with_reducible refine alt_wrap (by omega) (hK _ ?_)) | (with_reducible refine alt_same (hK _ ?_)))) <;> (clear hK; clear K))
    | ((with_reducible refine T_actq fun K hK => ?_); simp; (try simp (disch := omega) only [wrap64]); (first | (with_reducible refine hK _ ?_) | (with_reducible refine alt_T (hK _ ?_)) | (with_reducible refine alt_wrap (by omega) (hK _ ?_)) | (with_reducible refine alt_same (hK _ ?_)) | (with_reducible refine alt_T' (hK _ ?_) ?_) | (with_reducible refine alt_wrap' (by omega) (hK _ ?_) ?_) | (with_reducible refine alt_same' (hK _ ?_) ?_) | (with_reducible refine And.intro ?_ (hK _ ?_)) | (refine fun _ => ?_; first | (with_reducible refine hK _ ?_) | (with_reducible refine alt_T (hK _ ?_)) | (with_reducible refine alt_wrap (by omega) (hK _ ?_)) | (with_reducible refine alt_same (hK _ ?_)))) <;> (clear hK; clear K))
    | ((with_reducible refine T_fg ?_); simp)
    | ((with_reducible refine T_lz (by simp) fun K hK => ?_); simp; (try simp (disch := omega) only [wrap64]); (first | ((with_reducible refine hK _ ?_); (clear hK; clear K)) | ((with_reducible refine And.intro ?_ (hK _ ?_)) <;> (clear hK; clear K)) | (repeat' (with_reducible refine And.intro ?_ ?_)) | skip))
    | (with_reducible refine T_two ?_ ?_)
    | (with_reducible refine T_three ?_ ?_ ?_)
    | ((with_reducible refine T_act0 fun K hK => ?_); simp; (try simp (disch := omega) only [wrap64]); (first | ((with_reducible refine hK _ ?_); (clear hK; clear K)) | ((with_reducible refine And.intro ?_ (hK _ ?_)) <;> (clear hK; clear K)) | (repeat' (with_reducible refine And.intro ?_ ?_)) | skip))
    | ((with_reducible refine T_actg fun K hK => ?_); first | (refine act_T rfl ?_; simp; (try simp (disch := omega) only [wrap64]); (first | ((with_reducible refine hK _ ?_); (clear hK; clear K)) | ((with_reducible refine And.intro ?_ (hK _ ?_)) <;> (clear hK; clear K)) | (repeat' (with_reducible refine And.intro ?_ ?_)) | skip)) | (refine act_F rfl ?_; simp; (with_reducible refine hK _ ?_); (clear hK; clear K)) | (refine act_N rfl ?_; simp; (with_reducible refine hK _ ?_); (clear hK; clear K)) | (refine act_c rfl fun c hc => ?_; cases c <;> (simp only [hc]; simp; (try simp (disch := omega) only [wrap64]); (try simp at hc); (first | ((with_reducible refine hK _ ?_); (clear hK; clear K)) | ((with_reducible refine And.intro ?_ (hK _ ?_)) <;> (clear hK; clear K)) | (repeat' (with_reducible refine And.intro ?_ ?_)) | skip))))
    | (with_reducible refine vc_block_i fun Y hY hN => ?_)
    | ((with_reducible refine vc_skip_i ?_); apply_assumption -exfalso -symm)
    | ((with_reducible refine vc_cond_i rfl ?_ ?_) <;> (intro hb; try simp at hb))
    | ((with_reducible refine vc_dead_i ?_); first | omega | (exfalso; simp_all; done) | skip)
    | ((with_reducible refine vc_exit_i ?_); apply_assumption -exfalso -symm; try apply_assumption -exfalso -symm)
    | ((with_reducible refine vc_ret_i ?_); (with_reducible refine hR _ ?_); simp [r10]; skip)
    | ((with_reducible refine hR _ ?_); simp [r10]; skip)
    | ((with_reducible show vcCall _ _ _ _ _ _ _); refine call_i (n12 _ _ 6 (by simp) (by simp)) (fun _ => 0) (fun _ => 0) (by simp) ⟨⟨⟨rfl, by simp⟩, rfl, trivial⟩, trivial, ⟨⟨by simp, rfl, ⟨wk_same, rfl, trivial⟩⟩, trivial⟩⟩ ?_; rintro _ _ ⟨v, b2, hv, rfl, rfl⟩; simp; first | ((with_reducible refine hK _ ?_); (clear hK; clear K)) | (with_reducible apply_assumption -exfalso -symm))
    | (intros; omega))
  · exact ⟨⟨(4, b2), by simp⟩, turn_id (by simp) rfl (by simp)⟩
  · exact ⟨⟨((2 + v).toNat, b2), by simp; omega⟩, turn_id (by simp) rfl (by simp; omega)⟩
  obtain ⟨⟨n, b0⟩, hn2, hn7⟩ := s
  simp only at hn2 hn7
  refine loop_i {s : Nat × List (Int × Bool) × Nat // s.1 ≤ n ∧ s.2.1.length = s.1 ∧ (∀ p ∈ s.2.1, okP p) ∧ (0 < s.1 → (s.2.1[0]?.getD default).2 = true)}
    (fun s => ⟨[(0, .ptr 0 0), (2, .ptr 1 0), (3, .ptr 2 0), (4, I n), (5, I s.1.1)], [(7, ⟨58, 2, s.1.2.1.map aPl, false⟩)], [(0, ⟨60, [Lint L, I s.1.2.2]⟩), (1, ⟨30, [.nils, .nils]⟩), (2, ⟨30, [.own 7, .nils]⟩)], 8, 124⟩) (fun s => n - s.1.1) ⟨(0, [], b0), by simp⟩ ?_ ?_
  · exact turn_at [.nilB 2 0 58 2] id id (by simp [keys])
  rintro ⟨⟨i, ps, b⟩, hi, hl, hp, ht⟩ K hK
  simp only at hi hl hp ht
  repeat' (first
    | (with_reducible refine vc_seq_i fun K hK => ?_)
    | (with_reducible refine vc_ops_i ?_)
    | ((with_reducible refine ops_nil ?_); apply_assumption -exfalso -symm)
    | ((with_reducible refine ops_q fun K hK => ?_); simp; (try simp (disch := omega) only [wrap64]); (first | (with_reducible refine hK _ ?_) | (with_reducible refine alt_T (hK _ ?_)) | (with_reducible refine alt_wrap (by omega) (hK _ ?_)) | (with_reducible refine alt_same (hK _ ?_)) | (with_reducible refine alt_T' (hK _ ?_) ?_) | (with_reducible refine alt_wrap' (by omega) (hK _ ?_) ?_) | (with_reducible refine alt_same' (hK _ ?_) ?_) | (with_reducible refine And.intro ?_ (hK _ ?_)) | (refine fun _ => ?_; first | (with_reducible refine hK _ ?_) | (with_reducible refine alt_T (hK _ ?_)) | (with_reducible refine alt_wrap (by omega) (hK _ ?_)) | (with_reducible refine alt_same (hK _ ?_)))) <;> (clear hK; clear K))
    | ((with_reducible refine ops_a0 fun K hK => ?_); simp; (try simp (disch := omega) only [wrap64]); (first | ((with_reducible refine hK _ ?_); (clear hK; clear K)) | ((with_reducible refine And.intro ?_ (hK _ ?_)) <;> (clear hK; clear K)) | (repeat' (with_reducible refine And.intro ?_ ?_)) | skip))
    | ((with_reducible refine ops_ag fun K hK => ?_); first | (refine act_T rfl ?_; simp; (try simp (disch := omega) only [wrap64]); (first | ((with_reducible refine hK _ ?_); (clear hK; clear K)) | ((with_reducible refine And.intro ?_ (hK _ ?_)) <;> (clear hK; clear K)) | (repeat' (with_reducible refine And.intro ?_ ?_)) | skip)) | (refine act_F rfl ?_; simp; (with_reducible refine hK _ ?_); (clear hK; clear K)) | (refine act_N rfl ?_; simp; (with_reducible refine hK _ ?_); (clear hK; clear K)) | (refine act_c rfl fun c hc => ?_; cases c <;> (simp only [hc]; simp; (try simp (disch := omega) only [wrap64]); (try simp at hc); (first | ((with_reducible refine hK _ ?_); (clear hK; clear K)) | ((with_reducible refine And.intro ?_ (hK _ ?_)) <;> (clear hK; clear K)) | (repeat' (with_reducible refine And.intro ?_ ?_)) | skip))))
    | (with_reducible refine vc_drw_i [0] ?_)
    | ((with_reducible refine T_done ?_); apply_assumption -exfalso -symm)
    | ((with_reducible refine T_take (by simp) fun K hK => ?_); simp; (try simp (disch := omega) only [wrap64]); (first | (with_reducible refine hK _ ?_) | (with_reducible refine alt_T (hK _ ?_)) | (with_reducible refine alt_wrap (by omega) (hK _ ?_)) | (with_reducible refine alt_same (hK _ ?_)) | (with_reducible refine alt_T' (hK _ ?_) ?_) | (with_reducible refine alt_wrap' (by omega) (hK _ ?_) ?_) | (with_reducible refine alt_same' (hK _ ?_) ?_) | (with_reducible refine And.intro ?_ (hK _ ?_)) | (refine fun _ => ?_; first | (with_reducible refine hK _ ?_) | (with_reducible refine alt_T (hK _ ?_)) | (with_reducible refine alt_wrap (by omega) (hK _ ?_)) | (with_reducible refine alt_same (hK _ ?_)))) <;> (clear hK; clear K))
    | ((with_reducible refine T_actq fun K hK => ?_); simp; (try simp (disch := omega) only [wrap64]); (first | (with_reducible refine hK _ ?_) | (with_reducible refine alt_T (hK _ ?_)) | (with_reducible refine alt_wrap (by omega) (hK _ ?_)) | (with_reducible refine alt_same (hK _ ?_)) | (with_reducible refine alt_T' (hK _ ?_) ?_) | (with_reducible refine alt_wrap' (by omega) (hK _ ?_) ?_) | (with_reducible refine alt_same' (hK _ ?_) ?_) | (with_reducible refine And.intro ?_ (hK _ ?_)) | (refine fun _ => ?_; first | (with_reducible refine hK _ ?_) | (with_reducible refine alt_T (hK _ ?_)) | (with_reducible refine alt_wrap (by omega) (hK _ ?_)) | (with_reducible refine alt_same (hK _ ?_)))) <;> (clear hK; clear K))
    | ((with_reducible refine T_fg ?_); simp)
    | ((with_reducible refine T_lz (by simp) fun K hK => ?_); simp; (try simp (disch := omega) only [wrap64]); (first | ((with_reducible refine hK _ ?_); (clear hK; clear K)) | ((with_reducible refine And.intro ?_ (hK _ ?_)) <;> (clear hK; clear K)) | (repeat' (with_reducible refine And.intro ?_ ?_)) | skip))
    | (with_reducible refine T_two ?_ ?_)
    | (with_reducible refine T_three ?_ ?_ ?_)
    | ((with_reducible refine T_act0 fun K hK => ?_); simp; (try simp (disch := omega) only [wrap64]); (first | ((with_reducible refine hK _ ?_); (clear hK; clear K)) | ((with_reducible refine And.intro ?_ (hK _ ?_)) <;> (clear hK; clear K)) | (repeat' (with_reducible refine And.intro ?_ ?_)) | skip))
    | ((with_reducible refine T_actg fun K hK => ?_); first | (refine act_T rfl ?_; simp; (try simp (disch := omega) only [wrap64]); (first | ((with_reducible refine hK _ ?_); (clear hK; clear K)) | ((with_reducible refine And.intro ?_ (hK _ ?_)) <;> (clear hK; clear K)) | (repeat' (with_reducible refine And.intro ?_ ?_)) | skip)) | (refine act_F rfl ?_; simp; (with_reducible refine hK _ ?_); (clear hK; clear K)) | (refine act_N rfl ?_; simp; (with_reducible refine hK _ ?_); (clear hK; clear K)) | (refine act_c rfl fun c hc => ?_; cases c <;> (simp only [hc]; simp; (try simp (disch := omega) only [wrap64]); (try simp at hc); (first | ((with_reducible refine hK _ ?_); (clear hK; clear K)) | ((with_reducible refine And.intro ?_ (hK _ ?_)) <;> (clear hK; clear K)) | (repeat' (with_reducible refine And.intro ?_ ?_)) | skip))))
    | (with_reducible refine vc_block_i fun Y hY hN => ?_)
    | ((with_reducible refine vc_skip_i ?_); apply_assumption -exfalso -symm)
    | ((with_reducible refine vc_cond_i rfl ?_ ?_) <;> (intro hb; try simp at hb))
    | ((with_reducible refine vc_dead_i ?_); first | omega | (exfalso; simp_all; done) | skip)
    | ((with_reducible refine vc_exit_i ?_); apply_assumption -exfalso -symm; try apply_assumption -exfalso -symm)
    | ((with_reducible refine vc_ret_i ?_); (with_reducible refine hR _ ?_); simp [r10]; skip)
    | ((with_reducible refine hR _ ?_); simp [r10]; skip)
    | ((with_reducible show vcCall _ _ _ _ _ _ _); refine call_i (n12 _ _ 4 (by simp) (by simp)) (fun _ => 0) (fun _ => 0) (by simp) ⟨⟨⟨rfl, by simp⟩, rfl, trivial⟩, trivial, ⟨⟨by simp, rfl, ⟨wk_same, rfl, trivial⟩⟩, trivial⟩⟩ ?_; rintro _ _ ⟨v, b2, hv, rfl, rfl⟩; simp; first | ((with_reducible refine hK _ ?_); (clear hK; clear K)) | (with_reducible apply_assumption -exfalso -symm))
    | ((with_reducible show vcCall _ _ _ _ _ _ _); refine call_i (n16 _ _ _) (fun _ => 0) (fun _ => 0) (by simp) ⟨⟨⟨rfl, by simp⟩, rfl, trivial⟩, trivial, ⟨⟨by simp, rfl, ⟨wk_same, rfl, trivial⟩⟩, trivial⟩⟩ ?_; rintro _ _ ⟨w, b3, rfl, rfl⟩; simp; first | ((with_reducible refine hK _ ?_); (clear hK; clear K)) | (with_reducible apply_assumption -exfalso -symm))
    | (intros; omega))
  · refine ⟨⟨(i + 1, ps ++ [(-10 * v, w)], b3), by simp; omega, by simp; omega, forall_snoc hp (by simp [okP]; omega), fun _ => ?_⟩, by simp; omega, turn_id (by simp) rfl (by simp)⟩
    simp only
    rw [List.getElem?_append_left (by omega)]
    exact ht (by omega)
  · refine ⟨⟨(i + 1, ps ++ [(-10 * v, true)], b2), by simp; omega, by simp; omega, forall_snoc hp (by simp [okP]; omega), fun _ => ?_⟩, by simp; omega, turn_id (by simp) rfl (by simp)⟩
    simp only
    rw [List.getElem?_append_right (by omega), show (0 - ps.length) = 0 by omega]
    rfl
  have hin : i = n := by omega
  subst hin
  have hps : 2 ≤ ps.length ∧ ps.length ≤ 7 := by omega
  have htop := ht (by omega)
  refine loop_i {s : Nat × List Ro × Nat // 1 ≤ s.1 ∧ s.1 ≤ ps.length ∧ s.2.1.length + 1 = s.1 ∧ (∀ r ∈ s.2.1, okR ps.length r) ∧ ∀ j : Nat, j < s.2.1.length → okT j (s.2.1[j]?.getD default)}
    (fun s => ⟨[(0, .ptr 0 0), (2, .ptr 1 0), (3, .ptr 2 0), (4, I ps.length), (6, .ptr 8 0), (7, I s.1.1)], [(9, ⟨46, 10, s.1.2.1.map aRo, false⟩)], [(0, ⟨60, [Lint L, I s.1.2.2]⟩), (1, ⟨30, [.nils, .nils]⟩), (2, ⟨30, [Lpl ps, .own 9]⟩), (8, ⟨46, [I 0, I 0, I 12, I 10, Bo true, Bo false, I 1, I 1, I 0, I 0]⟩)], 10, 124⟩) (fun s => ps.length - s.1.1) ⟨(1, [], b), by simp; omega⟩ ?_ ?_
  · refine turn_at [.frz 7, .nilB 2 1 46 10] id id ?_
    simp [keys, hl]
    exact fun j hj => .inl ((lpl_get ps j (by omega)).trans (by simp [List.getD_eq_getElem?_getD]))
  rintro ⟨⟨j, rs, b⟩, hj1, hj2, hrl, hr, hT⟩ K hK
  simp only at hj1 hj2 hrl hr hT
  have hmin : minI (j : Int) 2 ≤ j ∧ minI (j : Int) 2 ≤ 2 ∧ 1 ≤ minI (j : Int) 2 := by unfold minI; split <;> omega
  repeat' (first
    | (with_reducible refine vc_seq_i fun K hK => ?_)
    | (with_reducible refine vc_ops_i ?_)
    | ((with_reducible refine ops_nil ?_); apply_assumption -exfalso -symm)
    | ((with_reducible refine ops_q fun K hK => ?_); simp; (try simp (disch := omega) only [wrap64]); (first | (with_reducible refine hK _ ?_) | (with_reducible refine alt_T (hK _ ?_)) | (with_reducible refine alt_wrap (by omega) (hK _ ?_)) | (with_reducible refine alt_same (hK _ ?_)) | (with_reducible refine alt_T' (hK _ ?_) ?_) | (with_reducible refine alt_wrap' (by omega) (hK _ ?_) ?_) | (with_reducible refine alt_same' (hK _ ?_) ?_) | (with_reducible refine And.intro ?_ (hK _ ?_)) | (refine fun _ => ?_; first | (with_reducible refine hK _ ?_) | (with_reducible refine alt_T (hK _ ?_)) | (with_reducible refine alt_wrap (by omega) (hK _ ?_)) | (with_reducible refine alt_same (hK _ ?_)))) <;> (clear hK; clear K))
    | ((with_reducible refine ops_a0 fun K hK => ?_); simp; (try simp (disch := omega) only [wrap64]); (first | ((with_reducible refine hK _ ?_); (clear hK; clear K)) | ((with_reducible refine And.intro ?_ (hK _ ?_)) <;> (clear hK; clear K)) | (repeat' (with_reducible refine And.intro ?_ ?_)) | skip))
    | ((with_reducible refine ops_ag fun K hK => ?_); first | (refine act_T rfl ?_; simp; (try simp (disch := omega) only [wrap64]); (first | ((with_reducible refine hK _ ?_); (clear hK; clear K)) | ((with_reducible refine And.intro ?_ (hK _ ?_)) <;> (clear hK; clear K)) | (repeat' (with_reducible refine And.intro ?_ ?_)) | skip)) | (refine act_F rfl ?_; simp; (with_reducible refine hK _ ?_); (clear hK; clear K)) | (refine act_N rfl ?_; simp; (with_reducible refine hK _ ?_); (clear hK; clear K)) | (refine act_c rfl fun c hc => ?_; cases c <;> (simp only [hc]; simp; (try simp (disch := omega) only [wrap64]); (try simp at hc); (first | ((with_reducible refine hK _ ?_); (clear hK; clear K)) | ((with_reducible refine And.intro ?_ (hK _ ?_)) <;> (clear hK; clear K)) | (repeat' (with_reducible refine And.intro ?_ ?_)) | skip))))
    | (with_reducible refine vc_drw_i [] ?_)
    | ((with_reducible refine T_done ?_); apply_assumption -exfalso -symm)
    | ((with_reducible refine T_take (by simp) fun K hK => ?_); simp; (try simp (disch := omega) only [wrap64]); (first | (with_reducible refine hK _ ?_) | (with_reducible refine alt_T (hK _ ?_)) | (with_reducible refine alt_wrap (by omega) (hK _ ?_)) | (with_reducible refine alt_same (hK _ ?_)) | (with_reducible refine alt_T' (hK _ ?_) ?_) | (with_reducible refine alt_wrap' (by omega) (hK _ ?_) ?_) | (with_reducible refine alt_same' (hK _ ?_) ?_) | (with_reducible refine And.intro ?_ (hK _ ?_)) | (refine fun _ => ?_; first | (with_reducible refine hK _ ?_) | (with_reducible refine alt_T (hK _ ?_)) | (with_reducible refine alt_wrap (by omega) (hK _ ?_)) | (with_reducible refine alt_same (hK _ ?_)))) <;> (clear hK; clear K))
    | ((with_reducible refine T_actq fun K hK => ?_); simp; (try simp (disch := omega) only [wrap64]); (first | (with_reducible refine hK _ ?_) | (with_reducible refine alt_T (hK _ ?_)) | (with_reducible refine alt_wrap (by omega) (hK _ ?_)) | (with_reducible refine alt_same (hK _ ?_)) | (with_reducible refine alt_T' (hK _ ?_) ?_) | (with_reducible refine alt_wrap' (by omega) (hK _ ?_) ?_) | (with_reducible refine alt_same' (hK _ ?_) ?_) | (with_reducible refine And.intro ?_ (hK _ ?_)) | (refine fun _ => ?_; first | (with_reducible refine hK _ ?_) | (with_reducible refine alt_T (hK _ ?_)) | (with_reducible refine alt_wrap (by omega) (hK _ ?_)) | (with_reducible refine alt_same (hK _ ?_)))) <;> (clear hK; clear K))
    | ((with_reducible refine T_fg ?_); simp)
    | ((with_reducible refine T_lz (by simp) fun K hK => ?_); simp; (try simp (disch := omega) only [wrap64]); (first | ((with_reducible refine hK _ ?_); (clear hK; clear K)) | ((with_reducible refine And.intro ?_ (hK _ ?_)) <;> (clear hK; clear K)) | (repeat' (with_reducible refine And.intro ?_ ?_)) | skip))
    | (with_reducible refine T_two ?_ ?_)
    | (with_reducible refine T_three ?_ ?_ ?_)
    | ((with_reducible refine T_act0 fun K hK => ?_); simp; (try simp (disch := omega) only [wrap64]); (first | ((with_reducible refine hK _ ?_); (clear hK; clear K)) | ((with_reducible refine And.intro ?_ (hK _ ?_)) <;> (clear hK; clear K)) | (repeat' (with_reducible refine And.intro ?_ ?_)) | skip))
    | ((with_reducible refine T_actg fun K hK => ?_); first | (refine act_T rfl ?_; simp; (try simp (disch := omega) only [wrap64]); (first | ((with_reducible refine hK _ ?_); (clear hK; clear K)) | ((with_reducible refine And.intro ?_ (hK _ ?_)) <;> (clear hK; clear K)) | (repeat' (with_reducible refine And.intro ?_ ?_)) | skip)) | (refine act_F rfl ?_; simp; (with_reducible refine hK _ ?_); (clear hK; clear K)) | (refine act_N rfl ?_; simp; (with_reducible refine hK _ ?_); (clear hK; clear K)) | (refine act_c rfl fun c hc => ?_; cases c <;> (simp only [hc]; simp; (try simp (disch := omega) only [wrap64]); (try simp at hc); (first | ((with_reducible refine hK _ ?_); (clear hK; clear K)) | ((with_reducible refine And.intro ?_ (hK _ ?_)) <;> (clear hK; clear K)) | (repeat' (with_reducible refine And.intro ?_ ?_)) | skip))))
    | (with_reducible refine vc_block_i fun Y hY hN => ?_)
    | ((with_reducible refine vc_skip_i ?_); apply_assumption -exfalso -symm)
    | ((with_reducible refine vc_cond_i rfl ?_ ?_) <;> (intro hb; try simp at hb))
    | ((with_reducible refine vc_dead_i ?_); first | omega | (exfalso; simp_all; done) | skip)
    | ((with_reducible refine vc_exit_i ?_); apply_assumption -exfalso -symm; try apply_assumption -exfalso -symm)
    | ((with_reducible refine vc_ret_i ?_); (with_reducible refine hR _ ?_); simp [r10]; skip)
    | ((with_reducible refine hR _ ?_); simp [r10]; skip)
    | ((with_reducible show vcCall _ _ _ _ _ _ _); refine call_i (n12 _ _ (minI (j : Int) 2) (by omega) (by omega)) (fun _ => 0) (fun _ => 0) (by simp) ⟨⟨⟨rfl, by simp⟩, rfl, trivial⟩, trivial, ⟨⟨by simp, rfl, ⟨wk_same, rfl, trivial⟩⟩, trivial⟩⟩ ?_; rintro _ _ ⟨v, b2, hv, rfl, rfl⟩; simp; first | ((with_reducible refine hK _ ?_); (clear hK; clear K)) | (with_reducible apply_assumption -exfalso -symm))
    | ((with_reducible show vcCall _ _ _ _ _ _ _); refine call_i (n25r _ _ [11, 59, 119, 4] 4 119 (by simp) (by simp) (by simp)) (fun _ => 0) (fun _ => 0) (by simp) ⟨⟨⟨rfl, by simp⟩, wk_sl rfl (lint_get [11, 59, 119, 4]), trivial⟩, trivial, ⟨⟨by simp, rfl, ⟨wk_same, rfl, trivial⟩⟩, trivial⟩⟩ ?_; rintro _ _ ⟨w1, b3, hw1, rfl, rfl⟩; simp; first | ((with_reducible refine hK _ ?_); (clear hK; clear K)) | (with_reducible apply_assumption -exfalso -symm))
    | ((with_reducible show vcCall _ _ _ _ _ _ _); refine call_i (n25r _ _ [9, 3, 19] 3 19 (by simp) (by simp) (by simp)) (fun _ => 0) (fun _ => 0) (by simp) ⟨⟨⟨rfl, by simp⟩, wk_sl rfl (lint_get [9, 3, 19]), trivial⟩, trivial, ⟨⟨by simp, rfl, ⟨wk_same, rfl, trivial⟩⟩, trivial⟩⟩ ?_; rintro _ _ ⟨w2, b4, hw2, rfl, rfl⟩; simp; first | ((with_reducible refine hK _ ?_); (clear hK; clear K)) | (with_reducible apply_assumption -exfalso -symm))
    | (intros; omega))
  · refine ⟨⟨(j + 1, rs ++ [⟨(j : Int) - 1 - v, j, 1 + w1, 1 + w2, true, false, 1, 1, 0, 0⟩], b4), by simp, by simp; omega, by simp; omega, forall_snoc hr ?_, ?_⟩, by simp; omega, turn_id (by simp) rfl (by simp)⟩
    · exact ⟨⟨by simp only; omega, by simp only; omega⟩, ⟨by simp only; omega, by simp only; omega⟩, by simp only; omega, ⟨by simp only; omega, by simp only; omega⟩, ⟨by simp only; omega, by simp only; omega⟩, rfl, rfl, rfl, rfl⟩
    · intro q hq
      simp only [List.length_append, List.length_cons, List.length_nil] at hq ⊢
      rcases Nat.lt_or_ge q rs.length with hlt | hge
      · rw [List.getElem?_append_left hlt]; exact hT q hlt
      · have e : q = rs.length := by omega
        subst e
        rw [List.getElem?_append_right (Nat.le_refl _)]
        simp only [Nat.sub_self, List.getElem?_cons_zero, Option.getD_some]
        exact ⟨by simp only; omega, by simp only; omega, rfl, rfl⟩
  have hjn : j = ps.length := by omega
  have hT' : ∀ q : Nat, q + 1 < ps.length → okT q (rs[q]?.getD default) := fun q hq => hT q (by omega)
  repeat' (first
    | (with_reducible refine vc_seq_i fun K hK => ?_)
    | (with_reducible refine vc_ops_i ?_)
    | ((with_reducible refine ops_nil ?_); apply_assumption -exfalso -symm)
    | ((with_reducible refine ops_q fun K hK => ?_); simp; (try simp (disch := omega) only [wrap64]); (first | (with_reducible refine hK _ ?_) | (with_reducible refine alt_T (hK _ ?_)) | (with_reducible refine alt_wrap (by omega) (hK _ ?_)) | (with_reducible refine alt_same (hK _ ?_)) | (with_reducible refine alt_T' (hK _ ?_) ?_) | (with_reducible refine alt_wrap' (by omega) (hK _ ?_) ?_) | (with_reducible refine alt_same' (hK _ ?_) ?_) | (with_reducible refine And.intro ?_ (hK _ ?_)) | (refine fun _ => ?_; first | (with_reducible refine hK _ ?_) | (with_reducible refine alt_T (hK _ ?_)) | (with_reducible refine alt_wrap (by omega) (hK _ ?_)) | (with_reducible refine alt_same (hK _ ?_)))) <;> (clear hK; clear K))
    | ((with_reducible refine ops_a0 fun K hK => ?_); simp; (try simp (disch := omega) only [wrap64]); (first | ((with_reducible refine hK _ ?_); (clear hK; clear K)) | ((with_reducible refine And.intro ?_ (hK _ ?_)) <;> (clear hK; clear K)) | (repeat' (with_reducible refine And.intro ?_ ?_)) | skip))
    | ((with_reducible refine ops_ag fun K hK => ?_); first | (refine act_T rfl ?_; simp; (try simp (disch := omega) only [wrap64]); (first | ((with_reducible refine hK _ ?_); (clear hK; clear K)) | ((with_reducible refine And.intro ?_ (hK _ ?_)) <;> (clear hK; clear K)) | (repeat' (with_reducible refine And.intro ?_ ?_)) | skip)) | (refine act_F rfl ?_; simp; (with_reducible refine hK _ ?_); (clear hK; clear K)) | (refine act_N rfl ?_; simp; (with_reducible refine hK _ ?_); (clear hK; clear K)) | (refine act_c rfl fun c hc => ?_; cases c <;> (simp only [hc]; simp; (try simp (disch := omega) only [wrap64]); (try simp at hc); (first | ((with_reducible refine hK _ ?_); (clear hK; clear K)) | ((with_reducible refine And.intro ?_ (hK _ ?_)) <;> (clear hK; clear K)) | (repeat' (with_reducible refine And.intro ?_ ?_)) | skip))))
    | (with_reducible refine vc_drw_i [] ?_)
    | ((with_reducible refine T_done ?_); apply_assumption -exfalso -symm)
    | ((with_reducible refine T_take (by simp) fun K hK => ?_); simp; (try simp (disch := omega) only [wrap64]); (first | (with_reducible refine hK _ ?_) | (with_reducible refine alt_T (hK _ ?_)) | (with_reducible refine alt_wrap (by omega) (hK _ ?_)) | (with_reducible refine alt_same (hK _ ?_)) | (with_reducible refine alt_T' (hK _ ?_) ?_) | (with_reducible refine alt_wrap' (by omega) (hK _ ?_) ?_) | (with_reducible refine alt_same' (hK _ ?_) ?_) | (with_reducible refine And.intro ?_ (hK _ ?_)) | (refine fun _ => ?_; first | (with_reducible refine hK _ ?_) | (with_reducible refine alt_T (hK _ ?_)) | (with_reducible refine alt_wrap (by omega) (hK _ ?_)) | (with_reducible refine alt_same (hK _ ?_)))) <;> (clear hK; clear K))
    | ((with_reducible refine T_actq fun K hK => ?_); simp; (try simp (disch := omega) only [wrap64]); (first | (with_reducible refine hK _ ?_) | (with_reducible refine alt_T (hK _ ?_)) | (with_reducible refine alt_wrap (by omega) (hK _ ?_)) | (with_reducible refine alt_same (hK _ ?_)) | (with_reducible refine alt_T' (hK _ ?_) ?_) | (with_reducible refine alt_wrap' (by omega) (hK _ ?_) ?_) | (with_reducible refine alt_same' (hK _ ?_) ?_) | (with_reducible refine And.intro ?_ (hK _ ?_)) | (refine fun _ => ?_; first | (with_reducible refine hK _ ?_) | (with_reducible refine alt_T (hK _ ?_)) | (with_reducible refine alt_wrap (by omega) (hK _ ?_)) | (with_reducible refine alt_same (hK _ ?_)))) <;> (clear hK; clear K))
    | ((with_reducible refine T_fg ?_); simp)
    | ((with_reducible refine T_lz (by simp) fun K hK => ?_); simp; (try simp (disch := omega) only [wrap64]); (first | ((with_reducible refine hK _ ?_); (clear hK; clear K)) | ((with_reducible refine And.intro ?_ (hK _ ?_)) <;> (clear hK; clear K)) | (repeat' (with_reducible refine And.intro ?_ ?_)) | skip))
    | (with_reducible refine T_two ?_ ?_)
    | (with_reducible refine T_three ?_ ?_ ?_)
    | ((with_reducible refine T_act0 fun K hK => ?_); simp; (try simp (disch := omega) only [wrap64]); (first | ((with_reducible refine hK _ ?_); (clear hK; clear K)) | ((with_reducible refine And.intro ?_ (hK _ ?_)) <;> (clear hK; clear K)) | (repeat' (with_reducible refine And.intro ?_ ?_)) | skip))
    | ((with_reducible refine T_actg fun K hK => ?_); first | (refine act_T rfl ?_; simp; (try simp (disch := omega) only [wrap64]); (first | ((with_reducible refine hK _ ?_); (clear hK; clear K)) | ((with_reducible refine And.intro ?_ (hK _ ?_)) <;> (clear hK; clear K)) | (repeat' (with_reducible refine And.intro ?_ ?_)) | skip)) | (refine act_F rfl ?_; simp; (with_reducible refine hK _ ?_); (clear hK; clear K)) | (refine act_N rfl ?_; simp; (with_reducible refine hK _ ?_); (clear hK; clear K)) | (refine act_c rfl fun c hc => ?_; cases c <;> (simp only [hc]; simp; (try simp (disch := omega) only [wrap64]); (try simp at hc); (first | ((with_reducible refine hK _ ?_); (clear hK; clear K)) | ((with_reducible refine And.intro ?_ (hK _ ?_)) <;> (clear hK; clear K)) | (repeat' (with_reducible refine And.intro ?_ ?_)) | skip))))
    | (with_reducible refine vc_block_i fun Y hY hN => ?_)
    | ((with_reducible refine vc_skip_i ?_); apply_assumption -exfalso -symm)
    | ((with_reducible refine vc_cond_i rfl ?_ ?_) <;> (intro hb; try simp at hb))
    | ((with_reducible refine vc_dead_i ?_); first | omega | (exfalso; simp_all; done) | skip)
    | ((with_reducible refine vc_exit_i ?_); apply_assumption -exfalso -symm; try apply_assumption -exfalso -symm)
    | ((with_reducible refine vc_ret_i ?_); (with_reducible refine hR _ ?_); simp [r10]; skip)
    | ((with_reducible refine hR _ ?_); simp [r10]; skip)
    | ((with_reducible show vcCall _ _ _ _ _ _ _); refine call_i (n12 _ _ 4 (by simp) (by simp)) (fun _ => 0) (fun _ => 0) (by simp) ⟨⟨⟨rfl, by simp⟩, rfl, trivial⟩, trivial, ⟨⟨by simp, rfl, ⟨wk_same, rfl, trivial⟩⟩, trivial⟩⟩ ?_; rintro _ _ ⟨v, b2, hv, rfl, rfl⟩; simp; first | ((with_reducible refine hK _ ?_); (clear hK; clear K)) | (with_reducible apply_assumption -exfalso -symm))
    | (intros; omega))
  refine loop_i {s : Nat × List Ro × Nat // s.1 ≤ 4 ∧ s.2.1.length ≤ 10 ∧ ps.length ≤ s.2.1.length + 1 ∧ (∀ r ∈ s.2.1, okR ps.length r) ∧ ∀ q : Nat, q + 1 < ps.length → okT q (s.2.1[q]?.getD default)}
    (fun s => ⟨[(0, .ptr 0 0), (2, .ptr 1 0), (3, .ptr 2 0), (4, I ps.length), (6, .ptr 8 0), (9, I s.1.1)], [(9, ⟨46, 10, s.1.2.1.map aRo, false⟩)], [(0, ⟨60, [Lint L, I s.1.2.2]⟩), (1, ⟨30, [.nils, .nils]⟩), (2, ⟨30, [Lpl ps, .own 9]⟩), (8, ⟨46, [I 0, I 0, I 12, I 10, Bo true, Bo false, I 1, I 1, I 0, I 0]⟩)], 10, 124⟩) (fun s => s.1.1) ⟨(v.toNat, rs, b2), by simp; omega, by simp; omega, by simp; omega, hr, hT'⟩ ?_ ?_
  · exact turn_id (by simp) rfl (by simp; omega)
  rintro ⟨⟨k, rs, b⟩, hk, hr10, hrn, hr, hT⟩ K hK
  simp only at hk hr10 hrn hr hT
  repeat' (first
    | (with_reducible refine vc_seq_i fun K hK => ?_)
    | (with_reducible refine vc_ops_i ?_)
    | ((with_reducible refine ops_nil ?_); apply_assumption -exfalso -symm)
    | ((with_reducible refine ops_q fun K hK => ?_); simp; (try simp (disch := omega) only [wrap64]); (first | (with_reducible refine hK _ ?_) | (with_reducible refine alt_T (hK _ ?_)) | (with_reducible refine alt_wrap (by omega) (hK _ ?_)) | (with_reducible refine alt_same (hK _ ?_)) | (with_reducible refine alt_T' (hK _ ?_) ?_) | (with_reducible refine alt_wrap' (by omega) (hK _ ?_) ?_) | (with_reducible refine alt_same' (hK _ ?_) ?_) | (with_reducible refine And.intro ?_ (hK _ ?_)) | (refine fun _ => ?_; first | (with_reducible refine hK _ ?_) | (with_reducible refine alt_T (hK _ ?_)) | (with_reducible refine alt_wrap (by omega) (hK _ ?_)) | (with_reducible refine alt_same (hK _ ?_)))) <;> (clear hK; clear K))
    | ((with_reducible refine ops_a0 fun K hK => ?_); simp; (try simp (disch := omega) only [wrap64]); (first | ((with_reducible refine hK _ ?_); (clear hK; clear K)) | ((with_reducible refine And.intro ?_ (hK _ ?_)) <;> (clear hK; clear K)) | (repeat' (with_reducible refine And.intro ?_ ?_)) | skip))
    | ((with_reducible refine ops_ag fun K hK => ?_); first | (refine act_T rfl ?_; simp; (try simp (disch := omega) only [wrap64]); (first | ((with_reducible refine hK _ ?_); (clear hK; clear K)) | ((with_reducible refine And.intro ?_ (hK _ ?_)) <;> (clear hK; clear K)) | (repeat' (with_reducible refine And.intro ?_ ?_)) | skip)) | (refine act_F rfl ?_; simp; (with_reducible refine hK _ ?_); (clear hK; clear K)) | (refine act_N rfl ?_; simp; (with_reducible refine hK _ ?_); (clear hK; clear K)) | (refine act_c rfl fun c hc => ?_; cases c <;> (simp only [hc]; simp; (try simp (disch := omega) only [wrap64]); (try simp at hc); (first | ((with_reducible refine hK _ ?_); (clear hK; clear K)) | ((with_reducible refine And.intro ?_ (hK _ ?_)) <;> (clear hK; clear K)) | (repeat' (with_reducible refine And.intro ?_ ?_)) | skip))))
    | (with_reducible refine vc_drw_i [] ?_)
    | ((with_reducible refine T_done ?_); apply_assumption -exfalso -symm)
    | ((with_reducible refine T_take (by simp) fun K hK => ?_); simp; (try simp (disch := omega) only [wrap64]); (first | (with_reducible refine hK _ ?_) | (with_reducible refine alt_T (hK _ ?_)) | (with_reducible refine alt_wrap (by omega) (hK _ ?_)) | (with_reducible refine alt_same (hK _ ?_)) | (with_reducible refine alt_T' (hK _ ?_) ?_) | (with_reducible refine alt_wrap' (by omega) (hK _ ?_) ?_) | (with_reducible refine alt_same' (hK _ ?_) ?_) | (with_reducible refine And.intro ?_ (hK _ ?_)) | (refine fun _ => ?_; first | (with_reducible refine hK _ ?_) | (with_reducible refine alt_T (hK _ ?_)) | (with_reducible refine alt_wrap (by omega) (hK _ ?_)) | (with_reducible refine alt_same (hK _ ?_)))) <;> (clear hK; clear K))
    | ((with_reducible refine T_actq fun K hK => ?_); simp; (try simp (disch := omega) only [wrap64]); (first | (with_reducible refine hK _ ?_) | (with_reducible refine alt_T (hK _ ?_)) | (with_reducible refine alt_wrap (by omega) (hK _ ?_)) | (with_reducible refine alt_same (hK _ ?_)) | (with_reducible refine alt_T' (hK _ ?_) ?_) | (with_reducible refine alt_wrap' (by omega) (hK _ ?_) ?_) | (with_reducible refine alt_same' (hK _ ?_) ?_) | (with_reducible refine And.intro ?_ (hK _ ?_)) | (refine fun _ => ?_; first | (with_reducible refine hK _ ?_) | (with_reducible refine alt_T (hK _ ?_)) | (with_reducible refine alt_wrap (by omega) (hK _ ?_)) | (with_reducible refine alt_same (hK _ ?_)))) <;> (clear hK; clear K))
    | ((with_reducible refine T_fg ?_); simp)
    | ((with_reducible refine T_lz (by simp) fun K hK => ?_); simp; (try simp (disch := omega) only [wrap64]); (first | ((with_reducible refine hK _ ?_); (clear hK; clear K)) | ((with_reducible refine And.intro ?_ (hK _ ?_)) <;> (clear hK; clear K)) | (repeat' (with_reducible refine And.intro ?_ ?_)) | skip))
    | (with_reducible refine T_two ?_ ?_)
    | (with_reducible refine T_three ?_ ?_ ?_)
    | ((with_reducible refine T_act0 fun K hK => ?_); simp; (try simp (disch := omega) only [wrap64]); (first | ((with_reducible refine hK _ ?_); (clear hK; clear K)) | ((with_reducible refine And.intro ?_ (hK _ ?_)) <;> (clear hK; clear K)) | (repeat' (with_reducible refine And.intro ?_ ?_)) | skip))
    | ((with_reducible refine T_actg fun K hK => ?_); first | (refine act_T rfl ?_; simp; (try simp (disch := omega) only [wrap64]); (first | ((with_reducible refine hK _ ?_); (clear hK; clear K)) | ((with_reducible refine And.intro ?_ (hK _ ?_)) <;> (clear hK; clear K)) | (repeat' (with_reducible refine And.intro ?_ ?_)) | skip)) | (refine act_F rfl ?_; simp; (with_reducible refine hK _ ?_); (clear hK; clear K)) | (refine act_N rfl ?_; simp; (with_reducible refine hK _ ?_); (clear hK; clear K)) | (refine act_c rfl fun c hc => ?_; cases c <;> (simp only [hc]; simp; (try simp (disch := omega) only [wrap64]); (try simp at hc); (first | ((with_reducible refine hK _ ?_); (clear hK; clear K)) | ((with_reducible refine And.intro ?_ (hK _ ?_)) <;> (clear hK; clear K)) | (repeat' (with_reducible refine And.intro ?_ ?_)) | skip))))
    | (with_reducible refine vc_block_i fun Y hY hN => ?_)
    | ((with_reducible refine vc_skip_i ?_); apply_assumption -exfalso -symm)
    | ((with_reducible refine vc_cond_i rfl ?_ ?_) <;> (intro hb; try simp at hb))
    | ((with_reducible refine vc_dead_i ?_); first | omega | (exfalso; simp_all; done) | skip)
    | ((with_reducible refine vc_exit_i ?_); apply_assumption -exfalso -symm; try apply_assumption -exfalso -symm)
    | ((with_reducible refine vc_ret_i ?_); (with_reducible refine hR _ ?_); simp [r10]; skip)
    | ((with_reducible refine hR _ ?_); simp [r10]; skip)
    | ((with_reducible show vcCall _ _ _ _ _ _ _); refine call_i (n12 _ _ 5 (by simp) (by simp)) (fun _ => 0) (fun _ => 0) (by simp) ⟨⟨⟨rfl, by simp⟩, rfl, trivial⟩, trivial, ⟨⟨by simp, rfl, ⟨wk_same, rfl, trivial⟩⟩, trivial⟩⟩ ?_; rintro _ _ ⟨v5, b5, hv5, rfl, rfl⟩; simp; first | ((with_reducible refine hK _ ?_); (clear hK; clear K)) | (with_reducible apply_assumption -exfalso -symm))
    | ((with_reducible show vcCall _ _ _ _ (Opn.t 87 :: _) _ _); refine call_i (n12 _ _ ps.length (by omega) (by omega)) (fun _ => 0) (fun _ => 0) (by simp) ⟨⟨⟨rfl, by simp⟩, rfl, trivial⟩, trivial, ⟨⟨by simp, rfl, ⟨wk_same, rfl, trivial⟩⟩, trivial⟩⟩ ?_; rintro _ _ ⟨v0, b0, hv0, rfl, rfl⟩; simp; first | ((with_reducible refine hK _ ?_); (clear hK; clear K)) | (with_reducible apply_assumption -exfalso -symm))
    | ((with_reducible show vcCall _ _ _ _ (Opn.t 90 :: _) _ _); refine call_i (n12 _ _ ps.length (by omega) (by omega)) (fun _ => 0) (fun _ => 0) (by simp) ⟨⟨⟨rfl, by simp⟩, rfl, trivial⟩, trivial, ⟨⟨by simp, rfl, ⟨wk_same, rfl, trivial⟩⟩, trivial⟩⟩ ?_; rintro _ _ ⟨v1, b1, hv1, rfl, rfl⟩; simp; first | ((with_reducible refine hK _ ?_); (clear hK; clear K)) | (with_reducible apply_assumption -exfalso -symm))
    | ((with_reducible show vcCall _ _ _ _ _ _ _); refine call_i (n25r _ _ [11, 59, 199] 11 199 (by simp) (by simp) (by simp)) (fun _ => 0) (fun _ => 0) (by simp) ⟨⟨⟨rfl, by simp⟩, wk_sl rfl (lint_get [11, 59, 199]), trivial⟩, trivial, ⟨⟨by simp, rfl, ⟨wk_same, rfl, trivial⟩⟩, trivial⟩⟩ ?_; rintro _ _ ⟨w1, b3, hw1, rfl, rfl⟩; simp; first | ((with_reducible refine hK _ ?_); (clear hK; clear K)) | (with_reducible apply_assumption -exfalso -symm))
    | ((with_reducible show vcCall _ _ _ _ _ _ _); refine call_i (n25r _ _ [9, 3] 3 9 (by simp) (by simp) (by simp)) (fun _ => 0) (fun _ => 0) (by simp) ⟨⟨⟨rfl, by simp⟩, wk_sl rfl (lint_get [9, 3]), trivial⟩, trivial, ⟨⟨by simp, rfl, ⟨wk_same, rfl, trivial⟩⟩, trivial⟩⟩ ?_; rintro _ _ ⟨w2, b4, hw2, rfl, rfl⟩; simp; first | ((with_reducible refine hK _ ?_); (clear hK; clear K)) | (with_reducible apply_assumption -exfalso -symm))
    | ((with_reducible show vcCall _ _ _ _ _ _ _); refine call_i (n16 _ _ _) (fun _ => 0) (fun _ => 0) (by simp) ⟨⟨⟨rfl, by simp⟩, rfl, trivial⟩, trivial, ⟨⟨by simp, rfl, ⟨wk_same, rfl, trivial⟩⟩, trivial⟩⟩ ?_; rintro _ _ ⟨w6, b6, rfl, rfl⟩; simp; first | ((with_reducible refine hK _ ?_); (clear hK; clear K)) | (with_reducible apply_assumption -exfalso -symm))
    | (intros; omega))
  · refine ⟨⟨(k - 1, rs ++ [⟨v0, v1, 1 + w1, 1 + w2, decide (0 < v5), w6, 1, 1, 0, 0⟩], b6), by simp; omega, by simp; omega, by simp; omega, forall_snoc hr ?_, ?_⟩, by simp; omega, turn_id (by simp) rfl (by simp; omega)⟩
    · exact ⟨hv0, hv1, hb, ⟨by simp only; omega, by simp only; omega⟩, ⟨by simp only; omega, by simp only; omega⟩, rfl, rfl, rfl, rfl⟩
    · intro q hq
      simp only
      rw [List.getElem?_append_left (by omega)]
      exact hT q hq
  · exact ⟨⟨(k - 1, rs, b6), by simp; omega, by simp; omega, by simp; omega, hr, hT⟩, by simp; omega, turn_id (by simp) rfl (by simp; omega)⟩
  · refine ret_at (r := aMn ⟨ps, rs⟩) [.frz 9] id [] [(0, ⟨60, [Lint L, I b]⟩)] ?_ (hQ _ _ ⟨⟨ps, rs⟩, b, ⟨hps.1, hps.2, hp, htop, hr10, hrn, hr, hT⟩, rfl, rfl⟩)
    simp [Le, keys]
    exact fun j hj => .inl ((lro_get rs j (by omega)).trans (by simp [List.getD_eq_getElem?_getD]))
end Go.VV
