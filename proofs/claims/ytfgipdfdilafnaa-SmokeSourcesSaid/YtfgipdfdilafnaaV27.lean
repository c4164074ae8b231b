/- Allocations that may come at any time: a block that is there already gets its name later. -/
import Derived.Test.YtfgipdfdilafnaaV16
import Derived.OrdersHeld
set_option linter.unusedSimpArgs false
set_option linter.unusedVariables false
namespace Go.VV
open Go.RowKit

def Env.forget (E : Env) (ds : List Nat) : Env := { E with tm := dropks ds E.tm }

section
variable {P : Program} {G G2 : Gl} {E : Env} {X : RX} {a : Act} {o : Oper} {mt : Mt}

theorem Sat.forget (h : Sat G E X a) (ds : List Nat) : Sat G (E.forget ds) X a :=
  ⟨h.n, h.inv, ⟨h.tm.1, fun i b hb => by
    simp only [Env.forget] at hb
    rw [lookup_dropks] at hb
    split at hb
    · cases hb
    · exact h.tm.2 i b hb⟩, h.df, h.kp⟩
theorem forget_none {ds : List Nat} {d : Nat} (h : d ∈ ds) : (E.forget ds).tm.lookup d = none := by
  simp only [Env.forget]
  rw [lookup_dropks, if_pos h]

/-- Seen from a later moment, with less at hand. -/
structure Sub (G G2 : Gl) : Prop where
  fr : Frame G G2.w0
  mine : ∀ k, G2.mine k → G.mine k
  F : ∀ k, G.F0 k → G2.F0 k
  Fn : ∀ k, G2.F0 k → G.F0 k ∨ G.mine k
  n0 : G2.n0 = G.n0
  β0 : G2.β0 = G.β0
  κ0 : G2.κ0 = G.κ0
  fx : G2.fx = G.fx
theorem Sub.refl (G : Gl) : Sub G G := ⟨⟨rfl, rfl, rfl, Nat.le_refl _, fun _ _ _ => rfl⟩, fun _ h => h, fun _ h => h, fun _ h => .inl h, rfl, rfl, rfl, rfl⟩
theorem Sub.frame (h : Sub G G2) (hs : Sat G2 E X a) : Frame G X.w :=
  h.fr.trans hs.inv.fr.os hs.inv.fr.tape hs.inv.fr.output hs.inv.fr.size fun k hk hm => hs.inv.fr.block k hk fun hl => hm (h.mine k (.inl hl))
theorem Sub.back (h : Sub G G2) (hs : Sat G2 E X a) : Sat G E X a := by
  refine ⟨hs.n, ⟨h.frame hs, hs.inv.Flt, fun k hk => hs.inv.Fold k (h.F k hk), fun k hk => ?_, fun b B hb => ?_, fun i R hi => ?_, hs.inv.bb, hs.inv.rr, hs.inv.br⟩, hs.tm, hs.df, ?_⟩
  · rcases hs.inv.Fnew k hk with hf | hm
    · exact h.Fn k hf
    · exact .inr (h.mine k hm)
  · have hB := hs.inv.box b B hb
    exact ⟨hB.lt, hB.nf, h.mine _ hB.mine, hB.cells⟩
  · have hR := hs.inv.row i R hi
    exact ⟨hR.lt, fun g hg => ⟨(hR.blk g hg).1, h.mine _ (hR.blk g hg).2⟩, hR.rep⟩
  · have hk := hs.kp
    exact ⟨by rw [← h.n0]; exact hk.n, fun b hb => by rw [← h.n0] at hb; rw [← h.β0]; exact hk.b b hb, fun i hi hf => by rw [← h.n0] at hi; rw [← h.fx] at hf; rw [← h.κ0]; exact hk.i i hi hf,
      fun i R hl hi hf => by rw [← h.n0] at hi; rw [← h.fx] at hf; exact hk.r i R hl hi hf⟩

/-- A block that nobody knows of. -/
structure Hid (G G2 : Gl) (g : Nat) (ob : Obj) : Prop where
  nm : ¬ G2.mine g
  mn : G.mine g
  nf : ¬ G2.F0 g
  lt : g < G2.w0.heap.size
  ob : G2.w0.heap[g]? = some ob
theorem Hid.now {g : Nat} {ob : Obj} (h : Hid G G2 g ob) (hs : Sat G2 E X a) : X.w.heap[g]? = some ob ∧ ¬ X.F g ∧ g < X.w.heap.size := by
  refine ⟨by rw [hs.inv.fr.block g h.lt (fun hl => h.nm (.inl hl))]; exact h.ob, fun hF => ?_, Nat.lt_of_lt_of_le h.lt hs.inv.fr.size⟩
  rcases hs.inv.Fnew g hF with hf | hm
  · exact h.nf hf
  · exact h.nm hm

/-- The same state, seen from now. -/
theorem Sat.rebase (hs : Sat G2 E X a) (L' : Nat → Prop) (hL : ∀ k, G2.mine k → k < X.w.heap.size → L' k) : Sat { G2 with w0 := X.w, L := L', F0 := X.F } E X a := by
  refine ⟨hs.n, ⟨⟨rfl, rfl, rfl, Nat.le_refl _, fun _ _ _ => rfl⟩, hs.inv.Flt, fun _ h => h, fun _ h => .inl h, fun b B hb => ?_, fun i R hi => ?_, hs.inv.bb, hs.inv.rr, hs.inv.br⟩, hs.tm, hs.df, ⟨hs.kp.n, hs.kp.b, hs.kp.i, hs.kp.r⟩⟩
  · have hB := hs.inv.box b B hb
    exact ⟨hB.lt, hB.nf, .inl (hL _ hB.mine (box_lt hs.inv hb)), hB.cells⟩
  · have hR := hs.inv.row i R hi
    exact ⟨hR.lt, fun g hg => ⟨(hR.blk g hg).1, .inl (hL _ (hR.blk g hg).2 (row_lt hs.inv hi hg))⟩, hR.rep⟩
theorem Sub.rebase (h : Sub G G2) (hs : Sat G2 E X a) (L' : Nat → Prop) (hL : ∀ k, L' k → G.mine k) : Sub G { G2 with w0 := X.w, L := L', F0 := X.F } := by
  refine ⟨h.frame hs, fun k hk => ?_, fun k hk => hs.inv.Fold k (h.F k hk), fun k hk => ?_, h.n0, h.β0, h.κ0, h.fx⟩
  · rcases hk with hk | hk
    · exact hL k hk
    · exact .inr (Nat.le_trans (h.frame hs).size hk)
  · rcases hs.inv.Fnew k hk with hf | hm
    · exact h.Fn k hf
    · exact .inr (h.mine k hm)

/-- The block comes: nobody knows of it yet. -/
theorem lz_exec (h : Sub G G2) (hs : Sat G2 E X a) {d : Nat} (hd : E.tm.lookup d = none) (v : Value) (ob : Obj) :
    ∃ G3, Sub G G3 ∧ Sat G3 E { X with w := X.w.alloc ob } (a.put (some d) v) ∧ (∀ g o, Hid G G2 g o → Hid G G3 g o) ∧ Hid G G3 X.w.heap.size ob := by
  have hsz : (X.w.alloc ob).heap.size = X.w.heap.size + 1 := by simp
  have hold : ∀ k, k < X.w.heap.size → (X.w.alloc ob).heap[k]? = X.w.heap[k]? := fun k hk => Below.heap_alloc X.w ob k hk
  let G3 : Gl := { G2 with w0 := X.w.alloc ob, L := fun k => G2.mine k ∧ k < X.w.heap.size, F0 := X.F }
  have hle : RX.le (fun _ => False) X { X with w := X.w.alloc ob } := ⟨fun _ h => h, fun k hk => hold k (hs.inv.Flt k hk), fun _ _ _ => rfl, fun _ _ => rfl, Nat.le_refl _⟩
  have hfr := h.frame hs
  refine ⟨G3, ⟨hfr.trans rfl rfl rfl (by rw [hsz]; omega) (fun k hk _ => hold k hk), fun k hk => ?_, fun k hk => hs.inv.Fold k (h.F k hk), fun k hk => ?_, h.n0, h.β0, h.κ0, h.fx⟩,
    ⟨hs.n, ⟨⟨rfl, rfl, rfl, Nat.le_refl _, fun _ _ _ => rfl⟩, fun k hk => by show k < (X.w.alloc ob).heap.size; rw [hsz]; exact Nat.lt_succ_of_lt (hs.inv.Flt k hk), fun _ h => h, fun _ h => .inl h, fun b B hb => ?_, fun i R hi => ?_, hs.inv.bb, hs.inv.rr, hs.inv.br⟩, ?_, hs.df, ⟨hs.kp.n, hs.kp.b, hs.kp.i, hs.kp.r⟩⟩, fun g o hg => ?_, ?_⟩
  · rcases hk with hk | hk
    · exact h.mine k hk.1
    · refine .inr (Nat.le_trans hfr.size ?_)
      have : (X.w.alloc ob).heap.size ≤ k := hk
      omega
  · rcases hs.inv.Fnew k hk with hf | hm
    · exact h.Fn k hf
    · exact .inr (h.mine k hm)
  · have hB := hs.inv.box b B hb
    obtain ⟨vs, h1, h2⟩ := hB.cells
    exact ⟨hB.lt, hB.nf, .inl ⟨hB.mine, box_lt hs.inv hb⟩, vs, (hold _ (box_lt hs.inv hb)).trans h1, h2.up hle⟩
  · have hR := hs.inv.row i R hi
    obtain ⟨xs, h1, h2, h3⟩ := hR.rep
    exact ⟨hR.lt, fun g hg => ⟨(hR.blk g hg).1, .inl ⟨(hR.blk g hg).2, row_lt hs.inv hi hg⟩⟩, xs, own_keep h1 (fun g hg => hold g (row_lt hs.inv hi hg)), h2.up hle, h3⟩
  · have ht := hs.tm.up hle
    refine ⟨by simp only [Act.put]; rw [Array.size_setIfInBounds]; exact ht.1, fun i b hb => ?_⟩
    obtain ⟨u, h1, h2⟩ := ht.2 i b hb
    refine ⟨u, ?_, h2⟩
    have : d ≠ i := fun e => by rw [e, hb] at hd; cases hd
    simp only [Act.put]
    rw [Array.getElem?_setIfInBounds_ne this]
    exact h1
  · obtain ⟨h1, h2, h3⟩ := hg.now hs
    refine ⟨fun hm => ?_, hg.mn, h2, by show g < (X.w.alloc ob).heap.size; omega, (hold g h3).trans h1⟩
    rcases hm with hm | hm
    · exact hg.nm hm.1
    · have : (X.w.alloc ob).heap.size ≤ g := hm
      omega
  · refine ⟨fun hm => ?_, .inr hfr.size, fun hF => Nat.lt_irrefl _ (hs.inv.Flt _ hF), by show X.w.heap.size < (X.w.alloc ob).heap.size; omega, heap_alloc_new X.w ob⟩
    rcases hm with hm | hm
    · exact Nat.lt_irrefl _ hm.2
    · have : (X.w.alloc ob).heap.size ≤ X.w.heap.size := hm
      omega

/-- A block that is free to be named. -/
structure Free (G : Gl) (E : Env) (X : RX) (g : Nat) (ob : Obj) : Prop where
  m : G.mine g
  nf : ¬ X.F g
  nb : ∀ b B, E.boxes.lookup b = some B → X.β b ≠ g
  nr : ∀ i R, E.rows.lookup i = some R → (X.κ i).ownBlock ≠ some g
  ob : X.w.heap[g]? = some ob
theorem lz_free (h : Sub G G2) (hs : Sat G2 E X a) {g : Nat} {ob : Obj} (hg : Hid G G2 g ob) :
    ∃ G3, Sub G G3 ∧ Sat G3 E X a ∧ Free G3 E X g ob ∧ ∀ g' o, g' ≠ g → Hid G G2 g' o → Hid G G3 g' o := by
  obtain ⟨h1, h2, h3⟩ := hg.now hs
  refine ⟨_, h.rebase hs (fun k => G2.mine k ∨ k = g) (fun k hk => ?_), hs.rebase _ (fun k hk _ => .inl hk), ⟨.inl (.inr rfl), h2, fun b B hb e => ?_, fun i R hi e => ?_, h1⟩, fun g' o hne hg' => ?_⟩
  · rcases hk with hk | rfl
    · exact h.mine k hk
    · exact hg.mn
  · exact hg.nm (e ▸ (hs.inv.box b B hb).mine)
  · exact hg.nm ((hs.inv.row i R hi).blk g e).2
  · obtain ⟨h1', h2', h3'⟩ := hg'.now hs
    refine ⟨fun hm => ?_, hg'.mn, h2', h3', h1'⟩
    rcases hm with (hm | hm) | hm
    · exact hg'.nm hm
    · exact hne hm
    · have : X.w.heap.size ≤ g' := hm
      omega

/-- A variable's name. -/
theorem Sat.nameBox (hs : Sat G E X a) {g : Nat} {T : TypeId} {z : List AV} {vs : Array Value} (hf : Free G E X g (.cells vs T)) (hr : RepL X z vs.toList) :
    Sat G { E with boxes := (E.n, ⟨T, z⟩) :: E.boxes, n := E.n + 1 } { X with β := fun b => if b = X.n then g else X.β b, n := X.n + 1 } a ∧
      Rep { X with β := fun b => if b = X.n then g else X.β b, n := X.n + 1 } (.ptr E.n 0) (.pointer (some ⟨g, 0, none⟩)) := by
  have hle : RX.le (fun _ => False) X { X with β := fun b => if b = X.n then g else X.β b, n := X.n + 1 } := ⟨fun _ h => h, fun _ _ => rfl, fun _ _ _ => rfl, fun b hb => by simp [Nat.ne_of_lt hb], Nat.le_succ _⟩
  have hn := hs.n
  refine ⟨⟨by simp [hn], ⟨⟨hs.inv.fr.os, hs.inv.fr.tape, hs.inv.fr.output, hs.inv.fr.size, hs.inv.fr.block⟩, hs.inv.Flt, hs.inv.Fold, hs.inv.Fnew, ?_, ?_, ?_, hs.inv.rr, ?_⟩, hs.tm.up hle, hs.df, hs.kp.same (Nat.le_succ _) (fun b hb => by simp [Nat.ne_of_lt hb]) (fun _ _ => rfl)⟩, ?_⟩
  · intro b B hb
    rw [lookup_cons] at hb
    split at hb
    · rename_i e
      cases hb
      have e2 : b = X.n := by rw [e, hn]
      refine ⟨by show b < X.n + 1; omega, ?_, ?_, vs.toList, ?_, hr.up hle⟩
      · simp only [e2, if_true]; exact hf.nf
      · simp only [e2, if_true]; exact hf.m
      · simp only [e2, if_true]; simpa using hf.ob
    · exact (hs.inv.box b B hb).up hle (hs.inv.box b B hb).nf rfl
  · intro i R hi
    exact (hs.inv.row i R hi).up hle (fun h => h) (fun g' hg => ⟨((hs.inv.row i R hi).blk g' hg).1, rfl⟩)
  · intro b b' B B' hb hb' hne
    rw [lookup_cons] at hb hb'
    simp only
    split at hb
    · rename_i e
      rw [if_neg (fun e' => hne (e.trans e'.symm))] at hb'
      have h1 := (hs.inv.box b' B' hb').lt
      rw [if_pos (by rw [e, hn]), if_neg (by omega)]
      exact fun e => hf.nb b' B' hb' e.symm
    · rename_i e
      have h1 := (hs.inv.box b B hb).lt
      rw [if_neg (by omega : ¬ b = X.n)]
      split at hb'
      · rename_i e'
        rw [if_pos (by rw [e', hn])]
        exact hf.nb b B hb
      · have h1' := (hs.inv.box b' B' hb').lt
        rw [if_neg (by omega : ¬ b' = X.n)]
        exact hs.inv.bb b b' B B' hb hb' hne
  · intro b i B R hb hi
    rw [lookup_cons] at hb
    simp only
    split at hb
    · rename_i e
      rw [if_pos (by rw [e, hn])]
      exact hf.nr i R hi
    · have h1 := (hs.inv.box b B hb).lt
      rw [if_neg (by omega : ¬ b = X.n)]
      exact hs.inv.br b i B R hb hi
  · have := Rep.ptr (X := { X with β := fun b => if b = X.n then g else X.β b, n := X.n + 1 }) E.n 0 (by show E.n < X.n + 1; omega)
    simpa [hn] using this

/-- A row's name. -/
theorem Sat.nameRow (hs : Sat G E X a) {g : Nat} {e : TypeId} {s : Nat} {l : List AV} {vs : Array Value} (hf : Free G E X g (.cells vs e)) (hl : vs.size = l.length * s) (hm : l.length ≤ maxLen) (h1 : ∀ u ∈ vs.toList, u.oneCell' = true) (hr : RepE X s l vs.toList) :
    Sat G { E with rows := (E.n, ⟨e, s, l, false⟩) :: E.rows, n := E.n + 1 } { X with κ := fun i => if i = X.n then .slice (some ⟨g, 0, none⟩) l.length l.length else X.κ i, n := X.n + 1 } a ∧
      Rep { X with κ := fun i => if i = X.n then .slice (some ⟨g, 0, none⟩) l.length l.length else X.κ i, n := X.n + 1 } (.own E.n) (.slice (some ⟨g, 0, none⟩) l.length l.length) := by
  have hn := hs.n
  have hle : RX.le (fun _ => False) X { X with κ := fun i => if i = X.n then .slice (some ⟨g, 0, none⟩) l.length l.length else X.κ i, n := X.n + 1 } := ⟨fun _ h => h, fun _ _ => rfl, fun i hi _ => by simp [Nat.ne_of_lt hi], fun _ _ => rfl, Nat.le_succ _⟩
  refine ⟨⟨by simp [hn], ⟨⟨hs.inv.fr.os, hs.inv.fr.tape, hs.inv.fr.output, hs.inv.fr.size, hs.inv.fr.block⟩, hs.inv.Flt, hs.inv.Fold, hs.inv.Fnew, ?_, ?_, hs.inv.bb, ?_, ?_⟩, hs.tm.up hle, hs.df, ?kp⟩, ?_⟩
  case kp =>
    refine hs.kp.up (Nat.le_succ _) (fun _ _ => rfl) (fun j hj _ _ => by simp [Nat.ne_of_lt hj]) (fun j R' hj hj0 _ => ?_)
    rw [lookup_cons] at hj
    split at hj
    · have := hs.kp.n
      omega
    · exact .inr ⟨R', hj, fun h => h⟩
  · intro b B hb
    exact (hs.inv.box b B hb).up hle (hs.inv.box b B hb).nf rfl
  · intro i R hi
    rw [lookup_cons] at hi
    split at hi
    · rename_i ee
      cases hi
      have e2 : i = X.n := by rw [ee, hn]
      refine ⟨by show i < X.n + 1; omega, ?_, vs.toList, ?_, hr.up hle, h1⟩
      · simp only [e2, if_true]
        intro g' hg
        simp only [Value.ownBlock, Option.some.injEq] at hg
        subst hg
        exact ⟨hf.nf, hf.m⟩
      · simp only [e2, if_true]
        refine ⟨by simpa using hl, .inr ⟨g, l.length, vs, rfl, Nat.zero_le _, hf.ob, Nat.le_refl _, hm, hl, ?_⟩⟩
        rw [← hl]; exact List.take_of_length_le (by simp)
    · exact (hs.inv.row i R hi).up hle (fun h => h) (fun g' hg => ⟨((hs.inv.row i R hi).blk g' hg).1, rfl⟩)
  · intro i i' R R' hi hi' hne g' hg
    rw [lookup_cons] at hi hi'
    dsimp only at hg ⊢
    split at hi
    · rename_i ee
      rw [if_neg (fun e' => hne (ee.trans e'.symm))] at hi'
      have h2 := (hs.inv.row i' R' hi').lt
      rw [if_pos (by rw [ee, hn])] at hg
      simp only [Value.ownBlock, Option.some.injEq] at hg
      subst hg
      rw [if_neg (by omega)]
      exact hf.nr i' R' hi'
    · have h2 := (hs.inv.row i R hi).lt
      rw [if_neg (by omega)] at hg
      split at hi'
      · rename_i ee'
        rw [if_pos (by rw [ee', hn])]
        simp only [Value.ownBlock, ne_eq, Option.some.injEq]
        exact fun e => hf.nr i R hi (by rw [hg, e])
      · have h2' := (hs.inv.row i' R' hi').lt
        rw [if_neg (by omega)]
        exact hs.inv.rr i i' R R' hi hi' hne g' hg
  · intro b i B R hb hi
    rw [lookup_cons] at hi
    simp only
    split at hi
    · rename_i ee
      rw [if_pos (by rw [ee, hn])]
      simp only [Value.ownBlock, ne_eq, Option.some.injEq]
      exact fun e => hf.nb b B hb e.symm
    · have h2 := (hs.inv.row i R hi).lt
      rw [if_neg (by omega)]
      exact hs.inv.br b i B R hb hi
  · have := Rep.own (X := { X with κ := fun i => if i = X.n then .slice (some ⟨g, 0, none⟩) l.length l.length else X.κ i, n := X.n + 1 }) E.n (by show E.n < X.n + 1; omega) (by simp [hn, Value.oneCell'])
    simpa [hn] using this

/-- An operation that makes one block and does nothing else, whatever the world. -/
structure LzOp (P : Program) (o : Oper) (io : Iop) : Prop where
  g : o.guard = none
  out : ∃ (d : Nat) (vf : Nat → Value) (ob : Obj), io.d = some d ∧ o.dst = some d ∧ (∀ (a : Act) (w : World), (execOp a.eval o).run P w = .ok (.value (vf w.heap.size)) (w.alloc ob)) ∧
    ∀ (mt : Mt) (G : Gl) (E : Env) (X : RX) (a : Act) (g : Nat) (K : Env → AV → Prop), Sat G E X a → Free G E X g ob → vcE P mt E K io.i →
      ∃ E' av X', K E' av ∧ X'.w = X.w ∧ (∀ b, b < X.n → X'.β b = X.β b) ∧ Sat G E' X' a ∧ Rep X' av (vf g)

def constB (s : Nat) : Opn → Bool
  | .k a => a.pure && a.known && a.cells.length == s && a.cells.all AV.one
  | .t _ => false
def lzI (io : Iop) : Bool := !io.q && io.g.isNone && io.d.isSome && match io.i with
  | .alloc _ _ => true
  | .bsl _ s ps => ps.all (constB s) && decide (ps.length * s ≤ 16777216) && decide (0 < ps.length) && decide (0 < s)
  | _ => false

theorem eval_const {x : Operand} {av : AV} (h : compO x = some (.k av)) (a a' : Act) : a.eval x = a'.eval x := by
  cases x <;> simp [compO] at h <;> rfl
theorem const_spec {s : Nat} (a0 : Act) : ∀ (parts : List (Nat × Operand)) (n : Nat) (ps : List Opn), compIdx n parts = some ps → (ps.all (constB s)) = true →
    (∀ (E : Env), ps.map E.opd = ps.map (fun p => match p with | .k av => av | .t _ => .top)) ∧ (∀ a : Act, (parts.map fun x => (x.1, a.eval x.2)) = parts.map fun x => (x.1, a0.eval x.2))
  | [], n, ps, h, _ => by simp only [compIdx, Option.some.injEq] at h; subst h; exact ⟨fun _ => rfl, fun _ => rfl⟩
  | (i, x) :: r, n, ps, h, hc => by
    simp only [compIdx] at h
    split at h
    · cases h2 : compO x with
      | none => simp [h2] at h
      | some x' =>
        cases h3 : compIdx (n + 1) r with
        | none => simp [h2, h3] at h
        | some r' =>
          simp only [h2, h3, Option.some.injEq] at h
          subst h
          simp only [List.all_cons, Bool.and_eq_true] at hc
          obtain ⟨ih1, ih2⟩ := const_spec a0 r (n + 1) r' h3 hc.2
          cases x' with
          | t k => simp [constB] at hc
          | k av =>
            refine ⟨fun E => ?_, fun a => ?_⟩
            · simp only [List.map_cons, ih1 E]; rfl
            · simp only [List.map_cons, ih2 a, eval_const h2 a a0]
    · cases h
theorem sat_none (w : World) (a : Act) (ha : a.defers = []) : Sat (.of w (fun _ => False) (fun _ => False)) ⟨[], [], [], 0, a.tmps.size⟩ ⟨fun _ => False, fun _ => undef, fun _ => 0, w, 0⟩ a :=
  ⟨rfl, ⟨⟨rfl, rfl, rfl, Nat.le_refl _, fun _ _ _ => rfl⟩, fun _ h => h.elim, fun _ h => h, fun _ h => .inl h, fun _ _ h => by simp at h, fun _ _ h => by simp at h, fun _ _ _ _ h => by simp at h, fun _ _ _ _ h => by simp at h, fun _ _ _ _ h => by simp at h⟩,
    ⟨rfl, fun _ _ h => by simp at h⟩, ha, ⟨Nat.le_refl _, fun b hb => (Nat.not_lt_zero _ hb).elim, fun b hb => (Nat.not_lt_zero _ hb).elim, fun _ _ h => by simp at h⟩⟩

theorem lz_alloc {T : TypeId} {z : List AV} {o : Oper} {io : Iop} (ho : o.op = .alloc T) (hz : zeroA P T = some z) (hg : o.guard = none) (hd : io.d = o.dst) (hds : io.d.isSome = true) (hi : io.i = .alloc T z) : LzOp P o io := by
  obtain ⟨i, zv, h1, h2, h3⟩ := zeroA_spec hz
  obtain ⟨d, hd'⟩ := Option.isSome_iff_exists.1 hds
  refine ⟨hg, d, fun g => .pointer (some ⟨g, 0, none⟩), .cells zv.cells T, hd', hd ▸ hd', fun a w => ?_, fun mt G E X a g K hs hf h => ?_⟩
  · unfold execOp
    simp [ho, Instr.alloc, zeroValue, typeInfo, h1, h2, newVar, newRow]
  · rw [hi] at h
    obtain ⟨hs', hr⟩ := hs.nameBox hf (h3 X)
    refine ⟨_, _, _, h, ?_, ?_, hs', hr⟩
    · rfl
    · exact fun b hb => by simp [Nat.ne_of_lt hb]

theorem lz_bsl {t e : TypeId} {len : Nat} {parts : Array (Nat × Operand)} {inf : TypeInfo} {z : Value} {ps : List Opn} {o : Oper} {io : Iop} (ho : o.op = .buildSlice t len parts) (hu : P.underlying t = some (.slice e)) (hi : P.info? e = some inf) (hz : inf.zero = some z)
    (hp : compIdx 0 parts.toList = some ps) (hl : ps.length = len) (hc : (ps.all (constB inf.size)) = true) (h3 : ps.length * inf.size ≤ 16777216) (h4 : 0 < ps.length) (h5 : 0 < inf.size) (hg : o.guard = none) (hd : io.d = o.dst) (hds : io.d.isSome = true) (hii : io.i = .bsl e inf.size ps) : LzOp P o io := by
  obtain ⟨d, hd'⟩ := Option.isSome_iff_exists.1 hds
  let a0 : Act := { tmps := #[], defers := [] }
  obtain ⟨hE, hA⟩ := const_spec a0 parts.toList 0 ps hp hc
  let cs : List AV := ps.map (fun p => match p with | .k av => av | .t _ => .top)
  have hlen0 : cs.length = ps.length := by simp [cs]
  let vs : List Value := parts.toList.map fun x => a0.eval x.2
  have hvs : ∀ a : Act, (parts.toList.map fun x => a.eval x.2) = vs := by
    intro a
    have := congrArg (List.map Prod.snd) (hA a)
    simpa [vs, Function.comp_def] using this
  have hpure : AV.pureL cs = true := (AV.pureL_iff _).2 fun b hb => by
    obtain ⟨p, hp1, rfl⟩ := List.mem_map.1 hb
    have := List.all_eq_true.1 hc p hp1
    cases p with
    | t k => simp [constB] at this
    | k av => simp only [constB, Bool.and_eq_true] at this; exact this.1.1.1
  have hall : (cs.all fun a => a.known && a.cells.length == inf.size && a.cells.all AV.one) = true := List.all_eq_true.2 fun b hb => by
    obtain ⟨p, hp1, rfl⟩ := List.mem_map.1 hb
    have := List.all_eq_true.1 hc p hp1
    cases p with
    | t k => simp [constB] at this
    | k av => simp only [constB, Bool.and_eq_true] at this ⊢; exact ⟨⟨this.1.1.2, this.1.2⟩, this.2⟩
  have hrep : ∀ {G : Gl} {E : Env} {X : RX} {a : Act}, Sat G E X a → RepL X cs vs := by
    intro G E X a hs
    have := (compIdx_spec hs parts.toList 0 ps hp).1
    rw [hE E, hvs a] at this
    exact this
  have hzip : ∀ a : Act, (parts.toList.map fun x => (x.1, a.eval x.2)) = (vs.zipIdx 0).map fun x => (x.2, x.1) := by
    intro a
    have := (compIdx_spec (sat_none default a0 rfl) parts.toList 0 ps hp).2
    rw [hA a, this]
  obtain ⟨f1, _, _⟩ := flat_rep h5 (hrep (sat_none default a0 rfl)) hpure hall
  have hvl : vs.length = ps.length := by rw [(hrep (sat_none default a0 rfl)).1, hlen0]
  have hlen : (vs.flatMap fun v => v.cells.toList).length = ps.length * inf.size := by
    have : ∀ (vs : List Value), (∀ v ∈ vs, v.cells.size = inf.size) → (vs.flatMap fun v => v.cells.toList).length = vs.length * inf.size := by
      intro vs
      induction vs with
      | nil => simp
      | cons v vs ih =>
        intro hv
        simp only [List.flatMap_cons, List.length_append, List.length_cons, ih (fun u hu => hv u (by simp [hu])), Array.length_toList, hv v (by simp), Nat.add_mul]
        omega
    rw [this _ f1, hvl]
  have hfill := Great.fill_whole h5 vs ((Array.range (len * inf.size)).map (z.cells[· % z.cells.size]!)) f1 (by rw [hvl, hl]; simp)
  refine ⟨hg, d, fun g => .slice (some ⟨g, 0, none⟩) len len, .cells (vs.flatMap fun v => v.cells.toList).toArray e, hd', hd ▸ hd', fun a w => ?_, fun mt G E X a g K hs hf h => ?_⟩
  · have hrun := run_buildSlice (P := P) w t e len (parts.map fun x => (x.1, a.eval x.2)) _ inf z hu hi hz (by rw [← hl]; omega) (by
        have : 0 < ps.length * inf.size := Nat.mul_pos h4 h5
        rw [← hl]; omega) (by rw [Array.toList_map, hzip a]; exact hfill)
    unfold execOp
    simp only [ho, Sem.run_bind]
    have e2 : (parts.map fun x => match x with | (i, x) => (i, a.eval x)) = parts.map fun x => (x.1, a.eval x.2) := rfl
    rw [e2, hrun]
    simp only [Result.andThen_ok]
    rfl
  · rw [hii] at h
    simp only [vcE] at h
    obtain ⟨_, hk⟩ := h
    obtain ⟨X1, hw1, hs1, hle1⟩ := hs.frzL (AV.ownsL (ps.map E.opd))
    have hno : AV.ownsL (ps.map E.opd) = [] := by
      rw [hE E]
      have : ∀ (l : List AV), AV.pureL l = true → AV.ownsL l = [] := by
        intro l
        induction l with
        | nil => intro _; rfl
        | cons b t ih =>
          intro hb
          simp only [AV.pureL, Bool.and_eq_true] at hb
          have hb1 : ∀ c : AV, c.pure = true → c.owns = [] := by
            intro c
            induction c using AV.rec (motive_2 := fun l => AV.pureL l = true → AV.ownsL l = []) with
            | ag l ih => intro h; exact ih (by simpa [AV.pure] using h)
            | nil => rfl
            | cons a t ha ht => rename_i h; simp only [AV.pureL, Bool.and_eq_true] at h; simp only [AV.ownsL, ha h.1, ht h.2]; rfl
            | own i => intro h; simp [AV.pure] at h
            | fn f l ih => intro h; simp [AV.pure] at h
            | tup l ih => intro h; simp [AV.pure] at h
            | _ => intro _; rfl
          simp only [AV.ownsL, hb1 b hb.1, ih hb.2]
          rfl
      exact this _ hpure
    rw [hno] at hk
    simp only [Env.frzL] at hk
    obtain ⟨f1, f2, f3⟩ := flat_rep h5 (hrep hs) hpure hall
    have := hs.nameRow (g := g) (e := e) (s := inf.size) (l := cs) (vs := (vs.flatMap fun v => v.cells.toList).toArray) hf (by simpa [hlen0] using hlen) (by rw [hlen0]; simp only [maxLen]; have : ps.length * 1 ≤ ps.length * inf.size := Nat.mul_le_mul_left _ h5; omega) (by simpa using f3) (by simpa using f2)
    rw [hE E] at hk
    have h2 := this.2
    refine ⟨_, _, _, hk, ?_, ?_, this.1, ?_⟩
    · rfl
    · exact fun _ _ => rfl
    · have e3 : cs.length = len := by rw [hlen0, hl]
      simp only [e3] at h2 ⊢
      exact h2
theorem lzI_spec {ops : Array Oper} {io : Iop} (hc : compIO P ops o = some io) (h : lzI io = true) : LzOp P o io := by
  obtain ⟨hg, hd, _, hce⟩ := compIO_spec hc
  simp only [lzI, Bool.and_eq_true, Bool.not_eq_true'] at h
  obtain ⟨⟨⟨hq, hgn⟩, hds⟩, hi⟩ := h
  have hE := hce hq
  have hg0 : o.guard = none := by
    cases hgo : o.guard with
    | none => rfl
    | some x =>
      obtain ⟨j, w⟩ := x
      rw [hgo] at hg
      simp only [compG] at hg
      cases hj : (ops[j]?).bind (·.dst) with
      | none => simp [hj] at hg
      | some t => simp only [hj, Option.some.injEq] at hg; rw [← hg] at hgn; simp at hgn
  cases hio : io.i <;> rw [hio] at hi <;> simp only [Bool.false_eq_true] at hi
  case alloc T z =>
    rw [hio] at hE
    have : o.op = .alloc T ∧ zeroA P T = some z := by
      generalize o.op = q at hE
      unfold compE at hE
      split at hE
      case h_1 T' =>
        simp only [Option.map_eq_some_iff, Ins.alloc.injEq] at hE
        obtain ⟨z', hz, rfl, rfl⟩ := hE
        exact ⟨rfl, hz⟩
      all_goals (exfalso; first | (simp [Option.bind_eq_some_iff, Option.map_eq_some_iff] at hE; done) | ((repeat' split at hE) <;> simp [Option.bind_eq_some_iff, Option.map_eq_some_iff] at hE))
    exact lz_alloc this.1 this.2 hg0 hd hds hio
  case bsl e s ps =>
    rw [hio] at hE
    simp only [Bool.and_eq_true, decide_eq_true_eq] at hi
    have : ∃ t len parts inf, o.op = .buildSlice t len parts ∧ P.underlying t = some (.slice e) ∧ P.info? e = some inf ∧ compIdx 0 parts.toList = some ps ∧ (ps.length = len ∧ 0 < inf.size ∧ inf.zero.isSome = true) ∧ s = inf.size := by
      generalize o.op = q at hE
      unfold compE at hE
      split at hE
      case h_3 t len parts =>
        split at hE
        · rename_i e' hu
          split at hE
          · rename_i inf ps' hinf hps
            split at hE
            · rename_i hcond
              simp only [Option.some.injEq, Ins.bsl.injEq] at hE
              obtain ⟨rfl, rfl, rfl⟩ := hE
              exact ⟨_, _, _, inf, rfl, hu, hinf, hps, hcond, rfl⟩
            · cases hE
          · cases hE
        · cases hE
      all_goals (exfalso; first | (simp [Option.bind_eq_some_iff, Option.map_eq_some_iff] at hE; done) | ((repeat' split at hE) <;> simp [Option.bind_eq_some_iff, Option.map_eq_some_iff] at hE))
    obtain ⟨t, len, parts, inf, h1, h2, h3, h4, h5, rfl⟩ := this
    obtain ⟨z, hz⟩ := Option.isSome_iff_exists.1 h5.2.2
    exact lz_bsl h1 h2 h3 hz h4 h5.1 hi.1.1.1 hi.1.1.2 hi.1.2 hi.2 hg0 hd hds hio
end
end Go.VV
