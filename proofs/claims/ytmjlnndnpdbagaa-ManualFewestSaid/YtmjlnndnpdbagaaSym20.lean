/-
  SYM, part 20: the rule of a region whose order is drawn.
-/
import Derived.Test.YtmjlnndnpdbagaaSym19
import Derived.Orders
set_option linter.all false
set_option linter.unusedSimpArgs false
set_option linter.unusedVariables false
set_option linter.deprecated false
namespace Go.Sym
open Go Go.Great

theorem HRel.congr {w : World} {e : Env} {G G' : Nat → Prop} {hp hp' : Hp} (h : HRel w e G hp) (hg : ∀ g, G g ↔ G' g) (hh : ∀ i, hp'.get i = hp.get i) : HRel w e G' hp' := by
  have : G = G' := funext fun g => propext (hg g)
  subst this
  exact ⟨fun i hi => h.dead i ((hh i).symm.trans hi), fun i g ob hi => h.live i g ob ((hh i).symm.trans hi), h.inj, h.lt, h.nz⟩

theorem Rel.congr {C : Cx} {G G' : Nat → Prop} {tm tm' : List (Nat × AV)} {hp hp' : Hp} {a : Act} {w : World} (h : Rel C G tm hp a w) (hg : ∀ g, G g ↔ G' g)
    (ht : ∀ t, tget tm' t = tget tm t) (hh : ∀ i, hp'.get i = hp.get i) : Rel C G' tm' hp' a w := by
  have : G = G' := funext fun g => propext (hg g)
  subst this
  obtain ⟨h1, h2, h3, e, h4, h5, h6⟩ := h
  exact ⟨h1, h2, h3, e, h4.congr (fun _ => Iff.rfl) hh, h5, fun t => by rw [ht t]; exact h6 t⟩

theorem fm_congr {α β : Type} {f g : α → List β} : ∀ {l : List α}, (∀ x ∈ l, f x = g x) → l.flatMap f = l.flatMap g
  | [], _ => rfl
  | x :: l, h => by
    simp only [List.flatMap_cons, h x List.mem_cons_self, fm_congr (l := l) fun y hy => h y (List.mem_cons_of_mem _ hy)]

/-! one operation, at any time -/
def callAcc (hp : Hp) (vs : List AV) : List Nat :=
  vs.flatMap ids3 ++ vs.flatMap fun v => match v with
    | .ptO id _ _ _ _ => (match hp.get id with | some (_, .box cs) => cs.flatMap refs1 | _ => [])
    | _ => []

def opSem (P : Program) (T : List (Nat × TI)) (o : Oper) (ev : Operand → AV) (hp : Hp) (g : Nat) (v : AV) (ups : List Up) (acc : List Nat) : Prop :=
  match o.op with
  | .call { callee := .value f, args, argTypes := _ } => match ev f with
    | .fn fid caps => CallOk P fid g (100 + o.dst.getD 0) hp (args.toList.map ev ++ caps) v ups ∧ acc = callAcc hp (args.toList.map ev ++ caps)
    | _ => False
  | _ => (opV T o ev hp g).1 ∧ v = (opV T o ev hp g).2.1 ∧ ups = (opV T o ev hp g).2.2 ∧ acc = o.op.operands.toList.flatMap fun x => ids3 (ev x)

/-- the same with what follows -/
def opKD (P : Program) (T : List (Nat × TI)) (o : Oper) (s : St) (K : AV → List Up → List Nat → Prop) : Prop :=
  match o.op with
  | .call { callee := .value f, args, argTypes := _ } => match s.ev f with
    | .fn fid caps => CallK P fid s.ck (100 + o.dst.getD 0) s.hp (args.toList.map s.ev ++ caps) fun v ups => K v ups (callAcc s.hp (args.toList.map s.ev ++ caps))
    | _ => False
  | _ => (opV T o s.ev s.hp s.ck).1 ∧ K (opV T o s.ev s.hp s.ck).2.1 (opV T o s.ev s.hp s.ck).2.2 (o.op.operands.toList.flatMap fun x => ids3 (s.ev x))

theorem opKD_ok {P : Program} {T : List (Nat × TI)} {o : Oper} {s : St} {K : AV → List Up → List Nat → Prop} (h : opKD P T o s K) :
    ∃ v ups acc, opSem P T o s.ev s.hp s.ck v ups acc ∧ K v ups acc := by
  unfold opKD at h
  split at h
  · rename_i f args at_ hop
    split at h
    · rename_i fid caps hf
      obtain ⟨v, ups, h1, h2⟩ := h
      refine ⟨v, ups, _, ?_, h2⟩
      unfold opSem
      simp only [hop, hf]
      exact ⟨h1, trivial⟩
    · exact h.elim
  · rename_i hop
    refine ⟨_, _, _, ?_, h.2⟩
    unfold opSem
    split
    · rename_i f args at_ hop'
      exact absurd hop' (hop _ _ _)
    · exact ⟨h.1, rfl, rfl, rfl⟩

theorem CallOk.congr {P : Program} {f : FuncId} {g did : Nat} {hp hp' : Hp} {vs : List AV} {v : AV} {ups : List Up} (h : CallOk P f g did hp vs v ups)
    (hh : ∀ i ∈ callAcc hp vs, hp'.get i = hp.get i) : CallOk P f g did hp' vs v ups := by
  have h1 : ∀ v ∈ vs, ∀ i ∈ ids3 v, hp'.get i = hp.get i := fun v hv i hi => hh i (List.mem_append_left _ (List.mem_flatMap.2 ⟨v, hv, hi⟩))
  have h2 : ∀ {vs' : List AV}, (∀ v ∈ vs', v ∈ vs) → (∀ v ∈ vs', snap2P hp v) → (∀ v ∈ vs', snap2P hp' v) ∧ vs'.map (snap2 hp') = vs'.map (snap2 hp) := by
    intro vs' hs hp1
    have := fun v hv => snap2_agree (hp := hp) (hp' := hp') (v := v) fun i hi => h1 v (hs v hv) i (refs2_ids hi)
    exact ⟨fun v hv => by rw [(this v hv).2]; exact hp1 v hv, List.map_congr_left fun v hv => (this v hv).1⟩
  cases h with
  | plain _ _ a b => obtain ⟨q1, q2⟩ := h2 (fun _ h => h) a; exact .plain _ _ q1 (by rw [q2]; exact b)
  | flat _ _ a b c => obtain ⟨q1, q2⟩ := h2 (fun _ h => h) a; exact .flat _ _ q1 (by rw [q2]; exact b) c
  | fresh _ _ a b => obtain ⟨q1, q2⟩ := h2 (fun _ h => h) a; exact .fresh _ _ q1 (by rw [q2]; exact b)
  | new _ cs' a b => obtain ⟨q1, q2⟩ := h2 (fun _ h => h) a; exact .new _ _ q1 (by rw [q2]; exact b)
  | lent id g' cs vs0 _ cs' hg a b c d =>
    obtain ⟨q1, q2⟩ := h2 (fun _ h => List.mem_cons_of_mem _ h) a
    have hg' := (h1 (.ptO id g' 0 0 0) List.mem_cons_self id (by simp [ids3, ids2, ids1, ids0])).trans hg
    have h3 : ∀ x ∈ cs, snap1 hp' x = snap1 hp x ∧ snap1P hp' x = snap1P hp x := fun x hx => snap1_agree fun i hi => hh i (List.mem_append_right _ (List.mem_flatMap.2 ⟨.ptO id g' 0 0 0, List.mem_cons_self, by
      simp only [hg]; exact List.mem_flatMap.2 ⟨x, hx, hi⟩⟩))
    exact .lent id g' cs vs0 _ cs' hg' q1 (fun x hx => by rw [(h3 x hx).2]; exact b x hx) c (by rw [q2, List.map_congr_left fun x hx => (h3 x hx).1]; exact d)

theorem opSem_congr {P : Program} {T : List (Nat × TI)} {o : Oper} {ev ev' : Operand → AV} {hp hp' : Hp} {g : Nat} {v : AV} {ups : List Up} {acc : List Nat} (h : opSem P T o ev hp g v ups acc)
    (he : ∀ x ∈ o.op.operands, ev' x = ev x) (hh : ∀ i ∈ acc, hp'.get i = hp.get i) : opSem P T o ev' hp' g v ups acc := by
  unfold opSem at h ⊢
  split at h
  · rename_i f args at_ hop
    simp only [hop, Op.operands, Call.operands] at he
    have e1 : ev' f = ev f := he f (by simp)
    have e2 : args.toList.map ev' = args.toList.map ev := List.map_congr_left fun x hx => he x (by simp only [Array.mem_append, Array.mem_toList_iff] at *; simp [Array.mem_toList_iff] at hx ⊢; exact .inr hx)
    split at h
    · rename_i fid caps hf
      simp only [e1, hf, e2]
      obtain ⟨h1, rfl⟩ := h
      refine ⟨h1.congr hh, ?_⟩
      unfold callAcc
      congr 1
      refine fm_congr fun v hv => ?_
      cases v with
      | ptO id _ _ _ _ => 
        have := hh id (List.mem_append_left _ (List.mem_flatMap.2 ⟨_, hv, by simp [ids3, ids2, ids1, ids0]⟩))
        simp only [this]
      | _ => rfl
    · exact h.elim
  · obtain ⟨h1, h2, h3, h4⟩ := h
    have := opV_congr (T := T) o (hp := hp) (hp' := hp') g he fun x hx i hi => hh i (by rw [h4]; exact List.mem_flatMap.2 ⟨x, by simpa using hx, hi⟩)
    rw [this]
    refine ⟨h1, h2, h3, ?_⟩
    rw [h4]
    exact fm_congr fun x hx => by rw [he x (by simpa using hx)]

end Go.Sym
