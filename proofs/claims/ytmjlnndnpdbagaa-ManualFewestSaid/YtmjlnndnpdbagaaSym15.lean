/-
  SYM, part 15: the rules of the code.
-/
import Derived.Test.YtmjlnndnpdbagaaSym14
set_option linter.all false
set_option linter.unusedSimpArgs false
set_option linter.unusedVariables false
set_option linter.deprecated false
namespace Go.Sym
open Go Go.Great

def Glt (n : Nat) : Nat → Prop := fun g => g < n

def RelS (C : Cx) (s : St) (a : Act) (w : World) : Prop := Rel C (Glt s.ck) s.tm s.hp a w

def St.put (s : St) (dst : Option Nat) (v : AV) (ups : List Up) : St :=
  ⟨match dst with | some d => (d, v) :: s.tm | none => s.tm, ups ++ s.hp, s.ck + 1⟩

def evs (s : St) (xs : Array Operand) : List AV := xs.toList.map s.ev

/-- a call, and what follows -/
def CallK (P : Program) (f : FuncId) (g did : Nat) (hp : Hp) (vs : List AV) (K : AV → List Up → Prop) : Prop := ∃ v ups, CallOk P f g did hp vs v ups ∧ K v ups

@[congr] theorem CallK_congr {P : Program} {f : FuncId} {g g' did did' : Nat} {hp hp' : Hp} {vs vs' : List AV} {K : AV → List Up → Prop} (hg : g = g') (h : did = did') (hh : hp = hp') (h' : vs = vs') : CallK P f g did hp vs K = CallK P f g' did' hp' vs' K := by
  rw [hg, h, hh, h']

/-- a guard -/
def GK (b want : Bool) (A B : Prop) : Prop := (b = want → A) ∧ (b ≠ want → B)

@[congr] theorem GK_congr {b b' want : Bool} {A B : Prop} (h : b = b') : GK b want A B = GK b' want A B := by rw [h]
theorem GK_tt {A B : Prop} : GK true true A B = A := by simp [GK]
theorem GK_ff {A B : Prop} : GK false false A B = A := by simp [GK]
theorem GK_tf {A B : Prop} : GK true false A B = B := by simp [GK]
theorem GK_ft {A B : Prop} : GK false true A B = B := by simp [GK]

/-- a guard, by what its own operation has given -/
def GM (x : Option AV) (want : Bool) (A B : Prop) : Prop :=
  match x with
  | some (.lit (.bool b)) => GK b want A B
  | some (.tup []) => B
  | _ => False
@[congr] theorem GM_congr {x x' : Option AV} {want : Bool} {A B : Prop} (h : x = x') : GM x want A B = GM x' want A B := by rw [h]
theorem GM_bool {b want : Bool} {A B : Prop} : GM (some (.lit (.bool b))) want A B = GK b want A B := rfl
theorem GM_tup {want : Bool} {A B : Prop} : GM (some (.tup [])) want A B = B := rfl

/-- one operation, and what follows -/
def opK (P : Program) (T : List (Nat × TI)) (o : Oper) (s : St) (K : St → Prop) : Prop :=
  match o.op with
  | .call { callee := .value f, args, argTypes := _ } => match s.ev f with
    | .fn fid caps => CallK P fid s.ck (100 + o.dst.getD 0) s.hp (evs s args ++ caps) fun v ups => K (s.put o.dst v ups)
    | _ => False
  | _ => (opV T o s.ev s.hp s.ck).1 ∧ K (s.put o.dst (opV T o s.ev s.hp s.ck).2.1 (opV T o s.ev s.hp s.ck).2.2)

def dstOf (ops : List Oper) (j : Nat) : Option Nat := (ops[j]?).bind (·.dst)

def awpOps (P : Program) (T : List (Nat × TI)) (all : List Oper) : List Oper → St → (St → Prop) → Prop
  | [], s, K => K s
  | o :: rest, s, K =>
    match o.guard with
    | none => opK P T o s fun s' => awpOps P T all rest s' K
    | some (j, want) =>
      GM ((dstOf all j).map (tget s.tm)) want (opK P T o s fun s' => awpOps P T all rest s' K) (awpOps P T all rest (s.put o.dst (.tup []) []) K)

section
variable {C : Cx} {T : List (Nat × TI)}

theorem gadd_Glt (n : Nat) : gadd (Glt n) n = Glt (n + 1) := by
  funext g
  simp only [gadd, Glt, eq_iff_iff]
  omega

theorem ev_ok {e : Env} {G : Nat → Prop} {w : World} {s : St} {a : Act} (h : ∀ t, VR w (UE e) e G (tget s.tm t) (a.tmps.getD t undef)) : ∀ x, VR w (UE e) e G (s.ev x) (a.eval x) := by
  intro x
  cases x with
  | tmp t => exact h t
  | const v => exact .dat _ _ (VD.ofV v)
  | func f => exact .dat _ _ (.fn f [] #[] rfl (fun i hi => by simp at hi))
  | global g => exact .dat _ _ (.bad _)

/-- what stands behind an operation that has been done -/
theorem rel_put {s : St} {a : Act} {w w' : World} (hrel : RelS C s a w) {e e' : Env} (hv : ∀ t, VR w (UE e) e (Glt s.ck) (tget s.tm t) (a.tmps.getD t undef)) {ups : List Up} {v : AV} {xv : Value} {dst : Option Nat} (hdst : dst.getD 0 < C.N)
    (h1 : HRel w' e' (Glt (s.ck + 1)) (ups ++ s.hp)) (h2 : Ext w e (Glt s.ck) w' e' (Glt (s.ck + 1))) (h3 : Lnt C e') (h4 : Frm C w') (h5 : VR w' (UE e') e' (Glt (s.ck + 1)) v xv) :
    RelS C (s.put dst v ups) (a.put dst xv) w' := by
  refine ⟨?_, ?_, h4, e', h1, h3, fun t => ?_⟩
  · cases dst <;> exact hrel.defers
  · cases dst with
    | none => exact hrel.size
    | some d => simp only [Act.put, Array.size_setIfInBounds]; exact hrel.size
  · cases dst with
    | none => exact (hv t).ext h2
    | some d =>
      simp only [St.put, tget, Act.put]
      by_cases h : d = t
      · subst h
        rw [if_pos rfl]
        have hd : d < a.tmps.size := by rw [hrel.size]; exact hdst
        rw [Array.getD_eq_getD_getElem?, Array.getElem?_setIfInBounds_self_of_lt hd]; exact h5
      · rw [if_neg h]
        have : (a.tmps.setIfInBounds d xv).getD t undef = a.tmps.getD t undef := by
          rw [Array.getD_eq_getD_getElem?, Array.getD_eq_getD_getElem?, Array.getElem?_setIfInBounds_ne h]
        rw [this]; exact (hv t).ext h2
/-- an operation that is carried out -/
theorem opK_ok (hT : TOk C.P T) (hl : C.lent.length ≤ 100) {o : Oper} (hdst : o.dst.getD 0 < C.N) {s : St} {a : Act} {w : World} (hrel : RelS C s a w) {K : St → Prop} (h : opK C.P T o s K) {Q : Exit → Act → World → Prop}
    {next : Act → World → Prop} (hn : ∀ s' a' w', RelS C s' a' w' → K s' → next a' w') : o.wp C.P a w next Q := by
  obtain ⟨e, hr, hln, hv⟩ := hrel.body
  have p : Pre C e (Glt s.ck) s.ck s.hp w := ⟨hr, hln, hrel.frm, by simp [Glt]⟩
  have hev := ev_ok (s := s) hv
  have main : ∀ (P : Prop) (v : AV) (ups : List Up) (res : Result Next), OpOk C e (Glt s.ck) s.ck s.hp w (P, v, ups) res → K (s.put o.dst v ups) →
      (∃ xv w', res = .ok (.value xv) w' ∧ next (a.put o.dst xv) w') ∨ (∃ w', res = .ok .skip w' ∧ next (a.put o.dst undef) w') := by
    rintro P v ups res ⟨nx, w', e', r1, r2, r3, r4, r5, r6⟩ hK
    rw [gadd_Glt] at r2 r3 r6
    rcases r6 with ⟨xv, rfl, r6⟩ | ⟨rfl, rfl⟩
    · exact .inl ⟨xv, w', r1, hn _ _ _ (rel_put hrel hv hdst r2 r3 r4 r5 r6) hK⟩
    · exact .inr ⟨w', r1, hn _ _ _ (rel_put hrel hv hdst r2 r3 r4 r5 (.dat _ _ (.bad _))) hK⟩
  have plain : (opV T o s.ev s.hp s.ck).1 ∧ K (s.put o.dst (opV T o s.ev s.hp s.ck).2.1 (opV T o s.ev s.hp s.ck).2.2) → o.wp C.P a w next Q := by
    rintro ⟨h1, h2⟩
    have := opV_ok p hT hl o hev h1
    unfold Oper.wp
    rcases main _ _ _ _ this h2 with ⟨xv, w', hres, hnx⟩ | ⟨w', hres, hnx⟩
    · rw [hres, Oper.upon_value]; exact hnx
    · rw [hres, Oper.upon_skip]; exact hnx
  unfold opK at h
  split at h
  · rename_i f args at_ hop
    split at h
    · rename_i fid caps hf
      obtain ⟨v, ups, hc, hK⟩ := h
      have hfv := hev f
      rw [hf] at hfv
      have hfn : ∃ cs : Array Value, a.eval f = .func (.func fid) #[] cs ∧ caps.length = cs.size ∧ ∀ i (h : i < caps.length), VR w (UE e) e (Glt s.ck) caps[i] (cs.getD i undef) := by
        generalize a.eval f = xf at hfv
        cases hfv with
        | dat _ _ h => cases h with | fn _ _ vs h1 h2 => exact ⟨vs, rfl, h1, fun i hi => .dat _ _ (h2 i hi)⟩
        | fn _ _ vs h1 h2 => exact ⟨vs, rfl, h1, h2⟩
      obtain ⟨cs, hfe, hcl, hcv⟩ := hfn
      obtain ⟨⟨fn, hfn1, hfn2, hfn3⟩, hcalls⟩ := call_ok p (did := 100 + o.dst.getD 0) (by omega) (vs := evs s args ++ caps) (vals := args.map a.eval ++ cs) (by simp [evs, hcl]) (by
        intro i hi
        by_cases h : i < args.size
        · have e1 : (evs s args ++ caps)[i] = s.ev args[i] := by
            rw [List.getElem_append_left (by simpa [evs] using h)]; simp [evs]
          have e2 : (args.map a.eval ++ cs).getD i undef = a.eval args[i] := by
            rw [Array.getD_eq_getD_getElem?, Array.getElem?_append_left (by simpa using h)]; simp [h]
          rw [e1, e2]; exact hev _
        · have hi2 : i - args.size < caps.length := by simp [evs] at hi; omega
          have e1 : (evs s args ++ caps)[i] = caps[i - args.size] := by
            rw [List.getElem_append_right (by simpa [evs] using h)]; simp [evs]
          have e2 : (args.map a.eval ++ cs).getD i undef = cs.getD (i - args.size) undef := by
            rw [Array.getD_eq_getD_getElem?, Array.getElem?_append_right (by simpa using h), Array.getD_eq_getD_getElem?]; simp
          rw [e1, e2]; exact hcv _ hi2) hc
      have hrun : (execOp a.eval o).run C.P w = .ok (.enter fid (args.map a.eval ++ cs)) w := by
        unfold execOp
        simp only [hop, resolve, hfe, Deferred.ofValue, invoke, callFunc, Sem.run_bind, Sem.run_pure, Result.andThen_ok, run_program, hfn1, hfn2, hfn3, Bool.false_eq_true, if_false, Array.empty_append]
      unfold Oper.wp
      rw [hrun, Oper.upon_enter]
      refine hcalls.mono ?_
      rintro en w' ⟨xv, rfl, hok⟩
      rcases main _ _ _ _ hok hK with ⟨xv', w'', hres, hnx⟩ | ⟨w'', hres, hnx⟩
      · cases hres; exact hnx
      · cases hres
    · exact h.elim
  · exact plain h

theorem RelS.skip {s : St} {a : Act} {w : World} (hrel : RelS C s a w) {dst : Option Nat} (hdst : dst.getD 0 < C.N) : RelS C (s.put dst (.tup []) []) (a.put dst undef) w := by
  obtain ⟨e, hr, hln, hv⟩ := hrel.body
  have x := Ext.wide w e (Glt s.ck) s.ck
  rw [gadd_Glt] at x
  exact rel_put hrel hv hdst (hr.ext x fun _ _ _ _ _ _ => rfl) x hln hrel.frm (.dat _ _ (.tup [] #[] rfl (fun i hi => by simp at hi)))

/-- a guard whose own operation was left out -/
theorem yielded_tup {a : Act} {d : Nat} {w : World} {U : Nat → Prop} {e : Env} {G : Nat → Prop} {all : List Oper} {j : Nat} (hdj : dstOf all j = some d) (hvd : VR w U e G (.tup []) (a.tmps.getD d undef)) : yielded all.toArray a.tmps j = none := by
  obtain ⟨vs, hvd, _⟩ := hvd.tup_inv
  unfold yielded
  have e1 : (all.toArray[j]?).bind (·.dst) = some d := by simpa [dstOf] using hdj
  rw [e1]
  rw [Array.getD_eq_getD_getElem?] at hvd
  cases hx : a.tmps[d]? with
  | none => simp [hx]
  | some v => rw [hx] at hvd; simp at hvd; subst hvd; simp [hx]

theorem wanted_none {o : Oper} (h : o.guard = none) (y : Nat → Option Bool) : Region.wanted o y = true := by simp [Region.wanted, h]

theorem awpOps_ok (hT : TOk C.P T) (hl : C.lent.length ≤ 100) {all : List Oper} (Q : Exit → Act → World → Prop) {K : St → Prop} (hQ : ∀ s' a' w', RelS C s' a' w' → K s' → Q .normal a' w') :
    ∀ (rest : List Oper), (∀ o ∈ rest, o.dst.getD 0 < C.N) → ∀ (s : St) (a : Act) (w : World), RelS C s a w → awpOps C.P T all rest s K → wpList C.P all.toArray Q rest a w
  | [], _, s, a, w, hrel, h => hQ s a w hrel h
  | o :: rest, hd, s, a, w, hrel, h => by
    have ih := awpOps_ok hT hl (all := all) Q hQ rest (fun o' ho => hd o' (List.mem_cons_of_mem _ ho))
    have hdo := hd o List.mem_cons_self
    unfold awpOps at h
    unfold wpList
    cases hg : o.guard with
    | none =>
      simp only [hg] at h
      rw [if_pos (wanted_none hg _)]
      exact .inl (opK_ok hT hl hdo hrel h fun s' a' w' h1 h2 => ih s' a' w' h1 h2)
    | some q =>
      obtain ⟨j, want⟩ := q
      simp only [hg] at h
      cases hdj : dstOf all j with
      | none => simp only [hdj, Option.map_none, GM] at h
      | some d =>
        simp only [hdj, Option.map_some, GM] at h
        split at h
        · rename_i b hb
          obtain ⟨e, hr, hln, hv⟩ := hrel.body
          have hvd := hv d
          simp only [Option.some.injEq] at hb
          rw [hb] at hvd
          obtain ⟨hvd, _⟩ := hvd.lit_inv
          have hy : yielded all.toArray a.tmps j = some b := by
            unfold yielded
            have e1 : (all.toArray[j]?).bind (·.dst) = some d := by simpa [dstOf] using hdj
            rw [e1]
            rw [Array.getD_eq_getD_getElem?] at hvd
            cases hx : a.tmps[d]? with
            | none => rw [hx] at hvd; cases hvd
            | some v => rw [hx] at hvd; simp at hvd; subst hvd; simp [hx]
          by_cases hbw : b = want
          · rw [if_pos (by simp [Region.wanted, hg, hy, hbw])]
            exact .inl (opK_ok hT hl hdo hrel (h.1 hbw) fun s' a' w' h1 h2 => ih s' a' w' h1 h2)
          · rw [if_neg (by simp [Region.wanted, hg, hy, hbw])]
            exact ih _ _ _ (hrel.skip hdo) (h.2 hbw)
        · rename_i hb
          obtain ⟨e, hr, hln, hv⟩ := hrel.body
          have hvd := hv d
          simp only [Option.some.injEq] at hb
          rw [hb] at hvd
          rw [if_neg (by simp [Region.wanted, hg, yielded_tup hdj hvd])]
          exact ih _ _ _ (hrel.skip hdo) h
        · exact h.elim

/-! the code -/
def awp (C : Cx) (c : Code) (Q : Exit → St → Prop) (s : St) : Prop :=
  ∀ a w, RelS C s a w → c.wp C.P (fun ex a' w' => ∃ s', RelS C s' a' w' ∧ Q ex s') a w

def QThen (next : St → Prop) (Q : Exit → St → Prop) : Exit → St → Prop
  | .normal, s => next s
  | e, s => Q e s

def QBlock (id : Nat) (Q : Exit → St → Prop) : Exit → St → Prop
  | .exit id', s => if id' = id then Q .normal s else Q (.exit id') s
  | e, s => Q e s

theorem awp_mono {c : Code} {Q Q' : Exit → St → Prop} {s : St} (h : awp C c Q s) (hq : ∀ e s, Q e s → Q' e s) : awp C c Q' s :=
  fun a w hr => wp_mono (h a w hr) fun e a' w' ⟨s', h1, h2⟩ => ⟨s', h1, hq e s' h2⟩

theorem awp_seq {x y : Code} {Q : Exit → St → Prop} {s : St} (h : awp C x (QThen (awp C y Q) Q) s) : awp C (.seq x y) Q s := by
  intro a w hr
  refine wp_seq (wp_mono (h a w hr) ?_)
  rintro e a' w' ⟨s', h1, h2⟩
  cases e <;> first | exact h2 a' w' h1 | exact ⟨s', h1, h2⟩

theorem awp_skip {Q : Exit → St → Prop} {s : St} (h : Q .normal s) : awp C .skip Q s := fun _ _ hr => wp_skip ⟨s, hr, h⟩
theorem awp_ret {Q : Exit → St → Prop} {s : St} (h : Q .ret s) : awp C .ret Q s := fun _ _ hr => wp_ret ⟨s, hr, h⟩
theorem awp_exit {id : Nat} {Q : Exit → St → Prop} {s : St} (h : Q (.exit id) s) : awp C (.exit id) Q s := fun _ _ hr => wp_exit ⟨s, hr, h⟩
theorem awp_block {id : Nat} {c : Code} {Q : Exit → St → Prop} {s : St} (h : awp C c (QBlock id Q) s) : awp C (.block id c) Q s := by
  intro a w hr
  refine wp_block (wp_mono (h a w hr) ?_)
  rintro e a' w' ⟨s', h1, h2⟩
  cases e with
  | exit id' =>
    simp only [Exit.inBlock, QBlock] at h2 ⊢
    by_cases hid : id' = id
    · rw [if_pos hid] at h2 ⊢; exact ⟨s', h1, h2⟩
    · rw [if_neg hid] at h2 ⊢; exact ⟨s', h1, h2⟩
  | _ => exact ⟨s', h1, h2⟩

theorem awp_cond {c : Operand} {x y : Code} {Q : Exit → St → Prop} {s : St} (b : Bool) (hc : s.ev c = .lit (.bool b)) (ht : b = true → awp C x Q s) (hf : b = false → awp C y Q s) : awp C (.cond c x y) Q s := by
  intro a w hr
  obtain ⟨e, _, _, hv⟩ := hr.body
  have := ev_ok (s := s) hv c
  rw [hc] at this
  obtain ⟨he, _⟩ := this.lit_inv
  refine wp_cond he ?_
  cases b
  · exact hf rfl a w hr
  · exact ht rfl a w hr

theorem awp_region {id : Nat} {l : List Oper} {Q : Exit → St → Prop} {s : St} (hT : TOk C.P T) (hl : C.lent.length ≤ 100) (hd : (l.all fun o => decide (o.dst.getD 0 < C.N)) = true)
    (h : ∀ K : St → Prop, (∀ s', Q .normal s' → K s') → awpOps C.P T l l s K) : awp C (.region id l.toArray false) Q s := by
  intro a w hr
  refine wp_region_lit ?_
  rw [List.all_eq_true] at hd
  exact awpOps_ok (K := fun s' => Q .normal s') hT hl _ (fun s' _ _ h1 h2 => ⟨s', h1, h2⟩) l (fun o ho => by simpa using hd o ho) s a w hr (h _ fun _ h => h)

theorem least (p : Nat → Prop) : ∀ n, p n → ∃ k, p k ∧ ∀ j, p j → k ≤ j := by
  intro n
  induction n using Nat.strongRecOn with
  | _ n ih =>
    intro hn
    by_cases h : ∃ j, j < n ∧ p j
    · obtain ⟨j, hj, hp⟩ := h
      exact ih j hj hp
    · refine ⟨n, hn, fun j hj => ?_⟩
      by_cases hlt : j < n
      · exact absurd ⟨j, hlt, hj⟩ h
      · omega

/-- a loop: a family of states, one of which holds at each round's head -/
theorem awp_loop {ι : Type} {c : Code} {Q : Exit → St → Prop} (inv : ι → St) (ok : ι → Prop) (m : ι → Nat) (i0 : ι) (h0 : ok i0)
    (round : ∀ i, ok i → awp C c (QThen (fun s' => ∃ j, ok j ∧ m j < m i ∧ ∀ a w, RelS C s' a w → RelS C (inv j) a w) Q) (inv i)) : awp C (.loop c) Q (inv i0) := by
  intro a w hr
  have hex : ∃ μ : Act → World → Nat, ∀ a w, (∃ i, ok i ∧ RelS C (inv i) a w) → (∃ i, ok i ∧ RelS C (inv i) a w ∧ m i = μ a w) ∧ ∀ i, ok i → RelS C (inv i) a w → μ a w ≤ m i := by
    have h1 : ∀ a w, ∃ n, (∃ i, ok i ∧ RelS C (inv i) a w) → (∃ i, ok i ∧ RelS C (inv i) a w ∧ m i = n) ∧ ∀ i, ok i → RelS C (inv i) a w → n ≤ m i := by
      intro a w
      by_cases h : ∃ i, ok i ∧ RelS C (inv i) a w
      · obtain ⟨i, hi1, hi2⟩ := h
        obtain ⟨k, ⟨i', h1, h2, h3⟩, h4⟩ := least (fun n => ∃ i, ok i ∧ RelS C (inv i) a w ∧ m i = n) (m i) ⟨i, hi1, hi2, rfl⟩
        exact ⟨k, fun _ => ⟨⟨i', h1, h2, h3⟩, fun i hi hr => h4 _ ⟨i, hi, hr, rfl⟩⟩⟩
      · exact ⟨0, fun h' => absurd h' h⟩
    exact ⟨fun a w => Classical.choose (h1 a w), fun a w => Classical.choose_spec (h1 a w)⟩
  obtain ⟨μ, hμ⟩ := hex
  refine wp_loop (fun a w => ∃ i, ok i ∧ RelS C (inv i) a w) μ ⟨i0, h0, hr⟩ ?_
  intro a w hI
  obtain ⟨⟨i, hi, hri, hm⟩, _⟩ := hμ a w hI
  refine wp_mono (round i hi a w hri) ?_
  rintro e a' w' ⟨s', h1, h2⟩
  cases e with
  | normal =>
    obtain ⟨j, hj, hlt, hs⟩ := h2
    have hI' : ∃ i, ok i ∧ RelS C (inv i) a' w' := ⟨j, hj, hs a' w' h1⟩
    refine ⟨hI', ?_⟩
    have := (hμ a' w' hI').2 j hj (hs a' w' h1)
    omega
  | _ => exact ⟨s', h1, h2⟩

/-- a state that says less -/
structure Weak (s s' : St) : Prop where
  ck : s.ck ≤ s'.ck
  hp : ∀ id, s'.hp.get id = none ∨ s'.hp.get id = s.hp.get id
  tm : ∀ t, tget s'.tm t = .bad ∨ tget s'.tm t = tget s.tm t ∨
    (snap2P s.hp (tget s.tm t) ∧ tget s'.tm t = snap2 s.hp (tget s.tm t) ∧ ∀ i ∈ refs2 (tget s.tm t), s'.hp.get i = none)

/-- the objects that a heap still knows -/
noncomputable def epick (e : Env) (hp : Hp) : Env := ⟨fun i => match hp.get i with | none => none | some _ => e i, e.z⟩

theorem epick_some {e : Env} {hp : Hp} {i : Nat} {ee : EE} (h : epick e hp i = some ee) : e i = some ee ∧ hp.get i ≠ none := by
  simp only [epick] at h
  cases hg : hp.get i with
  | none => rw [hg] at h; cases h
  | some q => rw [hg] at h; exact ⟨h, by simp⟩

theorem epick_of {e : Env} {hp : Hp} {i : Nat} (h : hp.get i ≠ none) : epick e hp i = e i := by
  simp only [epick]
  cases hg : hp.get i with
  | none => exact absurd hg h
  | some q => rfl

theorem Ext.pick (w : World) (e : Env) (hp : Hp) {n m : Nat} (h : n ≤ m) : Ext w e (Glt n) w (epick e hp) (Glt m) := by
  refine ⟨Nat.le_refl _, fun g (hg : g < n) => (Nat.lt_of_lt_of_le hg h : g < m), fun b _ hb => ⟨hb.1, fun i ee c hi => hb.2 i ee c (epick_some hi).1⟩, fun _ _ _ => rfl, fun i ee' hi _ => ⟨ee', (epick_some hi).1, rfl, rfl, .inl ⟨rfl, rfl⟩⟩⟩

theorem snap1_pick {e : Env} {G : Nat → Prop} {w : World} {hp hp' : Hp} (hr : HRel w e G hp) {v : AV} {x : Value} (hx : VR w (UE e) e G v x) (h : snap1P hp v) (hi : ∀ i ∈ refs1 v, hp'.get i = none) :
    VD w (UE (epick e hp')) (snap1 hp v) x := by
  have := snap1_ok hr hx h (ids := refs1 v) (fun _ h => h)
  refine this.mono (Nat.le_refl _) (fun b _ hb => ⟨hb.1, fun i ee c hi' hbl => ?_⟩) (fun _ _ _ => rfl)
  obtain ⟨h1, h2⟩ := epick_some hi'
  refine hb.2 i ee c ?_ hbl
  simp only [edrop]
  rw [if_neg (fun hm => h2 (hi i hm))]
  exact h1

theorem snap2_pick {e : Env} {G : Nat → Prop} {w : World} {hp hp' : Hp} (hr : HRel w e G hp) {v : AV} {x : Value} (hx : VR w (UE e) e G v x) (h : snap2P hp v) (hi : ∀ i ∈ refs2 v, hp'.get i = none) :
    VD w (UE (epick e hp')) (snap2 hp v) x := by
  have := snap2_ok hr hx h (ids := refs2 v) (fun _ h => h)
  refine this.mono (Nat.le_refl _) (fun b _ hb => ⟨hb.1, fun i ee c hi' hbl => ?_⟩) (fun _ _ _ => rfl)
  obtain ⟨h1, h2⟩ := epick_some hi'
  refine hb.2 i ee c ?_ hbl
  simp only [edrop]
  rw [if_neg (fun hm => h2 (hi i hm))]
  exact h1

theorem HRel.pick {e : Env} {w : World} {hp hp' : Hp} {n m : Nat} (h : HRel w e (Glt n) hp) (hnm : n ≤ m) (hs : ∀ id, hp'.get id = none ∨ hp'.get id = hp.get id) : HRel w (epick e hp') (Glt m) hp' := by
  have x := Ext.pick w e hp' hnm
  constructor
  · intro id hid
    simp only [epick, hid]
  · intro id g ob hid
    have hh := (hs id).resolve_left (by rw [hid]; simp)
    obtain ⟨ee, h1, h2, h3, h4⟩ := h.live id g ob (hh.symm.trans hid)
    exact ⟨ee, by rw [epick_of (by rw [hid]; simp)]; exact h1, h2, Nat.lt_of_lt_of_le h3 hnm, h4.ext x fun _ _ _ => rfl⟩
  · intro i j ei ej b c c' hi hj
    exact h.inj i j ei ej b c c' (epick_some hi).1 (epick_some hj).1
  · intro i ei b c hi
    exact h.lt i ei b c (epick_some hi).1
  · intro i ei b c hi
    exact h.nz i ei b c (epick_some hi).1

theorem Lnt.pick {e : Env} (h : Lnt C e) (hp : Hp) : Lnt C (epick e hp) :=
  ⟨h.zeq, h.zlt, fun id ee b c hl he hb => h.mine id ee b c hl (epick_some he).1 hb, fun id hl ee he => h.lent id hl ee (epick_some he).1⟩

theorem Weak.rel {s s' : St} (h : Weak s s') {a : Act} {w : World} (hr : RelS C s a w) : RelS C s' a w := by
  obtain ⟨e, h1, h2, h3⟩ := hr.body
  refine ⟨hr.defers, hr.size, hr.frm, epick e s'.hp, h1.pick h.ck h.hp, h2.pick _, fun t => ?_⟩
  rcases h.tm t with ht | ht | ⟨ht1, ht2, ht3⟩
  · rw [ht]; exact .dat _ _ (.bad _)
  · rw [ht]; exact (h3 t).ext (Ext.pick w e _ h.ck)
  · rw [ht2]; exact .dat _ _ (snap2_pick h1 (h3 t) ht1 ht3)

theorem awp_weak {c : Code} {Q : Exit → St → Prop} {s s' : St} (hw : Weak s s') (h : awp C c Q s') : awp C c Q s := fun a w hr => h a w (hw.rel hr)

end
end Go.Sym
