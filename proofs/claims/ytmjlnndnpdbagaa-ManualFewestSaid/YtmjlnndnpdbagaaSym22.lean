/-
  SYM, part 22: the rule of a region whose order is drawn (the end).
-/
import Derived.Test.YtmjlnndnpdbagaaSym21
set_option linter.all false
set_option linter.unusedSimpArgs false
set_option linter.unusedVariables false
set_option linter.deprecated false
namespace Go.Sym
open Go Go.Great

/-- the operations that an operation waits for have been done -/
def Clo (l : List Oper) (S : Nat → Bool) (i : Nat) : Prop := ∀ o, l[i]? = some o → ∀ e ∈ o.after, Region.binds .any e = true → S e.on = true

def MOk (l : List Oper) (acc : List Nat) : Prop :=
  ∀ j, j < acc.length → ∀ i, (acc.getD j 0).testBit i = true → ∀ S : Nat → Bool, (∀ k, S k = true → Clo l S k) → Clo l S j → S i = true

theorem foldl_bit {acc : List Nat} {i : Nat} : ∀ (es : List Edge) (m : Nat), (es.foldl (fun m e => m ||| ((1 <<< e.on) ||| acc.getD e.on 0)) m).testBit i = true →
    m.testBit i = true ∨ ∃ e ∈ es, e.on = i ∨ (acc.getD e.on 0).testBit i = true
  | [], m, h => .inl h
  | e :: es, m, h => by
    rcases foldl_bit es _ h with h | ⟨e', h1, h2⟩
    · rw [Nat.testBit_or, Nat.testBit_or, Nat.one_shiftLeft, Nat.testBit_two_pow] at h
      simp only [Bool.or_eq_true, decide_eq_true_eq] at h
      rcases h with h | h
      · exact .inl h
      · exact .inr ⟨e, List.mem_cons_self, h⟩
    · exact .inr ⟨e', List.mem_cons_of_mem _ h1, h2⟩

theorem masks_ok {l : List Oper} : ∀ (rest pre : List Oper) (acc : List Nat), l = pre ++ rest → acc.length = pre.length → MOk l acc →
    MOk l (masks rest acc) ∧ (masks rest acc).length = l.length
  | [], pre, acc, h, hl, hm => ⟨hm, by simp [masks, h, hl]⟩
  | o :: rest, pre, acc, h, hl, hm => by
    unfold masks
    refine masks_ok rest (pre ++ [o]) _ (by simp [h]) (by simp [hl]) ?_
    intro j hj i hi S hS hC
    by_cases hlt : j < acc.length
    · refine hm j hlt i ?_ S hS hC
      rw [List.getD_eq_getElem?_getD, List.getElem?_append_left hlt, ← List.getD_eq_getElem?_getD] at hi
      exact hi
    · have hje : j = pre.length := by simp at hj; omega
      subst hje
      rw [List.getD_eq_getElem?_getD, List.getElem?_append_right (by omega)] at hi
      simp only [hl, Nat.sub_self, List.getElem?_cons_zero, Option.getD_some] at hi
      have ho : l[pre.length]? = some o := by simp [h]
      rcases foldl_bit _ _ hi with h0 | ⟨e, h1, h2⟩
      · simp at h0
      · rw [List.mem_filter] at h1
        have hb := hC o ho e (by simpa using h1.1) h1.2
        rcases h2 with rfl | h2
        · exact hb
        · by_cases hlt' : e.on < acc.length
          · exact hm e.on hlt' i h2 S hS (hS _ hb)
          · rw [List.getD_eq_getElem?_getD, List.getElem?_eq_none (by omega)] at h2
            simp at h2

section
variable {C : Cx} {T : List (Nat × TI)}

theorem rel_putG {G : Nat → Prop} {g : Nat} {s : St} {a : Act} {w w' : World} (hrel : Rel C G s.tm s.hp a w) {e e' : Env} (hv : ∀ t, VR w (UE e) e G (tget s.tm t) (a.tmps.getD t undef)) {ups : List Up} {v : AV} {xv : Value} {dst : Option Nat} (hdst : dst.getD 0 < C.N)
    (h1 : HRel w' e' (gadd G g) (ups ++ s.hp)) (h2 : Ext w e G w' e' (gadd G g)) (h3 : Lnt C e') (h4 : Frm C w') (h5 : VR w' (UE e') e' (gadd G g) v xv) :
    Rel C (gadd G g) (s.put dst v ups).tm (s.put dst v ups).hp (a.put dst xv) w' := by
  refine ⟨?_, ?_, h4, e', h1, h3, fun t => ?_⟩
  · cases dst <;> exact hrel.defers
  · cases dst with
    | none => exact hrel.size
    | some d => simp only [Act.put, Array.size_setIfInBounds]; exact hrel.size
  · cases dst with
    | none => exact (hv t).ext h2
    | some d =>
      simp only [St.put, tget, Act.put]
      by_cases h : d = t
      · subst h
        rw [if_pos rfl]
        have hd : d < a.tmps.size := by rw [hrel.size]; exact hdst
        rw [Array.getD_eq_getD_getElem?, Array.getElem?_setIfInBounds_self_of_lt hd]; exact h5
      · rw [if_neg h]
        have : (a.tmps.setIfInBounds d xv).getD t undef = a.tmps.getD t undef := by
          rw [Array.getD_eq_getD_getElem?, Array.getD_eq_getD_getElem?, Array.getElem?_setIfInBounds_ne h]
        rw [this]; exact (hv t).ext h2

theorem opSem_ok (hT : TOk C.P T) (hl : C.lent.length ≤ 100) {o : Oper} (hdst : o.dst.getD 0 < C.N) {G : Nat → Prop} {g : Nat} (hg : ¬ G g) {s : St} {a : Act} {w : World} (hrel : Rel C G s.tm s.hp a w)
    {v : AV} {ups : List Up} {acc : List Nat} (h : opSem C.P T o s.ev s.hp g v ups acc) {Q : Exit → Act → World → Prop}
    {next : Act → World → Prop} (hn : ∀ a' w', Rel C (gadd G g) (s.put o.dst v ups).tm (s.put o.dst v ups).hp a' w' → next a' w') : o.wp C.P a w next Q := by
  obtain ⟨e, hr, hln, hv⟩ := hrel.body
  have p : Pre C e G g s.hp w := ⟨hr, hln, hrel.frm, hg⟩
  have hev : ∀ x, VR w (UE e) e G (s.ev x) (a.eval x) := ev_ok (s := s) hv
  have main : ∀ (P : Prop) (res : Result Next), OpOk C e G g s.hp w (P, v, ups) res →
      (∃ xv w', res = .ok (.value xv) w' ∧ next (a.put o.dst xv) w') ∨ (∃ w', res = .ok .skip w' ∧ next (a.put o.dst undef) w') := by
    rintro P res ⟨nx, w', e', r1, r2, r3, r4, r5, r6⟩
    rcases r6 with ⟨xv, rfl, r6⟩ | ⟨rfl, hvb⟩
    · exact .inl ⟨xv, w', r1, hn _ _ (rel_putG hrel hv hdst r2 r3 r4 r5 r6)⟩
    · refine .inr ⟨w', r1, hn _ _ (rel_putG hrel hv hdst r2 r3 r4 r5 ?_)⟩
      simp only at hvb
      rw [hvb]; exact .dat _ _ (.bad _)
  unfold opSem at h
  split at h
  · rename_i f args at_ hop
    split at h
    · rename_i fid caps hf
      obtain ⟨hc, _⟩ := h
      have hfv := hev f
      rw [hf] at hfv
      have hfn : ∃ cs : Array Value, a.eval f = .func (.func fid) #[] cs ∧ caps.length = cs.size ∧ ∀ i (h : i < caps.length), VR w (UE e) e G caps[i] (cs.getD i undef) := by
        generalize a.eval f = xf at hfv
        cases hfv with
        | dat _ _ h => cases h with | fn _ _ vs h1 h2 => exact ⟨vs, rfl, h1, fun i hi => .dat _ _ (h2 i hi)⟩
        | fn _ _ vs h1 h2 => exact ⟨vs, rfl, h1, h2⟩
      obtain ⟨cs, hfe, hcl, hcv⟩ := hfn
      obtain ⟨⟨fn, hfn1, hfn2, hfn3⟩, hcalls⟩ := call_ok p (did := 100 + o.dst.getD 0) (by omega) (vs := args.toList.map s.ev ++ caps) (vals := args.map a.eval ++ cs) (by simp [hcl]) (by
        intro i hi
        by_cases h : i < args.size
        · have e1 : (args.toList.map s.ev ++ caps)[i] = s.ev args[i] := by
            rw [List.getElem_append_left (by simpa using h)]; simp
          have e2 : (args.map a.eval ++ cs).getD i undef = a.eval args[i] := by
            rw [Array.getD_eq_getD_getElem?, Array.getElem?_append_left (by simpa using h)]; simp [h]
          rw [e1, e2]; exact hev _
        · have hi2 : i - args.size < caps.length := by simp at hi; omega
          have e1 : (args.toList.map s.ev ++ caps)[i] = caps[i - args.size] := by
            rw [List.getElem_append_right (by simpa using h)]; simp
          have e2 : (args.map a.eval ++ cs).getD i undef = cs.getD (i - args.size) undef := by
            rw [Array.getD_eq_getD_getElem?, Array.getElem?_append_right (by simpa using h), Array.getD_eq_getD_getElem?]; simp
          rw [e1, e2]; exact hcv _ hi2) hc
      have hrun : (execOp a.eval o).run C.P w = .ok (.enter fid (args.map a.eval ++ cs)) w := by
        unfold execOp
        simp only [hop, resolve, hfe, Deferred.ofValue, invoke, callFunc, Sem.run_bind, Sem.run_pure, Result.andThen_ok, run_program, hfn1, hfn2, hfn3, Bool.false_eq_true, if_false, Array.empty_append]
      unfold Oper.wp
      rw [hrun, Oper.upon_enter]
      refine hcalls.mono ?_
      rintro en w' ⟨xv, rfl, hok⟩
      rcases main _ _ hok with ⟨xv', w'', hres, hnx⟩ | ⟨w'', hres, hnx⟩
      · cases hres; exact hnx
      · cases hres
    · exact h.elim
  · obtain ⟨h1, rfl, rfl, _⟩ := h
    have := opV_ok p hT hl o hev h1
    unfold Oper.wp
    rcases main _ _ this with ⟨xv, w', hres, hnx⟩ | ⟨w', hres, hnx⟩
    · rw [hres, Oper.upon_value]; exact hnx
    · rw [hres, Oper.upon_skip]; exact hnx

theorem rel_skipG {G : Nat → Prop} (g : Nat) {s : St} {a : Act} {w : World} (hrel : Rel C G s.tm s.hp a w) {dst : Option Nat} (hdst : dst.getD 0 < C.N) :
    Rel C (gadd G g) (s.put dst (.tup []) []).tm (s.put dst (.tup []) []).hp (a.put dst undef) w := by
  obtain ⟨e, hr, hln, hv⟩ := hrel.body
  have x := Ext.wide w e G g
  exact rel_putG hrel hv hdst (hr.ext x fun _ _ _ _ _ _ => rfl) x hln hrel.frm (.dat _ _ (.tup [] #[] rfl (fun i hi => by simp at hi)))

theorem inO_iff {d : Option Nat} {l : List Nat} {t : Nat} (h : inO d l = false) (hd : d = some t) : t ∉ l := by
  subst hd
  simpa [inO] using h

theorem slotOk_back {l : List Oper} (h : slotOk l = true) {j : Nat} {o : Oper} (ho : l[j]? = some o) : ∀ e ∈ o.after, Region.binds .any e = true → e.on < j := by
  intro e he hb
  unfold slotOk at h
  rw [List.all_eq_true] at h
  have hj : j < l.length := (List.getElem?_eq_some_iff.1 ho).1
  have := h j (by simpa using hj)
  simp only [ho, Bool.and_eq_true, List.all_eq_true] at this
  have := this.1 e (by simpa using he)
  simpa [hb] using this

theorem slotOk_pair {l : List Oper} (h : slotOk l = true) {i j : Nat} (hij : i < j) {x y : Oper} (hx : l[i]? = some x) (hy : l[j]? = some y) :
    ((masks l []).getD j 0).testBit i = true ∨ (∀ t, x.dst = some t → t ∉ rds l y ∧ y.dst ≠ some t) ∧ (∀ t, y.dst = some t → t ∉ rds l x) := by
  unfold slotOk at h
  rw [List.all_eq_true] at h
  have hj : j < l.length := (List.getElem?_eq_some_iff.1 hy).1
  have := h j (by simpa using hj)
  simp only [hy, Bool.and_eq_true, List.all_eq_true] at this
  have := this.2 i (by simpa using hij)
  simp only [Bool.or_eq_true, hx, Bool.and_eq_true, Bool.not_eq_true'] at this
  rcases this with h1 | ⟨⟨h1, h2⟩, h3⟩
  · exact .inl h1
  · refine .inr ⟨fun t ht => ⟨inO_iff h1 ht, ?_⟩, fun t ht => inO_iff h2 ht⟩
    rw [ht] at h3
    simpa using h3

theorem disj_spec {a b : List Nat} (h : disj a b = true) {i : Nat} (ha : i ∈ a) : i ∉ b := by
  unfold disj at h
  rw [List.all_eq_true] at h
  simpa using h i ha

/-- generations in use -/
def GS (s : St) (n : Nat) (S : Nat → Bool) : Nat → Prop := fun g => g < s.ck ∨ ∃ j, j < n ∧ S j = true ∧ g = s.ck + j

theorem step_any (hT : TOk C.P T) (hl : C.lent.length ≤ 100) {l : List Oper} (hd : ∀ o ∈ l, o.dst.getD 0 < C.N) (hs : slotOk l = true) {s : St} {e : Nat → En}
    (he : ∀ k (h : k < l.length), EnOk C.P T l l[k] (sS s e (fun _ => true) k) (e k)) (hc : conf (masks l []) (recs e l.length) = true)
    {S : Nat → Bool} (hS : ∀ k, S k = true → Clo l S k) {i : Nat} (hi : i < l.length) (hSi : S i = false) (hCi : Clo l S i) {a : Act} {w : World}
    (hrel : Rel C (GS s l.length S) (sS s e S l.length).tm (sS s e S l.length).hp a w) {Q : Exit → Act → World → Prop} {K : Act → World → Prop}
    (hK : ∀ a' w', Rel C (GS s l.length fun j => S j || decide (j = i)) (sS s e (fun j => S j || decide (j = i)) l.length).tm (sS s e (fun j => S j || decide (j = i)) l.length).hp a' w' → K a' w') :
    wpOp C.P l.toArray Q i K a w := by
  obtain ⟨hm, hml⟩ := masks_ok (l := l) l [] [] (by simp) rfl (by intro j hj; simp at hj)
  have hio : l[i]? = some l[i] := List.getElem?_eq_getElem hi
  obtain ⟨hed, hen⟩ := he i hi
  -- the slots
  have slot : ∀ t, (t ∈ rds l l[i] ∨ l[i].dst = some t) → ∀ j, j < l.length → (e j).d = some t → S j = decide (j < i) := by
    intro t ht j hj hjt
    have hjd : l[j].dst = some t := (he j hj).1.symm.trans hjt
    have hjo : l[j]? = some l[j] := List.getElem?_eq_getElem hj
    by_cases hji : j = i
    · subst hji; simpa using hSi
    · by_cases hlt : j < i
      · simp only [hlt, decide_true]
        rcases slotOk_pair hs hlt hjo hio with h | ⟨h1, h2⟩
        · exact hm i (by omega) j h S hS hCi
        · obtain ⟨h3, h4⟩ := h1 t hjd
          rcases ht with ht | ht
          · exact absurd ht h3
          · exact absurd ht h4
      · have hij : i < j := by omega
        simp only [hlt, decide_false]
        rcases slotOk_pair hs hij hio hjo with h | ⟨h1, h2⟩
        · cases hSj : S j with
          | false => rfl
          | true => have := hm j (by omega) i h S hS (hS j hSj); rw [hSi] at this; cases this
        · rcases ht with ht | ht
          · exact absurd ht (h2 t hjd)
          · exact absurd hjd (h1 t ht).2
  have heap : ∀ id, (id ∈ (e i).acc ∨ id ∈ (e i).ups.map (·.1)) → ∀ j, j < l.length → id ∈ (e j).ups.map (·.1) → S j = decide (j < i) := by
    intro id hid j hj hjt
    by_cases hji : j = i
    · subst hji; simpa using hSi
    · unfold conf at hc
      rw [Bool.or_eq_true] at hc
      have hr : ∀ k, k < l.length → (recs e l.length).getD k ([], []) = ((e k).ups.map (·.1), (e k).acc) := by
        intro k hk
        simp [recs, hk]
      rcases hc with hc | hc
      · rw [List.all_eq_true] at hc
        have := hc ((e j).ups.map (·.1), (e j).acc) (by simp only [recs, List.mem_map, List.mem_range]; exact ⟨j, hj, rfl⟩)
        simp only [List.isEmpty_iff] at this
        rw [this] at hjt; cases hjt
      · rw [List.all_eq_true] at hc
        have hrl : (recs e l.length).length = l.length := by simp [recs]
        rw [hrl] at hc
        by_cases hlt : j < i
        · simp only [hlt, decide_true]
          have := hc i (by simpa using hi)
          rw [List.all_eq_true] at this
          have := this j (by simpa using hlt)
          rw [hr i hi, hr j hj] at this
          simp only [Bool.or_eq_true, Bool.and_eq_true] at this
          rcases this with h | ⟨h1, h2⟩
          · exact hm i (by omega) j h S hS hCi
          · have := disj_spec h1 hjt
            rw [List.mem_append] at this
            exact absurd (hid.symm) this
        · have hij : i < j := by omega
          simp only [hlt, decide_false]
          have := hc j (by simpa using hj)
          rw [List.all_eq_true] at this
          have := this i (by simpa using hij)
          rw [hr i hi, hr j hj] at this
          simp only [Bool.or_eq_true, Bool.and_eq_true] at this
          rcases this with h | ⟨h1, h2⟩
          · cases hSj : S j with
            | false => rfl
            | true => have := hm j (by omega) i h S hS (hS j hSj); rw [hSi] at this; cases this
          · rcases hid with hid | hid
            · exact absurd hid (disj_spec h2 hjt)
            · exact absurd (List.mem_append_left _ hjt) (disj_spec h1 hid)
  have tmeq : ∀ t ∈ rds l l[i], tget (sS s e S l.length).tm t = tget (sS s e (fun _ => true) i).tm t := by
    intro t ht
    rw [sS_tm (S' := fun j => decide (j < i)) l.length fun j hj hjt => slot t (.inl ht) j hj hjt, (sS_lt l.length (Nat.le_of_lt hi)).1]
  have hpeq : ∀ id, (id ∈ (e i).acc ∨ id ∈ (e i).ups.map (·.1)) → (sS s e S l.length).hp.get id = (sS s e (fun _ => true) i).hp.get id := by
    intro id hid
    rw [sS_hp (S' := fun j => decide (j < i)) l.length fun j hj hjt => heap id hid j hj hjt, (sS_lt l.length (Nat.le_of_lt hi)).2]
  have evq : ∀ x ∈ l[i].op.operands, (sS s e S l.length).ev x = (sS s e (fun _ => true) i).ev x := by
    intro x hx
    cases x with
    | tmp t => exact tmeq t (List.mem_append_left _ (List.mem_filterMap.2 ⟨.tmp t, by simpa using hx, rfl⟩))
    | _ => rfl
  have hgck : ¬ GS s l.length S (s.ck + i) := by
    rintro (h | ⟨j, _, h1, h2⟩)
    · omega
    · have : j = i := by omega
      subst this; rw [hSi] at h1; cases h1
  obtain ⟨ins1, ins2⟩ := sS_ins (s := s) (e := e) hSi l.length hi
  have fin : ∀ a' w', Rel C (gadd (GS s l.length S) (s.ck + i)) ((sS s e S l.length).put l[i].dst (e i).v (e i).ups).tm ((sS s e S l.length).put l[i].dst (e i).v (e i).ups).hp a' w' → K a' w' := by
    intro a' w' h
    refine hK a' w' (h.congr ?_ ?_ ?_)
    · intro g
      constructor
      · rintro ((h | ⟨j, h1, h2, h3⟩) | h)
        · exact .inl h
        · exact .inr ⟨j, h1, by simp [h2], h3⟩
        · exact .inr ⟨i, hi, by simp, h⟩
      · rintro (h | ⟨j, h1, h2, h3⟩)
        · exact .inl (.inl h)
        · simp only [Bool.or_eq_true, decide_eq_true_eq] at h2
          rcases h2 with h2 | rfl
          · exact .inl (.inr ⟨j, h1, h2, h3⟩)
          · exact .inr h3
    · intro t
      rw [tget_put, ← hed]
      refine ins1 t fun k h1 h2 h3 h4 h5 => ?_
      have := slot t (.inr (hed.symm.trans h4)) k h2 h5
      rw [h3] at this
      simp at this; omega
    · intro id
      rw [get_put]
      refine ins2 id fun k h1 h2 h3 h4 h5 => ?_
      have := heap id (.inr h4) k h2 h5
      rw [h3] at this
      simp at this; omega
  have sem : opSem C.P T l[i] (sS s e (fun _ => true) i).ev (sS s e (fun _ => true) i).hp (sS s e (fun _ => true) i).ck (e i).v (e i).ups (e i).acc → l[i].wp C.P a w K Q := by
    intro h
    rw [sS_ck] at h
    have h' := opSem_congr h (ev' := (sS s e S l.length).ev) (hp' := (sS s e S l.length).hp) evq (fun id hid => hpeq id (.inl hid))
    exact opSem_ok hT hl (hd _ (List.getElem_mem hi)) hgck hrel h' fin
  unfold wpOp
  have hio' : l.toArray[i]? = some l[i] := by simp
  rw [hio']
  simp only
  cases hg : l[i].guard with
  | none =>
    simp only [hg] at hen
    rw [if_pos (wanted_none hg _)]
    exact .inl (sem hen)
  | some q =>
    obtain ⟨j, want⟩ := q
    simp only [hg] at hen
    obtain ⟨d, hdj, hen⟩ := hen
    rcases hen with ⟨b, hb, hen⟩ | ⟨hb, hv, hu⟩
    · have hy : yielded l.toArray a.tmps j = some b := by
        obtain ⟨e', hr, hln, hv⟩ := hrel.body
        have hvd := hv d
        rw [tmeq d (List.mem_append_right _ (by simp [hg, hdj])), hb] at hvd
        obtain ⟨hvd, _⟩ := hvd.lit_inv
        unfold yielded
        have e1 : (l.toArray[j]?).bind (·.dst) = some d := by simpa [dstOf] using hdj
        rw [e1]
        rw [Array.getD_eq_getD_getElem?] at hvd
        cases hx : a.tmps[d]? with
        | none => rw [hx] at hvd; cases hvd
        | some v => rw [hx] at hvd; simp at hvd; subst hvd; simp [hx]
      rcases hen with ⟨hbw, hen⟩ | ⟨hbw, hv, hu⟩
      · rw [if_pos (by simp [Region.wanted, hg, hy, hbw])]
        exact .inl (sem hen)
      · rw [if_neg (by simp [Region.wanted, hg, hy, hbw])]
        rw [hv, hu] at fin
        exact fin _ _ (rel_skipG _ hrel (hd _ (List.getElem_mem hi)))
    · have hy : yielded l.toArray a.tmps j = none := by
        obtain ⟨e', hr, hln, hv⟩ := hrel.body
        have hvd := hv d
        rw [tmeq d (List.mem_append_right _ (by simp [hg, hdj])), hb] at hvd
        exact yielded_tup hdj hvd
      rw [if_neg (by simp [Region.wanted, hg, hy])]
      rw [hv, hu] at fin
      exact fin _ _ (rel_skipG _ hrel (hd _ (List.getElem_mem hi)))

end
end Go.Sym
