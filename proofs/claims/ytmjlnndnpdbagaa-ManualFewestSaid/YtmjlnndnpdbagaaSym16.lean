/-
  SYM, part 16: a function's entry and its return.
-/
import Derived.Test.YtmjlnndnpdbagaaSym15
set_option linter.all false
set_option linter.unusedSimpArgs false
set_option linter.unusedVariables false
set_option linter.deprecated false
namespace Go.Sym
open Go Go.Great

section
variable {C : Cx} {e : Env} {G : Nat → Prop} {hp : Hp} {w : World} {T : List (Nat × TI)}

theorem ldCells_pure {ti : TI} {t : Nat} (hf : TFit C.P t ti) {cs : List AV} {b off : Nat} {f : Nat → Value}
    (hc : ∀ j, j < cs.length → w.cell? ⟨b, off + j, none⟩ = some (f j)) (h1 : ∀ i (h : i < cs.length), cs[i].one = true)
    (hv : ∀ i (h : i < cs.length), VR w (UE e) e G cs[i] (f i)) (h : (ldCells ti cs).1) :
    ∃ xv, (Instr.loadAt t (.pointer (some ⟨b, off, none⟩))).run C.P w = .ok xv w ∧ VR w (UE e) e G (ldCells ti cs).2.1 xv := by
  have hs : ti.size ≤ cs.length := h.2
  refine ⟨_, run_loadAt hf w b off f fun j hj => hc j (by omega), ?_⟩
  unfold ldCells R.val
  cases hagg : ti.agg with
  | true =>
    simp only [if_true]
    refine .agg _ _ (by simp; omega) ?_ ?_
    · intro i hi; simp only [List.getElem_take]; exact h1 _ _
    · intro i hi
      have hi' : i < ti.size := by simp at hi; omega
      simp only [List.getElem_take]
      rw [cells_getD f hi']
      exact hv i _
  | false =>
    simp only [Bool.false_eq_true, if_false]
    have h0 : 0 < cs.length := by have := hf.one hagg; omega
    rw [List.getD_eq_getElem?_getD, List.getElem?_eq_getElem h0]
    exact hv 0 h0

theorem opLoad_pure (hr : HRel w e G hp) {ti : TI} {t : Nat} (hf : ti.size ≠ 0 → TFit C.P t ti) {av : AV} {x : Value} (hx : VR w (UE e) e G av x) (h : (opLoad ti hp av).1) :
    ∃ xv, (Instr.loadAt t x).run C.P w = .ok xv w ∧ VR w (UE e) e G (opLoad ti hp av).2.1 xv := by
  cases av with
  | ptI cs =>
    obtain ⟨b, off, f, rfl, h1, h2, h3, h4, h5⟩ := hx.ptI_inv.ptI_inv
    exact ldCells_pure (hf h.1) h3 h4 (fun i hi => .dat _ _ (h5 i hi)) h
  | ptO id g' n i off =>
    simp only [opLoad] at h ⊢
    cases hg : hp.get id with
    | none => simp only [hg] at h; exact h.elim
    | some q =>
      obtain ⟨g'', ob⟩ := q
      obtain ⟨_, _, hi⟩ := hx.ptO_inv
      obtain ⟨ee, he, hgg, _, hor⟩ := hr.live id g'' ob hg
      cases ob with
      | box cs =>
        simp only [hg] at h ⊢
        obtain ⟨rfl, rfl, rfl, h⟩ := h
        obtain ⟨hn, h1, b, c, vs, T, hb, hh, hs, hv⟩ := hor
        obtain ⟨_, hi⟩ := hi ee he hgg
        obtain rfl := hi hn b c hb
        simp only [Nat.zero_mul, Nat.zero_add]
        refine ldCells_pure (hf h.1) (cs := cs.drop off) (f := fun j => vs.getD (off + j) undef) ?_ (one_getElem h1 off) ?_ h
        · intro j hj; rw [cell_of_heap hh (by simp at hj; omega)]
        · intro j hj; simp only [List.getElem_drop]; exact hv _ _
      | own T k es =>
        simp only [hg] at h ⊢
        obtain ⟨rfl, rfl, hlt, h⟩ := h
        obtain ⟨rfl, hn, hk0, hk, h1, hb⟩ := hor
        obtain ⟨_, hi⟩ := hi ee he hgg
        cases hbl : ee.blk with
        | none => rw [hbl] at hb; subst hb; simp at hlt
        | some q =>
          obtain ⟨b, bcap⟩ := q
          rw [hbl] at hb
          obtain ⟨_, hcap, cs, hh, hs, hv⟩ := hb
          obtain rfl := hi hn b bcap hbl
          have hD : es.getD i .bad = es[i] := by rw [List.getD_eq_getElem?_getD, List.getElem?_eq_getElem hlt]; rfl
          rw [hD] at h ⊢
          have hki := hk i hlt
          have hsz : i * ee.k + ee.k ≤ cs.size := by
            rw [hs]
            calc i * ee.k + ee.k = (i + 1) * ee.k := by rw [Nat.succ_mul]
              _ ≤ bcap * ee.k := Nat.mul_le_mul_right _ (by omega)
          refine ldCells_pure (hf h.1) (cs := es[i].cells.drop off) (f := fun j => cs.getD (i * ee.k + off + j) undef) ?_ (one_getElem (fun j hj => h1 i hlt j hj) off) ?_ h
          · intro j hj; rw [cell_of_heap hh (by simp at hj; omega)]
          · intro j hj
            simp only [List.getElem_drop, Nat.add_assoc]
            exact .dat _ _ (hv i hlt _ _)
  | _ => exact h.elim

/-- what a result's variable holds -/
def resV (T : List (Nat × TI)) (s : St) : ResultVar → R
  | .tmp t => .val True (tget s.tm t)
  | .cell t ty => opLoad (tl T ty) s.hp (tget s.tm t)

/-- what a function returns -/
def retAV (T : List (Nat × TI)) (s : St) : List ResultVar → R
  | [x] => resV T s x
  | xs => (∀ x ∈ xs, (resV T s x).1, .tup (xs.map fun x => (resV T s x).2.1), [])

def resM (tmps : Array Value) : ResultVar → Sem Value
  | .tmp t => pure (tmps.getD t undef)
  | .cell ad t => do loadVar t (← asAddr (tmps.getD ad undef))

theorem results_eq (fn : Func) (tmps : Array Value) : results fn tmps = (do let vs ← fn.results.mapM (resM tmps); pure (if h : vs.size = 1 then vs[0] else .tuple vs)) := by
  unfold results
  congr 1

theorem resV_ok (hT : TOk C.P T) {s : St} {a : Act} (hr : HRel w e G s.hp) (hv : ∀ t, VR w (UE e) e G (tget s.tm t) (a.tmps.getD t undef)) (x : ResultVar) (h : (resV T s x).1) :
    ∃ xv, (resM a.tmps x).run C.P w = .ok xv w ∧ VR w (UE e) e G (resV T s x).2.1 xv := by
  cases x with
  | tmp t => exact ⟨_, rfl, hv t⟩
  | cell ad t =>
    obtain ⟨xv, h1, h2⟩ := opLoad_pure (C := C) hr (fun hs => hT.fits (t := t) hs) (hv ad) h
    refine ⟨xv, ?_, h2⟩
    rw [← h1]
    unfold Instr.loadAt resM
    simp only [Sem.run_bind]
    have hx := hv ad
    have : ∃ p, a.tmps.getD ad undef = .pointer (some p) := by
      simp only [resV] at h
      generalize tget s.tm ad = av at h hx
      cases av with
      | ptI cs => obtain ⟨b, off, f, he, _⟩ := hx.ptI_inv.ptI_inv; exact ⟨_, he⟩
      | ptO id g' n i off =>
        have hhas : s.hp.has id g' n := by
          unfold Hp.has
          simp only [opLoad] at h
          cases hg : s.hp.get id with
          | none => simp only [hg] at h; exact h.elim
          | some q =>
            obtain ⟨g'', ob⟩ := q
            cases ob with
            | box cs => simp only [hg] at h ⊢; exact ⟨h.1, h.2.1⟩
            | own T' k es => simp only [hg] at h ⊢; exact ⟨h.1, h.2.1, by have := h.2.2.1; omega⟩
        obtain ⟨_, _, _, _, _, _, _, he⟩ := ptO_live hr hx hhas
        exact ⟨_, he⟩
      | _ => exact h.elim
    obtain ⟨p, hp⟩ := this
    rw [hp]
    rfl

theorem run_mapM_list {P : Program} {α : Type} (g : α → Sem Value) : ∀ (xs : List α) (f : α → Value), (∀ x ∈ xs, (g x).run P w = .ok (f x) w) → (xs.mapM g).run P w = .ok (xs.map f) w
  | [], _, _ => by simp
  | x :: xs, f, h => by
    rw [List.mapM_cons, Sem.run_bind, h x List.mem_cons_self, Result.andThen_ok, Sem.run_bind, run_mapM_list g xs f fun y hy => h y (List.mem_cons_of_mem _ hy), Result.andThen_ok]
    rfl

theorem retAV_ok (hT : TOk C.P T) {s : St} {a : Act} (hr : HRel w e G s.hp) (hv : ∀ t, VR w (UE e) e G (tget s.tm t) (a.tmps.getD t undef)) {fn : Func} (h : (retAV T s fn.results.toList).1) :
    ∃ xv, (results fn a.tmps).run C.P w = .ok xv w ∧ VR w (UE e) e G (retAV T s fn.results.toList).2.1 xv := by
  have hall : ∀ x ∈ fn.results.toList, (resV T s x).1 := by
    unfold retAV at h
    split at h
    · rename_i x hx
      intro y hy
      rw [hx] at hy
      simp at hy; subst hy; exact h
    · exact h
  have hch : ∃ f : ResultVar → Value, ∀ x ∈ fn.results.toList, (resM a.tmps x).run C.P w = .ok (f x) w ∧
      VR w (UE e) e G (resV T s x).2.1 (f x) := by
    have h1 : ∀ x, ∃ v, x ∈ fn.results.toList → (resM a.tmps x).run C.P w = .ok v w ∧ VR w (UE e) e G (resV T s x).2.1 v := by
      intro x
      by_cases hx : x ∈ fn.results.toList
      · obtain ⟨v, h2, h3⟩ := resV_ok hT hr hv x (hall x hx); exact ⟨v, fun _ => ⟨h2, h3⟩⟩
      · exact ⟨undef, fun h => absurd h hx⟩
    exact ⟨fun x => Classical.choose (h1 x), fun x => Classical.choose_spec (h1 x)⟩
  obtain ⟨f, hf⟩ := hch
  have hrun := run_mapM_list (P := C.P) (w := w) (resM a.tmps) fn.results.toList f fun x hx => (hf x hx).1
  have hres : (results fn a.tmps).run C.P w = .ok (if h : (fn.results.toList.map f).toArray.size = 1 then (fn.results.toList.map f).toArray[0] else .tuple (fn.results.toList.map f).toArray) w := by
    rw [results_eq, Sem.run_bind, Array.mapM_eq_mapM_toList, Sem.run_map]
    rw [hrun]
    rfl
  refine ⟨_, hres, ?_⟩
  unfold retAV
  split
  · rename_i x hx
    have hm := hf x (by rw [hx]; simp)
    simp only [hx, List.map_cons, List.map_nil, List.size_toArray, List.length_cons, List.length_nil]
    simpa using hm.2
  · rename_i hne
    rw [dif_neg]
    · refine .tup _ _ (by simp) fun i hi => ?_
      have hi' : i < fn.results.toList.length := by simpa using hi
      simp only [List.getElem_map]
      have : (fn.results.toList.map f).toArray.getD i undef = f fn.results.toList[i] := by
        rw [Array.getD_eq_getD_getElem?, List.getElem?_toArray, List.getElem?_map, List.getElem?_eq_getElem hi']; rfl
      rw [this]
      exact (hf _ (List.getElem_mem hi')).2
    · intro hsz
      have : fn.results.toList.length = 1 := by simpa using hsz
      match hl : fn.results.toList, this with
      | [x], _ => exact hne x hl

def tm0 (as : List AV) : List (Nat × AV) := (as.zipIdx 0).map fun p => (p.2, p.1)
def hp0 (bs : List (List AV)) : Hp := (bs.zipIdx 0).map fun p => (p.2, some (0, .box p.1))

theorem tget_zip : ∀ (as : List AV) (k t : Nat), tget ((as.zipIdx k).map fun p => (p.2, p.1)) (k + t) = as.getD t .bad
  | [], _, _ => rfl
  | a :: as, k, t => by
    simp only [List.zipIdx_cons, List.map_cons, tget]
    cases t with
    | zero => simp
    | succ t =>
      rw [if_neg (by omega)]
      have := tget_zip as (k + 1) t
      rw [show k + 1 + t = k + (t + 1) from by omega] at this
      rw [this]; rfl
theorem hget_zip : ∀ (bs : List (List AV)) (k t : Nat), Hp.get ((bs.zipIdx k).map fun p => (p.2, some (0, .box p.1))) (k + t) = (bs[t]?).map fun cs => (0, .box cs)
  | [], _, _ => rfl
  | b :: bs, k, t => by
    simp only [List.zipIdx_cons, List.map_cons, Hp.get]
    cases t with
    | zero => simp
    | succ t =>
      rw [if_neg (by omega)]
      have := hget_zip bs (k + 1) t
      rw [show k + 1 + t = k + (t + 1) from by omega] at this
      rw [this]; simp
theorem tget_tm0 (as : List AV) (t : Nat) : tget (tm0 as) t = as.getD t .bad := by have := tget_zip as 0 t; rwa [Nat.zero_add] at this
theorem hget_hp0 (bs : List (List AV)) (t : Nat) : Hp.get (hp0 bs) t = (bs[t]?).map fun cs => (0, .box cs) := by have := hget_zip bs 0 t; rwa [Nat.zero_add] at this

theorem refs1_own {v : AV} (h : snap1P hp v) {i : Nat} (hi : i ∈ refs1 v) : ∃ g t k es, hp.get i = some (g, .own t k es) := by
  cases v with
  | slO id g off len =>
    simp [refs1] at hi
    subst hi
    simp only [snap1P] at h
    cases hg : hp.get i with
    | none => simp only [hg] at h
    | some q =>
      obtain ⟨g', ob⟩ := q
      cases ob with
      | box cs => simp only [hg] at h
      | own t k es => exact ⟨_, _, _, _, rfl⟩
  | _ => simp [refs1] at hi
theorem refs2_own {v : AV} (h : snap2P hp v) {i : Nat} (hi : i ∈ refs2 v) : ∃ g t k es, hp.get i = some (g, .own t k es) := by
  cases v with
  | agg cs =>
    simp only [refs2, List.mem_flatMap] at hi
    obtain ⟨c, hc, hi⟩ := hi
    exact refs1_own (h c hc) hi
  | slO id g off len => exact refs1_own (v := .slO id g off len) h hi
  | _ => exact absurd hi (by simp [refs2, refs1])

/-- what stands at a return -/
structure RetOk (T : List (Nat × TI)) (rs : List ResultVar) (nb : Nat) (r : AV) (bs' : List (List AV)) (s : St) : Prop where
  res : (retAV T s rs).1
  dat : snap3P s.hp (retAV T s rs).2.1
  val : snap3 s.hp (retAV T s rs).2.1 = r
  len : bs'.length = nb
  box : ∀ j (h : j < bs'.length), ∃ cs, s.hp.get j = some (0, .box cs) ∧ (∀ c ∈ cs, snap1P s.hp c) ∧ cs.map (snap1 s.hp) = bs'[j]

def QRet (T : List (Nat × TI)) (rs : List ResultVar) (nb : Nat) (r : AV) (bs' : List (List AV)) : Exit → St → Prop
  | .ret, s | .normal, s => RetOk T rs nb r bs' s
  | _, _ => False

theorem init_rel {P : Program} {N : Nat} {w : World} {Z : Nat → Prop} {blks : List Nat} {vals : Array Value} {as : List AV} {bs : List (List AV)} (h1 : blks.length = bs.length) (h2 : blks.Nodup)
    (h3 : ∀ b ∈ blks, b < w.heap.size ∧ ¬ Z b) (h4 : ∀ b, Z b → b < w.heap.size) (h5 : ∀ j (h : j < bs.length) (h' : j < blks.length), BoxAt w (UE (benv blks Z)) bs[j] blks[j])
    (h6 : as.length = vals.size) (h7 : ∀ i (h : i < as.length), VR w (UE (benv blks Z)) (benv blks Z) G0 as[i] (vals.getD i undef)) (hN : vals.size ≤ N) :
    RelS ⟨P, N, w, blks, Z⟩ ⟨tm0 as, hp0 bs, 1⟩ { tmps := vals ++ Array.replicate (N - vals.size) undef, defers := [] } w := by
  have hg : ∀ id ee, benv blks Z id = some ee → ∃ h : id < blks.length, ee = ⟨0, some (blks[id], 0), 0, 0⟩ := by
    intro id ee he
    simp only [benv] at he
    by_cases h : id < blks.length
    · rw [List.getElem?_eq_getElem h] at he
      simp at he
      exact ⟨h, he.symm⟩
    · rw [List.getElem?_eq_none (by omega)] at he
      cases he
  refine ⟨rfl, by simp; omega, ⟨rfl, rfl, rfl, Nat.le_refl _, fun _ _ _ => rfl⟩, benv blks Z, ?_, ?_, ?_⟩
  · constructor
    · intro id hid
      simp only [hget_hp0] at hid
      have : bs.length ≤ id := by
        by_cases h : id < bs.length
        · rw [List.getElem?_eq_getElem h] at hid; cases hid
        · omega
      simp only [benv]
      rw [List.getElem?_eq_none (by omega)]; rfl
    · intro id g ob hid
      simp only [hget_hp0] at hid
      by_cases h : id < bs.length
      · rw [List.getElem?_eq_getElem h] at hid
        simp at hid
        obtain ⟨rfl, rfl⟩ := hid
        have hb : id < blks.length := by omega
        refine ⟨⟨0, some (blks[id], 0), 0, 0⟩, ?_, rfl, show (0 : Nat) < 1 by omega, ?_⟩
        · simp only [benv]; rw [List.getElem?_eq_getElem hb]; rfl
        · obtain ⟨vs, t, q1, q2, q3, q4⟩ := h5 id h hb
          exact ⟨rfl, q3, _, 0, vs, t, rfl, q1, q2, fun j hj => .dat _ _ (q4 j hj)⟩
      · rw [List.getElem?_eq_none (by omega)] at hid; cases hid
    · intro i j ei ej b c c' hi hj hbi hbj
      obtain ⟨hi', rfl⟩ := hg i ei hi
      obtain ⟨hj', rfl⟩ := hg j ej hj
      cases hbi
      simp only [Option.some.injEq, Prod.mk.injEq] at hbj
      have hpw := List.pairwise_iff_getElem.1 h2
      rcases Nat.lt_trichotomy i j with hij | hij | hij
      · exact absurd hbj.1.symm (hpw i j hi' hj' hij)
      · exact hij
      · exact absurd hbj.1 (hpw j i hj' hi' hij)
    · intro i ei b c hi hb
      obtain ⟨hi', rfl⟩ := hg i ei hi
      cases hb
      exact (h3 _ (List.getElem_mem _)).1
    · intro i ei b c hi hb
      obtain ⟨hi', rfl⟩ := hg i ei hi
      cases hb
      exact (h3 _ (List.getElem_mem _)).2
  · refine ⟨rfl, h4, fun id ee b c hl he hb => ?_, fun id hl ee he => ?_⟩
    · obtain ⟨hi', _⟩ := hg id ee he
      exact absurd hl (by simp only; omega)
    · obtain ⟨hi', rfl⟩ := hg id ee he
      exact ⟨0, rfl⟩
  · intro t
    simp only [tget_tm0]
    by_cases ht : t < as.length
    · have e1 : as.getD t .bad = as[t] := by rw [List.getD_eq_getElem?_getD, List.getElem?_eq_getElem ht]; rfl
      have e2 : (vals ++ Array.replicate (N - vals.size) undef).getD t undef = vals.getD t undef := by
        rw [Array.getD_eq_getD_getElem?, Array.getElem?_append_left (by omega), Array.getD_eq_getD_getElem?]
      rw [e1, e2]; exact h7 t ht
    · have e1 : as.getD t .bad = .bad := by rw [List.getD_eq_getElem?_getD, List.getElem?_eq_none (by omega)]; rfl
      rw [e1]; exact .dat _ _ (.bad _)

theorem snap3_pick {hp' : Hp} (hr : HRel w e G hp) {v : AV} {x : Value} (hx : VR w (UE e) e G v x) (h : snap3P hp v) (hi : ∀ i, (∃ g t k es, hp.get i = some (g, .own t k es)) → hp'.get i = none) :
    VD w (UE (epick e hp')) (snap3 hp v) x := by
  cases v with
  | tup cs =>
    obtain ⟨vs, rfl, q1, q3⟩ := hx.tup_inv
    refine .tup _ _ (by simpa using q1) fun i hi' => ?_
    simp only [List.getElem_map]
    have hi'' : i < cs.length := by simpa using hi'
    exact snap2_pick hr (q3 i hi'') (h _ (List.getElem_mem _)) fun j hj => hi j (refs2_own (h _ (List.getElem_mem hi'')) hj)
  | agg cs => exact snap2_pick hr hx h fun j hj => hi j (refs2_own (v := .agg cs) h hj)
  | slO id g off len => exact snap2_pick hr hx h fun j hj => hi j (refs2_own (v := .slO id g off len) h hj)
  | _ => exact snap2_pick hr hx h fun j hj => absurd hj (by simp [refs2, refs1])

theorem Sat_of_awp {P : Program} {f : FuncId} {fn : Func} {c : Code} {as : List AV} {bs : List (List AV)} {r : AV} {bs' : List (List AV)} (hT : TOk P T) (hf : P.funcs[f]? = some fn) (hb : fn.body = some c)
    (hname : (fn.name == "runtime.NumGoroutine") = false) (hN : as.length ≤ fn.ntmps)
    (h : ∀ (w : World) (Z : Nat → Prop) (blks : List Nat), blks.length = bs.length → awp ⟨P, fn.ntmps, w, blks, Z⟩ c (QRet T fn.results.toList bs.length r bs') ⟨tm0 as, hp0 bs, 1⟩) : Sat P f as bs r bs' := by
  refine ⟨⟨fn, hf, hname, by rw [hb]; rfl⟩, fun w Z blks vals h1 h2 h3 h4 h5 h6 h7 => ?_⟩
  have hrel := init_rel (P := P) (N := fn.ntmps) h1 h2 h3 h4 h5 h6 h7 (by omega)
  refine calls_of_wp hf hb (wp_mono (h w Z blks h1 _ w hrel) ?_)
  rintro ex a' w' ⟨s, hr, hq⟩
  have main : RetOk T fn.results.toList bs.length r bs' s → a'.defers = [] ∧ ∃ v, (results fn a'.tmps).run P w' = .ok v w' ∧ ∃ v', Ending.returned v = .returned v' ∧ FrameW blks w w' ∧ bs'.length = blks.length ∧
      (∀ j (h : j < bs'.length) (h' : j < blks.length), BoxAt w' (UE (benv blks Z)) bs'[j] blks[j]) ∧ VD w' (UE (benv blks Z)) r v' := by
    intro hret
    obtain ⟨e, hr1, hln, hv⟩ := hr.body
    obtain ⟨xv, hrun, hxv⟩ := retAV_ok (C := ⟨P, fn.ntmps, w, blks, Z⟩) (s := s) hT hr1 hv hret.res
    -- only the lent boxes are kept
    have hown : ∀ i, (∃ g t k es, s.hp.get i = some (g, .own t k es)) → (hp0 bs').get i = none := by
      rintro i ⟨g, t, k, es, hi⟩
      rw [hget_hp0]
      by_cases hlt : i < bs'.length
      · obtain ⟨cs, hcs, _⟩ := hret.box i hlt
        rw [hi] at hcs; cases hcs
      · rw [List.getElem?_eq_none (by omega)]; rfl
    have hlen : bs'.length = blks.length := by rw [hret.len, h1]
    have hUE : ∀ b, UE (epick e (hp0 bs')) b → UE (benv blks Z) b := by
      intro b hb'
      refine ⟨fun hz => hb'.1 (by show e.z b; rw [hln.zeq]; exact hz), fun i ei cc hi hbl => ?_⟩
      simp only [benv] at hi
      by_cases hlt : i < blks.length
      · rw [List.getElem?_eq_getElem hlt] at hi
        simp at hi
        subst hi
        simp only [Option.some.injEq, Prod.mk.injEq] at hbl
        obtain ⟨cs, hcs, _⟩ := hret.box i (by omega)
        obtain ⟨ee, he, _⟩ := hr1.live i _ _ hcs
        obtain ⟨c', hc'⟩ := hln.lent i hlt ee he
        have : epick e (hp0 bs') i = some ee := by
          rw [epick_of]
          · exact he
          · rw [hget_hp0, List.getElem?_eq_getElem (by omega)]; simp
        refine hb'.2 i ee c' this ?_
        rw [hc', ← hbl.1]
      · rw [List.getElem?_eq_none (by omega)] at hi; cases hi
    refine ⟨hr.defers, xv, hrun, xv, rfl, ⟨hr.frm.os, hr.frm.tape, hr.frm.output, hr.frm.size, hr.frm.same⟩, hlen, fun j hj hj' => ?_, ?_⟩
    · obtain ⟨cs, hcs, hsn, hmap⟩ := hret.box j hj
      obtain ⟨ee, he, _, _, hor⟩ := hr1.live j _ _ hcs
      obtain ⟨_, q1, b, c', vs, t, hbk, hh, hl, hvs⟩ := hor
      obtain ⟨c'', hc''⟩ := hln.lent j hj' ee he
      rw [hbk] at hc''
      simp only [Option.some.injEq, Prod.mk.injEq] at hc''
      rw [← hmap]
      have hbj : blks[j] = b := hc''.1.symm
      rw [hbj]
      refine ⟨vs, t, hh, by simpa using hl, fun i hi => ?_, fun i hi => ?_⟩
      · simp only [List.getElem_map]; exact snap1_one (hsn _ (List.getElem_mem _))
      · simp only [List.getElem_map]
        have hi' : i < cs.length := by simpa using hi
        exact (snap1_pick hr1 (hvs i hi') (hsn _ (List.getElem_mem _)) fun k hk => hown k (refs1_own (hsn _ (List.getElem_mem hi')) hk)).mono (Nat.le_refl _) (fun b' _ hb' => hUE b' hb') (fun _ _ _ => rfl)
    · rw [← hret.val]
      exact (snap3_pick hr1 hxv hret.dat hown).mono (Nat.le_refl _) (fun b' _ hb' => hUE b' hb') (fun _ _ _ => rfl)
  cases ex with
  | ret => exact main hq
  | normal => exact main hq
  | _ => exact hq.elim

end
end Go.Sym
