/-
  SYM, part 10: stores.
-/
import Derived.Test.YtmjlnndnpdbagaaSym9
set_option linter.all false
set_option linter.unusedSimpArgs false
set_option linter.unusedVariables false
set_option linter.deprecated false
namespace Go.Sym
open Go

section
variable {C : Cx} {e : Env} {G : Nat → Prop} {g : Nat} {hp : Hp} {w : World} {T : List (Nat × TI)}

theorem snap1_one {c : AV} (h : snap1P hp c) : (snap1 hp c).one = true := by
  cases c with
  | slO id g off len =>
    simp only [snap1P, snap1] at h ⊢
    cases hg : hp.get id with
    | none => simp only [hg] at h
    | some q =>
      obtain ⟨g'', ob⟩ := q
      cases ob with
      | box cs => simp only [hg] at h
      | own t k es => rfl
  | bad => exact h.elim
  | agg => exact h.elim
  | tup => exact h.elim
  | ptO => exact h.elim
  | _ => rfl

theorem snap2_cells {v : AV} (h : snap2P hp v) : (snap2 hp v).cells = v.cells.map (snap1 hp) ∧ ∀ c ∈ v.cells, snap1P hp c := by
  cases v with
  | agg cs => exact ⟨rfl, h⟩
  | slO id g off len =>
    refine ⟨?_, fun c hc => by simp [AV.cells] at hc; subst hc; exact h⟩
    have := snap1_one (show snap1P hp (.slO id g off len) from h)
    simp only [snap2, AV.cells, List.map_cons, List.map_nil]
    cases hh : snap1 hp (.slO id g off len) <;> rw [hh] at this <;> first | rfl | cases this
  | bad => exact h.elim
  | tup => exact h.elim
  | ptO => exact h.elim
  | _ => exact ⟨rfl, fun c hc => by simp [AV.cells] at hc; subst hc; exact h⟩

theorem snap2_ok (hr : HRel w e G hp) {v : AV} {x : Value} (hx : VR w (UE e) e G v x) (h : snap2P hp v) {ids : List Nat} (hi : ∀ i ∈ refs2 v, i ∈ ids) :
    VD w (UE (edrop e ids)) (snap2 hp v) x := by
  cases v with
  | agg cs =>
    obtain ⟨vs, rfl, hl, q1, q2⟩ := hx.agg_inv
    refine .agg _ _ (by simpa using hl) ?_ ?_
    · intro i hi; simp only [List.getElem_map]; exact snap1_one (h _ (List.getElem_mem _))
    · intro i hi'
      simp only [List.getElem_map]
      have hi'' : i < cs.length := by simpa using hi'
      refine snap1_ok hr (q2 i hi'') (h _ (List.getElem_mem _)) fun j hj => hi j ?_
      simp only [refs2, List.mem_flatMap]
      exact ⟨_, List.getElem_mem hi'', hj⟩
  | bad => exact h.elim
  | tup => exact h.elim
  | ptO => exact h.elim
  | _ => exact snap1_ok hr hx h hi

theorem run_storeAt {P : Program} {t : Nat} {ti : TI} (hf : TFit P t ti) {b off : Nat} {cur : Array Value} {T' : Nat} (hh : w.heap[b]? = some (.cells cur T' (0, 0))) {x : Value}
    (hs : x.cells.size = ti.size) (h1 : ∀ u ∈ x.cells, u.oneCell' = true) (hl : off + ti.size ≤ cur.size) :
    (Instr.storeAt t (.pointer (some ⟨b, off, none⟩)) x).run P w = .ok () (w.setRow b (cur.toList.take off ++ x.cells.toList ++ cur.toList.drop (off + ti.size)).toArray) := by
  unfold Instr.storeAt Instr.sureAddr storeVar
  rw [Sem.run_bind, Sem.run_pure, Result.andThen_ok, Sem.run_bind, run_sizeOf' hf, Result.andThen_ok]
  have hne : ¬ (x.cells.size ≠ ti.size) := by omega
  rw [if_neg hne]
  have := run_storeCells_at P b off T' x.cells.toList 0 cur w hh (by simp; omega) (by simpa using h1)
  rw [this]
  simp [hs]

theorem getD_splice {cur vs : List Value} {off j : Nat} (hl : off + vs.length ≤ cur.length) :
    (cur.take off ++ vs ++ cur.drop (off + vs.length)).toArray.getD j undef = if off ≤ j ∧ j < off + vs.length then vs.getD (j - off) undef else cur.toArray.getD j undef := by
  simp only [Array.getD_eq_getD_getElem?, List.getElem?_toArray, List.getD_eq_getElem?_getD]
  by_cases h1 : j < off
  · rw [if_neg (by omega), List.append_assoc, List.getElem?_append_left (by simp; omega), List.getElem?_take, if_pos h1]
  · by_cases h2 : j < off + vs.length
    · rw [if_pos ⟨by omega, h2⟩, List.getElem?_append_left (by simp; omega), List.getElem?_append_right (by simp; omega)]
      congr 2
      simp; omega
    · rw [if_neg (by omega), List.getElem?_append_right (by simp; omega), List.getElem?_drop]
      congr 2
      simp; omega

theorem getElem_splice {cs vs : List AV} {off j : Nat} (hl : off + vs.length ≤ cs.length) (hj : j < (splice cs off vs).length) :
    (splice cs off vs)[j] = if h : off ≤ j ∧ j < off + vs.length then vs[j - off]'(by omega) else cs[j]'(by unfold splice at hj; simp at hj; omega) := by
  unfold splice at hj ⊢
  have hjl : j < cs.length := by simp at hj; omega
  by_cases h1 : j < off
  · rw [dif_neg (by omega)]
    simp only [List.append_assoc]
    rw [List.getElem_append_left (by simp; omega), List.getElem_take]
  · by_cases h2 : j < off + vs.length
    · rw [dif_pos ⟨by omega, h2⟩, List.getElem_append_left (by simp; omega), List.getElem_append_right (by simp; omega)]
      congr 1
      simp; omega
    · rw [dif_neg (by omega), List.getElem_append_right (by simp; omega), List.getElem_drop]
      congr 1
      simp; omega

theorem splice_length {cs vs : List AV} {off : Nat} (hl : off + vs.length ≤ cs.length) : (splice cs off vs).length = cs.length := by
  unfold splice; simp; omega

theorem eset_id {id : Nat} {ee : EE} (he : e id = some ee) : eset e id (some ee) = e := by
  cases e
  simp only [eset, Env.mk.injEq, and_true]
  funext i
  by_cases h : i = id
  · subst h; simp only [if_true]; exact he.symm
  · simp [h]

theorem Ext.write {id : Nat} {ee : EE} {b c : Nat} (he : e id = some ee) (hb : ee.blk = some (b, c)) (cs : Array Value) :
    Ext w e G (w.setRow b cs) (eset e id (some ee)) (gadd G g) := by
  have hee := eset_id he
  rw [hee]
  refine ⟨by simp, fun _ h => .inl h, fun _ _ h => h, fun b' _ hu => setRow_other w b b' cs ?_, fun _ ee' h _ => ⟨ee', h, rfl, rfl, .inl ⟨rfl, rfl⟩⟩⟩
  rintro rfl
  exact hu.2 id ee c he hb

theorem Frm.write (h : Frm C w) (hl : Lnt C e) {id : Nat} {ee : EE} {b c : Nat} (he : e id = some ee) (hb : ee.blk = some (b, c)) (cs : Array Value) : Frm C (w.setRow b cs) := by
  refine ⟨h.os, h.tape, h.output, by simpa using h.size, fun b' hb' hn => ?_⟩
  rw [setRow_other w b b' cs ?_]
  · exact h.same b' hb' hn
  · rintro rfl
    by_cases hid : id < C.lent.length
    · obtain ⟨c', hc⟩ := hl.lent id hid ee he
      rw [hb] at hc; cases hc
      exact hn (List.getElem_mem _)
    · have := hl.mine id ee b' c (by omega) he hb
      omega

theorem Lnt.set (h : Lnt C e) {id : Nat} {ee : EE} (he : e id = some ee) : Lnt C (eset e id (some ee)) := by
  have hee := eset_id he
  rw [hee]; exact h

/-- a block that an object owns is written -/
theorem wr_obj (p : Pre C e G g hp w) {id : Nat} {ee : EE} {b c : Nat} (he : e id = some ee) (hb : ee.blk = some (b, c)) (cs : Array Value) {ob : Ob}
    (ho : ORel (w.setRow b cs) (eset e id (some ee)) (gadd G g) ob ee) {P : Prop} {res : Result Next} (hres : res = .ok .skip (w.setRow b cs)) :
    OpOk C e G g hp w (P, .bad, [(id, some (ee.g, ob))]) res := by
  have ext := Ext.write (w := w) (g := g) (G := G) he hb cs
  have hlt := p.hr.lt id ee b c he hb
  refine ⟨_, _, _, hres, ?_, ext, p.ln.set he, p.fr.write p.ln he hb cs, .inr ⟨rfl, rfl⟩⟩
  refine p.hr.set ext ho (.inl (p.hr.gen id ee he)) (fun i ei b' c' hne hi hbi => setRow_other w b b' cs ?_) (fun i ei b' c' c'' hne hi hbi hb' => ?_) (fun b' c' hb' => ?_) (fun b' c' hb' => ?_)
  · rintro rfl; exact hne (p.hr.inj i id ei ee b' c' c hi he hbi hb)
  · exact hne (p.hr.inj i id ei ee b' c' c'' hi he hbi hb')
  · rw [hb] at hb'; cases hb'; simpa using hlt
  · exact p.hr.nz id ee b' c' he hb'

theorem store_box (p : Pre C e G g hp w) (hT : TOk C.P T) {t id g' off : Nat} {x xa : Value} {v : AV} {cs : List AV} (hx : VR w (UE e) e G v x) (ha : VR w (UE e) e G (.ptO id g' 0 0 off) xa)
    (hg : hp.get id = some (g', .box cs)) (hs0 : (tl T t).size ≠ 0) (hs : v.cells.length = (tl T t).size) (h1 : ∀ c ∈ v.cells, c.one = true) (hl : off + (tl T t).size ≤ cs.length) {P : Prop} :
    OpOk C e G g hp w (P, .bad, [(id, some (g', .box (splice cs off v.cells)))]) (((Instr.storeAt t xa x).run C.P w).andThen fun _ w => .ok .skip w) := by
  have hf := hT.fits hs0
  obtain ⟨ee, he, hgg, _, hor⟩ := p.hr.live id _ _ hg
  obtain ⟨hn, q1, b, c, vs, T', hb, hh, hsz, hv⟩ := hor
  obtain ⟨_, _, hin⟩ := ha.ptO_inv
  obtain ⟨_, hin⟩ := hin ee he hgg
  obtain rfl := hin hn b c hb
  obtain ⟨c1, c2, c3⟩ := cells_vals hx h1
  have hrun := run_storeAt (w := w) hf hh (c1.trans hs) c3 (off := 0 * ee.k + off) (by omega)
  subst hgg
  refine wr_obj p he hb _ ?_ (by rw [hrun, Result.andThen_ok])
  have ext := Ext.write (w := w) (g := g) (G := G) he hb (vs.toList.take (0 * ee.k + off) ++ x.cells.toList ++ vs.toList.drop (0 * ee.k + off + (tl T t).size)).toArray
  have hle : off + v.cells.length ≤ cs.length := by omega
  refine ⟨hn, ?_, b, c, _, T', hb, setRow_heap w b vs _ T' (0, 0) hh, ?_, ?_⟩
  · intro j hj
    rw [getElem_splice hle hj]
    split
    · exact h1 _ (List.getElem_mem _)
    · exact q1 _ _
  · rw [splice_length hle]; simp; omega
  · intro j hj
    refine VR.ext ext ?_
    rw [getElem_splice hle hj]
    have e1 : (0 * ee.k + off + (tl T t).size) = 0 * ee.k + off + x.cells.toList.length := by simp; omega
    rw [e1, getD_splice (by simp; omega)]
    have e2 : x.cells.toList.length = v.cells.length := by simp [c1]
    simp only [Nat.zero_mul, Nat.zero_add, e2]
    split
    · have := c2 (j - off) (by omega)
      rw [Array.getD_eq_getD_getElem?] at this
      rw [List.getD_eq_getElem?_getD]
      simpa using this
    · have := hv j (by rw [splice_length hle] at hj; exact hj)
      simpa using this

theorem store_own (p : Pre C e G g hp w) (hT : TOk C.P T) {t id g' i T' k : Nat} {x xa : Value} {v : AV} {es : List AV} (hx : VR w (UE e) e G v x) (ha : VR w (UE e) e G (.ptO id g' es.length i 0) xa)
    (hg : hp.get id = some (g', .own T' k es)) (hi : i < es.length) (hs : v.cells.length = (tl T t).size) (hk : k = (tl T t).size) (hsn : snap2P hp v) (hni : id ∉ refs2 v) {P : Prop} :
    OpOk C e G g hp w (P, .bad, (id, some (g', .own T' k (es.set i (snap2 hp v)))) :: (refs2 v).map fun j => (j, none)) (((Instr.storeAt t xa x).run C.P w).andThen fun _ w => .ok .skip w) := by
  have hDr := p.hr.drops (refs2 v)
  have x1 := Ext.drops w e G (refs2 v)
  obtain ⟨ee, he, hgg, hGg, hor⟩ := p.hr.live id _ _ hg
  have he' : edrop e (refs2 v) id = some ee := by simp only [edrop]; rw [if_neg hni]; exact he
  obtain ⟨hk', hn, hk0, hkl, q1, hb⟩ := hor
  have hf := hT.fits (t := t) (by omega)
  cases hbl : ee.blk with
  | none => rw [hbl] at hb; subst hb; simp at hi
  | some q =>
    obtain ⟨b, bcap⟩ := q
    rw [hbl] at hb
    obtain ⟨hm, hlb, cs, hh, hsz, hv⟩ := hb
    obtain ⟨_, _, hin⟩ := ha.ptO_inv
    obtain ⟨_, hin⟩ := hin ee he hgg
    obtain rfl := hin hn b bcap hbl
    obtain ⟨sc1, sc2⟩ := snap2_cells hsn
    have hD := snap2_ok p.hr hx hsn (ids := refs2 v) (fun _ h => h)
    have hone : ∀ c ∈ (snap2 hp v).cells, c.one = true := by
      rw [sc1]; intro c hc
      obtain ⟨c', hc', rfl⟩ := List.mem_map.1 hc
      exact snap1_one (sc2 c' hc')
    obtain ⟨c1, c2, c3⟩ := cells_valsD hD hone
    have hcl : (snap2 hp v).cells.length = k := by rw [sc1, List.length_map]; omega
    have hfit : i * ee.k + 0 + (tl T t).size ≤ cs.size := by
      rw [hsz, hk', ← hk]
      calc i * k + 0 + k = (i + 1) * k := by rw [Nat.succ_mul]; omega
        _ ≤ bcap * k := Nat.mul_le_mul_right _ (by omega)
    have hrun := run_storeAt (w := w) hf hh (by rw [c1, hcl]; exact hk) c3 hfit
    rw [hrun, Result.andThen_ok]
    have p' : Pre C (edrop e (refs2 v)) G g ((refs2 v).map (fun j => (j, none)) ++ hp) w := ⟨hDr, p.ln.drops _, p.fr, p.ng⟩
    subst hgg
    have hw := wr_obj (P := P) p' he' hbl (cs.toList.take (i * ee.k + 0) ++ x.cells.toList ++ cs.toList.drop (i * ee.k + 0 + (tl T t).size)).toArray (ob := .own T' k (es.set i (snap2 hp v))) ?_ rfl
    · obtain ⟨nx, w', e', r1, r2, r3, r4, r5, r6⟩ := hw
      exact ⟨nx, w', e', r1, r2, x1.trans r3, r4, r5, r6⟩
    · have ext := Ext.write (w := w) (g := g) (G := G) he' hbl (cs.toList.take (i * ee.k + 0) ++ x.cells.toList ++ cs.toList.drop (i * ee.k + 0 + (tl T t).size)).toArray
      have elem : ∀ j (hj : j < (es.set i (snap2 hp v)).length), (es.set i (snap2 hp v))[j] = if i = j then snap2 hp v else es[j]'(by simpa using hj) := fun j hj => by
        rw [List.getElem_set]
      refine ⟨hk', by simp [hn], hk0, ?_, ?_, ?_⟩
      · intro j hj; rw [elem j hj]; split
        · exact hcl
        · exact hkl _ _
      · intro j hj l hl
        simp only [elem j hj] at hl ⊢
        by_cases hij : i = j
        · simp only [hij, if_true] at hl ⊢; exact hone _ (List.getElem_mem _)
        · simp only [hij, if_false] at hl ⊢; exact q1 _ _ _ _
      · rw [hbl]
        refine ⟨hm, by simpa using hlb, _, setRow_heap w b cs _ T' (0, 0) hh, ?_, ?_⟩
        · have hx1 : x.cells.size = (tl T t).size := by rw [c1, hcl]; exact hk
          simp [hx1]; omega
        · intro j hj l hl
          have e1 : (i * ee.k + 0 + (tl T t).size) = i * ee.k + 0 + x.cells.toList.length := by simp [c1, hcl, hk]
          have e2 : x.cells.toList.length = k := by simp [c1, hcl]
          have e5 : i * ee.k + 0 + x.cells.toList.length ≤ cs.toList.length := by rw [← e1]; simpa using hfit
          simp only [elem j hj] at hl ⊢
          have hj' : j < es.length := by simpa using hj
          by_cases hij : i = j
          · subst hij
            simp only [if_true] at hl ⊢
            have val : (cs.toList.take (i * ee.k + 0) ++ x.cells.toList ++ cs.toList.drop (i * ee.k + 0 + (tl T t).size)).toArray.getD (i * k + l) undef = x.cells.getD l undef := by
              rw [e1, getD_splice e5, if_pos (by rw [e2, hk']; omega)]
              have e3 : i * k + l - (i * ee.k + 0) = l := by rw [hk']; omega
              rw [e3]
              simp [List.getD_eq_getElem?_getD, Array.getD_eq_getD_getElem?]
            rw [val]
            exact VD.mono ext.size ext.un ext.same (c2 l hl)
          · simp only [hij, if_false] at hl ⊢
            have hlk : l < k := by have := hkl j hj'; omega
            have val : (cs.toList.take (i * ee.k + 0) ++ x.cells.toList ++ cs.toList.drop (i * ee.k + 0 + (tl T t).size)).toArray.getD (j * k + l) undef = cs.getD (j * k + l) undef := by
              rw [e1, getD_splice e5, if_neg ?_]
              rw [e2, hk']
              intro ⟨h1, h2⟩
              apply hij
              have d1 := (divmod_of (i := j) hlk).1
              have : (j * k + l) / k = i := by
                apply Nat.div_eq_of_lt_le <;> (try rw [Nat.succ_mul]) <;> omega
              omega
            rw [val]
            refine VD.mono ext.size ext.un ext.same ?_
            exact (hv j hj' l hl).mono (w' := w) x1.size x1.un x1.same

theorem opStore_ok (p : Pre C e G g hp w) (hT : TOk C.P T) {t : Nat} {v av : AV} {x xa : Value} (hx : VR w (UE e) e G v x) (ha : VR w (UE e) e G av xa) (h : (opStore (tl T t) hp v av).1) :
    OpOk C e G g hp w (opStore (tl T t) hp v av) (((Instr.storeAt t xa x).run C.P w).andThen fun _ w => .ok .skip w) := by
  cases av with
  | ptO id g' n i off =>
    simp only [opStore] at h ⊢
    cases hg : hp.get id with
    | none => simp only [hg] at h; exact h.elim
    | some q =>
      obtain ⟨g'', ob⟩ := q
      cases ob with
      | box cs =>
        simp only [hg] at h ⊢
        obtain ⟨rfl, rfl, rfl, h0, h1, h2, h3⟩ := h
        exact store_box p hT hx ha hg h0 h1 h2 h3
      | own T' k es =>
        simp only [hg] at h ⊢
        by_cases hoff : off = 0
        · subst hoff
          simp only [if_true] at h ⊢
          obtain ⟨rfl, rfl, h1, h2, h3, h4, h5⟩ := h
          exact store_own p hT hx ha hg h1 h2 h3 h4 h5
        · simp only [hoff, if_false] at h; exact h.elim
  | _ => exact h.elim
end
end Go.Sym
