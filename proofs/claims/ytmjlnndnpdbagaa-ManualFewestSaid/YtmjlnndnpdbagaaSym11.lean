/-
  SYM, part 11: literals of slices and structs.
-/
import Derived.Test.YtmjlnndnpdbagaaSym10
import Derived.Great.BuildSlice
set_option linter.all false
set_option linter.unusedSimpArgs false
set_option linter.unusedVariables false
set_option linter.deprecated false
namespace Go.Sym
open Go Go.Great

section
variable {C : Cx} {e : Env} {G : Nat → Prop} {g : Nat} {hp : Hp} {w : World} {T : List (Nat × TI)}

theorem zip_of_parts {n : Nat} {ps : List (Nat × Operand)} (h : partsOk n ps = true) (f : Operand → Value) :
    ps.map (fun p => (p.1, f p.2)) = ((ps.map fun p => f p.2).zipIdx 0).map fun x => (x.2, x.1) := by
  have h' : ps.map (·.1) = List.range n := by simpa [partsOk] using h
  have hn : ps.length = n := by have := congrArg List.length h'; simpa using this
  apply List.ext_getElem?
  intro i
  by_cases hi : i < ps.length
  · have : ps[i].1 = i := by
      have := congrArg (fun l => l[i]?) h'
      simp only [List.getElem?_map, List.getElem?_eq_getElem hi, Option.map_some, List.getElem?_range (show i < n by omega)] at this
      simpa using this
    simp [hi, this]
  · simp [hi]

theorem flat_getD {vs : List Value} {k : Nat} (hk : 0 < k) (hv : ∀ v ∈ vs, v.cells.size = k) {i j : Nat} (hi : i < vs.length) (hj : j < k) :
    ((vs.flatMap fun v => v.cells.toList).toArray).getD (i * k + j) undef = vs[i].cells.getD j undef := by
  rw [Array.getD_eq_getD_getElem?, List.getElem?_toArray, flat_get hk vs hv, (divmod_of (i := i) hj).1, (divmod_of (i := i) hj).2, List.getElem?_eq_getElem hi]
  simp [Array.getD_eq_getD_getElem?]

theorem flat_length {vs : List Value} {k : Nat} (hv : ∀ v ∈ vs, v.cells.size = k) : (vs.flatMap fun v => v.cells.toList).length = vs.length * k := by
  induction vs with
  | nil => simp
  | cons v vs ih =>
    have h1 := hv v List.mem_cons_self
    rw [List.flatMap_cons, List.length_append, ih fun u hu => hv u (List.mem_cons_of_mem _ hu), List.length_cons, Nat.succ_mul]
    simp [h1]; omega

theorem buildSlice_ok (p : Pre C e G g hp w) (hT : TOk C.P T) {t n el : Nat} (ht : (tl T t).ty = .slice el) {ps : Array (Nat × Operand)} {ev : Operand → AV} {xv : Operand → Value}
    (hxv : ∀ q ∈ ps, VR w (UE e) e G (ev q.2) (xv q.2)) (h1 : partsOk n ps.toList = true) (h2 : (tl T el).size ≠ 0) (h3 : n * (tl T el).size ≤ 16777216)
    (h4 : ∀ v ∈ ps.toList.map fun q => ev q.2, snap2P hp v ∧ v.cells.length = (tl T el).size) {P : Prop} :
    OpOk C e G g hp w (P, .sl ((ps.toList.map fun q => ev q.2).map (snap2 hp)) true, ((ps.toList.map fun q => ev q.2).flatMap refs2).map fun j => (j, none))
      (((Instr.buildSlice t n (ps.map fun q => (q.1, xv q.2))).run C.P w).andThen fun v w => .ok (.value v) w) := by
  obtain ⟨d, hu, hd⟩ := (hT.fit ht (by simp)).under
  rw [ht] at hd
  cases hd
  have hf := hT.fits h2
  obtain ⟨ie, hi, hsz, hbytes, hz⟩ := hf.info
  obtain ⟨v1, v2, v3⟩ := zval_zav (w := w) hf (UE e)
  have hn : ps.toList.length = n := by
    have h' : ps.toList.map (·.1) = List.range n := by simpa [partsOk] using h1
    have := congrArg List.length h'; simpa using this
  generalize hids : (ps.toList.map fun q => ev q.2).flatMap refs2 = ids
  have hdat : ∀ q ∈ ps.toList, VD w (UE (edrop e ids)) (snap2 hp (ev q.2)) (xv q.2) ∧ (∀ c ∈ (snap2 hp (ev q.2)).cells, c.one = true) ∧ (snap2 hp (ev q.2)).cells.length = (tl T el).size := by
    intro q hq
    have hm : ev q.2 ∈ ps.toList.map fun q => ev q.2 := List.mem_map.2 ⟨q, hq, rfl⟩
    obtain ⟨s1, s2⟩ := h4 _ hm
    obtain ⟨c1, c2⟩ := snap2_cells s1
    refine ⟨snap2_ok p.hr (hxv q (by simpa using hq)) s1 fun i hi => ?_, ?_, by rw [c1, List.length_map, s2]⟩
    · rw [← hids]; exact List.mem_flatMap.2 ⟨_, hm, hi⟩
    · rw [c1]; intro c hc
      obtain ⟨c', hc', rfl⟩ := List.mem_map.1 hc
      exact snap1_one (c2 c' hc')
  have hsize : ∀ v ∈ ps.toList.map fun q => xv q.2, v.cells.size = (tl T el).size := by
    intro v hv
    obtain ⟨q, hq, rfl⟩ := List.mem_map.1 hv
    obtain ⟨d1, d2, d3⟩ := hdat q hq
    rw [(cells_valsD d1 d2).1, d3]
  have hpos : 0 < (tl T el).size := by omega
  have hzz : (tl T el).zval.cells.size = (tl T el).size := by rw [(cells_valsD v1 v2).1, v3]
  have x1 := Ext.drops w e G ids
  have hlenvs : (ps.toList.map fun q => xv q.2).length = n := by simpa using hn
  -- the run
  have hrun : ∃ cells : Array Value, (Instr.buildSlice t n (ps.map fun q => (q.1, xv q.2))).run C.P w = .ok (.slice (some ⟨w.heap.size, 0, none⟩) n n) (w.alloc (.cells cells el)) ∧
      cells = ((ps.toList.map fun q => xv q.2).flatMap fun v => v.cells.toList).toArray := by
    by_cases hn0 : n = 0
    · subst hn0
      have hnil : ps.toList = [] := List.eq_nil_of_length_eq_zero hn
      have hps : ps = #[] := by rw [← Array.toList_eq_nil_iff]; exact hnil
      subst hps
      refine ⟨#[], ?_, by simp⟩
      simp [Instr.buildSlice, run_underlying hu, run_sizeOf' hf, Instr.fill, newRow, Array.range_zero']
    · refine ⟨_, ?_, rfl⟩
      refine run_buildSlice w t el n _ _ ie _ hu hi hz (by rw [hsz]; omega) (by rw [hsz]; exact Nat.mul_ne_zero hn0 h2) ?_
      rw [hsz, Array.toList_map, zip_of_parts h1]
      exact fill_whole hpos _ _ hsize (by simp [hlenvs])
  obtain ⟨cells, hrun, hcells⟩ := hrun
  rw [hrun, Result.andThen_ok]
  refine mk_imm p (Grow.alloc w _) ids (.dat _ _ ?_)
  have hlen : ((ps.toList.map fun q => ev q.2).map (snap2 hp)).length = n := by simpa using hn
  have e1 : (Value.slice (some ⟨w.heap.size, 0, none⟩) n n) = .slice (some ⟨w.heap.size, 0, none⟩) ((ps.toList.map fun q => ev q.2).map (snap2 hp)).length n := by rw [hlen]
  rw [e1]
  have hget : ∀ i (hi : i < ((ps.toList.map fun q => ev q.2).map (snap2 hp)).length), ((ps.toList.map fun q => ev q.2).map (snap2 hp))[i] = snap2 hp (ev (ps.toList[i]'(by simpa using hi)).2) := by
    intro i hi; simp
  have hcs : cells.size = n * (tl T el).size := by rw [hcells, List.size_toArray, flat_length hsize, hlenvs]
  have x2 : Ext w (edrop e ids) G (w.alloc (.cells cells el)) (edrop e ids) (gadd G g) :=
    ⟨(Grow.alloc w _).size, fun _ h => .inl h, fun _ _ h => h, fun b hb _ => (Grow.alloc w _).same b hb, fun _ ee' h _ => ⟨ee', h, rfl, rfl, .inl ⟨rfl, rfl⟩⟩⟩
  refine .sl _ _ w.heap.size 0 n (tl T el).size (fun j => cells.getD j undef) (UE.lt_new (p.hr.drops ids) (p.ln.drops ids) p.fr) (by rw [size_new]; omega) (by rw [hlen]; exact Nat.le_refl _)
    (by simp only [maxLen]; have : n ≤ n * (tl T el).size := Nat.le_mul_of_pos_right n hpos; omega) (fun _ => hlen.symm) hpos ?_ ?_ ?_ ?_
  · intro i hi; rw [hget i hi]; exact (hdat _ (List.getElem_mem _)).2.2
  · intro j hj
    rw [hlen] at hj
    rw [Nat.zero_add]
    exact cell_of_heap (heap_new w _) (by rw [hcs]; exact hj)
  · intro i hi j hj
    simp only [hget i hi] at hj ⊢
    exact (hdat _ (List.getElem_mem _)).2.1 _ (List.getElem_mem _)
  · intro i hi j hj
    have hi' : i < ps.toList.length := by simpa using hi
    simp only [hget i hi] at hj ⊢
    obtain ⟨d1, d2, d3⟩ := hdat _ (List.getElem_mem hi')
    have hj' : j < (tl T el).size := by rw [← d3]; exact hj
    have e2 : cells.getD (i * (tl T el).size + j) undef = (xv (ps.toList[i]).2).cells.getD j undef := by
      rw [hcells, flat_getD hpos hsize (by rw [hlenvs]; omega) hj']
      simp
    rw [e2]
    exact ((cells_valsD d1 d2).2.1 j hj).mono x2.size x2.un x2.same

/-! struct literals -/
def CRel (w : World) (e : Env) (G : Nat → Prop) (cs : List AV) (cells : Array Value) : Prop :=
  cs.length = cells.size ∧ (∀ i (h : i < cs.length), cs[i].one = true) ∧ ∀ i (h : i < cs.length), VR w (UE e) e G cs[i] (cells.getD i undef)

theorem fill_struct {place : Nat → Option (Nat × Nat)} {ev : Operand → AV} {xv : Operand → Value} {fs : List (Nat × Nat)} {size : Nat} :
    ∀ (ps : List (Nat × Operand)) (cs : List AV) (cells : Array Value), CRel w e G cs cells → cs.length = size →
      (∀ q ∈ ps, VR w (UE e) e G (ev q.2) (xv q.2)) →
      (∀ q ∈ ps, ∃ sz, place q.1 = some ((fs.getD q.1 (0, 0)).1, sz) ∧ (ev q.2).cells.length = sz ∧ (fs.getD q.1 (0, 0)).1 + sz ≤ size ∧ ∀ c ∈ (ev q.2).cells, c.one = true) →
      ∃ r, Instr.fill place cells (ps.map fun q => (q.1, xv q.2)) = some r ∧ CRel w e G (ps.foldl (fun cs q => splice cs (fs.getD q.1 (0, 0)).1 (ev q.2).cells) cs) r
  | [], cs, cells, h, _, _, _ => ⟨cells, rfl, h⟩
  | q :: ps, cs, cells, h, hl, hv, hp => by
    obtain ⟨sz, h1, h2, h3, h4⟩ := hp q List.mem_cons_self
    obtain ⟨c1, c2, c3⟩ := cells_vals (hv q List.mem_cons_self) h4
    obtain ⟨k1, k2, k3⟩ := h
    generalize hoff : (fs.getD q.1 (0, 0)).1 = off at *
    obtain ⟨g1, g2⟩ := foldl_set off (xv q.2).cells.toList 0 cells
    have hsp : off + (ev q.2).cells.length ≤ cs.length := by omega
    have hstep : CRel w e G (splice cs off (ev q.2).cells) (((xv q.2).cells.toList.zipIdx 0).foldl (fun cs (x : Value × Nat) => cs.setIfInBounds (off + x.2) x.1) cells) := by
      refine ⟨by rw [splice_length hsp, g1, k1], ?_, ?_⟩
      · intro i hi
        rw [getElem_splice hsp hi]
        split
        · exact h4 _ (List.getElem_mem _)
        · exact k2 _ _
      · intro i hi
        have hi' : i < cs.length := by rw [splice_length hsp] at hi; exact hi
        have hr : (((xv q.2).cells.toList.zipIdx 0).foldl (fun cs (x : Value × Nat) => cs.setIfInBounds (off + x.2) x.1) cells).getD i undef =
            if off ≤ i ∧ i < off + (ev q.2).cells.length then (xv q.2).cells.getD (i - off) undef else cells.getD i undef := by
          rw [Array.getD_eq_getD_getElem?, g2 i]
          simp only [Nat.add_zero, Array.length_toList, c1]
          by_cases hin : off ≤ i ∧ i < off + (ev q.2).cells.length
          · rw [if_pos ⟨hin.1, hin.2, by omega⟩, if_pos hin, Array.getD_eq_getD_getElem?, Array.getElem?_toList]
          · rw [if_neg (by omega), if_neg hin, Array.getD_eq_getD_getElem?]
        rw [hr, getElem_splice hsp hi]
        split
        · exact c2 _ _
        · exact k3 _ hi'
    obtain ⟨r, hr1, hr2⟩ := fill_struct ps _ _ hstep (by rw [splice_length hsp]; exact hl) (fun q' h' => hv q' (List.mem_cons_of_mem _ h')) (fun q' h' => hp q' (List.mem_cons_of_mem _ h'))
    refine ⟨r, ?_, by rw [List.foldl_cons, hoff]; exact hr2⟩
    simp only [List.map_cons]
    unfold Instr.fill
    simp only [h1]
    rw [if_neg (by simp; omega), ← hr1]
    congr 1
    rw [← Array.foldl_toList, Array.toList_zipIdx]

theorem places_of {P : Program} (a : Array Field) (h : ∀ f ∈ a, (P.info? f.type).isSome = true) :
    ∃ places, a.toList.mapM (fun f => (P.info? f.type).map fun i => (f.offset, i.size)) = some places ∧ ∀ i (hi : i < a.size) j, P.info? a[i].type = some j → places[i]? = some (a[i].offset, j.size) := by
  have key : ∀ l : List Field, (∀ f ∈ l, (P.info? f.type).isSome = true) → ∃ places, l.mapM (fun f => (P.info? f.type).map fun i => (f.offset, i.size)) = some places ∧
      ∀ i (hi : i < l.length) j, P.info? l[i].type = some j → places[i]? = some (l[i].offset, j.size) := by
    intro l
    induction l with
    | nil => intro _; exact ⟨[], rfl, fun i hi => by simp at hi⟩
    | cons f l ih =>
      intro hl
      obtain ⟨ps, h1, h2⟩ := ih fun f hf => hl f (List.mem_cons_of_mem _ hf)
      obtain ⟨j0, hj0⟩ := Option.isSome_iff_exists.1 (hl f List.mem_cons_self)
      refine ⟨(f.offset, j0.size) :: ps, ?_, ?_⟩
      · simp [List.mapM_cons, hj0, h1]
      · intro i hi j hj
        cases i with
        | zero => simp at hj; rw [hj0] at hj; cases hj; rfl
        | succ i => simpa using h2 i (by simpa using hi) j (by simpa using hj)
  obtain ⟨ps, h1, h2⟩ := key a.toList (fun f hf => h f (by simpa using hf))
  exact ⟨ps, h1, fun i hi j hj => by
    have := h2 i (by simpa using hi) j (by simpa using hj)
    rw [this]; simp⟩

theorem build_ok (p : Pre C e G g hp w) (hT : TOk C.P T) {t : Nat} {fs : List (Nat × Nat)} (ht : (tl T t).ty = .struct fs) {ps : Array (Nat × Operand)} {ev : Operand → AV} {xv : Operand → Value}
    (hxv : ∀ q ∈ ps, VR w (UE e) e G (ev q.2) (xv q.2))
    (h : ∀ q ∈ ps.toList, q.1 < fs.length ∧ (tl T (fs.getD q.1 (0, 0)).2).size ≠ 0 ∧ (ev q.2).cells.length = (tl T (fs.getD q.1 (0, 0)).2).size ∧ (fs.getD q.1 (0, 0)).1 + (tl T (fs.getD q.1 (0, 0)).2).size ≤ (tl T t).size ∧ (∀ c ∈ (ev q.2).cells, c.one = true)) {P : Prop} :
    OpOk C e G g hp w (P, .agg (ps.toList.foldl (fun cs q => splice cs (fs.getD q.1 (0, 0)).1 (ev q.2).cells) ((tl T t).zs.map ZC.av)), [])
      (((Instr.build t (ps.map fun q => (q.1, xv q.2))).run C.P w).andThen fun v w => .ok (.value v) w) := by
  have hft := hT.fit ht (by simp)
  obtain ⟨d, hu, hd, hag⟩ := hft.desc
  rw [ht] at hd
  obtain ⟨a, rfl, ha⟩ := hd
  have hag : (tl T t).agg = true := hag
  obtain ⟨it, hit, hsz, _, hz⟩ := hft.info
  obtain ⟨v1, v2, v3⟩ := zval_zav (w := w) hft (UE e)
  obtain ⟨c1, c2, _⟩ := cells_valsD v1 v2
  have hzc : (tl T t).zav.cells = (tl T t).zs.map ZC.av := by unfold TI.zav; rw [hag]; rfl
  obtain ⟨places, hp1, hp2⟩ := places_of a (hft.flds a hu)
  obtain ⟨r, hr1, hr2⟩ := fill_struct (w := w) (e := e) (G := G) (place := fun x => places[x]?) (ev := ev) (xv := xv) (fs := fs) (size := (tl T t).size) ps.toList ((tl T t).zs.map ZC.av) (tl T t).zval.cells
    (by rw [← hzc]; exact ⟨c1.symm, fun i hi => v2 _ (List.getElem_mem _), fun i hi => .dat _ _ (c2 i hi)⟩) (by rw [← hzc]; exact v3) (fun q hq => hxv q (by simpa using hq)) (by
      intro q hq
      obtain ⟨q1, q2, q3, q4, q5⟩ := h q hq
      subst ha
      have hq1 : q.1 < a.size := by simpa using q1
      have e1 : (a.toList.map fun f => (f.offset, f.type)).getD q.1 (0, 0) = (a[q.1].offset, a[q.1].type) := by simp [List.getD_eq_getElem?_getD, hq1]
      rw [e1] at q2 q3 q4 ⊢
      obtain ⟨j, hj, hjs, _⟩ := (hT.fits q2).info
      refine ⟨j.size, hp2 q.1 hq1 j hj, by rw [hjs]; exact q3, by rw [hjs]; exact q4, q5⟩)
  have hrun := run_build (P := C.P) w t (ps.map fun q => (q.1, xv q.2)) r (by
    unfold Program.built
    simp only [hit, hu, hz, hp1]
    have e2 : (places.toArray[·]?) = fun x : Nat => places[x]? := by funext x; simp
    rw [e2, Array.toList_map]
    exact hr1)
  rw [hrun, Result.andThen_ok]
  obtain ⟨s1, s2, s3⟩ := hr2
  exact .pure p (.agg _ _ s1 s2 s3)
end
end Go.Sym
