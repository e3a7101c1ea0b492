/-
  SYM, part 9: new objects; stores.
-/
import Derived.Test.YtmjlnndnpdbagaaSym8
set_option linter.all false
set_option linter.unusedSimpArgs false
set_option linter.unusedVariables false
set_option linter.deprecated false
namespace Go.Sym
open Go

/-- the world has more blocks, perhaps a draw more; what was there is there -/
structure Grow (w w' : World) : Prop where
  os : w'.os = w.os
  tape : w'.tape = w.tape
  output : w'.output = w.output
  size : w.heap.size ≤ w'.heap.size
  same : ∀ b, b < w.heap.size → w'.heap[b]? = w.heap[b]?

theorem Grow.refl (w : World) : Grow w w := ⟨rfl, rfl, rfl, Nat.le_refl _, fun _ _ => rfl⟩
theorem push_same (w : World) (o : Obj) (b : Nat) (hb : b < w.heap.size) : (w.heap.push o)[b]? = w.heap[b]? := by
  rw [Array.getElem?_push, if_neg (by omega)]
theorem Grow.alloc (w : World) (o : Obj) : Grow w (w.alloc o) :=
  ⟨rfl, rfl, rfl, by show _ ≤ (w.heap.push o).size; simp, fun b hb => push_same w o b hb⟩
theorem Grow.drew_alloc (w : World) (o : Obj) : Grow w (w.drew.alloc o) :=
  ⟨rfl, rfl, rfl, by show _ ≤ (w.heap.push o).size; simp, fun b hb => push_same w o b hb⟩
theorem heap_new (w : World) (o : Obj) : (w.alloc o).heap[w.heap.size]? = some o := by
  show (w.heap.push o)[w.heap.size]? = some o
  simp
theorem size_new (w : World) (o : Obj) : (w.alloc o).heap.size = w.heap.size + 1 := by
  show (w.heap.push o).size = _
  simp

section
variable {C : Cx} {e : Env} {G : Nat → Prop} {g : Nat} {hp : Hp} {w : World} {T : List (Nat × TI)}

theorem Frm.grow (h : Frm C w) {w' : World} (x : Grow w w') : Frm C w' :=
  ⟨x.os.trans h.os, x.tape.trans h.tape, x.output.trans h.output, Nat.le_trans h.size x.size,
    fun b hb hl => (x.same b (Nat.lt_of_lt_of_le hb h.size)).trans (h.same b hb hl)⟩

theorem not_z (h : Lnt C e) (f : Frm C w) {b : Nat} (hb : w.heap.size ≤ b) : ¬ e.z b := by
  rw [h.zeq]
  intro hz
  have := h.zlt b hz
  have := f.size
  omega

theorem UE.lt_new (hr : HRel w e G hp) (hl : Lnt C e) (hf : Frm C w) : UE e w.heap.size := by
  refine ⟨not_z hl hf (Nat.le_refl _), ?_⟩
  intro id ee c he hb
  exact absurd (hr.lt id ee _ c he hb) (Nat.lt_irrefl _)

theorem Ext.new (p : Pre C e G g hp w) {w' : World} (x : Grow w w') {did : Nat} {ee : EE} (hg : ee.g = g) (hblk : ∀ b c, ee.blk = some (b, c) → w.heap.size ≤ b) :
    Ext w e G w' (eset e did (some ee)) (gadd G g) := by
  refine ⟨x.size, fun _ h => .inl h, fun b hb hu => ⟨hu.1, fun i ei c hi => ?_⟩, fun b hb _ => x.same b hb, fun i ee' hi hG => ?_⟩
  · by_cases h : i = did
    · subst h
      rw [eset_same] at hi; cases hi
      intro hbc
      have := hblk b c hbc
      omega
    · rw [eset_other _ _ h] at hi; exact hu.2 i ei c hi
  · by_cases h : i = did
    · subst h
      rw [eset_same] at hi; cases hi
      rw [hg] at hG; exact absurd hG p.ng
    · rw [eset_other _ _ h] at hi; exact ⟨ee', hi, rfl, rfl, .inl ⟨rfl, rfl⟩⟩

theorem mk_obj (p : Pre C e G g hp w) {w' : World} (x : Grow w w') {did : Nat} (hid : C.lent.length ≤ did) {ee : EE} (hg : ee.g = g)
    (hblk : ∀ b c, ee.blk = some (b, c) → w.heap.size ≤ b ∧ b < w'.heap.size) {ob : Ob} (ho : ORel w' (eset e did (some ee)) (gadd G g) ob ee)
    {v : AV} {xv : Value} {P : Prop} (hv : VR w' (UE (eset e did (some ee))) (eset e did (some ee)) (gadd G g) v xv) :
    OpOk C e G g hp w (P, v, [(did, some (g, ob))]) (.ok (.value xv) w') := by
  have ext := Ext.new p x hg (did := did) fun b c hb => (hblk b c hb).1
  subst hg
  refine ⟨_, w', _, rfl, ?_, ext, ?_, p.fr.grow x, .inl ⟨xv, rfl, hv⟩⟩
  · exact p.hr.set ext ho (.inr rfl) (fun i ei b c _ he hb => x.same b (p.hr.lt i ei b c he hb))
      (fun i ei b c c' _ he hb hb' => by have := p.hr.lt i ei b c he hb; have := (hblk b c' hb').1; omega)
      (fun b c hb => (hblk b c hb).2) (fun b c hb => not_z p.ln p.fr (hblk b c hb).1)
  · refine ⟨p.ln.zeq, p.ln.zlt, fun id ee' b c hl he hb => ?_, fun id hl ee' he => ?_⟩
    · by_cases h : id = did
      · subst h; rw [eset_same] at he; cases he
        exact Nat.le_trans p.fr.size (hblk b c hb).1
      · rw [eset_other _ _ h] at he; exact p.ln.mine id ee' b c hl he hb
    · rw [eset_other _ _ (by omega)] at he; exact p.ln.lent id hl ee' he

/-- the same, where the new block is nobody's: what is built is read only -/
theorem mk_imm (p : Pre C e G g hp w) {w' : World} (x : Grow w w') (ids : List Nat)
    {v : AV} {xv : Value} {P : Prop} (hv : VR w' (UE (edrop e ids)) (edrop e ids) (gadd G g) v xv) :
    OpOk C e G g hp w (P, v, ids.map fun j => (j, none)) (.ok (.value xv) w') := by
  have h1 := p.hr.drops ids
  have x1 := Ext.drops w e G ids
  have x2 : Ext w (edrop e ids) G w' (edrop e ids) (gadd G g) :=
    ⟨x.size, fun _ h => .inl h, fun _ _ h => h, fun b hb _ => x.same b hb, fun _ ee' h _ => ⟨ee', h, rfl, rfl, .inl ⟨rfl, rfl⟩⟩⟩
  refine ⟨_, w', _, rfl, ?_, x1.trans x2, p.ln.drops ids, p.fr.grow x, .inl ⟨xv, rfl, hv⟩⟩
  exact h1.ext x2 fun i ei b c he hb => x.same b (h1.lt i ei b c he hb)

/-! the assignment of nil to a slice: an object without a block -/
theorem nil_ok (p : Pre C e G g hp w) {did t k : Nat} (hid : C.lent.length ≤ did) (hk : k ≠ 0) :
    OpOk C e G g hp w (k ≠ 0, .slO did g 0 0, [(did, some (g, .own t k []))]) (.ok (.value (.slice none 0 0)) w) := by
  refine mk_obj p (Grow.refl w) hid (ee := ⟨g, none, k, 0⟩) rfl (by simp) ?_ ?_
  · exact ⟨rfl, rfl, by omega, by simp, by simp, rfl⟩
  · refine .slO _ _ _ _ _ (.inr rfl) rfl fun ee he _ => ?_
    rw [eset_same] at he; cases he
    exact ⟨Nat.le_refl _, fun _ => ⟨rfl, rfl, none, rfl⟩⟩

/-- cells of abstract values, laid out -/
theorem cells_vals {v : AV} {x : Value} (hx : VR w (UE e) e G v x) (h1 : ∀ c ∈ v.cells, c.one = true) :
    x.cells.size = v.cells.length ∧ (∀ i (h : i < v.cells.length), VR w (UE e) e G v.cells[i] (x.cells.getD i undef)) ∧ ∀ u ∈ x.cells, u.oneCell' = true := by
  cases v with
  | agg cs =>
    obtain ⟨vs, rfl, hl, q1, q2⟩ := hx.agg_inv
    refine ⟨hl.symm, q2, fun u hu => ?_⟩
    obtain ⟨i, hi, rfl⟩ := Array.mem_iff_getElem.1 hu
    have h1 := (q2 i (by rw [hl]; exact hi)).oneCell (q1 i (by rw [hl]; exact hi))
    have hi' : i < vs.size := hi
    rw [Array.getD_eq_getD_getElem?, Array.getElem?_eq_getElem hi'] at h1
    exact h1
  | bad => have := h1 .bad (by simp [AV.cells]); cases this
  | tup cs => have := h1 (.tup cs) (by simp [AV.cells]); cases this
  | _ =>
    have h2 := hx.oneCell rfl
    have hc : x.cells = #[x] := by cases x <;> first | rfl | cases h2
    rw [hc]
    refine ⟨rfl, fun i hi => ?_, fun u hu => by simp at hu; subst hu; exact h2⟩
    have hi0 : i = 0 := by simp [AV.cells] at hi; omega
    subst hi0
    simpa [AV.cells] using hx

theorem cells_valsD {U : Nat → Prop} {v : AV} {x : Value} (hx : VD w U v x) (h1 : ∀ c ∈ v.cells, c.one = true) :
    x.cells.size = v.cells.length ∧ (∀ i (h : i < v.cells.length), VD w U v.cells[i] (x.cells.getD i undef)) ∧ ∀ u ∈ x.cells, u.oneCell' = true := by
  cases hv : v with
  | agg cs =>
    subst hv
    cases hx with
    | agg _ vs hl q1 q2 =>
      refine ⟨hl.symm, q2, fun u hu => ?_⟩
      obtain ⟨i, hi, rfl⟩ := Array.mem_iff_getElem.1 hu
      have h1 := (q2 i (by rw [hl]; exact hi)).oneCell (q1 i (by rw [hl]; exact hi))
      have hi' : i < vs.size := hi
      rw [Array.getD_eq_getD_getElem?, Array.getElem?_eq_getElem hi'] at h1
      exact h1
  | bad => subst hv; have := h1 .bad (by simp [AV.cells]); cases this
  | tup cs => subst hv; have := h1 (.tup cs) (by simp [AV.cells]); cases this
  | _ =>
    have h2 := hx.oneCell (by rw [hv]; rfl)
    have hc : x.cells = #[x] := by cases x <;> first | rfl | cases h2
    rw [hc]
    refine ⟨rfl, fun i hi => ?_, fun u hu => by simp at hu; subst hu; exact h2⟩
    have hi0 : i = 0 := by simp [AV.cells] at hi; omega
    subst hi0
    rw [hv] at hx
    simpa [AV.cells] using hx

theorem box_ok (p : Pre C e G g hp w) {did t : Nat} (hid : C.lent.length ≤ did) {v : AV} {x : Value} (hx : VR w (UE e) e G v x) (h1 : ∀ c ∈ v.cells, c.one = true) {P : Prop} :
    OpOk C e G g hp w (P, .ptO did g 0 0 0, [(did, some (g, .box v.cells))]) (.ok (.value (.pointer (some ⟨w.heap.size, 0, none⟩))) (w.alloc (.cells x.cells t))) := by
  obtain ⟨hs, hv, _⟩ := cells_vals hx h1
  have ext := Ext.new p (Grow.alloc w (.cells x.cells t)) (did := did) (ee := ⟨g, some (w.heap.size, 0), 0, 0⟩) rfl (by rintro b c ⟨⟩; exact Nat.le_refl _)
  refine mk_obj p (Grow.alloc w _) hid (ee := ⟨g, some (w.heap.size, 0), 0, 0⟩) rfl (by rintro b c ⟨⟩; exact ⟨Nat.le_refl _, by rw [size_new]; omega⟩) ?_ ?_
  · refine ⟨rfl, fun j hj => h1 _ (List.getElem_mem hj), w.heap.size, 0, x.cells, t, rfl, heap_new w _, hs, fun j hj => (hv j hj).ext ext⟩
  · refine .ptO _ _ _ _ _ _ (.inr rfl) rfl fun ee he _ => ?_
    rw [eset_same] at he; cases he
    refine ⟨Nat.le_refl _, fun _ b c hb => ?_⟩
    cases hb
    simp

theorem zval_zav {P : Program} {t : Nat} {ti : TI} (hf : TFit P t ti) (U : Nat → Prop) : VD w U ti.zav ti.zval ∧ (∀ c ∈ ti.zav.cells, c.one = true) ∧ ti.zav.cells.length = ti.size := by
  have hz : ∀ z : ZC, VD w U z.av z.val ∧ z.av.one = true ∧ z.av.cells = [z.av] := by
    intro z
    cases z <;> first | exact ⟨.lit _ rfl, rfl, rfl⟩ | exact ⟨.nil _ _, rfl, rfl⟩
  unfold TI.zav TI.zval
  cases hag : ti.agg with
  | true =>
    simp only [if_true]
    refine ⟨.agg _ _ (by simp) ?_ ?_, ?_, ?_⟩
    · intro i hi; simp only [List.getElem_map]; exact (hz _).2.1
    · intro i hi
      simp only [List.getElem_map]
      have hi' : i < ti.zs.length := by simpa using hi
      have : (ti.zs.map ZC.val).toArray.getD i undef = (ti.zs[i]).val := by
        simp [Array.getD_eq_getD_getElem?, hi']
      rw [this]; exact (hz _).1
    · intro c hc
      simp only [AV.cells, List.mem_map] at hc
      obtain ⟨z, _, rfl⟩ := hc
      exact (hz z).2.1
    · simp only [AV.cells, List.length_map]; exact hf.len
  | false =>
    simp only [Bool.false_eq_true, if_false]
    have h1 := hf.one hag
    have hl := hf.len
    match hzs : ti.zs with
    | [z] =>
      refine ⟨(hz z).1, ?_, ?_⟩
      · rw [(hz z).2.2]; intro c hc; simp at hc; subst hc; exact (hz z).2.1
      · rw [(hz z).2.2, h1]; rfl
    | [] => rw [hzs, h1] at hl; cases hl
    | _ :: _ :: _ => rw [hzs, h1] at hl; simp at hl

theorem run_alloc' {P : Program} {t : Nat} {ti : TI} (hf : TFit P t ti) (w : World) :
    (Instr.alloc t true (.tuple #[])).run P w = .ok (.pointer (some ⟨w.heap.size, 0, none⟩)) (w.alloc (.cells ti.zval.cells t)) := by
  unfold Instr.alloc
  rw [Sem.run_bind, run_zeroValue' hf, Result.andThen_ok]
  simp [newVar, newRow]

theorem alloc_ok (p : Pre C e G g hp w) (hT : TOk C.P T) {did t : Nat} (hid : C.lent.length ≤ did) (h : (tl T t).size ≠ 0) {P : Prop} :
    OpOk C e G g hp w (P, .ptO did g 0 0 0, [(did, some (g, .box (tl T t).zav.cells))]) (((Instr.alloc t true (.tuple #[])).run C.P w).andThen fun v w => .ok (.value v) w) := by
  have hf := hT.fits h
  obtain ⟨h1, h2, _⟩ := zval_zav (w := w) hf (UE e)
  rw [run_alloc' hf, Result.andThen_ok]
  exact box_ok p hid (.dat _ _ h1) h2

theorem run_box' {P : Program} (t : Nat) (v : Value) (w : World) :
    (Instr.box t v).run P w = .ok (.pointer (some ⟨w.heap.size, 0, none⟩)) (w.alloc (.cells v.cells t)) := by
  simp [Instr.box, newVar, newRow]

theorem getD_made {z : Array Value} {n k : Nat} (hz : z.size = k) {i j : Nat} (hi : i < n) (hj : j < k) : (madeCells z (n * k)).getD (i * k + j) undef = z.getD j undef := by
  have hlt := mul_lt_of hi hj
  have hmod := (divmod_of (i := i) hj).2
  simp only [madeCells, Array.getD_eq_getD_getElem?, Array.getElem?_map, Array.getElem?_range, hlt, if_true, Option.map_some, Option.getD_some, hz, hmod]
  have : j < z.size := by omega
  simp [this]

theorem make_ok (p : Pre C e G g hp w) (hT : TOk C.P T) {did t el : Nat} (hid : C.lent.length ≤ did) (ht : (tl T t).ty = .slice el) {kl kc : IntKind} {l c : Int}
    (h0 : 0 ≤ l) (h1 : l ≤ c) (hby : c * (tl T el).bytes ≤ 140737488355328) (h63 : c ≤ 9223372036854775807) (hs : (tl T el).size ≠ 0) {P : Prop} :
    OpOk C e G g hp w (P, .slO did g 0 l.toNat, [(did, some (g, .own el (tl T el).size (List.replicate l.toNat (tl T el).zav)))])
      (((Instr.makeSlice t (.int kl l) (.int kc c)).run C.P w).andThen fun v w => .ok (.value v) w) := by
  obtain ⟨d, hu, hd⟩ := (hT.fit ht (by simp)).under
  rw [ht] at hd
  cases hd
  have hf := hT.fits hs
  obtain ⟨i, hi, hsz, hbytes, hz⟩ := hf.info
  obtain ⟨v1, v2, v3⟩ := zval_zav (w := w) hf (UE e)
  obtain ⟨c1, _, _⟩ := cells_valsD v1 v2
  have hzz : (tl T el).zval.cells.size = (tl T el).size := by rw [c1, v3]
  rw [run_make (P := C.P) w t el i _ hu hi hz kl kc l c h0 h1 (by rw [hbytes, Int.mul_comm]; omega) h63, Result.andThen_ok, hsz]
  have ext := Ext.new p (Grow.alloc w (.cells (madeCells (tl T el).zval.cells (c.toNat * (tl T el).size)) el)) (did := did)
    (ee := ⟨g, some (w.heap.size, c.toNat), (tl T el).size, l.toNat⟩) rfl (by rintro b c ⟨⟩; exact Nat.le_refl _)
  refine mk_obj p (Grow.alloc w _) hid (ee := ⟨g, some (w.heap.size, c.toNat), (tl T el).size, l.toNat⟩) rfl (by rintro b c ⟨⟩; exact ⟨Nat.le_refl _, by rw [size_new]; omega⟩) ?_ ?_
  · refine ⟨rfl, by simp, by omega, ?_, ?_, ?_⟩
    · intro i hi; simp only [List.getElem_replicate]; exact v3
    · intro i hi j hj; simp only [List.getElem_replicate] at hj ⊢; exact v2 _ (List.getElem_mem _)
    · refine ⟨?_, by simp; omega, _, heap_new w _, size_madeCells _ _, ?_⟩
      · simp only [maxLen]; omega
      · intro i hi j hj
        simp only [List.getElem_replicate] at hj ⊢
        have hi' : i < c.toNat := by simp at hi; omega
        rw [getD_made hzz hi' (by rw [← v3]; exact hj)]
        have hd : VD w (UE e) (tl T el).zav.cells[j] ((tl T el).zval.cells.getD j undef) := (cells_valsD v1 v2).2.1 j hj
        exact hd.mono ext.size ext.un ext.same
  · refine .slO _ _ _ _ _ (.inr rfl) rfl fun ee he _ => ?_
    rw [eset_same] at he; cases he
    refine ⟨by simp, fun _ => ⟨c.toNat, by simp, by simp, by omega⟩⟩
end
end Go.Sym
