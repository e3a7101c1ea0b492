/-
  SYM, part 5: loads and addresses, held against the model.
-/
import Derived.Test.YtmjlnndnpdbagaaSym4
set_option linter.all false
set_option linter.unusedSimpArgs false
set_option linter.unusedVariables false
set_option linter.deprecated false
namespace Go.Sym
open Go

section
variable {C : Cx} {e : Env} {G : Nat → Prop} {g : Nat} {hp : Hp} {w : World}

theorem add_none (b o n : Nat) : Addr.add ⟨b, o, none⟩ n = ⟨b, o + n, none⟩ := Addr.add_lit b o n

theorem cells_getD {n : Nat} (f : Nat → Value) {i : Nat} (h : i < n) : (((List.range n).map f).toArray).getD i undef = f i := by
  simp [Array.getD_eq_getD_getElem?, h]

theorem run_loadAt {P : Program} {t : Nat} {ti : TI} (hf : TFit P t ti) (w : World) (b off : Nat) (f : Nat → Value)
    (hc : ∀ j, j < ti.size → w.cell? ⟨b, off + j, none⟩ = some (f j)) :
    (Instr.loadAt t (.pointer (some ⟨b, off, none⟩))).run P w = .ok (if ti.agg then .agg ((List.range ti.size).map f).toArray else f 0) w := by
  unfold Instr.loadAt Instr.sureAddr loadVar
  rw [Sem.run_bind, Sem.run_pure, Result.andThen_ok, Sem.run_bind, run_isAgg hf, Result.andThen_ok]
  cases hag : ti.agg with
  | true =>
    simp only [if_true, Sem.run_bind, run_sizeOf' hf, Result.andThen_ok, Sem.run_pure]
    rw [run_loadCells w ⟨b, off, none⟩ ti.size f (fun j hj => by rw [add_none]; exact hc j hj)]
    rfl
  | false =>
    have h1 := hf.one hag
    have h0 := hc 0 (by omega)
    simp only [Bool.false_eq_true, if_false]
    rw [run_load]
    simp only [Nat.add_zero] at h0
    rw [h0]

theorem ldCells_ok' (p : Pre C e G g hp w) {ti : TI} {t : Nat} (hf : TFit C.P t ti) {cs : List AV} {b off : Nat} {f : Nat → Value}
    (hc : ∀ j, j < cs.length → w.cell? ⟨b, off + j, none⟩ = some (f j)) (h1 : ∀ i (h : i < cs.length), cs[i].one = true)
    (hv : ∀ i (h : i < cs.length), VR w (UE e) e G cs[i] (f i)) (h : (ldCells ti cs).1) :
    OpOk C e G g hp w (ldCells ti cs) (((Instr.loadAt t (.pointer (some ⟨b, off, none⟩))).run C.P w).andThen fun v w => .ok (.value v) w) := by
  have hs : ti.size ≤ cs.length := h.2
  rw [run_loadAt hf w b off f fun j hj => hc j (by omega)]
  simp only [Result.andThen_ok]
  have := ldCells_ok p hf (cs := cs) (cv := ((List.range cs.length).map f).toArray) (by simp) h1
    (fun i hi => by rw [cells_getD f hi]; exact hv i hi) hf.one h
  have e1 : (if ti.agg = true then Value.agg (((List.range cs.length).map f).toArray.extract 0 ti.size) else ((List.range cs.length).map f).toArray.getD 0 undef) =
      if ti.agg = true then Value.agg ((List.range ti.size).map f).toArray else f 0 := by
    cases hag : ti.agg with
    | true =>
      simp only [if_true]
      congr 1
      apply Array.ext'
      simp [← List.map_take, List.take_range, Nat.min_eq_left hs]
    | false =>
      have h1 := hf.one hag
      simp only [Bool.false_eq_true, if_false]
      rw [cells_getD f (by omega)]
  rw [← e1]
  exact this

theorem one_getElem {cs : List AV} (h1 : ∀ i (h : i < cs.length), cs[i].one = true) (n : Nat) : ∀ i (h : i < (cs.drop n).length), (cs.drop n)[i].one = true := by
  intro i hi; simp only [List.getElem_drop]; exact h1 _ _

theorem cell_of_heap {b o : Nat} {cs : Array Value} {t : Nat} {fz : Nat × Nat} (h : w.heap[b]? = some (.cells cs t fz)) (ho : o < cs.size) : w.cell? ⟨b, o, none⟩ = some (cs.getD o undef) := by
  simp [World.cell?, h, Array.getD_eq_getD_getElem?, ho]

theorem opLoad_ok (p : Pre C e G g hp w) {ti : TI} {t : Nat} (hf : ti.size ≠ 0 → TFit C.P t ti) {av : AV} {x : Value} (hx : VR w (UE e) e G av x) (h : (opLoad ti hp av).1) :
    OpOk C e G g hp w (opLoad ti hp av) (((Instr.loadAt t x).run C.P w).andThen fun v w => .ok (.value v) w) := by
  cases av with
  | ptI cs =>
    obtain ⟨b, off, f, rfl, h1, h2, h3, h4, h5⟩ := hx.ptI_inv.ptI_inv
    exact ldCells_ok' p (hf h.1) h3 h4 (fun i hi => .dat _ _ (h5 i hi)) h
  | ptO id g' n i off =>
    simp only [opLoad] at h ⊢
    cases hg : hp.get id with
    | none => simp only [hg] at h; exact h.elim
    | some q =>
      obtain ⟨g'', ob⟩ := q
      obtain ⟨_, _, hi⟩ := hx.ptO_inv
      obtain ⟨ee, he, hgg, _, hor⟩ := p.hr.live id g'' ob hg
      cases ob with
      | box cs =>
        simp only [hg] at h ⊢
        obtain ⟨rfl, rfl, rfl, h⟩ := h
        obtain ⟨hn, h1, b, c, vs, T, hb, hh, hs, hv⟩ := hor
        obtain ⟨_, hi⟩ := hi ee he hgg
        obtain rfl := hi hn b c hb
        simp only [Nat.zero_mul, Nat.zero_add]
        refine ldCells_ok' p (hf h.1) (cs := cs.drop off) (f := fun j => vs.getD (off + j) undef) ?_ (one_getElem h1 off) ?_ h
        · intro j hj; rw [cell_of_heap hh (by simp at hj; omega)]
        · intro j hj; simp only [List.getElem_drop]; exact hv _ _
      | own T k es =>
        simp only [hg] at h ⊢
        obtain ⟨rfl, rfl, hlt, h⟩ := h
        obtain ⟨rfl, hn, hk0, hk, h1, hb⟩ := hor
        obtain ⟨_, hi⟩ := hi ee he hgg
        cases hbl : ee.blk with
        | none => rw [hbl] at hb; subst hb; simp at hlt
        | some q =>
          obtain ⟨b, bcap⟩ := q
          rw [hbl] at hb
          obtain ⟨_, hcap, cs, hh, hs, hv⟩ := hb
          obtain rfl := hi hn b bcap hbl
          have hD : es.getD i .bad = es[i] := by rw [List.getD_eq_getElem?_getD, List.getElem?_eq_getElem hlt]; rfl
          rw [hD] at h ⊢
          have hki := hk i hlt
          have hsz : i * ee.k + ee.k ≤ cs.size := by
            rw [hs]
            calc i * ee.k + ee.k = (i + 1) * ee.k := by rw [Nat.succ_mul]
              _ ≤ bcap * ee.k := Nat.mul_le_mul_right _ (by omega)
          refine ldCells_ok' p (hf h.1) (cs := es[i].cells.drop off) (f := fun j => cs.getD (i * ee.k + off + j) undef) ?_ (one_getElem (fun j hj => h1 i hlt j hj) off) ?_ h
          · intro j hj; rw [cell_of_heap hh (by simp at hj; omega)]
          · intro j hj
            simp only [List.getElem_drop, Nat.add_assoc]
            exact .dat _ _ (hv i hlt _ _)
  | _ => exact h.elim
end
end Go.Sym
