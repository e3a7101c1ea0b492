/-
  SYM, part 4: what an operation does, held against the model: values, loads, addresses.
-/
import Derived.Test.YtmjlnndnpdbagaaSym3
import Derived.WalkSpells
import Derived.WalkLawsBesides
set_option linter.all false
set_option linter.unusedSimpArgs false
set_option linter.unusedVariables false
set_option linter.deprecated false
namespace Go.Sym
open Go

def gadd (G : Nat → Prop) (g : Nat) : Nat → Prop := fun x => G x ∨ x = g

section inv
variable {w : World} {U : Nat → Prop} {e : Env} {G : Nat → Prop} {x : Value}
theorem VR.lit_inv {v : Value} (h : VR w U e G (.lit v) x) : x = v ∧ v.oneCell' = true := by
  cases h with | dat _ _ h => cases h with | lit _ h => exact ⟨rfl, h⟩
theorem VR.agg_inv {cs : List AV} (h : VR w U e G (.agg cs) x) : ∃ vs : Array Value, x = .agg vs ∧ cs.length = vs.size ∧ (∀ i (h : i < cs.length), cs[i].one = true) ∧
    ∀ i (h : i < cs.length), VR w U e G cs[i] (vs.getD i undef) := by
  cases h with
  | dat _ _ h => cases h with | agg _ vs h1 h2 h3 => exact ⟨vs, rfl, h1, h2, fun i hi => .dat _ _ (h3 i hi)⟩
  | agg _ vs h1 h2 h3 => exact ⟨vs, rfl, h1, h2, h3⟩
theorem VR.tup_inv {cs : List AV} (h : VR w U e G (.tup cs) x) : ∃ vs : Array Value, x = .tuple vs ∧ cs.length = vs.size ∧
    ∀ i (h : i < cs.length), VR w U e G cs[i] (vs.getD i undef) := by
  cases h with
  | dat _ _ h => cases h with | tup _ vs h1 h3 => exact ⟨vs, rfl, h1, fun i hi => .dat _ _ (h3 i hi)⟩
  | tup _ vs h1 h3 => exact ⟨vs, rfl, h1, h3⟩
theorem VR.sl_inv {es : List AV} {full : Bool} (h : VR w U e G (.sl es full) x) : VD w U (.sl es full) x := by
  cases h with | dat _ _ h => exact h
theorem VR.ptI_inv {cs : List AV} (h : VR w U e G (.ptI cs) x) : VD w U (.ptI cs) x := by
  cases h with | dat _ _ h => exact h
theorem VD.slO_no {id g off len : Nat} (h : VD w U (.slO id g off len) x) : False := by cases h
theorem VD.ptO_no {id g n i off : Nat} (h : VD w U (.ptO id g n i off) x) : False := by cases h
theorem VR.slO_inv {id g off len : Nat} (h : VR w U e G (.slO id g off len) x) : G g ∧ x.oneCell' = true ∧
    ∀ ee, e id = some ee → ee.g = g → off + len ≤ ee.n ∧ (ee.n = off + len → SlOK ee off len x) := by
  cases h with
  | dat _ _ h => exact h.slO_no.elim
  | slO _ _ _ _ _ h1 h2 h3 => exact ⟨h1, h2, h3⟩
theorem VR.ptO_inv {id g n i off : Nat} (h : VR w U e G (.ptO id g n i off) x) : G g ∧ x.oneCell' = true ∧
    ∀ ee, e id = some ee → ee.g = g → n ≤ ee.n ∧ (ee.n = n → ∀ b c, ee.blk = some (b, c) → x = .pointer (some ⟨b, i * ee.k + off, none⟩)) := by
  cases h with
  | dat _ _ h => exact h.ptO_no.elim
  | ptO _ _ _ _ _ _ h1 h2 h3 => exact ⟨h1, h2, h3⟩
theorem VD.ptI_inv {cs : List AV} (h : VD w U (.ptI cs) x) : ∃ (b off : Nat) (f : Nat → Value), x = .pointer (some ⟨b, off, none⟩) ∧ U b ∧ b < w.heap.size ∧
    (∀ j, j < cs.length → w.cell? ⟨b, off + j, none⟩ = some (f j)) ∧ (∀ j (h : j < cs.length), cs[j].one = true) ∧ ∀ j (h : j < cs.length), VD w U cs[j] (f j) := by
  cases h with | ptI _ b off f h1 h2 h3 h4 h5 => exact ⟨b, off, f, rfl, h1, h2, h3, h4, h5⟩
theorem VD.sl_inv {es : List AV} {full : Bool} (h : VD w U (.sl es full) x) : (es = [] ∧ ∃ a, x = .slice a 0 0) ∨
    ∃ (b off cap k : Nat) (f : Nat → Value), x = .slice (some ⟨b, off, none⟩) es.length cap ∧ U b ∧ b < w.heap.size ∧ es.length ≤ cap ∧ cap ≤ maxLen ∧ (full = true → cap = es.length) ∧ 0 < k ∧
      (∀ i (h : i < es.length), es[i].cells.length = k) ∧
      (∀ j, j < es.length * k → w.cell? ⟨b, off + j, none⟩ = some (f j)) ∧
      (∀ i (h : i < es.length) j (h' : j < es[i].cells.length), es[i].cells[j].one = true) ∧
      (∀ i (h : i < es.length) j (h' : j < es[i].cells.length), VD w U es[i].cells[j] (f (i * k + j))) := by
  cases h with
  | nil _ a => exact .inl ⟨rfl, a, rfl⟩
  | sl _ _ b off cap k f h1 h2 h3 h4 h5 h6 h7 h8 h9 h10 => exact .inr ⟨b, off, cap, k, f, rfl, h1, h2, h3, h4, h5, h6, h7, h8, h9, h10⟩
/-- how many elements a slice holds -/
theorem VR.sl_len {es : List AV} {full : Bool} (h : VR w U e G (.sl es full) x) : ∃ a cap, x = .slice a es.length cap := by
  rcases h.sl_inv.sl_inv with ⟨rfl, _, rfl⟩ | ⟨b, off, cap, k, f, rfl, _⟩
  · exact ⟨_, _, rfl⟩
  · exact ⟨_, _, rfl⟩
theorem VD.ofC (v : Value) : VD w U (ofC v) v := by
  unfold Sym.ofC
  split
  · exact .nil _ _
  · split
    · rename_i h; exact .lit _ h
    · exact .bad _
theorem VD.ofV (v : Value) : VD w U (ofV v) v := by
  unfold Sym.ofV
  split
  · rename_i cs
    split
    · rename_i h
      rw [List.all_eq_true] at h
      refine .agg _ _ (by simp) ?_ ?_
      · intro i hi
        simp only [List.getElem_map]
        exact h _ (List.getElem_mem _)
      · intro i hi
        simp only [List.getElem_map, Array.getElem_toList]
        rw [Array.getD_eq_getD_getElem?, Array.getElem?_eq_getElem (by simpa using hi)]
        exact VD.ofC _
    · exact .bad _
  · exact VD.ofC _
end inv

/-- an operation has done what the table says -/
def OpOk (C : Cx) (e : Env) (G : Nat → Prop) (g : Nat) (hp : Hp) (w : World) (r : R) (res : Result Next) : Prop :=
  ∃ nx w' e', res = .ok nx w' ∧ HRel w' e' (gadd G g) (r.2.2 ++ hp) ∧ Ext w e G w' e' (gadd G g) ∧ Lnt C e' ∧ Frm C w' ∧
    ((∃ xv, nx = .value xv ∧ VR w' (UE e') e' (gadd G g) r.2.1 xv) ∨ (nx = .skip ∧ r.2.1 = .bad))

structure Pre (C : Cx) (e : Env) (G : Nat → Prop) (g : Nat) (hp : Hp) (w : World) : Prop where
  hr : HRel w e G hp
  ln : Lnt C e
  fr : Frm C w
  ng : ¬ G g

theorem Ext.wide (w : World) (e : Env) (G : Nat → Prop) (g : Nat) : Ext w e G w e (gadd G g) :=
  ⟨Nat.le_refl _, fun _ h => .inl h, fun _ _ h => h, fun _ _ _ => rfl, fun _ ee' h _ => ⟨ee', h, rfl, rfl, .inl ⟨rfl, rfl⟩⟩⟩

theorem HRel.gen {w : World} {e : Env} {G : Nat → Prop} {hp : Hp} (h : HRel w e G hp) : ∀ id ee, e id = some ee → G ee.g := by
  intro id ee he
  cases hx : hp.get id with
  | none => rw [h.dead id hx] at he; cases he
  | some p =>
    obtain ⟨g, ob⟩ := p
    obtain ⟨ee', h1, h2, h3, _⟩ := h.live id g ob hx
    rw [h1] at he; cases he
    rw [h2]; exact h3

section
variable {C : Cx} {e : Env} {G : Nat → Prop} {g : Nat} {hp : Hp} {w : World}

theorem OpOk.pure (p : Pre C e G g hp w) {v : AV} {ob : Prop} {xv : Value} (h : VR w (UE e) e G v xv) : OpOk C e G g hp w (ob, v, []) (.ok (.value xv) w) := by
  have x := Ext.wide w e G g
  exact ⟨_, w, e, rfl, p.hr.ext x fun _ _ _ _ _ _ => rfl, x, p.ln, p.fr, .inl ⟨xv, rfl, h.ext x⟩⟩

theorem TOk.fit {P : Program} {T : List (Nat × TI)} (h : TOk P T) {t : Nat} {ty : Ty} (ht : (tl T t).ty = ty) (hne : ty ≠ .other) : TFit P t (tl T t) := by
  rcases h t with h | h
  · rw [h] at ht; exact absurd ht.symm hne
  · exact h
theorem TOk.fits {P : Program} {T : List (Nat × TI)} (h : TOk P T) {t : Nat} (ht : (tl T t).size ≠ 0) : TFit P t (tl T t) := by
  rcases h t with h | h
  · rw [h] at ht; exact absurd rfl ht
  · exact h

theorem TFit.under {P : Program} {t : Nat} {ti : TI} (h : TFit P t ti) : ∃ d, P.underlying t = some d ∧ ti.ty.fits d := by
  obtain ⟨d, h1, h2, _⟩ := h.desc; exact ⟨d, h1, h2⟩

theorem run_isAgg {P : Program} {t : Nat} {ti : TI} (h : TFit P t ti) (w : World) : (isAgg t).run P w = .ok ti.agg w := by
  obtain ⟨d, h1, h2, h3⟩ := h.desc
  rw [h3]
  unfold isAgg
  rw [Sem.run_bind, run_underlying h1]
  simp only [Result.andThen_ok]
  cases d <;> rfl

theorem run_sizeOf' {P : Program} {t : Nat} {ti : TI} (h : TFit P t ti) (w : World) : (sizeOf t).run P w = .ok ti.size w := by
  obtain ⟨i, h1, h2, _⟩ := h.info
  simp [sizeOf, typeInfo, h1, h2]

theorem run_zeroValue' {P : Program} {t : Nat} {ti : TI} (h : TFit P t ti) (w : World) : (zeroValue t).run P w = .ok ti.zval w := by
  obtain ⟨i, h1, _, _, h2⟩ := h.info
  simp [zeroValue, typeInfo, h1, h2]

/-! values only -/
theorem ok_int (p : Pre C e G g hp w) (ob : Prop) (k : IntKind) (n : Int) : OpOk C e G g hp w (ob, .lit (.int k n), []) (.ok (.value (.int k n)) w) :=
  .pure p (.dat _ _ (.lit _ rfl))
theorem ok_bool (p : Pre C e G g hp w) (ob : Prop) (b : Bool) : OpOk C e G g hp w (ob, .lit (.bool b), []) (.ok (.value (.bool b)) w) :=
  .pure p (.dat _ _ (.lit _ rfl))

theorem wrap_i64 {r : Int} (h : -9223372036854775808 ≤ r ∧ r ≤ 9223372036854775807) : IntKind.i64.wrap r = r := IntWalk.i64_in r h

theorem arith_ok (p : Pre C e G g hp w) (k : IntKind) (r : Int) (h : (arith k r).1) : OpOk C e G g hp w (arith k r) (.ok (.value (.int k (k.wrap r))) w) := by
  cases k <;> simp only [arith, R.val] at h ⊢ <;> first | exact ok_int p _ _ _ | (rw [wrap_i64 h]; exact ok_int p _ _ _)

theorem bopInt_ok (p : Pre C e G g hp w) (op : BinOp) (t : TypeId) (k : IntKind) (a b : Int) (x y : Operand) (h : (bopInt op k a b).1) :
    OpOk C e G g hp w (bopInt op k a b) (((do eqGuard op t x y (.int k a) (.int k b); let v ← binOp op t (.int k a) (.int k b); Pure.pure (Next.value v)) : Sem Next).run C.P w) := by
  cases op <;> simp only [bopInt, R.val, R.no] at h ⊢ <;> simp only [go_sem, Sem.run_bind, Sem.run_pure, Result.andThen_ok, Op.intArith, Op.intDiv]
  case add => exact arith_ok p k _ h
  case sub => exact arith_ok p k _ h
  case mul => exact arith_ok p k _ h
  case quo => simp only [h, if_false, Sem.run_pure, Result.andThen_ok]; exact ok_int p _ _ _
  case rem => simp only [h, if_false, Sem.run_pure, Result.andThen_ok]; exact ok_int p _ _ _
  case eql => rw [show (a == b) = decide (a = b) from rfl]; exact ok_bool p _ _
  case neq => rw [show (a != b) = decide (a ≠ b) from by by_cases h : a = b <;> simp [h]]; exact ok_bool p _ _
  case lss => exact ok_bool p _ _
  case leq => exact ok_bool p _ _
  case gtr => exact ok_bool p _ _
  case geq => exact ok_bool p _ _

theorem ldCells_ok (p : Pre C e G g hp w) {ti : TI} {t : Nat} (_hf : TFit C.P t ti) {cs : List AV} {cv : Array Value} (hl : cs.length ≤ cv.size) (h1 : ∀ i (h : i < cs.length), cs[i].one = true)
    (hv : ∀ i (h : i < cs.length), VR w (UE e) e G cs[i] (cv.getD i undef)) (hag : ti.agg = false → ti.size = 1) (h : (ldCells ti cs).1) :
    OpOk C e G g hp w (ldCells ti cs) (.ok (.value (if ti.agg then .agg (cv.extract 0 ti.size) else cv.getD 0 undef)) w) := by
  unfold ldCells R.val at h ⊢
  simp only at h
  refine .pure p ?_
  cases hagg : ti.agg with
  | true =>
    simp only [if_true]
    refine .agg _ _ (by simp; omega) ?_ ?_
    · intro i hi
      simp only [List.getElem_take]
      exact h1 _ _
    · intro i hi
      have hi' : i < ti.size ∧ i < cs.length := by simp at hi; omega
      simp only [List.getElem_take]
      have := hv i hi'.2
      rw [Array.getD_eq_getD_getElem?] at this ⊢
      rw [Array.getElem?_extract, if_pos (by omega)]
      simpa using this
  | false =>
    simp only [Bool.false_eq_true, if_false]
    have hs := hag hagg
    have h0 : 0 < cs.length := by omega
    have := hv 0 h0
    rw [List.getD_eq_getElem?_getD, List.getElem?_eq_getElem h0]
    exact this
end

end Go.Sym
