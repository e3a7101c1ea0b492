/-
  SYM, part 13: an operation does what the table says.
-/
import Derived.Test.YtmjlnndnpdbagaaSym12
set_option linter.all false
set_option linter.unusedSimpArgs false
set_option linter.unusedVariables false
set_option linter.deprecated false
namespace Go.Sym
open Go Go.Great

section
variable {C : Cx} {e : Env} {G : Nat → Prop} {g : Nat} {hp : Hp} {w : World} {T : List (Nat × TI)}

theorem bop_ok (p : Pre C e G g hp w) (hT : TOk C.P T) (op : BinOp) {t : Nat} {x y : Operand} {va vb : AV} {xa xb : Value} (ha : VR w (UE e) e G va xa) (hb : VR w (UE e) e G vb xb) (h : (bop op (tl T t).ty va vb).1) :
    OpOk C e G g hp w (bop op (tl T t).ty va vb) (((do eqGuard op t x y xa xb; let v ← binOp op t xa xb; Pure.pure (Next.value v)) : Sem Next).run C.P w) := by
  unfold bop at h ⊢
  split at h
  · obtain ⟨rfl, _⟩ := ha.lit_inv
    obtain ⟨rfl, _⟩ := hb.lit_inv
    obtain ⟨rfl, h⟩ := h
    exact bopInt_ok p op t _ _ _ x y h
  · rename_i a b
    obtain ⟨rfl, _⟩ := ha.lit_inv
    obtain ⟨rfl, _⟩ := hb.lit_inv
    unfold bopBool at h ⊢
    split at h
    · rename_i hty
      obtain ⟨d, hu, hd⟩ := (hT.fit hty (by simp)).under
      rw [hty] at hd; cases hd
      simp only [go_sem, Sem.run_bind, Sem.run_pure, Result.andThen_ok, run_eql_bool _ t a b hu]
      exact ok_bool p _ _
    · rename_i hty
      obtain ⟨d, hu, hd⟩ := (hT.fit hty (by simp)).under
      rw [hty] at hd; cases hd
      simp only [go_sem, Sem.run_bind, Sem.run_pure, Result.andThen_ok, run_neq_bool _ t a b hu]
      exact ok_bool p _ _
    · exact h.elim
  · exact h.elim

theorem andThen_value {P : Program} (s : Sem Value) (w : World) : ((do Pure.pure (Next.value (← s))) : Sem Next).run P w = (s.run P w).andThen fun v w => .ok (.value v) w := by
  rw [Sem.run_bind]; rfl
theorem andThen_skip {P : Program} (s : Sem Unit) (w : World) : ((do s; Pure.pure Next.skip) : Sem Next).run P w = (s.run P w).andThen fun _ w => .ok .skip w := by
  rw [Sem.run_bind]; rfl

theorem evals_map {a : Act} {ev : Operand → AV} (hv : ∀ x, VR w (UE e) e G (ev x) (a.eval x)) (o : Option Operand) : ORelV w e G (o.map ev) (o.map a.eval) := by
  cases o with
  | none => trivial
  | some x => exact hv x

theorem opV_ok (p : Pre C e G g hp w) (hT : TOk C.P T) (hl : C.lent.length ≤ 100) (o : Oper) {a : Act} {ev : Operand → AV} (hv : ∀ x, VR w (UE e) e G (ev x) (a.eval x)) (h : (opV T o ev hp g).1) :
    OpOk C e G g hp w (opV T o ev hp g) ((execOp a.eval o).run C.P w) := by
  obtain ⟨dst, op, type, pos, after, guard⟩ := o
  cases op with
  | move x => exact .pure p (hv x)
  | assign x =>
    simp only [opV] at h ⊢
    split at h
    · exact nil_ok p (by omega) h
    · exact .pure p (hv _)
  | pick c x y =>
    simp only [opV] at h ⊢
    split at h
    · rename_i b hb
      have hc := hv c
      rw [hb] at hc
      obtain ⟨hc, _⟩ := hc.lit_inv
      have : (execOp a.eval ⟨dst, .pick c x y, type, pos, after, guard⟩).run C.P w = .ok (.value (if b then a.eval x else a.eval y)) w := by
        simp [execOp, hc, asBool]
      rw [this]
      refine .pure p ?_
      cases b
      · exact hv y
      · exact hv x
    · exact h.elim
  | binOp op t x y yt =>
    have e1 : (execOp a.eval ⟨dst, .binOp op t x y yt, type, pos, after, guard⟩).run C.P w =
        ((do eqGuard op t x y (a.eval x) (a.eval y); let v ← binOp op t (a.eval x) (a.eval y); Pure.pure (Next.value v)) : Sem Next).run C.P w := by
      simp only [execOp, Sem.run_bind]
      cases (eqGuard op t x y (a.eval x) (a.eval y)).run C.P w <;> rfl
    rw [e1]
    exact bop_ok p hT op (hv x) (hv y) h
  | unOp op t x =>
    have hx := hv x
    cases op with
    | not =>
      simp only [opV] at h ⊢
      split at h
      · rename_i b hb
        rw [hb] at hx
        obtain ⟨hx, _⟩ := hx.lit_inv
        have e1 : (execOp a.eval ⟨dst, .unOp .not t x, type, pos, after, guard⟩).run C.P w = .ok (.value (.bool (!b))) w := by
          simp [execOp, hx, Op.unary]
        rw [e1]; exact ok_bool p _ _
      · exact h.elim
    | neg =>
      simp only [opV] at h ⊢
      split at h
      · rename_i k n hb
        rw [hb] at hx
        obtain ⟨hx, _⟩ := hx.lit_inv
        have e1 : (execOp a.eval ⟨dst, .unOp .neg t x, type, pos, after, guard⟩).run C.P w = .ok (.value (.int k (k.wrap (0 - n)))) w := by
          simp [execOp, hx, Op.unary, Op.intArith]
        rw [e1]; exact arith_ok p k _ h
      · exact h.elim
    | _ => exact h.elim
  | nilCheck x =>
    have hx := hv x
    simp only [opV] at h ⊢
    split at h
    · rename_i cs hb
      rw [hb] at hx
      obtain ⟨b, off, f, he, _⟩ := hx.ptI_inv.ptI_inv
      have e1 : (execOp a.eval ⟨dst, .nilCheck x, type, pos, after, guard⟩).run C.P w = .ok (.value (a.eval x)) w := by
        simp [execOp, he]
      rw [e1]; exact .pure p hx
    · rename_i id g' n i off hb
      rw [hb] at hx
      obtain ⟨ee, b, c, _, _, _, _, he⟩ := ptO_live p.hr hx h
      have e1 : (execOp a.eval ⟨dst, .nilCheck x, type, pos, after, guard⟩).run C.P w = .ok (.value (a.eval x)) w := by
        simp [execOp, he]
      rw [e1]; exact .pure p hx
    · exact h.elim
  | extract x i =>
    have hx := hv x
    simp only [opV] at h ⊢
    split at h
    · rename_i vs hb
      rw [hb] at hx
      obtain ⟨xs, he, hl', hvs⟩ := hx.tup_inv
      have hi : i < vs.length := h
      have e1 : (execOp a.eval ⟨dst, .extract x i, type, pos, after, guard⟩).run C.P w = .ok (.value (xs.getD i undef)) w := by
        have : i < xs.size := by omega
        simp [execOp, he, Instr.extract, this, Array.getD_eq_getD_getElem?]
      rw [e1]
      refine .pure p ?_
      rw [List.getD_eq_getElem?_getD, List.getElem?_eq_getElem hi]
      exact hvs i hi
    · exact h.elim
  | load t x =>
    have e1 : (execOp a.eval ⟨dst, .load t x, type, pos, after, guard⟩).run C.P w = ((Instr.loadAt t (a.eval x)).run C.P w).andThen fun v w => .ok (.value v) w := andThen_value _ _
    rw [e1]
    simp only [opV] at h ⊢
    exact opLoad_ok p (fun hs => hT.fits hs) (hv x) h
  | store t x v =>
    have e1 : (execOp a.eval ⟨dst, .store t x v, type, pos, after, guard⟩).run C.P w = ((Instr.storeAt t (a.eval x) (a.eval v)).run C.P w).andThen fun _ w => .ok .skip w := andThen_skip _ _
    rw [e1]
    exact opStore_ok p hT (hv v) (hv x) h
  | indexAddr t x i =>
    have e1 : (execOp a.eval ⟨dst, .indexAddr t x i, type, pos, after, guard⟩).run C.P w = ((Instr.indexAt t (a.eval x) (a.eval i)).run C.P w).andThen fun v w => .ok (.value v) w := andThen_value _ _
    rw [e1]
    exact opIndexAddr_ok p hT (hv x) (hv i) h
  | fieldAddr t x f =>
    have e1 : (execOp a.eval ⟨dst, .fieldAddr t x f, type, pos, after, guard⟩).run C.P w = ((Instr.fieldAt t (a.eval x) f).run C.P w).andThen fun v w => .ok (.value v) w := andThen_value _ _
    rw [e1]
    exact opFieldAddr_ok p hT (hv x) h
  | field t x f =>
    have e1 : (execOp a.eval ⟨dst, .field t x f, type, pos, after, guard⟩).run C.P w = ((Instr.field t (a.eval x) f).run C.P w).andThen fun v w => .ok (.value v) w := andThen_value _ _
    rw [e1]
    exact opField_ok p hT (hv x) h
  | index t x i =>
    have e1 : (execOp a.eval ⟨dst, .index t x i, type, pos, after, guard⟩).run C.P w = ((Instr.index t (a.eval x) (a.eval i)).run C.P w).andThen fun v w => .ok (.value v) w := andThen_value _ _
    rw [e1]
    exact opIndex_ok p hT (hv x) (hv i) h
  | slice t x lo hi mx =>
    have e1 : (execOp a.eval ⟨dst, .slice t x lo hi mx, type, pos, after, guard⟩).run C.P w = ((Instr.sliceAt t (a.eval x) (lo.map a.eval) (hi.map a.eval) (mx.map a.eval)).run C.P w).andThen fun v w => .ok (.value v) w := andThen_value _ _
    rw [e1]
    exact opSlice_ok p hT (hv x) (evals_map hv lo) (evals_map hv hi) (evals_map hv mx) h
  | makeSlice t l c =>
    have e1 : (execOp a.eval ⟨dst, .makeSlice t l c, type, pos, after, guard⟩).run C.P w = ((Instr.makeSlice t (a.eval l) (a.eval c)).run C.P w).andThen fun v w => .ok (.value v) w := andThen_value _ _
    rw [e1]
    have hvl := hv l
    have hvc := hv c
    simp only [opV] at h ⊢
    split at h
    · rename_i el kl l' kc c' hty hl' hc'
      rw [hl'] at hvl
      rw [hc'] at hvc
      obtain ⟨hvl, _⟩ := hvl.lit_inv
      obtain ⟨hvc, _⟩ := hvc.lit_inv
      rw [hvl, hvc]
      obtain ⟨h0, h1, h2, h3, h4⟩ := h
      exact make_ok p hT (by omega) hty h0 h1 h2 h3 h4
    · exact h.elim
  | buildSlice t n ps =>
    have e1 : (execOp a.eval ⟨dst, .buildSlice t n ps, type, pos, after, guard⟩).run C.P w = ((Instr.buildSlice t n (ps.map fun q => (q.1, a.eval q.2))).run C.P w).andThen fun v w => .ok (.value v) w := andThen_value _ _
    rw [e1]
    simp only [opV] at h ⊢
    split at h
    · rename_i el hty
      obtain ⟨h1, h2, h3, h4⟩ := h
      exact buildSlice_ok p hT hty (fun q _ => hv q.2) h1 h2 h3 h4
    · exact h.elim
  | build t ps =>
    have e1 : (execOp a.eval ⟨dst, .build t ps, type, pos, after, guard⟩).run C.P w = ((Instr.build t (ps.map fun q => (q.1, a.eval q.2))).run C.P w).andThen fun v w => .ok (.value v) w := andThen_value _ _
    rw [e1]
    simp only [opV] at h ⊢
    split at h
    · rename_i fs hty
      exact build_ok p hT hty (fun q _ => hv q.2) h
    · exact h.elim
  | alloc t =>
    have e1 : (execOp a.eval ⟨dst, .alloc t, type, pos, after, guard⟩).run C.P w = ((Instr.alloc t true (.tuple #[])).run C.P w).andThen fun v w => .ok (.value v) w := andThen_value _ _
    rw [e1]
    exact alloc_ok p hT (by omega) h
  | box t x =>
    have e1 : (execOp a.eval ⟨dst, .box t x, type, pos, after, guard⟩).run C.P w = ((Instr.box t (a.eval x)).run C.P w).andThen fun v w => .ok (.value v) w := andThen_value _ _
    rw [e1, run_box', Result.andThen_ok]
    exact box_ok p (by omega) (hv x) h.2
  | convert s d x =>
    have e1 : (execOp a.eval ⟨dst, .convert s d x, type, pos, after, guard⟩).run C.P w = ((convert s d (a.eval x)).run C.P w).andThen fun v w => .ok (.value v) w := andThen_value _ _
    rw [e1]
    have hx := hv x
    simp only [opV] at h ⊢
    split at h
    · rename_i ks kd k n hs hd hb
      rw [hb] at hx
      obtain ⟨hx, _⟩ := hx.lit_inv
      rw [hx]
      obtain ⟨d1, hu1, hd1⟩ := (hT.fit hs (by simp)).under
      obtain ⟨d2, hu2, hd2⟩ := (hT.fit hd (by simp)).under
      rw [hs] at hd1; cases hd1
      rw [hd] at hd2; cases hd2
      have : (convert s d (.int k n)).run C.P w = .ok (.int kd (kd.wrap n)) w := by
        simp [Go.convert, run_underlying hu1, run_underlying hu2, Conv.intToInt]
      rw [this]; exact ok_int p _ _ _
    · exact h.elim
  | call c =>
    obtain ⟨callee, args, argTypes⟩ := c
    cases callee with
    | builtin b =>
      simp only [opV] at h ⊢
      split at h
      · rename_i x t ha ht
        have ha' : args = #[x] := by rw [← Array.toList_inj]; exact ha
        have ht' : argTypes = #[t] := by rw [← Array.toList_inj]; exact ht
        subst ha'; subst ht'
        have e1 : (execOp a.eval ⟨dst, .call { callee := .builtin .len, args := #[x], argTypes := #[t] }, type, pos, after, guard⟩).run C.P w =
            ((Builtin.len_ #[t] type #[a.eval x]).run C.P w).andThen fun v w => .ok (.value v) w := by
          simp [execOp, resolve, invoke, builtin]
        rw [e1]
        exact opLen_ok p hT (hv x) h
      · rename_i d x t t' ha ht
        have ha' : args = #[d, x] := by rw [← Array.toList_inj]; exact ha
        have ht' : argTypes = #[t, t'] := by rw [← Array.toList_inj]; exact ht
        subst ha'; subst ht'
        split at h
        · rename_i el hty
          obtain ⟨htt, h⟩ := h
          subst htt
          have e1 : (execOp a.eval ⟨dst, .call { callee := .builtin .append, args := #[d, x], argTypes := #[t', t'] }, type, pos, after, guard⟩).run C.P w =
              ((Builtin.append_ #[t', t'] type #[a.eval d, a.eval x]).run C.P w).andThen fun v w => .ok (.value v) w := by
            simp [execOp, resolve, invoke, builtin]
          rw [e1]
          exact opAppend_ok p hT hl (by omega) hty (hv d) (hv x) h
        · exact h.elim
      · rename_i x y t t' ha ht
        have ha' : args = #[x, y] := by rw [← Array.toList_inj]; exact ha
        have ht' : argTypes = #[t, t'] := by rw [← Array.toList_inj]; exact ht
        subst ha'; subst ht'
        have hx := hv x
        have hy := hv y
        split at h
        · rename_i k m k' n hb1 hb2
          rw [hb1] at hx
          rw [hb2] at hy
          obtain ⟨hx, _⟩ := hx.lit_inv
          obtain ⟨hy, _⟩ := hy.lit_inv
          have e1 : (execOp a.eval ⟨dst, .call { callee := .builtin .min, args := #[x, y], argTypes := #[t, t'] }, type, pos, after, guard⟩).run C.P w = .ok (.value (.int k (if n < m then n else m))) w := by
            simp [execOp, resolve, invoke, builtin, hx, hy, run_min_int2]
          rw [e1]; exact ok_int p _ _ _
        · exact h.elim
      · rename_i x y t t' ha ht
        have ha' : args = #[x, y] := by rw [← Array.toList_inj]; exact ha
        have ht' : argTypes = #[t, t'] := by rw [← Array.toList_inj]; exact ht
        subst ha'; subst ht'
        have hx := hv x
        have hy := hv y
        split at h
        · rename_i k m k' n hb1 hb2
          rw [hb1] at hx
          rw [hb2] at hy
          obtain ⟨hx, _⟩ := hx.lit_inv
          obtain ⟨hy, _⟩ := hy.lit_inv
          have e1 : (execOp a.eval ⟨dst, .call { callee := .builtin .max, args := #[x, y], argTypes := #[t, t'] }, type, pos, after, guard⟩).run C.P w = .ok (.value (.int k (if m < n then n else m))) w := by
            simp [execOp, resolve, invoke, builtin, hx, hy, run_max_int2]
          rw [e1]; exact ok_int p _ _ _
        · exact h.elim
      · exact h.elim
    | _ => exact h.elim
  | _ => exact h.elim
end
end Go.Sym
