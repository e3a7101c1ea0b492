/-
  SYM, part 6: addresses of elements and fields, slice expressions.
-/
import Derived.Test.YtmjlnndnpdbagaaSym5
set_option linter.all false
set_option linter.unusedSimpArgs false
set_option linter.unusedVariables false
set_option linter.deprecated false
namespace Go.Sym
open Go

section
variable {C : Cx} {e : Env} {G : Nat → Prop} {g : Nat} {hp : Hp} {w : World} {T : List (Nat × TI)}

theorem elem_of_slice {t el : Nat} (h : (tl T t).ty = .slice el) : elemOf T t = el := by simp [elemOf, h]
theorem elem_of_array {t n el : Nat} (h : (tl T t).ty = .array n el) : elemOf T t = el := by simp [elemOf, h]

theorem run_indexAt_sl {P : Program} {t el : Nat} {ei : TI} (hu : P.underlying t = some (.slice el)) (hf : TFit P el ei) (b off n cap : Nat) (k : IntKind) (i : Int) (h0 : 0 ≤ i) (h1 : i < n) (w : World) :
    (Instr.indexAt t (.slice (some ⟨b, off, none⟩) n cap) (.int k i)).run P w = .ok (.pointer (some ⟨b, off + i.toNat * ei.size, none⟩)) w := by
  simp [Instr.indexAt, run_underlying hu, asIntOf, h0, h1, run_sizeOf' hf, add_none]

theorem run_indexAt_arr {P : Program} {t m el : Nat} {ei : TI} (hu : P.underlying t = some (.array m el)) (hf : TFit P el ei) (b off : Nat) (k : IntKind) (i : Int) (h0 : 0 ≤ i) (h1 : i < m) (w : World) :
    (Instr.indexAt t (.pointer (some ⟨b, off, none⟩)) (.int k i)).run P w = .ok (.pointer (some ⟨b, off + i.toNat * ei.size, none⟩)) w := by
  simp [Instr.indexAt, run_underlying hu, asIntOf, Instr.sureAddr, h0, h1, run_sizeOf' hf, add_none]

theorem VD.ptI_drop {U : Nat → Prop} {cs : List AV} {b off : Nat} {f : Nat → Value} (h1 : U b) (h2 : b < w.heap.size)
    (h3 : ∀ j, j < cs.length → w.cell? ⟨b, off + j, none⟩ = some (f j)) (h4 : ∀ j (h : j < cs.length), cs[j].one = true) (h5 : ∀ j (h : j < cs.length), VD w U cs[j] (f j)) (n : Nat) :
    VD w U (.ptI (cs.drop n)) (.pointer (some ⟨b, off + n, none⟩)) := by
  refine .ptI _ b (off + n) (fun j => f (n + j)) h1 h2 ?_ ?_ ?_
  · intro j hj; simp at hj; rw [Nat.add_assoc]; exact h3 _ (by omega)
  · intro j hj; simp only [List.getElem_drop]; exact h4 _ _
  · intro j hj; simp only [List.getElem_drop]; exact h5 _ _

theorem ptO_live (hr : HRel w e G hp) {id g' n i off : Nat} {x : Value} (hx : VR w (UE e) e G (.ptO id g' n i off) x) (hh : hp.has id g' n) :
    ∃ ee b c, e id = some ee ∧ ee.g = g' ∧ ee.n = n ∧ ee.blk = some (b, c) ∧ x = .pointer (some ⟨b, i * ee.k + off, none⟩) := by
  obtain ⟨_, _, hin⟩ := hx.ptO_inv
  unfold Hp.has at hh
  cases hg : hp.get id with
  | none => simp only [hg] at hh
  | some q =>
    obtain ⟨g'', ob⟩ := q
    obtain ⟨ee, he, hgg, _, hor⟩ := hr.live id _ _ hg
    cases ob with
    | box cs =>
      simp only [hg] at hh
      obtain ⟨rfl, rfl⟩ := hh
      obtain ⟨hn, _, b, c, vs, T, hb, _⟩ := hor
      obtain ⟨_, hi⟩ := hin ee he hgg
      exact ⟨ee, b, c, he, hgg, hn, hb, hi hn b c hb⟩
    | own t k es =>
      simp only [hg] at hh
      obtain ⟨rfl, rfl, hne⟩ := hh
      obtain ⟨_, hn, _, _, _, hb⟩ := hor
      obtain ⟨_, hi⟩ := hin ee he hgg
      cases hbl : ee.blk with
      | none => rw [hbl] at hb; subst hb; exact absurd rfl hne
      | some q =>
        obtain ⟨b, c⟩ := q
        exact ⟨ee, b, c, he, hgg, hn, hbl, hi hn b c hbl⟩

theorem ptO_move {id g' n i off off' : Nat} {x : Value} (hx : VR w (UE e) e G (.ptO id g' n i off) x) {ee : EE} {b c : Nat} (he : e id = some ee) (hn : ee.n = n)
    (hb : ee.blk = some (b, c)) : VR w (UE e) e G (.ptO id g' n i off') (.pointer (some ⟨b, i * ee.k + off', none⟩)) := by
  obtain ⟨hG, _, _⟩ := hx.ptO_inv
  refine .ptO _ _ _ _ _ _ hG rfl fun ee' he' _ => ?_
  rw [he] at he'; cases he'
  refine ⟨by omega, fun _ b' c' hb' => ?_⟩
  rw [hb] at hb'; cases hb'; rfl

theorem opIndexAddr_ok (p : Pre C e G g hp w) (hT : TOk C.P T) {t : Nat} {av ai : AV} {x xi : Value} (hx : VR w (UE e) e G av x) (hi : VR w (UE e) e G ai xi)
    (h : (opIndexAddr (tl T t) (tl T (elemOf T t)) hp av ai).1) :
    OpOk C e G g hp w (opIndexAddr (tl T t) (tl T (elemOf T t)) hp av ai) (((Instr.indexAt t x xi).run C.P w).andThen fun v w => .ok (.value v) w) := by
  cases av with
  | sl es full =>
    cases ai with
    | lit v =>
      cases v with
      | int k i =>
        obtain ⟨rfl, _⟩ := hi.lit_inv
        cases hel : (tl T t).ty with
        | slice el =>
          obtain ⟨d, hu, hd⟩ := (hT.fit hel (by simp)).under
          rw [hel] at hd
          cases hd
          rw [elem_of_slice hel] at h ⊢
          simp only [opIndexAddr, hel, R.val] at h ⊢
          obtain ⟨h0, h1, h2⟩ := h
          have hlt : i.toNat < es.length := by omega
          have hD : es.getD i.toNat .bad = es[i.toNat] := by rw [List.getD_eq_getElem?_getD, List.getElem?_eq_getElem hlt]; rfl
          rw [hD] at h2 ⊢
          rcases hx.sl_inv.sl_inv with ⟨rfl, _⟩ | ⟨b, off, cap, k', f, rfl, hb, hbs, _, _, _, hk0, hk, hc, h1', hv⟩
          · simp at hlt
          · have hkk := hk _ hlt
            have hei := hT.fits (t := el) (by omega)
            rw [run_indexAt_sl hu hei b off _ cap k i h0 (by omega)]
            simp only [Result.andThen_ok]
            refine .pure p (.dat _ _ (.ptI _ b _ (fun j => f (i.toNat * k' + j)) hb hbs ?_ (h1' _ hlt) (hv _ hlt)))
            intro j hj
            rw [← h2, hkk, Nat.add_assoc]
            refine hc _ ?_
            calc i.toNat * k' + j < i.toNat * k' + k' := by omega
              _ = (i.toNat + 1) * k' := by rw [Nat.succ_mul]
              _ ≤ es.length * k' := Nat.mul_le_mul_right _ (by omega)
        | _ => simp only [opIndexAddr, hel] at h; exact h.elim
      | _ => exact h.elim
    | _ => exact h.elim
  | slO id g' off len =>
    cases ai with
    | lit v =>
      cases v with
      | int k i =>
        obtain ⟨rfl, _⟩ := hi.lit_inv
        cases hel : (tl T t).ty with
        | slice el =>
          obtain ⟨d, hu, hd⟩ := (hT.fit hel (by simp)).under
          rw [hel] at hd
          cases hd
          rw [elem_of_slice hel] at h ⊢
          cases hg : hp.get id with
          | none => simp only [opIndexAddr, hel, hg] at h; exact h.elim
          | some q =>
            obtain ⟨g'', ob⟩ := q
            cases ob with
            | box cs => simp only [opIndexAddr, hel, hg] at h; exact h.elim
            | own T' k' es =>
              simp only [opIndexAddr, hel, hg, R.val] at h ⊢
              obtain ⟨rfl, hl, rfl, h0, h1⟩ := h
              obtain ⟨hG, _, hin⟩ := hx.slO_inv
              obtain ⟨ee, he, hgg, _, hor⟩ := p.hr.live id _ _ hg
              obtain ⟨hk, hn, hk0, hkl, h1', hb⟩ := hor
              obtain ⟨_, hok⟩ := hin ee he hgg
              have hok := hok (by omega)
              have hei := hT.fits (t := el) (by omega)
              unfold SlOK at hok
              cases hbl : ee.blk with
              | none => rw [hbl] at hok; obtain ⟨_, hl0, _⟩ := hok; omega
              | some q =>
                obtain ⟨b, bcap⟩ := q
                rw [hbl] at hok
                obtain ⟨cap, rfl, _, _⟩ := hok
                rw [run_indexAt_sl hu hei b _ len cap k i h0 h1]
                simp only [Result.andThen_ok]
                refine .pure p (.ptO _ _ _ _ _ _ hG rfl fun ee' he' hg' => ?_)
                rw [he] at he'; cases he'
                refine ⟨by omega, fun _ b' c' hbc => ?_⟩
                rw [hbl] at hbc; cases hbc
                rw [hk]
                simp [Nat.add_mul]
        | _ => simp only [opIndexAddr, hel] at h; exact h.elim
      | _ => exact h.elim
    | _ => exact h.elim
  | ptO id g' n j off =>
    cases ai with
    | lit v =>
      cases v with
      | int k i =>
        obtain ⟨rfl, _⟩ := hi.lit_inv
        cases hel : (tl T t).ty with
        | array m el =>
          obtain ⟨d, hu, hd⟩ := (hT.fit hel (by simp)).under
          rw [hel] at hd
          cases hd
          rw [elem_of_array hel] at h ⊢
          simp only [opIndexAddr, hel, R.val] at h ⊢
          obtain ⟨hh, hs, h0, h1⟩ := h
          have hei := hT.fits (t := el) hs
          obtain ⟨ee, b, c, he, hgg, hn, hb, rfl⟩ := ptO_live p.hr hx hh
          rw [run_indexAt_arr hu hei b _ k i h0 h1, Nat.add_assoc]
          simp only [Result.andThen_ok]
          exact .pure p (ptO_move hx he hn hb)
        | _ => simp only [opIndexAddr, hel] at h; exact h.elim
      | _ => exact h.elim
    | _ => exact h.elim
  | ptI cs =>
    cases ai with
    | lit v =>
      cases v with
      | int k i =>
        obtain ⟨rfl, _⟩ := hi.lit_inv
        cases hel : (tl T t).ty with
        | array m el =>
          obtain ⟨d, hu, hd⟩ := (hT.fit hel (by simp)).under
          rw [hel] at hd
          cases hd
          rw [elem_of_array hel] at h ⊢
          simp only [opIndexAddr, hel, R.val] at h ⊢
          obtain ⟨hs, h0, h1⟩ := h
          have hei := hT.fits (t := el) hs
          obtain ⟨b, off, f, rfl, q1, q2, q3, q4, q5⟩ := hx.ptI_inv.ptI_inv
          rw [run_indexAt_arr hu hei b off k i h0 h1]
          simp only [Result.andThen_ok]
          exact .pure p (.dat _ _ (VD.ptI_drop q1 q2 q3 q4 q5 _))
        | _ => simp only [opIndexAddr, hel] at h; exact h.elim
      | _ => exact h.elim
    | _ => exact h.elim
  | _ => exact h.elim

theorem run_fieldAt {P : Program} {t f : Nat} {fs : List (Nat × Nat)} {a : Array Field} (hu : P.underlying t = some (.struct a)) (ha : a.toList.map (fun f => (f.offset, f.type)) = fs) (hf : f < fs.length)
    {ti : TI} (hei : TFit P (fs.getD f (0, 0)).2 ti) (hs : ti.size ≠ 0) (b off : Nat) (w : World) :
    (Instr.fieldAt t (.pointer (some ⟨b, off, none⟩)) f).run P w = .ok (.pointer (some ⟨b, off + (fs.getD f (0, 0)).1, none⟩)) w := by
  subst ha
  have hf' : f < a.size := by simpa using hf
  have e1 : (a.toList.map fun f => (f.offset, f.type)).getD f (0, 0) = (a[f].offset, a[f].type) := by
    simp [List.getD_eq_getElem?_getD, hf']
  rw [e1] at hei ⊢
  simp only at hei ⊢
  simp [Instr.fieldAt, run_underlying hu, hf', Instr.sureAddr, fieldPlace, run_sizeOf' hei, hs, add_none]

theorem opFieldAddr_ok (p : Pre C e G g hp w) (hT : TOk C.P T) {t f : Nat} {av : AV} {x : Value} (hx : VR w (UE e) e G av x) (h : (opFieldAddr T t f hp av).1) :
    OpOk C e G g hp w (opFieldAddr T t f hp av) (((Instr.fieldAt t x f).run C.P w).andThen fun v w => .ok (.value v) w) := by
  cases hel : (tl T t).ty with
  | struct fs =>
    obtain ⟨d, hu, hd⟩ := (hT.fit hel (by simp)).under
    rw [hel] at hd
    obtain ⟨a, rfl, ha⟩ := hd
    simp only [opFieldAddr, hel] at h ⊢
    cases av with
    | ptI cs =>
      obtain ⟨h1, h2⟩ := h
      obtain ⟨b, off, f', rfl, q1, q2, q3, q4, q5⟩ := hx.ptI_inv.ptI_inv
      rw [run_fieldAt hu ha h1 (hT.fits h2) h2]
      simp only [Result.andThen_ok]
      exact .pure p (.dat _ _ (VD.ptI_drop q1 q2 q3 q4 q5 _))
    | ptO id g' n i off =>
      obtain ⟨h1, h2, h3⟩ := h
      obtain ⟨ee, b, c, he, hgg, hn, hb, rfl⟩ := ptO_live p.hr hx h3
      rw [run_fieldAt hu ha h1 (hT.fits h2) h2, Nat.add_assoc]
      simp only [Result.andThen_ok]
      exact .pure p (ptO_move hx he hn hb)
    | _ => exact h.elim
  | _ => simp only [opFieldAddr, hel] at h; exact h.elim

theorem run_part {P : Program} {t : Nat} {ti : TI} (hf : TFit P t ti) (cs : Array Value) (off : Nat) (hl : off + ti.size ≤ cs.size) (w : World) :
    (part t cs off).run P w = .ok (if ti.agg then .agg (cs.extract off (off + ti.size)) else cs.getD off undef) w := by
  unfold part
  rw [Sem.run_bind, run_isAgg hf, Result.andThen_ok]
  cases hag : ti.agg with
  | true => simp only [if_true, Sem.run_bind, run_sizeOf' hf, Result.andThen_ok, Sem.run_pure]
  | false =>
    have h1 := hf.one hag
    have : off < cs.size := by omega
    simp [Array.getD_eq_getD_getElem?, this]

theorem part_ok (p : Pre C e G g hp w) {t : Nat} {ti : TI} (hf : TFit C.P t ti) {cs : List AV} {vs : Array Value} (hl : cs.length = vs.size) (h1 : ∀ i (h : i < cs.length), cs[i].one = true)
    (hv : ∀ i (h : i < cs.length), VR w (UE e) e G cs[i] (vs.getD i undef)) (off : Nat) (hs : ti.size ≠ 0) (h : (ldCells ti (cs.drop off)).1) :
    OpOk C e G g hp w (ldCells ti (cs.drop off)) (((part t vs off).run C.P w).andThen fun v w => .ok (.value v) w) := by
  have hle : ti.size ≤ cs.length - off := by have := h.2; simpa using this
  rw [run_part hf vs off (by omega)]
  simp only [Result.andThen_ok]
  have := ldCells_ok p hf (cs := cs.drop off) (cv := vs.extract off vs.size) (by simp; omega) (one_getElem h1 off) (fun i hi => by
    simp only [List.getElem_drop]
    have hi' : i < cs.length - off := by simpa using hi
    have e1 : (vs.extract off vs.size).getD i undef = vs.getD (off + i) undef := by
      rw [Array.getD_eq_getD_getElem?, Array.getD_eq_getD_getElem?, Array.getElem?_extract, if_pos (by omega)]
    rw [e1]
    exact hv _ _) hf.one h
  have e2 : (if ti.agg = true then Value.agg ((vs.extract off vs.size).extract 0 ti.size) else (vs.extract off vs.size).getD 0 undef) =
      if ti.agg = true then Value.agg (vs.extract off (off + ti.size)) else vs.getD off undef := by
    cases ti.agg with
    | true =>
      simp only [if_true]
      congr 1
      rw [Array.extract_extract]
      congr 1
      omega
    | false =>
      simp only [Bool.false_eq_true, if_false]
      rw [Array.getD_eq_getD_getElem?, Array.getD_eq_getD_getElem?, Array.getElem?_extract, if_pos (by omega), Nat.add_zero]
  rw [← e2]
  exact this

theorem opField_ok (p : Pre C e G g hp w) (hT : TOk C.P T) {t f : Nat} {av : AV} {x : Value} (hx : VR w (UE e) e G av x) (h : (opField T t f av).1) :
    OpOk C e G g hp w (opField T t f av) (((Instr.field t x f).run C.P w).andThen fun v w => .ok (.value v) w) := by
  cases hel : (tl T t).ty with
  | struct fs =>
    obtain ⟨d, hu, hd⟩ := (hT.fit hel (by simp)).under
    rw [hel] at hd
    obtain ⟨a, rfl, ha⟩ := hd
    simp only [opField, hel] at h ⊢
    cases av with
    | agg cs =>
      obtain ⟨h1, h2, h3⟩ := h
      obtain ⟨vs, rfl, hl, q1, q2⟩ := hx.agg_inv
      subst ha
      have hf' : f < a.size := by simpa using h1
      have e1 : (a.toList.map fun f => (f.offset, f.type)).getD f (0, 0) = (a[f].offset, a[f].type) := by
        simp [List.getD_eq_getElem?_getD, hf']
      rw [e1] at h2 h3 ⊢
      simp only at h2 h3 ⊢
      have hr : (Instr.field t (.agg vs) f).run C.P w = (part a[f].type vs a[f].offset).run C.P w := by
        simp [Instr.field, run_underlying hu, hf', asAgg]
      rw [hr]
      exact part_ok p (hT.fits h2) hl q1 q2 _ h2 h3
    | _ => exact h.elim
  | _ => simp only [opField, hel] at h; exact h.elim

theorem opIndex_ok (p : Pre C e G g hp w) (hT : TOk C.P T) {t : Nat} {av ai : AV} {x xi : Value} (hx : VR w (UE e) e G av x) (hi : VR w (UE e) e G ai xi) (h : (opIndex T t av ai).1) :
    OpOk C e G g hp w (opIndex T t av ai) (((Instr.index t x xi).run C.P w).andThen fun v w => .ok (.value v) w) := by
  cases hel : (tl T t).ty with
  | array n el =>
    obtain ⟨d, hu, hd⟩ := (hT.fit hel (by simp)).under
    rw [hel] at hd
    cases hd
    simp only [opIndex, hel] at h ⊢
    cases av with
    | agg cs =>
      cases ai with
      | lit v =>
        cases v with
        | int k i =>
          obtain ⟨h0, h1, h2, h3⟩ := h
          obtain ⟨rfl, _⟩ := hi.lit_inv
          obtain ⟨vs, rfl, hl, q1, q2⟩ := hx.agg_inv
          have hr : (Instr.index t (.agg vs) (.int k i)).run C.P w = (part el vs (i.toNat * (tl T el).size)).run C.P w := by
            simp [Instr.index, run_underlying hu, asIntOf, h0, h1, run_sizeOf' (hT.fits h2)]
          rw [hr]
          exact part_ok p (hT.fits h2) hl q1 q2 _ h2 h3
        | _ => exact h.elim
      | _ => exact h.elim
    | _ => exact h.elim
  | _ => simp only [opIndex, hel] at h; exact h.elim

end
end Go.Sym
