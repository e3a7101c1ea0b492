/-
  SYM, part 28: an own object gets another name.
-/
import Derived.Test.YtmjlnndnpdbagaaSym27
set_option linter.all false
set_option linter.unusedSimpArgs false
set_option linter.unusedVariables false
set_option linter.deprecated false
namespace Go.Sym
open Go Go.Great

/-- a value that does not name y (values of values apart: those are not let by) -/
def noY (y : Nat) : AV → Prop
  | .bad | .lit _ | .sl _ _ | .ptI _ => True
  | .slO id _ _ _ => id ≠ y
  | .ptO id _ _ _ _ => id ≠ y
  | _ => False

def RenC (x y : Nat) (v v' : AV) : Prop := (v' = v ∧ noY y v) ∨ ∃ g o l, v = .slO x g o l ∧ v' = .slO y g o l

structure Ren (x y nl : Nat) (s s' : St) : Prop where
  ck : s.ck ≤ s'.ck
  hx : nl ≤ x
  hy : nl ≤ y
  own : ∃ g t k es, s.hp.get x = some (g, .own t k es) ∧ s'.hp.get y = some (g, .own t k es)
  yfree : s.hp.get y = none
  xgone : s'.hp.get x = none
  rest : ∀ id, id ≠ x → id ≠ y → s'.hp.get id = none ∨ (∃ g t k es, s.hp.get id = some (g, .own t k es) ∧ s'.hp.get id = some (g, .own t k es)) ∨
    ∃ g cs cs', s.hp.get id = some (g, .box cs) ∧ s'.hp.get id = some (g, .box cs') ∧ cs'.length = cs.length ∧ ∀ j (h : j < cs.length) (h' : j < cs'.length), RenC x y cs[j] cs'[j]
  tm : ∀ t, tget s'.tm t = .bad ∨ RenC x y (tget s.tm t) (tget s'.tm t)

noncomputable def eren (e : Env) (hp' : Hp) (x y : Nat) : Env := ⟨fun i => if i = y then e x else match hp'.get i with | none => none | some _ => e i, e.z⟩

theorem Ren.rel {x y : Nat} {s s' : St} {C : Cx} (h : Ren x y C.lent.length s s') {a : Act} {w : World} (hr : RelS C s a w) : RelS C s' a w := by
  obtain ⟨e, h1, h2, h3⟩ := hr.body
  have hxy : x ≠ y := by
    rintro rfl
    obtain ⟨g, t, k, es, q1, _⟩ := h.own
    rw [h.yfree] at q1; cases q1
  have ey : eren e s'.hp x y y = e x := by simp [eren]
  have en : ∀ i, i ≠ y → s'.hp.get i = none → eren e s'.hp x y i = none := fun i hi hn => by simp only [eren]; rw [if_neg hi, hn]
  have es : ∀ i, i ≠ y → s'.hp.get i ≠ none → eren e s'.hp x y i = e i := fun i hi hn => by
    simp only [eren]; rw [if_neg hi]
    cases hg : s'.hp.get i with
    | none => exact absurd hg hn
    | some q => rfl
  -- where an entry comes from
  have from_ : ∀ i ee, eren e s'.hp x y i = some ee → (i = y ∧ e x = some ee) ∨ (i ≠ y ∧ i ≠ x ∧ e i = some ee) := by
    intro i ee hi
    by_cases hiy : i = y
    · subst hiy; rw [ey] at hi; exact .inl ⟨rfl, hi⟩
    · by_cases hn : s'.hp.get i = none
      · rw [en i hiy hn] at hi; cases hi
      · rw [es i hiy hn] at hi
        exact .inr ⟨hiy, fun hix => hn (hix ▸ h.xgone), hi⟩
  have hU : ∀ b, UE e b → UE (eren e s'.hp x y) b := by
    rintro b ⟨hz, hb⟩
    refine ⟨hz, fun i ee c hi => ?_⟩
    rcases from_ i ee hi with ⟨_, hi⟩ | ⟨_, _, hi⟩
    · exact hb x ee c hi
    · exact hb i ee c hi
  have hG : ∀ g, Glt s.ck g → Glt s'.ck g := fun g (hg : g < s.ck) => (Nat.lt_of_lt_of_le hg h.ck : g < s'.ck)
  have hVD : ∀ {v : AV} {u : Value}, VD w (UE e) v u → VD w (UE (eren e s'.hp x y)) v u := fun hv => hv.mono (Nat.le_refl _) (fun b _ hb => hU b hb) (fun _ _ _ => rfl)
  have hVR : ∀ {v v' : AV} {u : Value}, RenC x y v v' → VR w (UE e) e (Glt s.ck) v u → VR w (UE (eren e s'.hp x y)) (eren e s'.hp x y) (Glt s'.ck) v' u := by
    rintro v v' u hren hv
    rcases hren with ⟨rfl, hno⟩ | ⟨g, o, l, rfl, rfl⟩
    · cases hv with
      | dat _ _ hv => exact .dat _ _ (hVD hv)
      | slO id g off len _ hg ho hi =>
        have hno : id ≠ y := hno
        refine .slO id g off len _ (hG _ hg) ho fun ee he hgg => ?_
        rcases from_ id ee he with ⟨h4, _⟩ | ⟨_, _, h4⟩
        · exact absurd h4 hno
        · exact hi ee h4 hgg
      | ptO id g n i off _ hg ho hi =>
        have hno : id ≠ y := hno
        refine .ptO id g n i off _ (hG _ hg) ho fun ee he hgg => ?_
        rcases from_ id ee he with ⟨h4, _⟩ | ⟨_, _, h4⟩
        · exact absurd h4 hno
        · exact hi ee h4 hgg
      | agg => exact hno.elim
      | tup => exact hno.elim
      | fn => exact hno.elim
    · cases hv with
      | dat _ _ hv => cases hv
      | slO id g off len _ hg ho hi =>
        refine .slO y g o l _ (hG _ hg) ho fun ee he hgg => ?_
        rw [ey] at he
        exact hi ee he hgg
  refine ⟨hr.defers, hr.size, hr.frm, eren e s'.hp x y, ?_, ?_, fun t => ?_⟩
  · constructor
    · intro id hid
      by_cases hiy : id = y
      · subst hiy
        obtain ⟨g, t, k, es', _, q2⟩ := h.own
        rw [q2] at hid; cases hid
      · exact en id hiy hid
    · intro id g ob hid
      by_cases hiy : id = y
      · subst hiy
        obtain ⟨g', t, k, es', q1, q2⟩ := h.own
        rw [q2] at hid
        cases hid
        obtain ⟨ee, k1, k2, k3, k4⟩ := h1.live x _ _ q1
        refine ⟨ee, by rw [ey]; exact k1, k2, hG _ k3, ?_⟩
        obtain ⟨o1, o2, o3, o4, o5, o6⟩ := k4
        refine ⟨o1, o2, o3, o4, o5, ?_⟩
        cases hbl : ee.blk with
        | none => rw [hbl] at o6; exact o6
        | some q =>
          rw [hbl] at o6
          obtain ⟨u1, u2, cs, u3, u4, u5⟩ := o6
          exact ⟨u1, u2, cs, u3, u4, fun i hi j hj => hVD (u5 i hi j hj)⟩
      · have hix : id ≠ x := fun hix => by rw [hix, h.xgone] at hid; cases hid
        rcases h.rest id hix hiy with hn | ⟨g', t, k, es', q1, q2⟩ | ⟨g', cs, cs', q1, q2, q3, q4⟩
        · rw [hn] at hid; cases hid
        · rw [q2] at hid; cases hid
          obtain ⟨ee, k1, k2, k3, k4⟩ := h1.live id _ _ q1
          refine ⟨ee, by rw [es id hiy (by rw [q2]; simp)]; exact k1, k2, hG _ k3, ?_⟩
          obtain ⟨o1, o2, o3, o4, o5, o6⟩ := k4
          refine ⟨o1, o2, o3, o4, o5, ?_⟩
          cases hbl : ee.blk with
          | none => rw [hbl] at o6; exact o6
          | some q =>
            rw [hbl] at o6
            obtain ⟨u1, u2, cs, u3, u4, u5⟩ := o6
            exact ⟨u1, u2, cs, u3, u4, fun i hi j hj => hVD (u5 i hi j hj)⟩
        · rw [q2] at hid; cases hid
          obtain ⟨ee, k1, k2, k3, k4⟩ := h1.live id _ _ q1
          refine ⟨ee, by rw [es id hiy (by rw [q2]; simp)]; exact k1, k2, hG _ k3, ?_⟩
          obtain ⟨o1, o2, b, c, vs, t, o3, o4, o5, o6⟩ := k4
          refine ⟨o1, fun j hj => ?_, b, c, vs, t, o3, o4, by omega, fun j hj => hVR (q4 j (by omega) hj) (o6 j (by omega))⟩
          rcases q4 j (by omega) hj with ⟨h5, _⟩ | ⟨_, _, _, _, h5⟩
          · rw [h5]; exact o2 j (by omega)
          · rw [h5]; rfl
    · intro i j ei ej b c c' hi hj hbi hbj
      rcases from_ i ei hi with ⟨p1, hi⟩ | ⟨p1, p2, hi⟩ <;> rcases from_ j ej hj with ⟨r1, hj⟩ | ⟨r1, r2, hj⟩
      · rw [p1, r1]
      · exact absurd (h1.inj x j ei ej b c c' hi hj hbi hbj).symm r2
      · exact absurd (h1.inj i x ei ej b c c' hi hj hbi hbj) p2
      · exact h1.inj i j ei ej b c c' hi hj hbi hbj
    · intro i ei b c hi hb
      rcases from_ i ei hi with ⟨_, hi⟩ | ⟨_, _, hi⟩
      · exact h1.lt x ei b c hi hb
      · exact h1.lt i ei b c hi hb
    · intro i ei b c hi hb
      rcases from_ i ei hi with ⟨_, hi⟩ | ⟨_, _, hi⟩
      · exact h1.nz x ei b c hi hb
      · exact h1.nz i ei b c hi hb
  · refine ⟨h2.zeq, h2.zlt, fun id ee b c hl he hb => ?_, fun id hl ee he => ?_⟩
    · rcases from_ id ee he with ⟨_, hi⟩ | ⟨_, _, hi⟩
      · exact h2.mine x ee b c h.hx hi hb
      · exact h2.mine id ee b c hl hi hb
    · rcases from_ id ee he with ⟨rfl, hi⟩ | ⟨_, _, hi⟩
      · exact absurd hl (by have := h.hy; omega)
      · exact h2.lent id hl ee hi
  · rcases h.tm t with ht | ht
    · rw [ht]; exact .dat _ _ (.bad _)
    · exact hVR ht (h3 t)
end Go.Sym
