/-
  SYM, part 8: objects that are laid, written, given up.
-/
import Derived.Test.YtmjlnndnpdbagaaSym7
set_option linter.all false
set_option linter.unusedSimpArgs false
set_option linter.unusedVariables false
set_option linter.deprecated false
namespace Go.Sym
open Go

def edrop (e : Env) (ids : List Nat) : Env := ⟨fun i => if i ∈ ids then none else e i, e.z⟩

theorem edrop_nil (e : Env) : edrop e [] = e := by cases e; simp [edrop]
theorem edrop_cons (e : Env) (i : Nat) (ids : List Nat) : edrop e (i :: ids) = eset (edrop e ids) i none := by
  simp only [edrop, eset, Env.mk.injEq, and_true]
  funext j
  by_cases h : j = i
  · subst h; simp
  · simp [h]

section
variable {C : Cx} {e : Env} {G : Nat → Prop} {g : Nat} {hp : Hp} {w : World} {T : List (Nat × TI)}

theorem Ext.trans {w w' w'' : World} {e e' e'' : Env} {G G' G'' : Nat → Prop} (x : Ext w e G w' e' G') (y : Ext w' e' G' w'' e'' G'') : Ext w e G w'' e'' G'' := by
  refine ⟨Nat.le_trans x.size y.size, fun g h => y.gs _ (x.gs _ h), fun b hb hu => y.un b (Nat.lt_of_lt_of_le hb x.size) (x.un b hb hu),
    fun b hb hu => (y.same b (Nat.lt_of_lt_of_le hb x.size) (x.un b hb hu)).trans (x.same b hb hu), ?_⟩
  intro id ee'' he hg
  obtain ⟨ee', h1, h2, h3, h4⟩ := y.ent id ee'' he (x.gs _ hg)
  obtain ⟨ee, k1, k2, k3, k4⟩ := x.ent id ee' h1 (by rw [h2]; exact hg)
  refine ⟨ee, k1, k2.trans h2, k3.trans h3, ?_⟩
  rcases h4 with ⟨h4, h5⟩ | h4 <;> rcases k4 with ⟨k4, k5⟩ | k4
  · exact .inl ⟨k4.trans h4, k5.trans h5⟩
  · exact .inr (by omega)
  · exact .inr (by omega)
  · exact .inr (by omega)

theorem Ext.drops (w : World) (e : Env) (G : Nat → Prop) : ∀ ids, Ext w e G w (edrop e ids) G
  | [] => by rw [edrop_nil]; exact ⟨Nat.le_refl _, fun _ h => h, fun _ _ h => h, fun _ _ _ => rfl, fun _ ee' h _ => ⟨ee', h, rfl, rfl, .inl ⟨rfl, rfl⟩⟩⟩
  | i :: ids => by rw [edrop_cons]; exact (Ext.drops w e G ids).trans (Ext.drop w _ G i)

theorem HRel.drops (h : HRel w e G hp) : ∀ ids : List Nat, HRel w (edrop e ids) G ((ids.map fun j => (j, none)) ++ hp)
  | [] => by rw [edrop_nil]; exact h
  | i :: ids => by rw [edrop_cons]; exact (h.drops ids).drop i

theorem Lnt.drops (h : Lnt C e) (ids : List Nat) : Lnt C (edrop e ids) := by
  refine ⟨h.zeq, h.zlt, fun id ee b c hl he hb => ?_, fun id hl ee he => ?_⟩
  · simp only [edrop] at he
    split at he
    · cases he
    · exact h.mine id ee b c hl he hb
  · simp only [edrop] at he
    split at he
    · cases he
    · exact h.lent id hl ee he

/-- the block of an object that is given up is nobody's -/
theorem UE.dropped (hr : HRel w e G hp) {id : Nat} {ee : EE} {b c : Nat} (he : e id = some ee) (hb : ee.blk = some (b, c)) {ids : List Nat} (hi : id ∈ ids) : UE (edrop e ids) b := by
  refine ⟨hr.nz id ee b c he hb, ?_⟩
  intro id' ee' c' he' hb'
  simp only [edrop] at he'
  split at he'
  · cases he'
  · rename_i hn
    have := hr.inj id id' ee ee' b c c' he he' hb hb'
    subst this
    exact hn hi

theorem mul_lt_of {i n k j : Nat} (hi : i < n) (hj : j < k) : i * k + j < n * k :=
  calc i * k + j < i * k + k := by omega
    _ = (i + 1) * k := by rw [Nat.succ_mul]
    _ ≤ n * k := Nat.mul_le_mul_right _ (by omega)

theorem divmod_of {i j k : Nat} (hj : j < k) : (i * k + j) / k = i ∧ (i * k + j) % k = j := by
  have hk : 0 < k := by omega
  refine ⟨?_, ?_⟩
  · rw [Nat.mul_comm, Nat.mul_add_div hk, Nat.div_eq_of_lt hj, Nat.add_zero]
  · rw [Nat.mul_comm, Nat.mul_add_mod, Nat.mod_eq_of_lt hj]

/-- an own slice, seen as an immutable one -/
theorem snap1_ok (hr : HRel w e G hp) {v : AV} {x : Value} (hx : VR w (UE e) e G v x) (h : snap1P hp v) {ids : List Nat} (hi : ∀ i ∈ refs1 v, i ∈ ids) :
    VD w (UE (edrop e ids)) (snap1 hp v) x := by
  have ext := Ext.drops w e G ids
  cases v with
  | lit v => obtain ⟨rfl, h1⟩ := hx.lit_inv; exact .lit _ h1
  | sl es full =>
    have := (hx.sl_inv.mono (w' := w) (Nat.le_refl _) ext.un (fun _ _ _ => rfl))
    rcases this.sl_inv with ⟨rfl, a, rfl⟩ | ⟨b, off, cap, k, f, rfl, h1, h2, h3, h4, _, h6, h7, h8, h9, h10⟩
    · exact .nil _ _
    · exact .sl _ _ b off cap k f h1 h2 h3 h4 (by simp) h6 h7 h8 h9 h10
  | ptI cs => exact hx.ptI_inv.mono (Nat.le_refl _) ext.un (fun _ _ _ => rfl)
  | fn f cs =>
    have hc : cs = [] := h
    subst hc
    cases hx with
    | dat _ _ h => exact h.mono (Nat.le_refl _) ext.un (fun _ _ _ => rfl)
    | fn _ _ vs h1 _ => exact .fn _ _ _ h1 (fun i hi => by simp at hi)
  | slO id g' off len =>
    simp only [snap1P, snap1] at h ⊢
    cases hg : hp.get id with
    | none => simp only [hg] at h
    | some q =>
      obtain ⟨g'', ob⟩ := q
      cases ob with
      | box cs => simp only [hg] at h
      | own t k es =>
        simp only [hg] at h ⊢
        obtain ⟨rfl, hl⟩ := h
        obtain ⟨ee, he, hgg, hn, hok, hor⟩ := slO_val hr hx hg hl
        obtain ⟨hk, _, hk0, hkl, h1, hb⟩ := hor
        unfold SlOK at hok
        cases hbl : ee.blk with
        | none =>
          rw [hbl] at hok hb
          obtain ⟨rfl, rfl, a, rfl⟩ := hok
          subst hb
          exact .nil _ _
        | some q =>
          obtain ⟨b, bcap⟩ := q
          rw [hbl] at hok hb
          obtain ⟨cap, rfl, hcp, hlc⟩ := hok
          obtain ⟨hm, hlb, cs, hh, hs, hv⟩ := hb
          have hlen : (es.drop off).length = len := by simp; omega
          rw [← hlen]
          refine .sl _ _ b _ cap k (fun j => cs.getD (off * ee.k + j) undef) (UE.dropped hr he hbl (hi id (by simp [refs1]))) (hr.lt _ _ _ _ he hbl) (by omega) (by omega) (by simp) hk0 ?_ ?_ ?_ ?_
          · intro i hi; simp only [List.getElem_drop]; exact hkl _ _
          · intro j hj
            rw [hlen] at hj
            refine cell_of_heap hh ?_
            rw [hs, hk]
            calc off * k + j < off * k + len * k := by omega
              _ = (off + len) * k := by rw [Nat.add_mul]
              _ ≤ bcap * k := Nat.mul_le_mul_right _ (by omega)
          · intro i hi j hj
            simp only [List.getElem_drop] at hj ⊢
            exact h1 _ _ _ _
          · intro i hi j hj
            simp only [List.getElem_drop] at hj ⊢
            have := (hv (off + i) (by simp at hi; omega) j hj).mono (w' := w) (Nat.le_refl _) ext.un (fun _ _ _ => rfl)
            rw [Nat.add_mul, Nat.add_assoc] at this
            rw [hk]
            exact this
  | _ => exact h.elim
end
end Go.Sym
