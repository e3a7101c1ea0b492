/-
  SYM, part 23: the rule of a region whose order is drawn.
-/
import Derived.Test.YtmjlnndnpdbagaaSym22
set_option linter.all false
set_option linter.unusedSimpArgs false
set_option linter.unusedVariables false
set_option linter.deprecated false
namespace Go.Sym
open Go Go.Great
section
variable {C : Cx} {T : List (Nat × TI)}

def todo (n : Nat) (S : Nat → Bool) : Nat := (List.range n).countP fun j => !S j

theorem todo_ins {n i : Nat} {S S' : Nat → Bool} (hi : i < n) (hS : S i = false) (hS' : S' i = true) (hh : ∀ j, j ≠ i → S' j = S j) : todo n S' + 1 = todo n S := by
  induction n with
  | zero => omega
  | succ n ih =>
    unfold todo at *
    rw [List.range_succ, List.countP_append, List.countP_append]
    by_cases h : i = n
    · subst h
      have : (List.range i).countP (fun j => !S' j) = (List.range i).countP fun j => !S j := by
        refine List.countP_congr fun j hj => ?_
        rw [hh j (by simp at hj; omega)]
      rw [this]
      simp [hS, hS']
    · have := ih (by omega)
      simp only [List.countP_cons, List.countP_nil, hh n (Ne.symm h)]
      omega

theorem awpAny_ok (hT : TOk C.P T) (hl : C.lent.length ≤ 100) {l : List Oper} (hd : ∀ o ∈ l, o.dst.getD 0 < C.N) (hs : slotOk l = true) {s : St} {e : Nat → En}
    (he : ∀ k (h : k < l.length), EnOk C.P T l l[k] (sS s e (fun _ => true) k) (e k)) (hc : conf (masks l []) (recs e l.length) = true)
    {Q : Exit → Act → World → Prop} (hQ : ∀ a w, RelS C (sS s e (fun _ => true) l.length) a w → Q .normal a w) :
    ∀ (fuel : Nat) (listed : Array Bool) (a : Act) (w : World), listed.size = l.length → (∀ k, listed.getD k false = true → Clo l (fun j => listed.getD j false) k) →
      todo l.length (fun j => listed.getD j false) ≤ fuel →
      Rel C (GS s l.length fun j => listed.getD j false) (sS s e (fun j => listed.getD j false) l.length).tm (sS s e (fun j => listed.getD j false) l.length).hp a w →
      wpAny C.P .any l.toArray Q fuel listed a w := by
  have fin : ∀ (listed : Array Bool) (a : Act) (w : World), listed.size = l.length → Region.ready .any l.toArray listed = [] →
      Rel C (GS s l.length fun j => listed.getD j false) (sS s e (fun j => listed.getD j false) l.length).tm (sS s e (fun j => listed.getD j false) l.length).hp a w → Q .normal a w := by
    intro listed a w hsz hr hrel
    have all : ∀ j, j < l.length → listed.getD j false = true := by
      intro j
      induction j using Nat.strongRecOn with
      | _ j ih =>
        intro hj
        cases hjl : listed.getD j false with
        | true => rfl
        | false =>
          have : j ∈ Region.ready .any l.toArray listed := by
            rw [mem_ready]
            have hjs : j < listed.size := by omega
            refine ⟨?_, l[j], by simp, fun ed hed hb => ?_⟩
            · simp [hjs] at hjl ⊢; exact hjl
            · have := slotOk_back hs (List.getElem?_eq_getElem hj) ed hed hb
              exact ih _ this (by omega)
          rw [hr] at this; cases this
    refine hQ a w (hrel.congr ?_ ?_ ?_)
    · intro g
      rw [sS_ck]
      simp only [GS, Glt]
      constructor
      · rintro (h | ⟨j, h1, _, h3⟩) <;> omega
      · intro h
        by_cases h' : g < s.ck
        · exact .inl h'
        · exact .inr ⟨g - s.ck, by omega, all _ (by omega), by omega⟩
    · intro t; exact sS_tm _ fun j hj _ => (all j hj).symm
    · intro id; exact sS_hp _ fun j hj _ => (all j hj).symm
  intro fuel
  induction fuel with
  | zero =>
    intro listed a w hsz hcl ht hrel
    have hr : Region.ready .any l.toArray listed = [] := by
      apply List.eq_nil_iff_forall_not_mem.2
      intro j hj
      obtain ⟨h1, o, h2, _⟩ := mem_ready.1 hj
      have hjl : j < l.length := by simpa using (Array.getElem?_eq_some_iff.1 h2).1
      have h0 : todo l.length (fun j => listed.getD j false) = 0 := by omega
      unfold todo at h0
      rw [List.countP_eq_zero] at h0
      have := h0 j (by simpa using hjl)
      have hjs : j < listed.size := by omega
      simp [hjs] at this h1
      rw [this] at h1; cases h1
    exact ⟨hr, fin listed a w hsz hr hrel⟩
  | succ fuel ih =>
    intro listed a w hsz hcl ht hrel
    refine ⟨fun hr => fin listed a w hsz hr hrel, fun i hi => ?_⟩
    obtain ⟨h1, o, h2, h3⟩ := mem_ready.1 hi
    have hil : i < l.length := by simpa using (Array.getElem?_eq_some_iff.1 h2).1
    have his : i < listed.size := by omega
    have hSi : listed.getD i false = false := by simp [his] at h1 ⊢; exact h1
    have hCi : Clo l (fun j => listed.getD j false) i := by
      intro o' ho' ed hed hb
      have : o' = o := by
        rw [List.getElem?_toArray, ho'] at h2; exact (Option.some.inj h2)
      subst this
      exact h3 ed hed hb
    have hset : (fun j => (listed.setIfInBounds i true).getD j false) = fun j => listed.getD j false || decide (j = i) := by
      funext j
      by_cases hji : j = i
      · subst hji; simp [his]
      · rw [getD_set_ne false (Ne.symm hji)]; simp [hji]
    refine step_any hT hl hd hs he hc hcl hil hSi hCi hrel fun a' w' hrel' => ?_
    refine ih _ a' w' (by simpa using hsz) ?_ ?_ ?_
    · rw [hset]
      intro k hk o' ho' ed hed hb
      by_cases hki : k = i
      · subst hki
        simp only [hCi o' ho' ed hed hb, Bool.true_or]
      · have hk' : listed.getD k false = true := by rw [getD_set_ne false (Ne.symm hki)] at hk; exact hk
        simp only [hcl k hk' o' ho' ed hed hb, Bool.true_or]
    · have := todo_ins (n := l.length) (S := fun j => listed.getD j false) (S' := fun j => (listed.setIfInBounds i true).getD j false) hil hSi (by simp [his]) (fun j hj => getD_set_ne false (Ne.symm hj))
      omega
    · rw [hset]; exact hrel'

/-- the rule -/
theorem awp_region_draw {id : Nat} {l : List Oper} {Q : Exit → St → Prop} {s : St} (hT : TOk C.P T) (hl : C.lent.length ≤ 100) (hm : C.P.follows .mixedOrders = true)
    (hs : slotOk l = true) (hd : (l.all fun o => decide (o.dst.getD 0 < C.N)) = true)
    (h : ∀ K : St → Prop, (∀ s', Q .normal s' → K s') → awpD C.P T l l s (fun s' rs => conf (masks l []) rs = true ∧ K s')) : awp C (.region id l.toArray true) Q s := by
  intro a w hr
  refine wp_region_any hm ?_
  rw [List.all_eq_true] at hd
  obtain ⟨e, he, hc, hK⟩ := awpD_ok _ _ _ (h (fun s' => Q .normal s') fun _ h => h)
  refine awpAny_ok hT hl (fun o ho => by simpa using hd o ho) hs he hc (fun a' w' hr' => ⟨_, hr', hK⟩) _ _ a _ (by simp) ?_ ?_ ?_
  · intro k hk
    by_cases hkl : k < l.length <;> simp [hkl] at hk
  · unfold todo
    exact Nat.le_trans (List.countP_le_length) (by simp)
  · have h0 : (fun j => (Array.replicate l.toArray.size false).getD j false) = fun _ => false := by
      funext j
      by_cases hj : j < l.length <;> simp [hj]
    rw [h0]
    have : ∀ n, (sS s e (fun _ => false) n).tm = s.tm ∧ (sS s e (fun _ => false) n).hp = s.hp := by
      intro n
      induction n with
      | zero => exact ⟨rfl, rfl⟩
      | succ n ih => rw [sS_no (by simp)]; exact ih
    rw [(this _).1, (this _).2]
    have hr1 : Rel C (Glt s.ck) s.tm s.hp a { w with drawn := w.drawn + 1 } := by
      have hr : Rel C (Glt s.ck) s.tm s.hp a w := hr
      obtain ⟨h1, h2, h3, e', h4, h5, h6⟩ := hr
      have x : Ext w e' (Glt s.ck) { w with drawn := w.drawn + 1 } e' (Glt s.ck) := ⟨Nat.le_refl _, fun _ h => h, fun _ _ h => h, fun _ _ _ => rfl, fun _ ee' h _ => ⟨ee', h, rfl, rfl, .inl ⟨rfl, rfl⟩⟩⟩
      exact ⟨h1, h2, ⟨h3.os, h3.tape, h3.output, h3.size, h3.same⟩, e', h4.ext x fun _ _ _ _ _ _ => rfl, h5, fun t => (h6 t).ext x⟩
    refine hr1.congr ?_ (fun _ => rfl) (fun _ => rfl)
    intro g
    simp [GS, Glt]
end
end Go.Sym
