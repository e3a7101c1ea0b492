/-
  SYM, part 33: a region whose order is drawn and whose operations write nothing: walked in the text's order, without records.
-/
import Derived.Test.YtmjlnndnpdbagaaSym31
set_option linter.all false
set_option linter.unusedSimpArgs false
set_option linter.unusedVariables false
set_option linter.deprecated false
namespace Go.Sym
open Go Go.Great

theorem opKD_of {P : Program} {T : List (Nat × TI)} {o : Oper} {s : St} {K : St → Prop} {K' : AV → List Up → List Nat → Prop} (h : opK P T o s K) (hK : ∀ v ups acc, K (s.put o.dst v ups) → K' v ups acc) : opKD P T o s K' := by
  unfold opK at h
  unfold opKD
  split at h
  · rename_i f args at_ heq
    rw [heq]
    simp only
    split at h
    · rename_i fid caps hf
      obtain ⟨v, ups, h1, h2⟩ := h
      rw [hf]
      exact ⟨v, ups, by simpa [evs] using h1, hK _ _ _ h2⟩
    · exact h.elim
  · rename_i hne
    split
    · rename_i f args at_ heq
      exact (hne _ _ _ heq).elim
    · exact ⟨h.1, hK _ _ _ h.2⟩

def tot : List Rec → Nat
  | [] => 0
  | r :: rs => r.1.length + tot rs

theorem tot_zero : ∀ {rs : List Rec}, tot rs = 0 → rs.all (fun r => r.1.isEmpty) = true
  | [], _ => rfl
  | r :: rs, h => by
    simp only [tot] at h
    rw [List.all_cons, tot_zero (by omega)]
    simp [show r.1 = [] from List.length_eq_zero_iff.1 (by omega)]

theorem put_len (s : St) (d : Option Nat) (v : AV) (ups : List Up) : (s.put d v ups).hp.length = ups.length + s.hp.length := by simp [St.put]

theorem awpD_of_ops {P : Program} {T : List (Nat × TI)} {all : List Oper} {K : St → Prop} : ∀ (rest : List Oper) (s : St) (K' : St → List Rec → Prop), awpOps P T all rest s K →
    (∀ s' rs, s'.hp.length = s.hp.length + tot rs → K s' → K' s' rs) → awpD P T all rest s K'
  | [], s, K', h, hK => hK s [] rfl h
  | o :: rest, s, K', h, hK => by
    unfold awpOps at h
    unfold awpD
    have step : ∀ v ups (acc : List Nat), awpOps P T all rest (s.put o.dst v ups) K → awpD P T all rest (s.put o.dst v ups) fun s' rs => K' s' ((ups.map (·.1), acc) :: rs) := fun v ups acc h' =>
      awpD_of_ops rest _ _ h' fun s' rs h1 h2 => hK s' _ (by rw [h1, put_len]; simp [tot]; omega) h2
    cases hg : o.guard with
    | none =>
      rw [hg] at h
      exact opKD_of h step
    | some q =>
      obtain ⟨j, want⟩ := q
      rw [hg] at h
      simp only [GM] at h ⊢
      split at h
      · rename_i b heq
        exact ⟨fun hb => opKD_of (h.1 hb) step, fun hb => awpD_of_ops rest _ _ (h.2 hb) fun s' rs h1 h2 => hK s' _ (by rw [h1, put_len]; simp [tot]) h2⟩
      · rename_i heq
        exact awpD_of_ops rest _ _ h fun s' rs h1 h2 => hK s' _ (by rw [h1, put_len]; simp [tot]) h2
      · exact h.elim

theorem awp_region_still {C : Cx} {T : List (Nat × TI)} {id : Nat} {l : List Oper} {Q : Exit → St → Prop} {s : St} (hT : TOk C.P T) (hl : C.lent.length ≤ 100) (hm : C.P.follows .mixedOrders = true)
    (hs : slotOk l = true) (hd : (l.all fun o => decide (o.dst.getD 0 < C.N)) = true)
    (h : ∀ K : St → Prop, (∀ s', Q .normal s' → K s') → awpOps C.P T l l s (fun s' => s'.hp.length = s.hp.length ∧ K s')) : awp C (.region id l.toArray true) Q s :=
  awp_region_draw hT hl hm hs hd fun K hK => awpD_of_ops l s _ (h K hK) fun s' rs h1 ⟨h2, h3⟩ => ⟨by
    unfold conf
    rw [tot_zero (by omega), Bool.true_or], h3⟩
end Go.Sym
