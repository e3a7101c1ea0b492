/-
  SYM, part 31: a function that returns a new box.
-/
import Derived.Test.YtmjlnndnpdbagaaSym30
set_option linter.all false
set_option linter.unusedSimpArgs false
set_option linter.unusedVariables false
set_option linter.deprecated false
namespace Go.Sym
open Go

structure RetN (rs : List ResultVar) (cs' : List AV) (s : St) : Prop where
  out : ∃ a id g cs, rs = [.tmp a] ∧ tget s.tm a = .ptO id g 0 0 0 ∧ s.hp.get id = some (g, .box cs) ∧ (∀ c ∈ cs, snap1P s.hp c) ∧ cs.map (snap1 s.hp) = cs'

def QRetN (rs : List ResultVar) (cs' : List AV) : Exit → St → Prop
  | .ret, s | .normal, s => RetN rs cs' s
  | _, _ => False

theorem SatN_of_awp {T : List (Nat × TI)} {P : Program} {f : FuncId} {fn : Func} {c : Code} {as cs' : List AV} (hT : TOk P T) (hf : P.funcs[f]? = some fn) (hb : fn.body = some c)
    (hname : (fn.name == "runtime.NumGoroutine") = false) (hN : as.length ≤ fn.ntmps)
    (h : ∀ (w : World) (Z : Nat → Prop) (blks : List Nat), blks.length = 0 → awp ⟨P, fn.ntmps, w, blks, Z⟩ c (QRetN fn.results.toList cs') ⟨tm0 as, hp0 [], 1⟩) : SatN P f as cs' := by
  refine ⟨⟨fn, hf, hname, by rw [hb]; rfl⟩, fun w Z vals h4 h6 h7 => ?_⟩
  have hrel := init_rel (P := P) (N := fn.ntmps) (w := w) (Z := Z) (blks := []) (bs := []) rfl List.nodup_nil (by simp) h4 (by simp) h6 (fun i hi => .dat _ _ (h7 i hi)) (by omega)
  refine calls_of_wp hf hb (wp_mono (h w Z [] rfl _ w hrel) ?_)
  rintro ex a' w' ⟨s, hr, hq⟩
  have main : RetN fn.results.toList cs' s → a'.defers = [] ∧ ∃ v, (results fn a'.tmps).run P w' = .ok v w' ∧ ∃ b, Ending.returned v = .returned (.pointer (some ⟨b, 0, none⟩)) ∧ FrameW [] w w' ∧ w.heap.size ≤ b ∧ b < w'.heap.size ∧ BoxAt w' (UE (benv [b] Z)) cs' b := by
    intro hret
    obtain ⟨a, id, g, cs, hrs, ha, hid, hsn, hmap⟩ := hret.out
    obtain ⟨e, hr1, hln, hv⟩ := hr.body
    obtain ⟨xv, hrun, hxv⟩ := retAV_ok (C := ⟨P, fn.ntmps, w, [], Z⟩) (s := s) (fn := fn) hT hr1 hv (by rw [hrs]; trivial)
    rw [hrs] at hxv
    have hxv : VR w' (UE e) e (Glt s.ck) (tget s.tm a) xv := hxv
    rw [ha] at hxv
    obtain ⟨ee, he, hgg, _, hor⟩ := hr1.live id _ _ hid
    obtain ⟨q0, q1, b, c', vs, t, hbk, hh, hl, hvs⟩ := hor
    obtain ⟨_, _, hin⟩ := hxv.ptO_inv
    have hx := (hin ee he hgg).2 q0 b c' hbk
    simp only [Nat.zero_mul, Nat.add_zero] at hx
    subst hx
    have hown : ∀ i, (∃ g t k es, s.hp.get i = some (g, .own t k es)) → Hp.get [(id, some (g, Ob.box cs))] i = none := by
      rintro i ⟨g, t, k, es, hi⟩
      simp only [Hp.get]
      split
      · rename_i hii; subst hii; rw [hid] at hi; cases hi
      · rfl
    have hUE : ∀ b', UE (epick e [(id, some (g, .box cs))]) b' → UE (benv [b] Z) b' := by
      intro b' hb'
      refine ⟨fun hz => hb'.1 (by show e.z b'; rw [hln.zeq]; exact hz), fun i ei cc hi hbl => ?_⟩
      simp only [benv] at hi
      by_cases hlt : i < 1
      · obtain rfl : i = 0 := by omega
        simp at hi
        subst hi
        simp only [Option.some.injEq, Prod.mk.injEq] at hbl
        refine hb'.2 id ee c' ?_ (by rw [hbk, ← hbl.1])
        rw [epick_of]
        · exact he
        · simp [Hp.get]
      · rw [List.getElem?_eq_none (by simp; omega)] at hi; cases hi
    refine ⟨hr.defers, _, hrun, b, rfl, ⟨hr.frm.os, hr.frm.tape, hr.frm.output, hr.frm.size, hr.frm.same⟩, hln.mine id ee b c' (Nat.zero_le _) he hbk, hr1.lt id ee b c' he hbk, ?_⟩
    rw [← hmap]
    refine ⟨vs, t, hh, by simpa using hl, fun i hi => ?_, fun i hi => ?_⟩
    · simp only [List.getElem_map]; exact snap1_one (hsn _ (List.getElem_mem _))
    · simp only [List.getElem_map]
      have hi' : i < cs.length := by simpa using hi
      exact (snap1_pick hr1 (hvs i hi') (hsn _ (List.getElem_mem _)) fun k hk => hown k (refs1_own (hsn _ (List.getElem_mem hi')) hk)).mono (Nat.le_refl _) (fun b' _ hb' => hUE b' hb') (fun _ _ _ => rfl)
  cases ex with
  | ret => exact main hq
  | normal => exact main hq
  | _ => exact hq.elim

theorem retN1 {s : St} {cs cs' : List AV} {a id g : Nat} (ha : tget s.tm a = .ptO id g 0 0 0) (hid : s.hp.get id = some (g, .box cs)) (h1 : SnP1 s.hp cs) (h2 : cs.map (snap1 s.hp) = cs') : RetN [.tmp a] cs' s :=
  ⟨a, id, g, cs, rfl, ha, hid, h1.all, h2⟩
attribute [go_sem] List.foldl_cons List.foldl_nil ZC.av splice
end Go.Sym
