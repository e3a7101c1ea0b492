/-
  SYM, part 27: results that lie in new memory.
-/
import Derived.Test.YtmjlnndnpdbagaaSym26
set_option linter.all false
set_option linter.unusedSimpArgs false
set_option linter.unusedVariables false
set_option linter.deprecated false
namespace Go.Sym
open Go Go.Great

def fresh1 (hp : Hp) : AV → Prop
  | .lit _ => True
  | .slO id g off len => match hp.get id with
    | some (g', .own _ _ es) => g' = g ∧ es.length = off + len ∧ ∀ e ∈ es, ∀ c ∈ e.cells, flat1 c = true
    | _ => False
  | _ => False
def fresh3 (hp : Hp) : AV → Prop
  | .tup vs => ∀ v ∈ vs, fresh1 hp v
  | v => fresh1 hp v

theorem flat_int {l : List Int} : ∀ e ∈ ints l, ∀ c ∈ e.cells, flat1 c = true := by
  intro e he c hc
  simp only [ints, List.mem_map] at he
  obtain ⟨x, _, rfl⟩ := he
  simp only [AV.cells, List.mem_singleton] at hc
  subst hc; rfl

section
variable {e : Env} {G : Nat → Prop} {hp : Hp} {w : World}

theorem fresh1_ok (hr : HRel w e G hp) {N : Nat} (hN : ∀ id ee b c, e id = some ee → ee.blk = some (b, c) → N ≤ b) {v : AV} {x : Value} (hx : VR w (UE e) e G v x) (h : fresh1 hp v) :
    VD w (fun b => N ≤ b) (snap1 hp v) x := by
  cases v with
  | lit v => obtain ⟨rfl, h1⟩ := hx.lit_inv; exact .lit _ h1
  | slO id g' off len =>
    simp only [fresh1] at h
    cases hg : hp.get id with
    | none => simp only [hg] at h
    | some q =>
      obtain ⟨g'', ob⟩ := q
      cases ob with
      | box cs => simp only [hg] at h
      | own t k es =>
        simp only [hg] at h
        obtain ⟨rfl, hl, hfl⟩ := h
        have hs : snap1P hp (.slO id g'' off len) := by simp only [snap1P, hg]; exact ⟨trivial, hl⟩
        have hv := snap1_ok hr hx hs (ids := [id]) (by simp [refs1])
        obtain ⟨ee, he, hgg, hn, hok, hor⟩ := slO_val hr hx hg hl
        have hsn : snap1 hp (.slO id g'' off len) = .sl (es.drop off) false := by simp only [snap1, hg]
        rw [hsn] at hv ⊢
        unfold SlOK at hok
        cases hbl : ee.blk with
        | none =>
          rw [hbl] at hok
          obtain ⟨h1, h2, a, rfl⟩ := hok
          have : es.drop off = [] := List.drop_eq_nil_of_le (by omega)
          rw [this]
          exact .nil _ _
        | some q =>
          obtain ⟨b, bcap⟩ := q
          rw [hbl] at hok
          obtain ⟨cap, rfl, hcp, hlc⟩ := hok
          rcases hv.sl_inv with ⟨h1, a, h2⟩ | ⟨b', off', cap', k', f, h0, h1, h2, h3, h4, h5, h6, h7, h8, h9, h10⟩
          · cases h2; rw [h1]; exact .nil _ _
          · simp only [Value.slice.injEq, Option.some.injEq, Addr.mk.injEq] at h0
            obtain ⟨⟨rfl, rfl, _⟩, hlen, rfl⟩ := h0
            have hlen' : (es.drop off).length = len := by simp; omega
            rw [← hlen']
            refine .sl _ _ b _ cap k' f (hN id ee b bcap he hbl) h2 h3 h4 h5 h6 h7 h8 h9 fun i hi j hj => ?_
            have hc : flat1 ((es.drop off)[i].cells[j]) = true := by
              refine hfl _ (List.mem_of_mem_drop (List.getElem_mem hi)) _ (List.getElem_mem hj)
            have := h10 i hi j hj
            generalize (es.drop off)[i].cells[j] = y at this hc
            cases y <;> first | (cases this with | lit _ hh => exact .lit _ hh) | cases hc
  | _ => exact h.elim

theorem fresh3_ok (hr : HRel w e G hp) {N : Nat} (hN : ∀ id ee b c, e id = some ee → ee.blk = some (b, c) → N ≤ b) {v : AV} {x : Value} (hx : VR w (UE e) e G v x) (h : fresh3 hp v) :
    VD w (fun b => N ≤ b) (snap3 hp v) x := by
  have h1 : ∀ {v : AV} {x : Value}, VR w (UE e) e G v x → fresh1 hp v → VD w (fun b => N ≤ b) (snap2 hp v) x := by
    intro v x hx h
    have := fresh1_ok hr hN hx h
    cases v with
    | lit v => exact this
    | slO id g off len => exact this
    | _ => exact h.elim
  cases v with
  | tup cs =>
    obtain ⟨vs, rfl, q1, q3⟩ := hx.tup_inv
    refine .tup _ _ (by simpa using q1) fun i hi' => ?_
    simp only [List.getElem_map]
    have hi'' : i < cs.length := by simpa using hi'
    exact h1 (q3 i hi'') (h _ (List.getElem_mem _))
  | lit v => exact h1 hx h
  | slO id g off len => exact h1 hx h
  | _ => exact h.elim
end

structure RetF (T : List (Nat × TI)) (rs : List ResultVar) (r : AV) (s : St) : Prop where
  res : (retAV T s rs).1
  dat : fresh3 s.hp (retAV T s rs).2.1
  val : snap3 s.hp (retAV T s rs).2.1 = r

def QRetF (T : List (Nat × TI)) (rs : List ResultVar) (r : AV) : Exit → St → Prop
  | .ret, s | .normal, s => RetF T rs r s
  | _, _ => False

theorem SatF_of_awp {T : List (Nat × TI)} {P : Program} {f : FuncId} {fn : Func} {c : Code} {as : List AV} {r : AV} (hT : TOk P T) (hf : P.funcs[f]? = some fn) (hb : fn.body = some c)
    (hname : (fn.name == "runtime.NumGoroutine") = false) (hN : as.length ≤ fn.ntmps)
    (h : ∀ (w : World) (Z : Nat → Prop) (blks : List Nat), blks.length = 0 → awp ⟨P, fn.ntmps, w, blks, Z⟩ c (QRetF T fn.results.toList r) ⟨tm0 as, hp0 [], 1⟩) : SatF P f as r := by
  refine ⟨⟨fn, hf, hname, by rw [hb]; rfl⟩, fun w U vals h6 h7 => ?_⟩
  have hU : ∀ b, b < w.heap.size → U b → UE (benv [] fun b => b < w.heap.size ∧ ¬ U b) b := fun b _ hu =>
    ⟨fun hz => hz.2 hu, fun id ee c he => by simp [benv] at he⟩
  have hrel := init_rel (P := P) (N := fn.ntmps) (w := w) (Z := fun b => b < w.heap.size ∧ ¬ U b) (blks := []) (bs := []) rfl List.nodup_nil (by simp) (fun b hb => hb.1) (by simp) h6
    (fun i hi => .dat _ _ ((h7 i hi).mono (Nat.le_refl _) hU (fun _ _ _ => rfl))) (by omega)
  refine calls_of_wp hf hb (wp_mono (h w _ [] rfl _ w hrel) ?_)
  rintro ex a' w' ⟨s, hr, hq⟩
  have main : RetF T fn.results.toList r s → a'.defers = [] ∧ ∃ v, (results fn a'.tmps).run P w' = .ok v w' ∧ ∃ v', Ending.returned v = .returned v' ∧ FrameW [] w w' ∧ VD w' (fun b => w.heap.size ≤ b) r v' := by
    intro hret
    obtain ⟨e, hr1, hln, hv⟩ := hr.body
    obtain ⟨xv, hrun, hxv⟩ := retAV_ok (C := ⟨P, fn.ntmps, w, [], fun b => b < w.heap.size ∧ ¬ U b⟩) (s := s) hT hr1 hv hret.res
    refine ⟨hr.defers, xv, hrun, xv, rfl, ⟨hr.frm.os, hr.frm.tape, hr.frm.output, hr.frm.size, hr.frm.same⟩, ?_⟩
    rw [← hret.val]
    exact fresh3_ok hr1 (fun id ee b c he hb => hln.mine id ee b c (Nat.zero_le _) he hb) hxv hret.dat
  cases ex with
  | ret => exact main hq
  | normal => exact main hq
  | _ => exact hq.elim

section
variable {T : List (Nat × TI)} {s : St} {r : AV}
theorem retF1 {a : Nat} (h1 : fresh1 s.hp (tget s.tm a)) (hr : snap1 s.hp (tget s.tm a) = r) : RetF T [.tmp a] r s := by
  refine ⟨trivial, ?_, ?_⟩
  · show fresh3 s.hp (tget s.tm a)
    generalize tget s.tm a = v at h1 hr
    cases v <;> first | exact h1 | exact h1.elim
  · show snap3 s.hp (tget s.tm a) = r
    generalize tget s.tm a = v at h1 hr
    cases v <;> first | exact hr | exact h1.elim
theorem retF2 {a b : Nat} (h1 : fresh1 s.hp (tget s.tm a)) (h2 : fresh1 s.hp (tget s.tm b)) (hr : .tup [snap2 s.hp (tget s.tm a), snap2 s.hp (tget s.tm b)] = r) : RetF T [.tmp a, .tmp b] r s := by
  refine ⟨?_, ?_, hr⟩
  · intro x hx
    simp at hx
    rcases hx with rfl | rfl <;> trivial
  · intro c hc
    simp [resV, R.val] at hc
    rcases hc with rfl | rfl
    · exact h1
    · exact h2
end

end Go.Sym
