/-
  SYM, part 7: slice expressions, lengths, tuples, tests.
-/
import Derived.Test.YtmjlnndnpdbagaaSym6
set_option linter.all false
set_option linter.unusedSimpArgs false
set_option linter.unusedVariables false
set_option linter.deprecated false
namespace Go.Sym
open Go

section
variable {C : Cx} {e : Env} {G : Nat → Prop} {g : Nat} {hp : Hp} {w : World} {T : List (Nat × TI)}

theorem VD.sub {U : Nat → Prop} {es : List AV} {full full' : Bool} {a : Option Addr} {n cap : Nat} (h : VD w U (.sl es full) (.slice a n cap)) (l hh m s : Nat)
    (h1 : l ≤ hh) (h2 : hh ≤ es.length) (h3 : hh ≤ m) (h4 : m ≤ cap) (hs : l = 0 ∨ ∀ y ∈ es, y.cells.length = s) (hf : full' = true → m = hh) :
    VD w U (.sl ((es.take hh).drop l) full') (sliced a l hh m s) := by
  unfold sliced
  rcases h.sl_inv with ⟨rfl, a', hx⟩ | ⟨b, off, cap', k, f, hx, hb, hbs, q1, q2, q3, hk0, hk, hc, q4, q5⟩
  · cases hx
    have : m = 0 := by omega
    have : hh = 0 := by omega
    have : l = 0 := by omega
    subst_vars
    simpa using VD.nil full' _
  · cases hx
    have hlen : ((es.take hh).drop l).length = hh - l := by simp; omega
    have hget : ∀ i (hi : i < ((es.take hh).drop l).length), ((es.take hh).drop l)[i] = es[l + i]'(by omega) := by
      intro i hi; simp
    by_cases hml : m = l
    · have hle : hh - l = 0 := by omega
      rw [if_pos hml, ← hlen]
      exact .sl _ _ b off _ k f hb hbs (by omega) (by omega) (by intro hft; have := hf hft; omega) hk0
        (fun i hi => by omega) (fun j hj => by rw [hlen, hle] at hj; omega) (fun i hi => by omega) (fun i hi => by omega)
    · rw [if_neg hml, ← hlen]
      simp only [Option.map_some, add_none]
      by_cases hl0 : l = hh
      · have hle : hh - l = 0 := by omega
        exact .sl _ _ b _ _ k f hb hbs (by omega) (by omega) (by intro hft; have := hf hft; omega) hk0
          (fun i hi => by omega) (fun j hj => by rw [hlen, hle] at hj; omega) (fun i hi => by omega) (fun i hi => by omega)
      · have hks : l = 0 ∨ k = s := by
          rcases hs with hs | hs
          · exact .inl hs
          · refine .inr ?_
            have h0 : l < es.length := by omega
            rw [← hk l h0]; exact hs _ (List.getElem_mem h0)
        have hoff : off + l * s = off + l * k := by rcases hks with rfl | rfl <;> simp
        rw [hoff]
        refine .sl _ _ b _ _ k (fun j => f (l * k + j)) hb hbs (by omega) (by omega) (by intro hft; have := hf hft; omega) hk0 ?_ ?_ ?_ ?_
        · intro i hi; rw [hget i hi]; exact hk _ _
        · intro j hj
          rw [Nat.add_assoc]
          refine hc _ ?_
          rw [hlen] at hj
          calc l * k + j < l * k + (hh - l) * k := by omega
            _ = hh * k := by rw [← Nat.add_mul]; congr 1; omega
            _ ≤ es.length * k := Nat.mul_le_mul_right _ h2
        · intro i hi j hj
          simp only [hget i hi] at hj ⊢
          exact q4 _ _ _ _
        · intro i hi j hj
          simp only [hget i hi] at hj ⊢
          have := q5 (l + i) (by omega) j hj
          rw [Nat.add_mul, Nat.add_assoc] at this
          exact this

theorem run_sliceAt' {P : Program} {t el : Nat} (hu : P.underlying t = some (.slice el)) (x : Value) (lo hi mx : Option Value) (w : World) :
    (Instr.sliceAt t x lo hi mx).run P w = (Instr.slice t x lo hi mx).run P w := by
  simp [Instr.sliceAt, run_underlying hu]

theorem VR.slice_cap {es : List AV} {full : Bool} {x : Value} (h : VR w (UE e) e G (.sl es full) x) : ∃ a cap, x = .slice a es.length cap ∧ es.length ≤ cap ∧ (full = true → cap = es.length) := by
  rcases h.sl_inv.sl_inv with ⟨rfl, _, rfl⟩ | ⟨b, off, cap, k, f, rfl, _, _, q1, _, q3, _⟩
  · exact ⟨_, _, rfl, Nat.le_refl _, fun _ => rfl⟩
  · exact ⟨_, _, rfl, q1, q3⟩

/-- the operand of a bound -/
def ORelV (w : World) (e : Env) (G : Nat → Prop) : Option AV → Option Value → Prop
  | none, none => True
  | some a, some v => VR w (UE e) e G a v
  | _, _ => False

theorem opSliceS_ok (p : Pre C e G g hp w) {t el : Nat} (hu : C.P.underlying t = some (.slice el)) {ei : TI} (hfit : ei.size ≠ 0 → TFit C.P el ei) {lo hi mx : Option AV} {xl xh xm : Option Value} {av : AV} {x : Value}
    (hx : VR w (UE e) e G av x) (hl : ORelV w e G lo xl) (hh : ORelV w e G hi xh) (hm : ORelV w e G mx xm) (h : (opSliceS ei hp lo hi mx av).1) :
    OpOk C e G g hp w (opSliceS ei hp lo hi mx av) (((Instr.sliceAt t x xl xh xm).run C.P w).andThen fun v w => .ok (.value v) w) := by
  have hpe : C.P.underlying t = some (.slice (C.P.elem t)) := by simp [Program.elem, hu]
  have hpe' : C.P.elem t = el := by simp [Program.elem, hu]
  rw [run_sliceAt' hu]
  unfold opSliceS at h ⊢
  split at h
  case h_1 es full =>
    obtain ⟨a, cap, rfl, hcap, hfull⟩ := hx.slice_cap
    have hx' := hx.sl_inv
    split at h
    · obtain ⟨rfl⟩ : xl = none := by cases xl <;> simp_all [ORelV]
      obtain ⟨rfl⟩ : xh = none := by cases xh <;> simp_all [ORelV]
      obtain ⟨rfl⟩ : xm = none := by cases xm <;> simp_all [ORelV]
      have hf := hfit h
      rw [run_slice_all _ _ _ _ _ hpe, hpe', run_sizeOf' hf]
      simp only [Result.andThen_ok]
      refine .pure p (.dat _ _ ?_)
      have := hx'.sub (full' := full) 0 es.length cap ei.size (Nat.zero_le _) (Nat.le_refl _) hcap (Nat.le_refl _) (.inl rfl) hfull
      simpa using this
    · rename_i kl l
      cases xl with
      | none => exact hl.elim
      | some vl =>
        obtain ⟨rfl, _⟩ := hl.lit_inv
        obtain ⟨rfl⟩ : xh = none := by cases xh <;> simp_all [ORelV]
        obtain ⟨rfl⟩ : xm = none := by cases xm <;> simp_all [ORelV]
        obtain ⟨hs, hok, h0, h1⟩ := h
        have hf := hfit hs
        rw [run_slice_l _ _ _ _ _ hpe kl l h0 h1, hpe', run_sizeOf' hf]
        simp only [Result.andThen_ok]
        refine .pure p (.dat _ _ ?_)
        have := hx'.sub (full' := full) l.toNat es.length cap ei.size (by omega) (Nat.le_refl _) hcap (Nat.le_refl _) (.inr hok) hfull
        simpa using this
    · rename_i kh l
      cases xh with
      | none => exact hh.elim
      | some vl =>
        obtain ⟨rfl, _⟩ := hh.lit_inv
        obtain ⟨rfl⟩ : xl = none := by cases xl <;> simp_all [ORelV]
        obtain ⟨rfl⟩ : xm = none := by cases xm <;> simp_all [ORelV]
        obtain ⟨hs, h0, h1⟩ := h
        have hf := hfit hs
        rw [run_slice_h _ _ _ _ _ hpe kh l h0 (by omega), hpe', run_sizeOf' hf]
        simp only [Result.andThen_ok]
        refine .pure p (.dat _ _ ?_)
        have := hx'.sub (full' := false) 0 l.toNat cap ei.size (by omega) (by omega) (by omega) (Nat.le_refl _) (.inl rfl) (by simp)
        simpa using this
    · rename_i kl l kh m
      cases xl with
      | none => exact hl.elim
      | some vl =>
        cases xh with
        | none => exact hh.elim
        | some vh =>
          obtain ⟨rfl, _⟩ := hl.lit_inv
          obtain ⟨rfl, _⟩ := hh.lit_inv
          obtain ⟨rfl⟩ : xm = none := by cases xm <;> simp_all [ORelV]
          obtain ⟨hs, hok, h0, h1, h2⟩ := h
          have hf := hfit hs
          rw [run_slice_lh _ _ _ _ _ hpe kl kh l m h0 h1 (by omega), hpe', run_sizeOf' hf]
          simp only [Result.andThen_ok]
          exact .pure p (.dat _ _ (hx'.sub (full' := false) l.toNat m.toNat cap ei.size (by omega) (by omega) (by omega) (Nat.le_refl _) (.inr hok) (by simp)))
    · rename_i kh hv km m
      cases xh with
      | none => exact hh.elim
      | some vh =>
        cases xm with
        | none => exact hm.elim
        | some vm =>
          obtain ⟨rfl, _⟩ := hh.lit_inv
          obtain ⟨rfl, _⟩ := hm.lit_inv
          obtain ⟨rfl⟩ : xl = none := by cases xl <;> simp_all [ORelV]
          obtain ⟨hs, h0, rfl, h2⟩ := h
          have hf := hfit hs
          rw [run_slice_hm _ _ _ _ _ hpe kh km hv hv h0 (Int.le_refl _) (by omega), hpe', run_sizeOf' hf]
          simp only [Result.andThen_ok]
          refine .pure p (.dat _ _ ?_)
          have := hx'.sub (full' := true) 0 hv.toNat hv.toNat ei.size (by omega) (by omega) (Nat.le_refl _) (by omega) (.inl rfl) (by simp)
          simpa using this
    · rename_i kl l kh hv km m
      cases xl with
      | none => exact hl.elim
      | some vl =>
        cases xh with
        | none => exact hh.elim
        | some vh =>
          cases xm with
          | none => exact hm.elim
          | some vm =>
            obtain ⟨rfl, _⟩ := hl.lit_inv
            obtain ⟨rfl, _⟩ := hh.lit_inv
            obtain ⟨rfl, _⟩ := hm.lit_inv
            obtain ⟨hs, hok, h0, h1, rfl, h2⟩ := h
            have hf := hfit hs
            rw [run_slice_lhm _ _ _ _ _ hpe kl kh km l hv hv h0 h1 (Int.le_refl _) (by omega), hpe', run_sizeOf' hf]
            simp only [Result.andThen_ok]
            exact .pure p (.dat _ _ (hx'.sub (full' := true) l.toNat hv.toNat hv.toNat ei.size (by omega) (by omega) (Nat.le_refl _) (by omega) (.inr hok) (by simp)))
    · exact h.elim
  case h_2 id g' off len =>
    split at h
    · rename_i kl l
      cases xl with
      | none => exact hl.elim
      | some vl =>
        obtain ⟨rfl, _⟩ := hl.lit_inv
        obtain ⟨rfl⟩ : xh = none := by cases xh <;> simp_all [ORelV]
        obtain ⟨rfl⟩ : xm = none := by cases xm <;> simp_all [ORelV]
        split at h
        · rename_i g'' t' k es hg
          simp only [R.val] at h ⊢
          obtain ⟨rfl, hl', rfl, h0, h1⟩ := h
          obtain ⟨hG, _, hin⟩ := hx.slO_inv
          obtain ⟨ee, he, hgg, _, hor⟩ := p.hr.live id _ _ hg
          obtain ⟨hk, hn, hk0, _, _, hb⟩ := hor
          obtain ⟨_, hok⟩ := hin ee he hgg
          have hok := hok (by omega)
          have hf := hfit (by omega)
          unfold SlOK at hok
          cases hbl : ee.blk with
          | none => rw [hbl] at hok; obtain ⟨_, hl0, _⟩ := hok; omega
          | some q =>
            obtain ⟨b, bcap⟩ := q
            rw [hbl] at hok
            obtain ⟨cap, rfl, hcp, hlc⟩ := hok
            rw [run_slice_l _ _ _ _ _ hpe kl l h0 (by omega), hpe', run_sizeOf' hf]
            simp only [Result.andThen_ok]
            refine .pure p ?_
            unfold sliced
            rw [if_neg (by omega)]
            refine .slO _ _ _ _ _ hG rfl fun ee' he' hg' => ?_
            rw [he] at he'; cases he'
            refine ⟨by omega, fun _ => ?_⟩
            unfold SlOK
            rw [hbl]
            refine ⟨cap - l.toNat, ?_, by omega, by omega⟩
            simp only [Option.map_some, add_none, hk, Nat.add_mul]
        · exact h.elim
    · exact h.elim
  case h_3 => exact h.elim

theorem opSlice_ok (p : Pre C e G g hp w) (hT : TOk C.P T) {t : Nat} {lo hi mx : Option AV} {xl xh xm : Option Value} {av : AV} {x : Value}
    (hx : VR w (UE e) e G av x) (hl : ORelV w e G lo xl) (hh : ORelV w e G hi xh) (hm : ORelV w e G mx xm) (h : (opSlice T t hp lo hi mx av).1) :
    OpOk C e G g hp w (opSlice T t hp lo hi mx av) (((Instr.sliceAt t x xl xh xm).run C.P w).andThen fun v w => .ok (.value v) w) := by
  cases hel : (tl T t).ty with
  | slice el =>
    obtain ⟨d, hu, hd⟩ := (hT.fit hel (by simp)).under
    rw [hel] at hd
    cases hd
    simp only [opSlice, hel] at h ⊢
    exact opSliceS_ok p hu (fun hs => hT.fits hs) hx hl hh hm h
  | _ => simp only [opSlice, hel] at h; exact h.elim

theorem slO_val (hr : HRel w e G hp) {id g' off len : Nat} {x : Value} (hx : VR w (UE e) e G (.slO id g' off len) x) {t k : Nat} {es : List AV} (hg : hp.get id = some (g', .own t k es)) (hl : es.length = off + len) :
    ∃ ee, e id = some ee ∧ ee.g = g' ∧ ee.n = es.length ∧ SlOK ee off len x ∧ ORel w e G (.own t k es) ee := by
  obtain ⟨_, _, hin⟩ := hx.slO_inv
  obtain ⟨ee, he, hgg, _, hor⟩ := hr.live id _ _ hg
  obtain ⟨_, hok⟩ := hin ee he hgg
  exact ⟨ee, he, hgg, hor.2.1, hok (by rw [hor.2.1]; exact hl), hor⟩

theorem SlOK.shape {ee : EE} {off len : Nat} {x : Value} (h : SlOK ee off len x) : ∃ a cap, x = .slice a len cap := by
  unfold SlOK at h
  cases hb : ee.blk with
  | none => rw [hb] at h; obtain ⟨_, rfl, a, rfl⟩ := h; exact ⟨_, _, rfl⟩
  | some q =>
    obtain ⟨b, c⟩ := q
    rw [hb] at h
    obtain ⟨cap, rfl, _⟩ := h
    exact ⟨_, _, rfl⟩

theorem opLen_ok (p : Pre C e G g hp w) (hT : TOk C.P T) {t ty : Nat} {av : AV} {x : Value} (hx : VR w (UE e) e G av x) (h : (opLen T t hp av).1) :
    OpOk C e G g hp w (opLen T t hp av) (((Builtin.len_ #[t] ty #[x]).run C.P w).andThen fun v w => .ok (.value v) w) := by
  cases hel : (tl T t).ty with
  | slice el =>
    obtain ⟨d, hu, hd⟩ := (hT.fit hel (by simp)).under
    rw [hel] at hd
    cases hd
    simp only [opLen, hel] at h ⊢
    have key : ∀ a n c, (Builtin.len_ #[t] ty #[.slice a n c]).run C.P w = .ok (goInt n) w := fun a n c => by simp [Builtin.len_, run_underlying hu]
    cases av with
    | sl es full =>
      obtain ⟨a, cap, rfl, _⟩ := hx.slice_cap
      rw [key]
      exact ok_int p _ _ _
    | slO id g' off len =>
      cases hg : hp.get id with
      | none => simp only [hg] at h; exact h.elim
      | some q =>
        obtain ⟨g'', ob⟩ := q
        cases ob with
        | box cs => simp only [hg] at h; exact h.elim
        | own t' k es =>
          simp only [hg, R.val] at h ⊢
          obtain ⟨rfl, hl⟩ := h
          obtain ⟨ee, _, _, _, hok, _⟩ := slO_val p.hr hx hg hl
          obtain ⟨a, cap, rfl⟩ := hok.shape
          rw [key]
          exact ok_int p _ _ _
    | _ => exact h.elim
  | str =>
    obtain ⟨d, hu, hd⟩ := (hT.fit hel (by simp)).under
    rw [hel] at hd
    cases hd
    simp only [opLen, hel] at h ⊢
    cases av with
    | lit v =>
      cases v with
      | string s =>
        obtain ⟨rfl, _⟩ := hx.lit_inv
        have : (Builtin.len_ #[t] ty #[.string s]).run C.P w = .ok (goInt s.size) w := by simp [Builtin.len_, run_underlying hu]
        rw [this]
        exact ok_int p _ _ _
      | _ => exact h.elim
    | _ => exact h.elim
  | array n el =>
    obtain ⟨d, hu, hd⟩ := (hT.fit hel (by simp)).under
    rw [hel] at hd
    cases hd
    simp only [opLen, hel] at h ⊢
    have : (Builtin.len_ #[t] ty #[x]).run C.P w = .ok (goInt n) w := by simp [Builtin.len_, run_underlying hu]
    rw [this]
    exact ok_int p _ _ _
  | _ => simp only [opLen, hel] at h; exact h.elim

end
end Go.Sym
