/-
  SYM, part 14: what a call gives.
-/
import Derived.Test.YtmjlnndnpdbagaaSym13
set_option linter.all false
set_option linter.unusedSimpArgs false
set_option linter.unusedVariables false
set_option linter.deprecated false
namespace Go.Sym
open Go Go.Great

/-- blocks that a function is lent, as its objects 0, 1, .. -/
def benv (blks : List Nat) (Z : Nat → Prop) : Env := ⟨fun j => (blks[j]?).map fun b => ⟨0, some (b, 0), 0, 0⟩, Z⟩

def BoxAt (w : World) (U : Nat → Prop) (cs : List AV) (b : Nat) : Prop :=
  ∃ vs t, w.heap[b]? = some (.cells vs t (0, 0)) ∧ vs.size = cs.length ∧ (∀ j (h : j < cs.length), cs[j].one = true) ∧ ∀ j (h : j < cs.length), VD w U cs[j] (vs.getD j undef)

structure FrameW (blks : List Nat) (w w' : World) : Prop where
  os : w'.os = w.os
  tape : w'.tape = w.tape
  output : w'.output = w.output
  size : w.heap.size ≤ w'.heap.size
  same : ∀ b, b < w.heap.size → b ∉ blks → w'.heap[b]? = w.heap[b]?

def Enters (P : Program) (f : FuncId) : Prop := ∃ fn, P.funcs[f]? = some fn ∧ (fn.name == "runtime.NumGoroutine") = false ∧ fn.body.isNone = false

def G0 : Nat → Prop := fun g => g < 1

/-- called with values that read as 'as', lent boxes that hold 'bs': it returns what reads as r, the boxes hold bs'; nothing else has turned -/
def Sat (P : Program) (f : FuncId) (as : List AV) (bs : List (List AV)) (r : AV) (bs' : List (List AV)) : Prop :=
  Enters P f ∧ ∀ (w : World) (Z : Nat → Prop) (blks : List Nat) (vals : Array Value), blks.length = bs.length → blks.Nodup → (∀ b ∈ blks, b < w.heap.size ∧ ¬ Z b) → (∀ b, Z b → b < w.heap.size) →
    (∀ j (h : j < bs.length) (h' : j < blks.length), BoxAt w (UE (benv blks Z)) bs[j] blks[j]) →
    as.length = vals.size → (∀ i (h : i < as.length), VR w (UE (benv blks Z)) (benv blks Z) G0 as[i] (vals.getD i undef)) →
    Calls P f vals w fun e w' => ∃ v, e = .returned v ∧ FrameW blks w w' ∧ bs'.length = blks.length ∧
      (∀ j (h : j < bs'.length) (h' : j < blks.length), BoxAt w' (UE (benv blks Z)) bs'[j] blks[j]) ∧ VD w' (UE (benv blks Z)) r v

/-- it returns a pointer to a new box that holds cs -/
def SatN (P : Program) (f : FuncId) (as : List AV) (cs : List AV) : Prop :=
  Enters P f ∧ ∀ (w : World) (Z : Nat → Prop) (vals : Array Value), (∀ b, Z b → b < w.heap.size) →
    as.length = vals.size → (∀ i (h : i < as.length), VD w (UE (benv [] Z)) as[i] (vals.getD i undef)) →
    Calls P f vals w fun e w' => ∃ b, e = .returned (.pointer (some ⟨b, 0, none⟩)) ∧ FrameW [] w w' ∧ w.heap.size ≤ b ∧ b < w'.heap.size ∧ BoxAt w' (UE (benv [b] Z)) cs b

/-- the same, of plain data; the result lies in new memory -/
def SatF (P : Program) (f : FuncId) (as : List AV) (r : AV) : Prop :=
  Enters P f ∧ ∀ (w : World) (U : Nat → Prop) (vals : Array Value), as.length = vals.size → (∀ i (h : i < as.length), VD w U as[i] (vals.getD i undef)) →
    Calls P f vals w fun e w' => ∃ v, e = .returned v ∧ FrameW [] w w' ∧ VD w' (fun b => w.heap.size ≤ b) r v

/-- values that hold no memory -/
def flat1 : AV → Bool
  | .lit _ => true
  | _ => false
def flat2 : AV → Bool
  | .agg cs => cs.all flat1
  | v => flat1 v
def flat3 : AV → Bool
  | .tup vs => vs.all flat2
  | v => flat2 v

def drops (ids : List Nat) : List Up := ids.map fun j => (j, none)

inductive CallOk (P : Program) (f : FuncId) (g did : Nat) (hp : Hp) : List AV → AV → List Up → Prop
  | plain (vs : List AV) (r : AV) : (∀ v ∈ vs, snap2P hp v) → Sat P f (vs.map (snap2 hp)) [] r [] → CallOk P f g did hp vs r (drops (vs.flatMap refs2))
  | flat (vs : List AV) (r : AV) : (∀ v ∈ vs, snap2P hp v) → Sat P f (vs.map (snap2 hp)) [] r [] → flat3 r = true → CallOk P f g did hp vs r []
  | fresh (vs : List AV) (r : AV) : (∀ v ∈ vs, snap2P hp v) → SatF P f (vs.map (snap2 hp)) r → CallOk P f g did hp vs r []
  | lent (id g' : Nat) (cs : List AV) (vs : List AV) (r : AV) (cs' : List AV) : hp.get id = some (g', .box cs) → (∀ v ∈ vs, snap2P hp v) → (∀ c ∈ cs, snap1P hp c) →
      id ∉ vs.flatMap refs2 ++ cs.flatMap refs1 →
      Sat P f (.ptO 0 0 0 0 0 :: vs.map (snap2 hp)) [cs.map (snap1 hp)] r [cs'] → CallOk P f g did hp (.ptO id g' 0 0 0 :: vs) r ((id, some (g', .box cs')) :: drops (vs.flatMap refs2 ++ cs.flatMap refs1))
  | new (vs : List AV) (cs' : List AV) : (∀ v ∈ vs, snap2P hp v) → SatN P f (vs.map (snap2 hp)) cs' → CallOk P f g did hp vs (.ptO did g 0 0 0) ((did, some (g, .box cs')) :: drops (vs.flatMap refs2))

section
variable {C : Cx} {e : Env} {G : Nat → Prop} {g : Nat} {hp : Hp} {w : World} {T : List (Nat × TI)}

/-- what the caller owns, but for some objects -/
def ownedBut (e : Env) (ids : List Nat) : Nat → Prop := fun b => e.z b ∨ ∃ id ee c, id ∉ ids ∧ e id = some ee ∧ ee.blk = some (b, c)

theorem ownedBut_lt (hr : HRel w e G hp) (hl : Lnt C e) (hf : Frm C w) (ids : List Nat) : ∀ b, ownedBut e ids b → b < w.heap.size := by
  rintro b (h | ⟨id, ee, c, _, h1, h2⟩)
  · rw [hl.zeq] at h; exact Nat.lt_of_lt_of_le (hl.zlt b h) hf.size
  · exact hr.lt id ee b c h1 h2

theorem UE_benv_nil {Z : Nat → Prop} {b : Nat} : UE (benv [] Z) b ↔ ¬ Z b := by
  constructor
  · exact fun h => h.1
  · intro h; exact ⟨h, fun id ee c he => by simp [benv] at he⟩

theorem UE_owned {b : Nat} : UE e b ↔ ¬ ownedBut e [] b := by
  constructor
  · rintro ⟨h1, h2⟩ (h | ⟨id, ee, c, _, h3, h4⟩)
    · exact h1 h
    · exact h2 id ee c h3 h4
  · intro h
    exact ⟨fun hz => h (.inl hz), fun id ee c h3 h4 => h (.inr ⟨id, ee, c, by simp, h3, h4⟩)⟩

theorem FrameW.grow {w' : World} (h : FrameW [] w w') : Grow w w' := ⟨h.os, h.tape, h.output, h.size, fun b hb => h.same b hb (by simp)⟩

theorem flat3_VD {r : AV} (h : flat3 r = true) {U U' : Nat → Prop} {v : Value} (hv0 : VD w U r v) : VD w U' r v := by
  have hv : VR w U (benv [] U) G0 r v := .dat _ _ hv0
  clear hv0
  generalize benv [] U = e' at hv
  generalize G0 = G' at hv
  have h1 : ∀ {c : AV} {x : Value}, flat1 c = true → VR w U e' G' c x → VD w U' c x := by
    intro c x hc hx
    cases c <;> first | (obtain ⟨rfl, h1⟩ := hx.lit_inv; exact .lit _ h1) | cases hc
  have h2 : ∀ {c : AV} {x : Value}, flat2 c = true → VR w U e' G' c x → VD w U' c x := by
    intro c x hc hx
    cases c with
    | agg cs =>
      obtain ⟨vs, rfl, q1, q2, q3⟩ := hx.agg_inv
      have hc : ∀ c ∈ cs, flat1 c = true := List.all_eq_true.1 hc
      exact .agg _ _ q1 q2 fun i hi => h1 (hc _ (List.getElem_mem hi)) (q3 i hi)
    | _ => exact h1 hc hx
  cases r with
  | tup cs =>
    obtain ⟨vs, rfl, q1, q3⟩ := hv.tup_inv
    have hc : ∀ c ∈ cs, flat2 c = true := List.all_eq_true.1 h
    exact .tup _ _ q1 fun i hi => h2 (hc _ (List.getElem_mem hi)) (q3 i hi)
  | _ => exact h2 h hv

theorem UE_edrop_Z {ids : List Nat} {b : Nat} (h : ¬ ownedBut (edrop e ids) [] b) : UE (edrop e ids) b := UE_owned.2 h

/-- a call of plain data: what follows -/
theorem after_call (p : Pre C e G g hp w) (ids : List Nat) {w' : World} (x : FrameW [] w w') {v : AV} {xv : Value}
    (hv : VD w' (UE (benv [] (ownedBut (edrop e ids) []))) v xv) {P : Prop} : OpOk C e G g hp w (P, v, drops ids) (.ok (.value xv) w') := by
  refine mk_imm p x.grow ids (.dat _ _ (hv.mono (Nat.le_refl _) (fun b _ hb => ?_) (fun _ _ _ => rfl)))
  exact UE_owned.2 (UE_benv_nil.1 hb)

theorem after_fresh (p : Pre C e G g hp w) {w' : World} (x : FrameW [] w w') {v : AV} {xv : Value}
    (hv : VD w' (fun b => w.heap.size ≤ b) v xv) {P : Prop} : OpOk C e G g hp w (P, v, []) (.ok (.value xv) w') := by
  have := mk_imm (P := P) p x.grow [] (v := v) (xv := xv) ?_
  · exact this
  · rw [edrop_nil]
    refine .dat _ _ (hv.mono (Nat.le_refl _) (fun b _ hb => ⟨not_z p.ln p.fr hb, fun id ee c he hbl => ?_⟩) (fun _ _ _ => rfl))
    have := p.hr.lt id ee b c he hbl
    omega

/-- the arguments, as the callee sees them -/
theorem args_data (p : Pre C e G g hp w) {vs : List AV} {xs : Nat → Value} (hvs : ∀ i (h : i < vs.length), VR w (UE e) e G vs[i] (xs i)) (hsn : ∀ v ∈ vs, snap2P hp v) (ids : List Nat) (hids : ∀ i ∈ vs.flatMap refs2, i ∈ ids) :
    ∀ i (h : i < (vs.map (snap2 hp)).length), VD w (UE (edrop e ids)) (vs.map (snap2 hp))[i] (xs i) := by
  intro i hi
  simp only [List.getElem_map]
  have hi' : i < vs.length := by simpa using hi
  exact snap2_ok p.hr (hvs i hi') (hsn _ (List.getElem_mem _)) fun j hj => hids j (List.mem_flatMap.2 ⟨_, List.getElem_mem hi', hj⟩)

theorem Calls.conseq {P : Program} {f : FuncId} {args : Array Value} {R R' : Ending → World → Prop} (h : Calls P f args w R) (hr : ∀ e w', R e w' → R' e w') : Calls P f args w R' := h.mono hr

/-- a call does what its judgement says -/
theorem call_ok (p : Pre C e G g hp w) {f : FuncId} {did : Nat} (hdid : C.lent.length ≤ did) {vs : List AV} {vals : Array Value} (hsz : vs.length = vals.size) (hvs : ∀ i (h : i < vs.length), VR w (UE e) e G vs[i] (vals.getD i undef))
    {r : AV} {ups : List Up} (h : CallOk C.P f g did hp vs r ups) :
    Enters C.P f ∧ Calls C.P f vals w fun en w' => ∃ v, en = .returned v ∧ OpOk C e G g hp w (True, r, ups) (.ok (.value v) w') := by
  cases h with
  | plain _ _ hsn hs =>
    refine ⟨hs.1, (hs.2 w (ownedBut (edrop e (vs.flatMap refs2)) []) [] vals rfl List.nodup_nil (by simp) (ownedBut_lt (p.hr.drops _) (p.ln.drops _) p.fr _) (by simp) (by simpa using hsz) ?_).mono ?_⟩
    · intro i hi
      refine .dat _ _ ((args_data p hvs hsn _ (fun _ h => h) i hi).mono (Nat.le_refl _) (fun b _ hb => UE_benv_nil.2 (UE_owned.1 hb)) (fun _ _ _ => rfl))
    · rintro en w' ⟨v, rfl, hf, _, _, hv⟩
      exact ⟨v, rfl, after_call p _ hf hv⟩
  | flat _ _ hsn hs hfl =>
    refine ⟨hs.1, (hs.2 w (ownedBut (edrop e (vs.flatMap refs2)) []) [] vals rfl List.nodup_nil (by simp) (ownedBut_lt (p.hr.drops _) (p.ln.drops _) p.fr _) (by simp) (by simpa using hsz) ?_).mono ?_⟩
    · intro i hi
      refine .dat _ _ ((args_data p hvs hsn _ (fun _ h => h) i hi).mono (Nat.le_refl _) (fun b _ hb => UE_benv_nil.2 (UE_owned.1 hb)) (fun _ _ _ => rfl))
    · rintro en w' ⟨v, rfl, hf, _, _, hv⟩
      exact ⟨v, rfl, after_fresh p hf (flat3_VD hfl hv)⟩
  | fresh _ _ hsn hs =>
    refine ⟨hs.1, (hs.2 w (UE (edrop e (vs.flatMap refs2))) vals (by simpa using hsz) (args_data p hvs hsn _ (fun _ h => h))).mono ?_⟩
    rintro en w' ⟨v, rfl, hf, hv⟩
    exact ⟨v, rfl, after_fresh p hf hv⟩
  | new _ cs' hsn hs =>
    refine ⟨hs.1, (hs.2 w (ownedBut (edrop e (vs.flatMap refs2)) []) vals (ownedBut_lt (p.hr.drops _) (p.ln.drops _) p.fr _) (by simpa using hsz) ?_).mono ?_⟩
    · intro i hi
      exact (args_data p hvs hsn _ (fun _ h => h) i hi).mono (Nat.le_refl _) (fun b _ hb => UE_benv_nil.2 (UE_owned.1 hb)) (fun _ _ _ => rfl)
    · rintro en w' ⟨b, rfl, hf, hb1, hb2, vs', t, hh, hl, h1, hv⟩
      refine ⟨_, rfl, ?_⟩
      have p' : Pre C (edrop e (vs.flatMap refs2)) G g (drops (vs.flatMap refs2) ++ hp) w := ⟨p.hr.drops _, p.ln.drops _, p.fr, p.ng⟩
      have hx := Ext.new p' hf.grow (did := did) (ee := ⟨g, some (b, 0), 0, 0⟩) rfl (by rintro b' c ⟨⟩; exact hb1)
      have := mk_obj (P := True) p' hf.grow hdid (ee := ⟨g, some (b, 0), 0, 0⟩) rfl (by rintro b' c ⟨⟩; exact ⟨hb1, hb2⟩) (ob := .box cs') (v := .ptO did g 0 0 0) (xv := .pointer (some ⟨b, 0, none⟩)) ?_ ?_
      · obtain ⟨nx, w'', e'', r1, r2, r3, r4, r5, r6⟩ := this
        exact ⟨nx, w'', e'', r1, r2, (Ext.drops w e G _).trans r3, r4, r5, r6⟩
      · refine ⟨rfl, h1, b, 0, vs', t, rfl, hh, hl, fun j hj => .dat _ _ ((hv j hj).mono (Nat.le_refl _) (fun b' _ hb' => ?_) (fun _ _ _ => rfl))⟩
        refine ⟨fun hz => hb'.1 (.inl hz), fun i ei c hi hbl => ?_⟩
        by_cases h : i = did
        · subst h
          rw [eset_same] at hi; cases hi
          cases hbl
          exact hb'.2 0 ⟨0, some (b, 0), 0, 0⟩ 0 rfl rfl
        · rw [eset_other _ _ h] at hi
          exact hb'.1 (.inr ⟨i, ei, c, by simp, hi, hbl⟩)
      · refine .ptO _ _ _ _ _ _ (.inr rfl) rfl fun ee he _ => ?_
        rw [eset_same] at he; cases he
        refine ⟨Nat.le_refl _, fun _ b' c hb' => ?_⟩
        cases hb'; simp
  | lent id g' cs vs0 _ cs' hg hsn hcs hni hs =>
    generalize hids : vs0.flatMap refs2 ++ cs.flatMap refs1 = ids at hni ⊢
    obtain ⟨ee, he, hgg, hGg, hor⟩ := p.hr.live id _ _ hg
    obtain ⟨hn, q1, b, c, bvs, t, hb, hh, hbs, hbv⟩ := hor
    have he1 : edrop e ids id = some ee := by simp only [edrop]; rw [if_neg hni]; exact he
    have hr1 := p.hr.drops ids
    have ln1 := p.ln.drops ids
    have p1 : Pre C (edrop e ids) G g (drops ids ++ hp) w := ⟨hr1, ln1, p.fr, p.ng⟩
    have hUE : ∀ b', UE (edrop e ids) b' ↔ UE (benv [b] (ownedBut (edrop e ids) [id])) b' := by
      intro b'
      constructor
      · rintro ⟨h1, h2⟩
        refine ⟨?_, fun i ei c' hi hbl => ?_⟩
        · rintro (hz | ⟨i, ei, c', hne, hi, hbl⟩)
          · exact h1 hz
          · exact h2 i ei c' hi hbl
        · match i with
          | 0 => simp [benv] at hi; subst hi; cases hbl; exact h2 id ee c he1 hb
          | i + 1 => simp [benv] at hi
      · rintro ⟨h1, h2⟩
        refine ⟨fun hz => h1 (.inl hz), fun i ei c' hi hbl => ?_⟩
        by_cases h : i = id
        · subst h
          rw [he1] at hi; cases hi
          rw [hb] at hbl; cases hbl
          exact h2 0 ⟨0, some (b, 0), 0, 0⟩ 0 rfl rfl
        · exact h1 (.inr ⟨i, ei, c', by simpa using h, hi, hbl⟩)
    have hnZ : ¬ ownedBut (edrop e ids) [id] b := by
      rintro (hz | ⟨i, ei, c', hne, hi, hbl⟩)
      · exact hr1.nz id ee b c he1 hb hz
      · exact hne (by simpa using (hr1.inj i id ei ee b c' c hi he1 hbl hb))
    refine ⟨hs.1, (hs.2 w (ownedBut (edrop e ids) [id]) [b] vals rfl (by simp) ?_ (ownedBut_lt hr1 ln1 p.fr _) ?_ (by simpa using hsz) ?_).mono ?_⟩
    · intro b' hb'
      simp at hb'; subst hb'
      exact ⟨p.hr.lt id ee _ c he hb, hnZ⟩
    · intro j hj hj'
      have hj0 : j = 0 := by simp at hj; omega
      subst hj0
      refine ⟨bvs, t, hh, by simpa using hbs, ?_, ?_⟩
      · intro i hi; simp only [List.getElem_cons_zero, List.getElem_map]; exact snap1_one (hcs _ (List.getElem_mem _))
      · intro i hi
        simp only [List.getElem_cons_zero, List.getElem_map]
        have hi' : i < cs.length := by simpa using hi
        refine (snap1_ok p.hr (hbv i hi') (hcs _ (List.getElem_mem _)) (ids := ids) fun k hk => ?_).mono (Nat.le_refl _) (fun b' _ hb' => (hUE b').1 hb') (fun _ _ _ => rfl)
        rw [← hids]
        exact List.mem_append_right _ (List.mem_flatMap.2 ⟨_, List.getElem_mem hi', hk⟩)
    · intro i hi
      match i with
      | 0 =>
        have h0 := hvs 0 (by simp)
        simp only [List.getElem_cons_zero] at h0 ⊢
        obtain ⟨_, hone, hin⟩ := h0.ptO_inv
        obtain ⟨_, hin⟩ := hin ee he hgg
        have hv0 := hin hn b c hb
        rw [hv0]
        refine .ptO _ _ _ _ _ _ (show (0 : Nat) < 1 by omega) rfl fun ee' he' _ => ?_
        simp [benv] at he'
        subst he'
        refine ⟨Nat.le_refl _, fun _ b' c' hb' => ?_⟩
        cases hb'; simp
      | i + 1 =>
        have hi' : i < (vs0.map (snap2 hp)).length := by simpa using hi
        simp only [List.getElem_cons_succ]
        have := args_data p (vs := vs0) (xs := fun i => vals.getD (i + 1) undef) (fun i hi => by have := hvs (i + 1) (by simpa using hi); rw [List.getElem_cons_succ] at this; exact this) hsn ids (fun k hk => by rw [← hids]; exact List.mem_append_left _ hk) i hi'
        exact .dat _ _ (this.mono (Nat.le_refl _) (fun b' _ hb' => (hUE b').1 hb') (fun _ _ _ => rfl))
    · rintro en w' ⟨v, rfl, hf, hl', hbx, hv⟩
      refine ⟨v, rfl, ?_⟩
      have hee := eset_id he1
      have ext : Ext w (edrop e ids) G w' (edrop e ids) (gadd G g) := by
        refine ⟨hf.size, fun _ h => .inl h, fun _ _ h => h, fun b' hb' hu => hf.same b' hb' ?_, fun _ ee' h _ => ⟨ee', h, rfl, rfl, .inl ⟨rfl, rfl⟩⟩⟩
        simp
        rintro rfl
        exact hu.2 id ee c he1 hb
      obtain ⟨bvs', t', hh', hbs', q1', hbv'⟩ := hbx 0 (by simp) (by simp)
      simp only [List.getElem_cons_zero] at hh' hbs' q1' hbv'
      have hlt := p.hr.lt id ee b c he hb
      have hset := hr1.set (id := id) (ee := ee) (ob := .box cs') (G' := gadd G g) (w' := w') (by rw [hee]; exact ext) (by
          rw [hee]
          exact ⟨hn, q1', b, c, bvs', t', hb, hh', hbs', fun j hj => .dat _ _ ((hbv' j hj).mono (Nat.le_refl _) (fun b' _ hb' => (hUE b').2 hb') (fun _ _ _ => rfl))⟩)
        (.inl (hr1.gen id ee he1)) (fun i ei b' c' hne hi hbl => hf.same b' (hr1.lt i ei b' c' hi hbl) (by
          simp; rintro rfl; exact hne (hr1.inj i id ei ee b' c' c hi he1 hbl hb)))
        (fun i ei b' c' c'' hne hi hbl hb' => hne (hr1.inj i id ei ee b' c' c'' hi he1 hbl hb'))
        (fun b' c' hb' => by rw [hb] at hb'; cases hb'; exact Nat.lt_of_lt_of_le hlt hf.size)
        (fun b' c' hb' => hr1.nz id ee b' c' he1 hb')
      rw [hee, hgg] at hset
      refine ⟨_, w', _, rfl, hset, (Ext.drops w e G ids).trans ext, ln1, ?_, .inl ⟨v, rfl, .dat _ _ (hv.mono (Nat.le_refl _) (fun b' _ hb' => (hUE b').2 hb') (fun _ _ _ => rfl))⟩⟩
      refine ⟨hf.os.trans p.fr.os, hf.tape.trans p.fr.tape, hf.output.trans p.fr.output, Nat.le_trans p.fr.size hf.size, fun b' hb' hnl => ?_⟩
      rw [hf.same b' (Nat.lt_of_lt_of_le hb' p.fr.size) ?_]
      · exact p.fr.same b' hb' hnl
      · simp
        rintro rfl
        by_cases hid : id < C.lent.length
        · obtain ⟨c', hc⟩ := p.ln.lent id hid ee he
          rw [hb] at hc; cases hc
          exact hnl (List.getElem_mem _)
        · have := p.ln.mine id ee b' c (by omega) he hb
          omega
end
end Go.Sym
