import Derived.Test.YtkhjenddapaejaaGreatDoorA5
set_option linter.all false
set_option linter.unusedSimpArgs false
set_option linter.unusedVariables false
set_option linter.deprecated false
namespace Go.Proofs.YtkhjenddapaejaaGreatDoor
open Go Go.Sym
structure Good (A n : Nat) (y : Ly) : Prop where
  sz : ∃ B, Sz A B n
  len : y.nodes.length = n
  shp : ∀ i, i < n → Shape A n i (y.nodes.getD i default)
  nm : ∀ i, i < n → (y.nodes.getD i default).nm = nmI i
theorem Good.n11 {A n : Nat} {y : Ly} (h : Good A n y) : 5 ≤ n ∧ n ≤ 11 ∧ 1 ≤ A ∧ A ≤ 3 ∧ A + 3 < n := by
  obtain ⟨⟨B, ⟨h1, h2⟩, h3, h4, h5⟩, _, _, _⟩ := h
  omega
theorem gL_nodes (l : List Int) (a : Nat) : ∃ A n, Good A n (gL l a).1 := by
  have hA := gR_lt (l := l) (a := a) (lo := 1) (hi := 3) (by omega)
  have hB := gR_lt (l := l) (a := a + 1) (lo := 0) (hi := 3) (by omega)
  have hC := gR_lt (l := l) (a := a + 2) (lo := 1) (hi := 2) (by omega)
  unfold gL
  simp only
  obtain ⟨A, eA⟩ : ∃ A, A = (gR l a 1 3).toNat := ⟨_, rfl⟩
  obtain ⟨B, eB⟩ : ∃ B, B = (gR l (a + 1) 0 3).toNat := ⟨_, rfl⟩
  obtain ⟨n, en⟩ : ∃ n, n = A + 1 + B + (gR l (a + 2) 1 2).toNat + 2 := ⟨_, rfl⟩
  rw [← eA, ← eB, ← en]
  have hs : Sz A B n := ⟨by omega, by omega, by omega⟩
  refine ⟨A, n, ⟨B, hs⟩, ?_, ?_, ?_⟩
  · simp only
    split
    · rw [fixL_length, lyL_length]
    · rw [lyL_length]
  · intro i hi
    have h1 : Shape A n i ((lyL l A B n (a + 3) n).1.getD i default) := by
      rw [lyL_getD n hi]; exact lyX_shape hs hi _
    simp only
    split
    · rw [fixL_getD (by rw [lyL_length]; exact hi)]
      split
      · exact fixN_shape hs (by assumption) h1
      · exact h1
    · exact h1
  · intro i hi
    have h1 : ((lyL l A B n (a + 3) n).1.getD i default).nm = nmI i := by rw [lyL_getD n hi]
    simp only
    split
    · rw [fixL_getD (by rw [lyL_length]; exact hi)]
      split
      · rw [fixN_ln.2.2.2]; exact h1
      · exact h1
    · exact h1
def dlt (d e : T3) : Prop := d.b < e.b ∨ (d.b = e.b ∧ (d.c < e.c ∨ (d.c = e.c ∧ e.a < d.a)))
def DvI (xs : List Nd) (i w : Nat) (o : List T3) : Prop :=
  o.Pairwise dlt ∧ ∀ d ∈ o, (d.a = 1 ∨ d.a = 2) ∧ 0 ≤ d.b ∧ d.b < xs.length ∧ 0 ≤ d.c ∧ d.c < (xs.getD d.b.toNat default).ln ∧ (d.b < i ∨ (d.b = i ∧ d.c < w))
theorem dvW_inv {l : List Int} {xs : List Nd} {i : Nat} {o : List T3 × Nat} (hi : i < xs.length) (h : DvI xs i 0 o.1) : ∀ w, w ≤ (xs.getD i default).ln.toNat → DvI xs i w (dvW l (xs.getD i default) i o w).1
  | 0, _ => h
  | w + 1, hw => by
    obtain ⟨h1, h2⟩ := dvW_inv (l := l) hi h w (by omega)
    rw [dvW]
    generalize dvW l (xs.getD i default) i o w = r at *
    have h3 : (dv1 l (xs.getD i default) i w r).1.Pairwise dlt ∧ ∀ d ∈ (dv1 l (xs.getD i default) i w r).1, (d.a = 1 ∨ d.a = 2) ∧ 0 ≤ d.b ∧ d.b < xs.length ∧ 0 ≤ d.c ∧ d.c < (xs.getD d.b.toNat default).ln ∧ (d.b < i ∨ (d.b = i ∧ (d.c < w ∨ (d.c = w ∧ d.a = 2)))) := by
      have h2' : ∀ d ∈ r.1, (d.a = 1 ∨ d.a = 2) ∧ 0 ≤ d.b ∧ d.b < xs.length ∧ 0 ≤ d.c ∧ d.c < (xs.getD d.b.toNat default).ln ∧ (d.b < i ∨ (d.b = i ∧ (d.c < w ∨ (d.c = w ∧ d.a = 2)))) := fun d hd => by
        obtain ⟨g1, g2, g3, g4, g5, g6⟩ := h2 d hd
        exact ⟨g1, g2, g3, g4, g5, by omega⟩
      unfold dv1
      split
      · split
        · refine ⟨List.pairwise_append.2 ⟨h1, by simp, fun d hd e he => ?_⟩, fun d hd => ?_⟩
          · rw [List.mem_singleton] at he
            subst he
            obtain ⟨g1, g2, g3, g4, g5, g6⟩ := h2 d hd
            unfold dlt
            simp only
            omega
          · rcases List.mem_append.1 hd with hd | hd
            · exact h2' d hd
            · rw [List.mem_singleton] at hd
              subst hd
              simp only [Int.toNat_natCast]
              exact ⟨.inr trivial, by omega, by omega, by omega, by omega, .inr ⟨trivial, .inr ⟨trivial, trivial⟩⟩⟩
        · exact ⟨h1, h2'⟩
      · exact ⟨h1, h2'⟩
    obtain ⟨h4, h5⟩ := h3
    generalize dv1 l (xs.getD i default) i w r = s at *
    have h5' : ∀ d ∈ s.1, (d.a = 1 ∨ d.a = 2) ∧ 0 ≤ d.b ∧ d.b < xs.length ∧ 0 ≤ d.c ∧ d.c < (xs.getD d.b.toNat default).ln ∧ (d.b < i ∨ (d.b = i ∧ d.c < (w + 1 : Nat))) := fun d hd => by
      obtain ⟨g1, g2, g3, g4, g5, g6⟩ := h5 d hd
      exact ⟨g1, g2, g3, g4, g5, by omega⟩
    unfold dv2
    split
    · split
      · refine ⟨List.pairwise_append.2 ⟨h4, by simp, fun d hd e he => ?_⟩, fun d hd => ?_⟩
        · rw [List.mem_singleton] at he
          subst he
          obtain ⟨g1, g2, g3, g4, g5, g6⟩ := h5 d hd
          unfold dlt
          simp only
          omega
        · rcases List.mem_append.1 hd with hd | hd
          · exact h5' d hd
          · rw [List.mem_singleton] at hd
            subst hd
            simp only [Int.toNat_natCast]
            exact ⟨.inl trivial, by omega, by omega, by omega, by omega, .inr ⟨trivial, by omega⟩⟩
      · exact ⟨h4, h5'⟩
    · exact ⟨h4, h5'⟩
theorem dvN_inv {l : List Int} {xs : List Nd} {a : Nat} (hx : ∀ i, i < xs.length → 0 ≤ (xs.getD i default).ln) : ∀ i, i ≤ xs.length → DvI xs i 0 (dvN l xs a i).1
  | 0, _ => ⟨by simp [dvN], by simp [dvN]⟩
  | i + 1, hi => by
    obtain ⟨h1, h2⟩ := dvW_inv (l := l) (by omega) (dvN_inv hx i (by omega)) _ (Nat.le_refl _)
    refine ⟨h1, fun d hd => ?_⟩
    obtain ⟨g1, g2, g3, g4, g5, g6⟩ := h2 d hd
    exact ⟨g1, g2, g3, g4, g5, by omega⟩
theorem pw_getD {α : Type} {R : α → α → Prop} {l : List α} {d : α} (h : l.Pairwise R) {i j : Nat} (hij : i < j) (hj : j < l.length) : R (l.getD i d) (l.getD j d) := by
  have := List.pairwise_iff_getElem.1 h i j (by omega) hj hij
  simpa [hj, show i < l.length by omega] using this
theorem devE_zero {l : List Int} {xs : List Nd} {a : Nat} (hx : ∀ i, i < xs.length → 0 ≤ (xs.getD i default).ln) : devE xs (gD l a xs).1 = 0 := by
  obtain ⟨h1, h2⟩ := dvN_inv (l := l) (a := a) hx _ (Nat.le_refl _)
  rw [devE_ok fun j hj => ?_]
  · rw [if_pos]
    refine range_all_true fun i hi => ?_
    rw [dupK, Bool.not_eq_true', List.any_eq_false]
    intro z hz hez
    rw [eqT_iff] at hez
    obtain ⟨j, hj, e⟩ := List.getElem_of_mem hz
    have hji : j < i := by rw [List.length_take] at hj; omega
    have h3 := pw_getD (d := default) h1 hji hi
    have h4 : (dvN l xs a xs.length).1.getD j default = z := by
      rw [← e, List.getElem_take]
      have hjl : j < (dvN l xs a xs.length).1.length := Nat.lt_trans hji hi
      simp [hjl]
      rfl
    rw [h4, show (dvN l xs a xs.length).1.getD i default = z from hez] at h3
    unfold dlt at h3
    omega
  · have h3 := h2 _ (mem_getD (d := default) hj)
    show devOne xs ((dvN l xs a xs.length).1.getD j default) = 0
    generalize (dvN l xs a xs.length).1.getD j default = d at *
    unfold devOne
    rw [if_neg (by omega), if_neg (by omega)]
theorem nmI_ok : ∀ i, i < 11 → nameOk (nmI i) = true := by decide +kernel
theorem nmI_inj : ∀ i, i < 11 → ∀ j, j < 11 → nmI i = nmI j → i = j := by decide +kernel
theorem named_good {A n : Nat} {y : Ly} (h : Good A n y) : namedB y.nodes = true := by
  have hn := h.n11
  refine range_all_true fun i hi => ?_
  rw [h.len] at hi
  have hN := h.len
  rw [decide_eq_true_eq, findN_idx]
  refine fi_some (d := default) (by omega) (fun j hj => ?_) (by simp)
  rw [h.nm i hi, h.nm j (by omega), decide_eq_false_iff_not]
  intro h2
  have := nmI_inj j (by omega) i (by omega) h2
  omega
theorem Good.ex {A n : Nat} {y : Ly} (h : Good A n y) : ExOk y.nodes := by
  intro i hi j hj
  rw [h.len] at hi ⊢
  have hn := h.n11
  rcases (h.shp i hi).ex with ⟨_, g⟩ | ⟨_, e, g, he⟩ | ⟨_, e, f, g, _, he, hf⟩ | ⟨_, f, g, hf⟩ | ⟨_, e, f, g, _, he, hf⟩
  · rw [g] at hj; simp at hj
  · rw [g] at hj ⊢
    obtain rfl : j = 0 := by simpa using hj
    obtain ⟨h1, h2, _⟩ := he
    simp; omega
  · rw [g] at hj ⊢
    obtain ⟨h1, h2, _⟩ := he
    obtain ⟨h3, h4, _⟩ := hf
    have : j = 0 ∨ j = 1 := by simp at hj; omega
    rcases this with rfl | rfl <;> simp <;> omega
  · rw [g] at hj ⊢
    obtain ⟨h3, h4, _⟩ := hf
    have : j = 0 ∨ j = 1 := by simp at hj; omega
    rcases this with rfl | rfl <;> simp <;> omega
  · rw [g] at hj ⊢
    obtain ⟨h1, h2, _⟩ := he
    obtain ⟨h3, h4, _⟩ := hf
    have : j = 0 ∨ j = 1 := by simp at hj; omega
    rcases this with rfl | rfl <;> simp <;> omega
theorem Good.node {A n : Nat} {y : Ly} (h : Good A n y) {i : Nat} (hi : i < n) : nodeE n i (y.nodes.getD i default) = 0 := by
  have hn := h.n11
  have hs := h.shp i hi
  have hm := h.nm i hi
  generalize y.nodes.getD i default = x at *
  obtain ⟨kd1, kd2⟩ := hs.kd
  have hz : x.zn = 0 ∨ x.zn = 1 := by rw [hs.zn, zoneOf]; split <;> simp
  have hl : lenOk x = true := by
    have hln := hs.ln
    have hl5 := hs.l5
    have hl0 := hs.l0
    unfold lenOk isStrip
    by_cases h6 : x.kd ≤ 6
    · rw [if_pos (by simp; omega)]
      split
      · simp; omega
      · simp; omega
    · rw [if_neg (by simp; omega)]
      simp; omega
  suffices hlead : leadP n i x = true by rw [nodeE, if_neg (by rw [hm, nmI_ok i (by omega)]; decide), if_neg (by omega), if_pos ⟨hl, hz, hlead⟩]
  rw [leadP_true]
  have hb : ∀ b : Bool, (false == b) = !b := by decide
  rcases hs.ex with ⟨k, g⟩ | ⟨k, e, g, he⟩ | ⟨k, e, f, g, hne, he, hf⟩ | ⟨k, f, g, hf⟩ | ⟨k, e, f, g, hne, he, hf⟩
  · rw [g]
    refine ⟨?_, fun j hj => by simp at hj⟩
    rw [exitsN, if_neg (by omega), if_pos (by omega)]; rfl
  · refine ⟨by rw [g, exitsN, if_neg (by omega), if_neg (by omega)]; rfl, fun j hj => ?_⟩
    rw [g] at hj
    obtain rfl : j = 0 := by simpa using hj
    obtain ⟨h1, h2, _⟩ := he
    rw [leadK, g]
    simp
    refine ⟨by omega, h2, by omega, by omega⟩
  · refine ⟨by rw [g, exitsN, if_pos (by omega)]; rfl, fun j hj => ?_⟩
    rw [g] at hj
    obtain ⟨h1, h2, _⟩ := he
    obtain ⟨h3, h4, _⟩ := hf
    have : j = 0 ∨ j = 1 := by simp at hj; omega
    rcases this with rfl | rfl
    · rw [leadK, g]
      simp
      refine ⟨by omega, h2, by omega, by omega⟩
    · rw [leadK, g]
      simp
      refine ⟨by omega, h4, by omega, fun h => hne h.symm⟩
  · refine ⟨by rw [g, exitsN, if_pos (by omega)]; rfl, fun j hj => ?_⟩
    rw [g] at hj
    obtain ⟨h3, h4, _⟩ := hf
    have : j = 0 ∨ j = 1 := by simp at hj; omega
    rcases this with rfl | rfl
    · rw [leadK, g]
      simp [k]
      omega
    · rw [leadK, g]
      simp
      omega
  · refine ⟨by rw [g, exitsN, if_pos (by omega)]; rfl, fun j hj => ?_⟩
    rw [g] at hj
    obtain ⟨h1, h2, _⟩ := he
    obtain ⟨h3, h4, _⟩ := hf
    have : j = 0 ∨ j = 1 := by simp at hj; omega
    rcases this with rfl | rfl
    · rw [leadK, g]
      simp
      refine ⟨by omega, h2, by omega, by omega⟩
    · rw [leadK, g]
      simp
      refine ⟨by omega, h4, by omega, fun h => hne h.symm⟩
theorem Good.tot {A n : Nat} {y : Ly} (h : Good A n y) : 0 ≤ total y.nodes ∧ total y.nodes ≤ 44 := by
  have hn := h.n11
  have : ∀ i, i ≤ n → 0 ≤ totL y.nodes i ∧ totL y.nodes i ≤ 4 * i := by
    intro i
    induction i with
    | zero => intro _; simp [totL]
    | succ i ih =>
      intro hi
      have h1 := ih (by omega)
      have hs := h.shp i (by omega)
      have h2 := hs.ln
      have h3 := hs.l0
      have h4 := hs.kd
      rw [totL]
      omega
  have := this n (Nat.le_refl _)
  unfold total
  rw [h.len]
  omega
theorem Good.zoned {A n : Nat} {y : Ly} (h : Good A n y) {i : Nat} (hi : i < n) : zoneB y.nodes (y.nodes.getD i default) = true := by
  have hn := h.n11
  have hs := h.shp i hi
  have hto : ∀ z e, EX A n i z e → ¬ (y.nodes.getD e.toNat default).kd = 1 ∧ (y.nodes.getD e.toNat default).zn = z := by
    intro z e ⟨h1, h2, h3⟩
    obtain ⟨m, rfl⟩ : ∃ m : Nat, e = m := ⟨e.toNat, by omega⟩
    have ht := h.shp m (by omega)
    rw [Int.toNat_natCast]
    exact ⟨fun hk => by have := ht.k1.1 hk; omega, by rw [ht.zn, h3]⟩
  have hself := h.shp i hi
  generalize hx : y.nodes.getD i default = x at *
  rw [zoneB, Bool.and_eq_true]
  refine ⟨?_, range_all_true fun j hj => ?_⟩
  · have h0 := hs.z0
    have h1 := hs.z1
    unfold zoneA
    split
    · exact decide_eq_true (h0 (by assumption))
    · split
      · exact decide_eq_true (h1 (by assumption))
      · rfl
  · have key : ∀ e, x.ex.getD j 0 = e → ¬ (y.nodes.getD e.toNat default).kd = 1 → (y.nodes.getD e.toNat default).zn = zoneW x j → zoneK y.nodes x j = true := by
      intro e he h1 h2
      rw [zoneK, he, decide_eq_false h1, h2]
      simp
    rcases hs.ex with ⟨k, g⟩ | ⟨k, e, g, he⟩ | ⟨k, e, f, g, hne, he, hf⟩ | ⟨k, f, g, hf⟩ | ⟨k, e, f, g, hne, he, hf⟩
    · rw [g] at hj; simp at hj
    · rw [g] at hj
      obtain rfl : j = 0 := by simpa using hj
      have := hto _ _ he
      exact key e (by rw [g]; rfl) this.1 (by rw [this.2, zoneW, if_neg (by omega)])
    · rw [g] at hj
      have h3 := hto _ _ he
      have h4 := hto _ _ hf
      have : j = 0 ∨ j = 1 := by simp at hj; omega
      rcases this with rfl | rfl
      · exact key e (by rw [g]; rfl) h3.1 (by rw [h3.2, zoneW, if_neg (by omega)])
      · exact key f (by rw [g]; rfl) h4.1 (by rw [h4.2, zoneW, if_neg (by omega)])
    · rw [g] at hj
      have h4 := hto _ _ hf
      have : j = 0 ∨ j = 1 := by simp at hj; omega
      rcases this with rfl | rfl
      · refine key i (by rw [g]; rfl) ?_ ?_
        · rw [Int.toNat_natCast, hx]; omega
        · rw [Int.toNat_natCast, hx, zoneW, if_neg (by omega)]
      · exact key f (by rw [g]; rfl) h4.1 (by rw [h4.2, zoneW, if_neg (by omega)])
    · rw [g] at hj
      have h3 := hto _ _ he
      have h4 := hto _ _ hf
      have hz := hs.z0 (by omega)
      have : j = 0 ∨ j = 1 := by simp at hj; omega
      rcases this with rfl | rfl
      · exact key e (by rw [g]; rfl) h3.1 (by rw [h3.2, zoneW, if_neg (by omega), hz])
      · exact key f (by rw [g]; rfl) h4.1 (by rw [h4.2, zoneW, if_pos ⟨k, rfl⟩])
def upL (n : Nat) : List Int := (List.range n).map fun (i : Nat) => (i : Int)
theorem upL_len (n : Nat) : (upL n).length = n := by simp [upL]
theorem upL_mem {n : Nat} {k : Nat} : (k : Int) ∈ upL n ↔ k < n := by
  simp only [upL, List.mem_map, List.mem_range]
  constructor
  · rintro ⟨a, ha, h⟩; omega
  · intro h; exact ⟨k, h, rfl⟩
theorem upL_getD {n i : Nat} (h : i < n) : (upL n).getD i 0 = i := by simp [upL, h]
theorem Good.up {A n : Nat} {y : Ly} (h : Good A n y) {k : Nat} (hk : k < n) {i : Int} (hl : leadsB (y.nodes.getD k default) k i = true) : (k : Int) < i := by
  rw [leadsB, Bool.and_eq_true, decide_eq_true_eq, decide_eq_true_eq] at hl
  obtain ⟨h1, h2⟩ := hl
  rcases (h.shp k hk).ex with ⟨_, g⟩ | ⟨_, e, g, he⟩ | ⟨_, e, f, g, _, he, hf⟩ | ⟨_, f, g, hf⟩ | ⟨_, e, f, g, _, he, hf⟩
  · rw [g] at h2; simp at h2
  · rw [g] at h2; simp at h2; rw [h2]; exact he.1
  · rw [g] at h2; simp at h2
    rcases h2 with rfl | rfl
    · exact he.1
    · exact hf.1
  · rw [g] at h2; simp at h2
    rcases h2 with rfl | rfl
    · exact absurd rfl h1
    · exact hf.1
  · rw [g] at h2; simp at h2
    rcases h2 with rfl | rfl
    · exact he.1
    · exact hf.1
theorem Good.ord {A n : Nat} {y : Ly} (h : Good A n y) : order y.nodes = upL n := by
  have hN := h.len
  have : ∀ m, m ≤ n → ordR y.nodes m = upL m := by
    intro m
    induction m with
    | zero => intro _; rfl
    | succ m ih =>
      intro hm
      have hx : nxt y.nodes (upL m) = m := by
        refine nxF_first (by omega) ?_ fun j hj => ?_
        · rw [rdyK_iff]
          refine ⟨fun h => by have := upL_mem.1 h; omega, fun k hk hl => upL_mem.2 ?_⟩
          have := h.up (by omega) hl
          omega
        · rw [← Bool.not_eq_true, rdyK_iff]
          exact fun h => h.1 (upL_mem.2 hj)
      rw [ordR, ih (by omega), hx, if_neg (by omega)]
      simp [upL, List.range_succ]
  rw [order, hN]
  exact this n (Nat.le_refl _)
end Go.Proofs.YtkhjenddapaejaaGreatDoor
namespace Go.Proofs.YtkhjenddapaejaaGreatDoor
open Go Go.Sym
theorem tz_tab : ((List.range 2048).all fun S => decide (S = 0) || (S.testBit (tz 11 S) && ((List.range 11).all fun j => ((S &&& (S - 1)).testBit j == (S.testBit j && !decide (j = tz 11 S))) && (!S.testBit j || decide (tz 11 S ≤ j))))) = true := by kernel_rfl
theorem tz_bits {S : Nat} (h : S < 2048) (h0 : S ≠ 0) : S.testBit (tz 11 S) = true ∧ (∀ j, j < 11 → (S &&& (S - 1)).testBit j = (S.testBit j && !decide (j = tz 11 S))) ∧ ∀ j, j < 11 → S.testBit j = true → tz 11 S ≤ j := by
  have := List.all_eq_true.1 tz_tab S (List.mem_range.2 h)
  simp only [Bool.or_eq_true, Bool.and_eq_true, decide_eq_true_eq, List.all_eq_true, List.mem_range, beq_iff_eq, Bool.not_eq_true'] at this
  rcases this with h1 | ⟨h1, h2⟩
  · exact absurd h1 h0
  · refine ⟨h1, fun j hj => (h2 j hj).1, fun j hj hb => ?_⟩
    rcases (h2 j hj).2 with h3 | h3
    · rw [hb] at h3; cases h3
    · exact h3
theorem comN_bit (xs : List Nd) (W : List Int) (n : Nat) (j : Nat) : ∀ m, (comN xs W n m).testBit j = (decide (j < m) && cmr xs W n j)
  | 0 => by simp [comN]
  | m + 1 => by
    have ih := comN_bit xs W n j m
    rw [comN]
    by_cases hjm : j = m
    · subst hjm
      split
      · rename_i h
        rw [Nat.testBit_or, ih, Nat.testBit_two_pow]
        simp [h]
      · rename_i h
        rw [ih]
        simp [h]
    · have e : decide (j < m + 1) = decide (j < m) := by
        by_cases h : j < m
        · rw [decide_eq_true h, decide_eq_true (by omega)]
        · rw [decide_eq_false h, decide_eq_false (by omega)]
      rw [e]
      split
      · rw [Nat.testBit_or, ih, Nat.testBit_two_pow]
        simp [show ¬ m = j by omega]
      · exact ih
theorem tzR_getD (W : List Int) {k : Nat} : ∀ (f S : Nat) (lv : List Int), S ≤ f → S < 2048 → k < lv.length → k < 11 → (tzR W f S lv).getD k 0 = if S.testBit k = true then W.getD k 0 else lv.getD k 0
  | 0, S, lv, h1, _, _, _ => by
    obtain rfl : S = 0 := by omega
    simp [tzR]
  | f + 1, S, lv, h1, h2, h3, h4 => by
    rw [tzR]
    split
    · rename_i h; subst h; simp
    · rename_i h0
      obtain ⟨b1, b2, b3⟩ := tz_bits h2 h0
      have hle : S &&& (S - 1) ≤ S - 1 := Nat.and_le_right
      rw [tzR_getD W f _ _ (by omega) (by omega) (by simpa using h3) h4, b2 k h4, getD_set2]
      by_cases hk : k = tz 11 S
      · subst hk
        simp [b1, h3]
      · simp [hk, show ¬ tz 11 S = k from fun h => hk h.symm]
def tgI (xs : List Nd) (W : List Int) (m : Nat) : Int := (xs.getD m default).ex.getD (W.getD m 0).toNat 0
theorem cmr_iff {xs : List Nd} {W : List Int} {n m : Nat} : cmr xs W n m = true ↔ m ≠ n ∧ 0 ≤ W.getD m 0 ∧ tgI xs W m = n := by
  simp [cmr, tgI]
structure Ups (xs : List Nd) (W : List Int) : Prop where
  n11 : xs.length ≤ 11
  wl : W.length = xs.length
  up : ∀ m, m < xs.length → 0 ≤ W.getD m 0 → (m : Int) ≤ tgI xs W m ∧ tgI xs W m < xs.length
  lp : ∀ m, m < xs.length → (xs.getD m default).kd = 5 → W.getD m 0 = 0 → tgI xs W m = m
def Lets (xs : List Nd) (p : Pl) (W LV : List Int) (m t : Nat) : Prop :=
  isStrip (xs.getD t default).kd = false ∨ (openR (xs.getD t default) (p.slots.getD t []) = true ∧ ¬ ((xs.getD t default).kd = 5 ∧ LV.getD t 0 = 0) ∧ ∀ k, k < m → cmr xs W t k = false)
def Rnd (xs : List Nd) (p : Pl) (m : Nat) : Prop := (xs.getD m default).kd = 5 ∧ (p.slots.getD m []).getD 0 0 = 0
def Fin (xs : List Nd) (p : Pl) (W LV : List Int) (m : Nat) : Prop :=
  (W.getD m 0 < 0 ∧ LV.getD m 0 = -1) ∨ (0 ≤ W.getD m 0 ∧
    ((LV.getD m 0 = W.getD m 0 ∧ tgI xs W m ≠ m ∧ Lets xs p W LV m (tgI xs W m).toNat) ∨
     (¬ (tgI xs W m ≠ m ∧ Lets xs p W LV m (tgI xs W m).toNat) ∧ ((Rnd xs p m ∧ LV.getD m 0 = 0) ∨ (¬ Rnd xs p m ∧ LV.getD m 0 = -1)))))
structure EqLV (xs : List Nd) (p : Pl) (W LV : List Int) : Prop where
  len : LV.length = xs.length
  fin : ∀ m, m < xs.length → Fin xs p W LV m
structure InvLV (xs : List Nd) (p : Pl) (W LV : List Int) (b : Nat) : Prop where
  len : LV.length = xs.length
  fin : ∀ m, m < xs.length → b ≤ m → Fin xs p W LV m
  neg : ∀ m, m < xs.length → m < b → (W.getD m 0 < 0 ∨ tgI xs W m < b) → LV.getD m 0 = -1
  mid : ∀ m, m < xs.length → m < b → 0 ≤ W.getD m 0 → b ≤ tgI xs W m → (LV.getD m 0 = W.getD m 0 ∧ Lets xs p W LV m (tgI xs W m).toNat) ∨ (LV.getD m 0 = -1 ∧ ¬ Lets xs p W LV m (tgI xs W m).toNat)
theorem Lets.congr {xs : List Nd} {p : Pl} {W LV LV' : List Int} {m t : Nat} (h : LV'.getD t 0 = LV.getD t 0) : Lets xs p W LV' m t ↔ Lets xs p W LV m t := by
  unfold Lets; rw [h]
theorem Fin.congr {xs : List Nd} {p : Pl} {W LV LV' : List Int} {m : Nat} (h : LV'.getD m 0 = LV.getD m 0) (ht : 0 ≤ W.getD m 0 → LV'.getD (tgI xs W m).toNat 0 = LV.getD (tgI xs W m).toNat 0) : Fin xs p W LV m → Fin xs p W LV' m := by
  unfold Fin
  rintro (h1 | ⟨h1, h2⟩)
  · exact .inl (h ▸ h1)
  · refine .inr ⟨h1, ?_⟩
    rw [Lets.congr (ht h1), h]
    exact h2
theorem arnd_iff {x : Nd} {sl : List Int} {w l : Int} : arnd x sl w l = true ↔ x.kd = 5 ∧ 0 ≤ w ∧ l < 0 ∧ sl.getD 0 0 = 0 := by
  simp only [arnd, Bool.and_eq_true, decide_eq_true_eq]
theorem flS_get {xs : List Nd} {p : Pl} {W : List Int} {n : Nat} {s : List Int × List Int} (hu : Ups xs W) (hl : s.1.length = xs.length) {k : Nat} (hk : k < xs.length) (hn : n < xs.length) :
    (flS xs p W n s).1.getD k 0 =
      (if k = n then (if arnd (xs.getD n default) (p.slots.getD n []) (W.getD n 0) (s.1.getD n 0) = true then 0 else s.1.getD k 0)
       else if cmr xs W n k = true ∧ (isStrip (xs.getD n default).kd = false ∨ (openR (xs.getD n default) (p.slots.getD n []) = true ∧ arnd (xs.getD n default) (p.slots.getD n []) (W.getD n 0) (s.1.getD n 0) = false ∧ ∀ j, j < k → cmr xs W n j = false)) then W.getD k 0
       else s.1.getD k 0) := by
  have hN := hu.n11
  have hS : comN xs W n W.length < 2048 := by
    have := comN_lt xs W n W.length
    have h2 : 2 ^ W.length ≤ 2 ^ 11 := Nat.pow_le_pow_right (by omega) (by rw [hu.wl]; omega)
    omega
  have hbit := fun j => comN_bit xs W n j W.length
  rw [hu.wl] at hbit hS
  unfold flS
  simp only [hu.wl]
  generalize comN xs W n xs.length = S at *
  generalize arnd (xs.getD n default) (p.slots.getD n []) (W.getD n 0) (s.1.getD n 0) = ar at *
  have hlv : (if ar = true then s.1.set n 0 else s.1).getD k 0 = if k = n then (if ar = true then 0 else s.1.getD k 0) else s.1.getD k 0 := by
    split
    · rw [getD_set2]
      by_cases h : k = n
      · subst h; simp [hl, hk]
      · simp [h, show ¬ n = k from fun h2 => h h2.symm]
    · simp
  have hll : (if ar = true then s.1.set n 0 else s.1).length = xs.length := by split <;> simp [hl]
  generalize (if ar = true then s.1.set n 0 else s.1) = lv at *
  have hnn : cmr xs W n n = false := by simp [cmr]
  by_cases c1 : isStrip (xs.getD n default).kd = false
  · rw [if_pos c1]
    simp only
    rw [tzR_getD W _ _ _ (Nat.le_refl _) hS (by omega) (by omega), hbit k, hlv]
    by_cases hkn : k = n
    · subst hkn; simp [hnn]
    · rw [if_neg hkn, if_neg hkn]
      by_cases hc : cmr xs W n k = true
      · rw [if_pos (by rw [hc, decide_eq_true hk]; rfl), if_pos ⟨hc, .inl c1⟩]
      · rw [if_neg (by simp [hc]), if_neg (fun h => hc h.1)]
  · rw [if_neg c1]
    have c1' : isStrip (xs.getD n default).kd = true := by simpa using c1
    split
    · rename_i h
      obtain ⟨h0, h1, h2⟩ := h
      obtain ⟨b1, b2, b3⟩ := tz_bits hS h0
      rw [hbit, Bool.and_eq_true, decide_eq_true_eq] at b1
      have hm : tz 11 S ≠ n := fun h => by rw [h, hnn] at b1; cases b1.2
      simp only
      rw [getD_set2, hll, hlv]
      by_cases hkm : tz 11 S = k
      · have hno : ∀ j, j < k → cmr xs W n j = false := fun j hj => by
          rw [← Bool.not_eq_true]
          intro hc
          have := b3 j (by omega) (by rw [hbit, hc]; simp; omega)
          omega
        rw [if_pos ⟨hkm, by omega⟩, if_neg (by omega), if_pos ⟨hkm ▸ b1.2, .inr ⟨h1, h2, hno⟩⟩, hkm]
      · rw [if_neg (fun h => hkm h.1)]
        by_cases hkn : k = n
        · rw [if_pos hkn, if_pos hkn]
        · rw [if_neg hkn, if_neg hkn, if_neg]
          rintro ⟨hc, h3 | ⟨_, _, h3⟩⟩
          · exact c1 h3
          · have := b3 k (by omega) (by rw [hbit, hc]; simp; omega)
            have := h3 (tz 11 S) (by omega)
            rw [b1.2] at this
            cases this
    · rename_i h
      simp only
      rw [hlv]
      by_cases hkn : k = n
      · rw [if_pos hkn, if_pos hkn]
      · rw [if_neg hkn, if_neg hkn, if_neg]
        rintro ⟨hc, h3 | ⟨h3, h4, _⟩⟩
        · exact c1 h3
        · refine h ⟨?_, h3, h4⟩
          intro h0
          have := hbit k
          rw [hc, h0] at this
          simp [hk] at this
theorem flS_inv {xs : List Nd} {p : Pl} {W : List Int} {n : Nat} {s : List Int × List Int} (hu : Ups xs W) (hn : n < xs.length) (h : InvLV xs p W s.1 (n + 1)) : InvLV xs p W (flS xs p W n s).1 n := by
  obtain ⟨hl, hf, hg, hm⟩ := h
  have get := fun k hk => flS_get (p := p) (s := s) hu hl (k := k) hk hn
  have hl2 : (flS xs p W n s).1.length = xs.length := flS_len.1.trans hl
  generalize (flS xs p W n s).1 = lv at *
  have hcm : ∀ k, k < xs.length → n < k → cmr xs W n k = false := fun k hk hnk => by
    rw [← Bool.not_eq_true, cmr_iff]
    rintro ⟨_, h1, h2⟩
    have := (hu.up k hk h1).1
    omega
  have hgt : ∀ k, k < xs.length → n < k → lv.getD k 0 = s.1.getD k 0 := fun k hk hnk => by
    rw [get k hk, if_neg (by omega), hcm k hk hnk, if_neg (by simp)]
  have hnv : (W.getD n 0 < 0 ∧ s.1.getD n 0 = -1) ∨ (0 ≤ W.getD n 0 ∧ ((s.1.getD n 0 = W.getD n 0 ∧ tgI xs W n ≠ n ∧ Lets xs p W s.1 n (tgI xs W n).toNat) ∨ (s.1.getD n 0 = -1 ∧ ¬ (tgI xs W n ≠ n ∧ Lets xs p W s.1 n (tgI xs W n).toNat)))) := by
    by_cases h0 : W.getD n 0 < 0
    · exact .inl ⟨h0, hg n hn (by omega) (.inl h0)⟩
    · refine .inr ⟨by omega, ?_⟩
      obtain ⟨u1, u2⟩ := hu.up n hn (by omega)
      by_cases h1 : tgI xs W n = n
      · exact .inr ⟨hg n hn (by omega) (.inr (by omega)), fun h => h.1 h1⟩
      · rcases hm n hn (by omega) (by omega) (by omega) with ⟨h2, h3⟩ | ⟨h2, h3⟩
        · exact .inl ⟨h2, h1, h3⟩
        · exact .inr ⟨h2, fun h => h3 h.2⟩
  have hgn := get n hn
  rw [if_pos rfl] at hgn
  have hln : ∀ k, k < xs.length → k < n → ((cmr xs W n k = true ∧ Lets xs p W lv k n → lv.getD k 0 = W.getD k 0) ∧ (¬ (cmr xs W n k = true ∧ Lets xs p W lv k n) → lv.getD k 0 = s.1.getD k 0)) := fun k hk hkn => by
    rw [get k hk, if_neg (by omega)]
    have : arnd (xs.getD n default) (p.slots.getD n []) (W.getD n 0) (s.1.getD n 0) = false ↔ ¬ ((xs.getD n default).kd = 5 ∧ lv.getD n 0 = 0) := by
      rw [hgn]
      by_cases ha : arnd (xs.getD n default) (p.slots.getD n []) (W.getD n 0) (s.1.getD n 0) = true
      · rw [ha, if_pos rfl]
        have : (xs.getD n default).kd = 5 := by
          rw [arnd, Bool.and_eq_true, decide_eq_true_eq] at ha
          exact ha.1
        exact ⟨fun h => (by cases h), fun h => absurd ⟨this, rfl⟩ h⟩
      · rw [if_neg ha]
        simp only [Bool.not_eq_true] at ha
        rw [ha]
        simp only [true_iff]
        rintro ⟨h5, h0⟩
        rcases hnv with ⟨_, h1⟩ | ⟨h1, ⟨h2, h3, _⟩ | ⟨h2, _⟩⟩
        · omega
        · exact h3 (hu.lp n hn h5 (by omega))
        · omega
    have hc : (cmr xs W n k = true ∧ (isStrip (xs.getD n default).kd = false ∨ (openR (xs.getD n default) (p.slots.getD n []) = true ∧ arnd (xs.getD n default) (p.slots.getD n []) (W.getD n 0) (s.1.getD n 0) = false ∧ ∀ j, j < k → cmr xs W n j = false))) ↔ (cmr xs W n k = true ∧ Lets xs p W lv k n) := by
      unfold Lets
      rw [this]
    exact ⟨fun h => if_pos (hc.2 h), fun h => if_neg (fun h2 => h (hc.1 h2))⟩
  have hLt : ∀ m t, n < t → t < xs.length → (Lets xs p W lv m t ↔ Lets xs p W s.1 m t) := fun m t h1 h2 => Lets.congr (hgt t h2 h1)
  refine ⟨hl2, fun m hm1 hm2 => ?_, fun m hm1 hm2 hm3 => ?_, fun m hm1 hm2 hm3 hm4 => ?_⟩
  · by_cases hmn : m = n
    · subst hmn
      unfold Fin
      rcases hnv with ⟨h1, h2⟩ | ⟨h1, h2⟩
      · refine .inl ⟨h1, ?_⟩
        rw [hgn, if_neg (fun h => by have := arnd_iff.1 h; omega), h2]
      · refine .inr ⟨h1, ?_⟩
        obtain ⟨u1, u2⟩ := hu.up m hn h1
        have hL : (tgI xs W m ≠ m ∧ Lets xs p W lv m (tgI xs W m).toNat) ↔ (tgI xs W m ≠ m ∧ Lets xs p W s.1 m (tgI xs W m).toNat) := and_congr_right fun h => hLt _ _ (by omega) (by omega)
        rcases h2 with ⟨h2, h3⟩ | ⟨h2, h3⟩
        · refine .inl ⟨?_, hL.2 h3⟩
          rw [hgn, if_neg (fun h => by have := arnd_iff.1 h; omega), h2]
        · refine .inr ⟨fun h => h3 (hL.1 h), ?_⟩
          rw [hgn, h2]
          unfold Rnd
          by_cases hr : (xs.getD m default).kd = 5 ∧ (p.slots.getD m []).getD 0 0 = 0
          · refine .inl ⟨hr, ?_⟩
            rw [if_pos]
            simp only [arnd, Bool.and_eq_true, decide_eq_true_eq]
            exact ⟨hr.1, h1, by decide, hr.2⟩
          · refine .inr ⟨hr, ?_⟩
            rw [if_neg]
            simp only [arnd, Bool.and_eq_true, decide_eq_true_eq]
            exact fun h => hr ⟨h.1, h.2.2.2⟩
    · refine Fin.congr (hgt m hm1 (by omega)) (fun h => ?_) (hf m hm1 (by omega))
      obtain ⟨u1, u2⟩ := hu.up m hm1 h
      exact hgt _ (by omega) (by omega)
  · rw [(hln m hm1 hm2).2 (by
      rw [cmr_iff]
      rintro ⟨⟨_, h1, h2⟩, _⟩
      omega)]
    exact hg m hm1 (by omega) (by omega)
  · obtain ⟨u1, u2⟩ := hu.up m hm1 hm3
    by_cases ht : tgI xs W m = n
    · have hc : cmr xs W n m = true := cmr_iff.2 ⟨by omega, hm3, ht⟩
      rw [ht, Int.toNat_natCast]
      by_cases hL : Lets xs p W lv m n
      · rw [(hln m hm1 hm2).1 ⟨hc, hL⟩]; exact .inl ⟨rfl, hL⟩
      · rw [(hln m hm1 hm2).2 (fun h => hL h.2)]
        exact .inr ⟨hg m hm1 (by omega) (.inr (by omega)), hL⟩
    · rw [(hln m hm1 hm2).2 (fun h => ht (cmr_iff.1 h.1).2.2), hLt _ _ (by omega) (by omega)]
      exact hm m hm1 (by omega) hm3 (by omega)
theorem flows_eq {xs : List Nd} {p : Pl} {W : List Int} (hu : Ups xs W) : EqLV xs p W (flows xs p W (upL xs.length)).1 := by
  have : ∀ c, c ≤ xs.length → InvLV xs p W (flF xs p W (upL xs.length) c).1 (xs.length - c) := by
    intro c
    induction c with
    | zero =>
      intro _
      refine ⟨negs_len _, fun m h1 h2 => by omega, fun m h1 h2 h3 => ?_, fun m h1 h2 h3 h4 => ?_⟩
      · simp [flF, negs, h1]
      · have := (hu.up m h1 h3).2; omega
    | succ c ih =>
      intro hc
      have h1 := ih (by omega)
      rw [flF, upL_len, upL_getD (by omega), Int.toNat_natCast]
      have e : xs.length - c = (xs.length - 1 - c) + 1 := by omega
      rw [e] at h1
      have := flS_inv hu (by omega) h1
      rw [show xs.length - (c + 1) = xs.length - 1 - c by omega]
      exact this
  have h := this xs.length (Nat.le_refl _)
  rw [flows, upL_len]
  exact ⟨h.len, fun m hm => h.fin m hm (by omega)⟩
end Go.Proofs.YtkhjenddapaejaaGreatDoor
namespace Go.Proofs.YtkhjenddapaejaaGreatDoor
open Go Go.Sym
open Go.Plant
structure Sx (A n : Nat) (y : Ly) (p : Pl) (cs : List Int) (fs : List T3) : Prop where
  good : Good A n y
  fp : FitP y.nodes p
  ff : FitF y.nodes fs
  cl : cs.length = n
  cmd : ∀ i, i < n → cmdOk (y.nodes.getD i default) (cs.getD i 0) = true
def WN (y : Ly) (p : Pl) (cs : List Int) (fs : List T3) : List Int := wnts y.nodes p cs fs y.nodes.length
def LVo (y : Ly) (p : Pl) (cs : List Int) (fs : List T3) : List Int := (flows y.nodes p (WN y p cs fs) (upL y.nodes.length)).1
section
variable {A n : Nat} {y : Ly} {p : Pl} {cs : List Int} {fs : List T3}
theorem Good.exl (h : Good A n y) {m : Nat} (hm : m < n) : ((y.nodes.getD m default).ex.length : Int) = exitsN (y.nodes.getD m default).kd := by
  have := h.node hm
  rw [nodeE] at this
  split at this
  · cases this
  · split at this
    · cases this
    · split at this
      · rename_i h2
        exact (leadP_true.1 h2.2.2).1
      · cases this
theorem Good.lp (h : Good A n y) {m : Nat} (hm : m < n) (h5 : (y.nodes.getD m default).kd = 5) : (y.nodes.getD m default).ex.getD 0 0 = m := by
  rcases (h.shp m hm).ex with ⟨k, g⟩ | ⟨k, e, g, he⟩ | ⟨k, e, f, g, hne, he, hf⟩ | ⟨k, f, g, hf⟩ | ⟨k, e, f, g, hne, he, hf⟩
  · omega
  · omega
  · omega
  · rw [g]; rfl
  · omega
theorem wnt_ok (h : Sx A n y p cs fs) {m : Nat} (hm : m < n) (h0 : 0 ≤ (WN y p cs fs).getD m 0) :
    (WN y p cs fs).getD m 0 < (y.nodes.getD m default).ex.length ∧
    (((y.nodes.getD m default).kd = 7 ∧ (WN y p cs fs).getD m 0 = 0 ∧ cs.getD m 0 ∈ p.bins.getD m []) ∨
     (isStrip (y.nodes.getD m default).kd = true ∧ (WN y p cs fs).getD m 0 = cs.getD m 0 ∧ (p.slots.getD m []).getD ((y.nodes.getD m default).ln.toNat - 1) 0 ≠ 0 ∧ fs.any (fun z => eqT ⟨1, m, (y.nodes.getD m default).ln - 1⟩ z) = false)) := by
  have hl := h.good.len
  have he := h.good.exl hm
  have hc := h.cmd m hm
  rw [WN, wnts_getD (by omega)] at h0 ⊢
  unfold wntP at h0 ⊢
  split at h0
  · rename_i k7
    rw [if_pos k7]
    split at h0
    · rename_i hb
      rw [if_pos hb]
      refine ⟨by rw [he, exitsN, if_neg (by omega), if_neg (by omega)]; decide, .inl ⟨k7, rfl, ?_⟩⟩
      obtain ⟨z, hz, hez⟩ := List.any_eq_true.1 hb
      rw [decide_eq_true_eq] at hez
      rw [hez]; exact hz
    · omega
  · rename_i k7
    rw [if_neg k7]
    split at h0
    · omega
    · rename_i ks
      rw [if_neg ks]
      split at h0
      · omega
      · rename_i hs
        rw [if_neg hs]
        refine ⟨?_, .inr ⟨by simpa using ks, rfl, fun h => hs (.inl h), by simpa using fun h => hs (.inr h)⟩⟩
        unfold cmdOk at hc
        rw [if_neg k7, if_neg (by simpa using ks), if_neg (by omega)] at hc
        simp at hc
        exact hc.2
theorem Sx.ups (h : Sx A n y p cs fs) : Ups y.nodes (WN y p cs fs) := by
  have hl := h.good.len
  have hn := h.good.n11
  refine ⟨by omega, wnts_len _ _ _ _ _, fun m hm h0 => ?_, fun m hm h5 h0 => ?_⟩
  · obtain ⟨h1, _⟩ := wnt_ok h (by omega) h0
    have hx := h.good.ex m hm ((WN y p cs fs).getD m 0).toNat (by omega)
    refine ⟨?_, hx.2⟩
    by_cases hs : tgI y.nodes (WN y p cs fs) m = m
    · omega
    · refine Int.le_of_lt (h.good.up (by omega) ?_)
      rw [leadsB, Bool.and_eq_true, decide_eq_true_eq, decide_eq_true_eq]
      exact ⟨fun h => hs h.symm, getD_memI (by omega)⟩
  · rw [tgI, h0]; exact h.good.lp (by omega) h5
theorem Sx.eq (h : Sx A n y p cs fs) : EqLV y.nodes p (WN y p cs fs) (LVo y p cs fs) := flows_eq h.ups
def goesTo (xs : List Nd) (LV : List Int) (m : Nat) : Int := (xs.getD m default).ex.getD (LV.getD m 0).toNat 0
theorem goes_cases (h : Sx A n y p cs fs) {m : Nat} (hm : m < n) (h0 : 0 ≤ (LVo y p cs fs).getD m 0) :
    0 ≤ (WN y p cs fs).getD m 0 ∧ 0 ≤ goesTo y.nodes (LVo y p cs fs) m ∧ goesTo y.nodes (LVo y p cs fs) m < n ∧
    ((goesTo y.nodes (LVo y p cs fs) m = tgI y.nodes (WN y p cs fs) m ∧ (LVo y p cs fs).getD m 0 = (WN y p cs fs).getD m 0 ∧ tgI y.nodes (WN y p cs fs) m ≠ m ∧ Lets y.nodes p (WN y p cs fs) (LVo y p cs fs) m (tgI y.nodes (WN y p cs fs) m).toNat) ∨
     (goesTo y.nodes (LVo y p cs fs) m = m ∧ Rnd y.nodes p m ∧ (LVo y p cs fs).getD m 0 = 0)) := by
  have hl := h.good.len
  have hu := h.ups
  have hf := h.eq.fin m (by omega)
  unfold Fin at hf
  rcases hf with ⟨h1, h2⟩ | ⟨h1, ⟨h2, h3, h4⟩ | ⟨h2, ⟨h3, h4⟩ | ⟨h3, h4⟩⟩⟩
  · omega
  · have hg : goesTo y.nodes (LVo y p cs fs) m = tgI y.nodes (WN y p cs fs) m := by rw [goesTo, tgI, h2]
    have := hu.up m (by omega) h1
    exact ⟨h1, by omega, by omega, .inl ⟨hg, h2, h3, h4⟩⟩
  · have hg : goesTo y.nodes (LVo y p cs fs) m = m := by rw [goesTo, h4]; exact h.good.lp hm h3.1
    exact ⟨h1, by omega, by omega, .inr ⟨hg, h3, h4⟩⟩
  · omega
theorem goes_lv (h : Sx A n y p cs fs) : LvOk y.nodes (LVo y p cs fs) := by
  intro m hm h0
  have hl := h.good.len
  obtain ⟨h1, _, _, h2⟩ := goes_cases h (by omega) h0
  have := (wnt_ok h (by omega) h1).1
  rcases h2 with ⟨_, h2, _⟩ | ⟨_, h2, h3⟩
  · omega
  · omega
theorem goes_one (h : Sx A n y p cs fs) {m k t : Nat} (hm : m < n) (hk : k < n) (h0 : 0 ≤ (LVo y p cs fs).getD m 0) (h1 : 0 ≤ (LVo y p cs fs).getD k 0)
    (hmt : goesTo y.nodes (LVo y p cs fs) m = t) (hkt : goesTo y.nodes (LVo y p cs fs) k = t) (hs : isStrip (y.nodes.getD t default).kd = true) : m = k := by
  obtain ⟨a1, _, _, a2⟩ := goes_cases h hm h0
  obtain ⟨b1, _, _, b2⟩ := goes_cases h hk h1
  rcases a2 with ⟨e1, e2, e3, e4⟩ | ⟨e1, e2, e3⟩ <;> rcases b2 with ⟨f1, f2, f3, f4⟩ | ⟨f1, f2, f3⟩
  · have e5 : tgI y.nodes (WN y p cs fs) m = t := by omega
    have f5 : tgI y.nodes (WN y p cs fs) k = t := by omega
    rw [e5, Int.toNat_natCast] at e4
    rw [f5, Int.toNat_natCast] at f4
    rcases e4 with e4 | ⟨_, _, e4⟩
    · rw [hs] at e4; cases e4
    rcases f4 with f4 | ⟨_, _, f4⟩
    · rw [hs] at f4; cases f4
    rcases Nat.lt_trichotomy m k with hlt | heq | hgt
    · have := f4 m hlt
      rw [cmr_iff.2 ⟨by omega, a1, e5⟩] at this; cases this
    · exact heq
    · have := e4 k hgt
      rw [cmr_iff.2 ⟨by omega, b1, f5⟩] at this; cases this
  · have e5 : tgI y.nodes (WN y p cs fs) m = t := by omega
    have f5 : k = t := by omega
    subst f5
    rw [e5, Int.toNat_natCast] at e4
    rcases e4 with e4 | ⟨_, e4, _⟩
    · rw [hs] at e4; cases e4
    · exact absurd ⟨f2.1, f3⟩ e4
  · have f5 : tgI y.nodes (WN y p cs fs) k = t := by omega
    have e5 : m = t := by omega
    subst e5
    rw [f5, Int.toNat_natCast] at f4
    rcases f4 with f4 | ⟨_, f4, _⟩
    · rw [hs] at f4; cases f4
    · exact absurd ⟨e2.1, e3⟩ f4
  · omega
theorem goes_room (h : Sx A n y p cs fs) {m t : Nat} (hm : m < n) (h0 : 0 ≤ (LVo y p cs fs).getD m 0) (hmt : goesTo y.nodes (LVo y p cs fs) m = t) (hs : isStrip (y.nodes.getD t default).kd = true) :
    (p.slots.getD t []).getD 0 0 = 0 ∧ (m ≠ t → (y.nodes.getD t default).kd = 5 → 2 ≤ free (p.slots.getD t [])) := by
  obtain ⟨a1, _, _, a2⟩ := goes_cases h hm h0
  rcases a2 with ⟨e1, e2, e3, e4⟩ | ⟨e1, e2, e3⟩
  · have e5 : tgI y.nodes (WN y p cs fs) m = t := by omega
    rw [e5, Int.toNat_natCast] at e4
    rcases e4 with e4 | ⟨e4, _, _⟩
    · rw [hs] at e4; cases e4
    · rw [openR, if_pos hs, Bool.and_eq_true, Bool.or_eq_true, decide_eq_true_eq, decide_eq_true_eq, decide_eq_true_eq] at e4
      exact ⟨e4.1, fun _ h5 => e4.2.resolve_left (fun h => h h5)⟩
  · have : m = t := by omega
    subst this
    exact ⟨e2.2, fun h => absurd rfl h⟩
theorem atL_one {fs : List T3} {n : Int} {ln k : Nat} : ∀ i, i ≤ fs.length → (atL fs n ln i).getD k 0 = 1 → ∃ j, j < i ∧ (fs.getD j default).b = n ∧ (fs.getD j default).c.toNat = k ∧ (fs.getD j default).a = 1
  | 0, _, h => by
    simp only [atL, List.getD_eq_getElem?_getD, List.getElem?_replicate] at h
    split at h <;> simp at h
  | i + 1, hi, h => by
    rw [atL] at h
    unfold atS at h
    split at h
    · rename_i hb
      rw [getD_set2] at h
      split at h
      · rename_i hc
        exact ⟨i, by omega, hb, hc.1, h⟩
      · obtain ⟨j, h1, h2⟩ := atL_one i (by omega) h
        exact ⟨j, by omega, h2⟩
    · obtain ⟨j, h1, h2⟩ := atL_one i (by omega) h
      exact ⟨j, by omega, h2⟩
theorem atF_free (hf : FitF y.nodes fs) {m k : Nat} (hm : m < y.nodes.length) (h : fs.any (fun z => eqT ⟨1, m, k⟩ z) = false) {ln : Nat} : (atF fs m ln).getD k 0 ≠ 1 := by
  intro h1
  obtain ⟨j, h2, h3, h4, h5⟩ := atL_one _ (Nat.le_refl _) h1
  have := (hf.ok j h2 m hm h3).1
  rw [List.any_eq_false] at h
  refine h _ (mem_getD (d := default) h2) (eqT_iff.2 ?_)
  generalize fs.getD j default = f at *
  cases f
  simp only at h3 h4 h5 this
  rw [← h3, ← h5]
  congr 1
  omega
def advN (y : Ly) (p : Pl) (fs : List T3) (LV : List Int) (m : Nat) : List Int × Int := advL (p.slots.getD m []) (atF fs m (y.nodes.getD m default).ln.toNat) (decide (0 ≤ LV.getD m 0))
theorem bag_strip (h : Sx A n y p cs fs) {m : Nat} (hm : m < n) (h0 : 0 ≤ (LVo y p cs fs).getD m 0) (hs : isStrip (y.nodes.getD m default).kd = true) :
    (advN y p fs (LVo y p cs fs) m).2 = (p.slots.getD m []).getD ((y.nodes.getD m default).ln.toNat - 1) 0 ∧ (p.slots.getD m []).getD ((y.nodes.getD m default).ln.toNat - 1) 0 ≠ 0 := by
  have hl := h.good.len
  obtain ⟨a1, _⟩ := goes_cases h hm h0
  obtain ⟨_, ⟨k7, _⟩ | ⟨_, _, h1, h2⟩⟩ := wnt_ok h hm a1
  · rw [k7] at hs; exact absurd hs (by decide)
  · have hrow := h.fp.row m (by omega)
    have hst := h.fp.st m (by omega) hs
    refine ⟨?_, h1⟩
    have e : ((y.nodes.getD m default).ln - 1 : Int) = (((y.nodes.getD m default).ln.toNat - 1 : Nat) : Int) := by omega
    rw [e] at h2
    rw [advN, advL_out, decide_eq_true h0, hrow, if_pos ⟨rfl, atF_free h.ff (by omega) h2⟩]
theorem bag_none {LV : List Int} {m : Nat} (h0 : LV.getD m 0 < 0) : (advN y p fs LV m).2 = 0 := by
  rw [advN, advL_out, decide_eq_false (by omega), if_neg (by simp)]
end
end Go.Proofs.YtkhjenddapaejaaGreatDoor
namespace Go.Proofs.YtkhjenddapaejaaGreatDoor
open Go Go.Sym
open Go.Plant
section
variable {xs : List Nd} {p : Pl} {cs : List Int} {fs : List T3} {LV : List Int}
def mvOf (xs : List Nd) (p : Pl) (cs : List Int) (fs : List T3) (LV : List Int) (m : Nat) : T3 := ⟨bagOf xs p cs fs LV m, m, goesTo xs LV m⟩
theorem st1_len1 : ∀ i, (st1 xs p cs fs LV i).1.length = p.slots.length
  | 0 => rfl
  | i + 1 => by rw [st1]; simp only; split <;> simp [st1_len1 i]
theorem st1_len2 : ∀ i, (st1 xs p cs fs LV i).2.1.length = p.bins.length
  | 0 => rfl
  | i + 1 => by rw [st1]; simp only; split <;> (try split) <;> simp [st1_len2 i]
theorem st1_row {n : Nat} (hn : n < p.slots.length) : ∀ i, (st1 xs p cs fs LV i).1.getD n [] = if n < i ∧ isStrip (xs.getD n default).kd = true then (advL (p.slots.getD n []) (atF fs n (xs.getD n default).ln.toNat) (decide (0 ≤ LV.getD n 0))).1 else p.slots.getD n []
  | 0 => by simp [st1]
  | i + 1 => by
    have ih := st1_row hn i
    have hl := st1_len1 (xs := xs) (p := p) (cs := cs) (fs := fs) (LV := LV) i
    rw [st1]
    simp only
    by_cases h : isStrip (xs.getD i default).kd = true
    · rw [if_pos h, getD_set2, hl, ih]
      by_cases hin : i = n
      · subst hin; rw [if_pos ⟨rfl, hn⟩, if_pos ⟨by omega, h⟩]
      · rw [if_neg (fun h => hin h.1)]
        by_cases hlt : n < i
        · simp [hlt, show n < i + 1 by omega]
        · simp [hlt, show ¬ n < i + 1 by omega]
    · rw [if_neg h, ih]
      by_cases hin : i = n
      · subst hin; rw [if_neg (fun h2 => h h2.2), if_neg (fun h2 => h h2.2)]
      · by_cases hlt : n < i
        · simp [hlt, show n < i + 1 by omega]
        · simp [hlt, show ¬ n < i + 1 by omega]
theorem st1_bin {n : Nat} (hn : n < p.bins.length) : ∀ i, (st1 xs p cs fs LV i).2.1.getD n [] = if n < i ∧ ¬ isStrip (xs.getD n default).kd = true ∧ 0 ≤ LV.getD n 0 then (p.bins.getD n []).filter (fun y => !decide (y = cs.getD n 0)) else p.bins.getD n []
  | 0 => by simp [st1]
  | i + 1 => by
    have ih := st1_bin hn i
    have hl := st1_len2 (xs := xs) (p := p) (cs := cs) (fs := fs) (LV := LV) i
    have e : ∀ P : Prop, [Decidable P] → i ≠ n → (n < i + 1 ∧ P ↔ n < i ∧ P) := fun P _ h => and_congr_left fun _ => ⟨fun h2 => by omega, fun h2 => by omega⟩
    rw [st1]
    simp only
    by_cases h : isStrip (xs.getD i default).kd = true
    · rw [if_pos h, ih]
      by_cases hin : i = n
      · subst hin; rw [if_neg (fun h2 => h2.2.1 h), if_neg (fun h2 => h2.2.1 h)]
      · simp only [e _ hin]
    · rw [if_neg h]
      split
      · rename_i h0
        rw [getD_set2, hl]
        by_cases hin : i = n
        · subst hin
          have ih2 : (st1 xs p cs fs LV i).2.1.getD i [] = p.bins.getD i [] := by rw [ih, if_neg (by omega)]
          rw [if_pos ⟨rfl, hn⟩, if_pos ⟨by omega, h, h0⟩, ih2]
        · rw [if_neg (fun h => hin h.1), ih]; simp only [e _ hin]
      · rename_i h0
        rw [ih]
        by_cases hin : i = n
        · subst hin; rw [if_neg (fun h2 => h0 h2.2.2), if_neg (fun h2 => h0 h2.2.2)]
        · simp only [e _ hin]
theorem st1_mv : ∀ i, (st1 xs p cs fs LV i).2.2 = ((List.range i).filter fun m => decide (0 ≤ LV.getD m 0)).map (mvOf xs p cs fs LV)
  | 0 => rfl
  | i + 1 => by
    rw [st1, List.range_succ, List.filter_append, List.map_append, ← st1_mv i]
    simp only
    split
    · rename_i h
      rw [List.filter_cons_of_pos (by exact decide_eq_true h)]; rfl
    · rename_i h
      rw [List.filter_cons_of_neg (by simpa only [decide_eq_true_eq] using h)]; simp
theorem st2_row {ms : List T3} {s : List (List Int) × List (List Int)} {n : Nat} (hs : s.1.length = xs.length) (hn : n < xs.length) (hm : ∀ m ∈ ms, 0 ≤ m.c ∧ m.c < xs.length) :
    ∀ i, i ≤ ms.length → (st2 xs ms s i).1.length = xs.length ∧ (st2 xs ms s i).1.getD n [] = if isStrip (xs.getD n default).kd = true then ((ms.take i).filter fun m : T3 => decide (m.c = (n : Int))).foldl (fun r m => r.set 0 m.a) (s.1.getD n []) else s.1.getD n []
  | 0, _ => by simp [st2, hs]
  | i + 1, hi => by
    obtain ⟨hl, ih⟩ := st2_row hs hn hm i (by omega)
    have hmi := hm _ (mem_getD (d := default) (show i < ms.length by omega))
    rw [st2, take_getD (d := default) (show i < ms.length by omega), List.filter_append, List.foldl_append]
    generalize ms.getD i default = m at *
    by_cases h : isStrip (xs.getD m.c.toNat default).kd = true
    · rw [if_pos h]
      refine ⟨by simp [hl], ?_⟩
      simp only
      rw [getD_set2, hl]
      by_cases hc : m.c = n
      · have : m.c.toNat = n := by omega
        rw [this] at h ⊢
        rw [if_pos ⟨rfl, hn⟩, ih, if_pos h, if_pos h]
        simp [hc]
      · rw [if_neg (by omega), ih]
        simp [hc]
    · rw [if_neg h]
      refine ⟨hl, ?_⟩
      simp only
      rw [ih]
      by_cases hc : m.c = n
      · have : m.c.toNat = n := by omega
        rw [this] at h
        rw [if_neg h, if_neg h]
      · simp [hc]
theorem st2_bin {ms : List T3} {s : List (List Int) × List (List Int)} {n : Nat} (hs : s.2.length = xs.length) (hn : n < xs.length) (hm : ∀ m ∈ ms, 0 ≤ m.c ∧ m.c < xs.length) :
    ∀ i, i ≤ ms.length → (st2 xs ms s i).2.length = xs.length ∧ (st2 xs ms s i).2.getD n [] = if isStrip (xs.getD n default).kd = true then s.2.getD n [] else ((ms.take i).filter fun m : T3 => decide (m.c = (n : Int))).foldl (fun r m => putL r m.a) (s.2.getD n [])
  | 0, _ => by simp [st2, hs]
  | i + 1, hi => by
    obtain ⟨hl, ih⟩ := st2_bin hs hn hm i (by omega)
    have hmi := hm _ (mem_getD (d := default) (show i < ms.length by omega))
    rw [st2, take_getD (d := default) (show i < ms.length by omega), List.filter_append, List.foldl_append]
    generalize ms.getD i default = m at *
    by_cases h : isStrip (xs.getD m.c.toNat default).kd = true
    · rw [if_pos h]
      refine ⟨hl, ?_⟩
      simp only
      rw [ih]
      by_cases hc : m.c = n
      · have : m.c.toNat = n := by omega
        rw [this] at h
        rw [if_pos h, if_pos h]
      · simp [hc]
    · rw [if_neg h]
      refine ⟨by simp [hl], ?_⟩
      simp only
      rw [getD_set2, hl]
      by_cases hc : m.c = n
      · have : m.c.toNat = n := by omega
        rw [this] at h ⊢
        rw [if_pos ⟨rfl, hn⟩, ih, if_neg h, if_neg h]
        simp [hc]
      · rw [if_neg (by omega), ih]
        simp [hc]
end
def inn (xs : List Nd) (LV : List Int) (t : Nat) : List Nat := (List.range xs.length).filter fun m => decide (0 ≤ LV.getD m 0) && decide (goesTo xs LV m = t)
def outB (xs : List Nd) (p : Pl) (cs : List Int) (fs : List T3) (LV : List Int) (t : Nat) : List Int := if 0 ≤ LV.getD t 0 then [bagOf xs p cs fs LV t] else []
theorem filter_one {α : Type} {q : α → Bool} : ∀ {l : List α}, l.Nodup → (∀ a ∈ l, ∀ b ∈ l, q a = true → q b = true → a = b) → l.filter q = [] ∨ ∃ a, a ∈ l ∧ q a = true ∧ l.filter q = [a]
  | [], _, _ => .inl rfl
  | x :: l, hd, h => by
    rw [List.nodup_cons] at hd
    have ih := filter_one hd.2 (fun a ha b hb => h a (List.mem_cons_of_mem _ ha) b (List.mem_cons_of_mem _ hb))
    by_cases hx : q x = true
    · rw [List.filter_cons_of_pos hx]
      refine .inr ⟨x, List.mem_cons_self, hx, ?_⟩
      congr 1
      rw [List.filter_eq_nil_iff]
      intro a ha hqa
      have := h x List.mem_cons_self a (List.mem_cons_of_mem _ ha) hx hqa
      rw [this] at hd
      exact hd.1 ha
    · rw [List.filter_cons_of_neg (by simpa using hx)]
      rcases ih with ih | ⟨a, ha, hqa, ih⟩
      · exact .inl ih
      · exact .inr ⟨a, List.mem_cons_of_mem _ ha, hqa, ih⟩
section
variable {A n : Nat} {y : Ly} {p : Pl} {cs : List Int} {fs : List T3}
abbrev stepY (y : Ly) (p : Pl) (cs : List Int) (fs : List T3) : Pl × List T3 := stepP y.nodes p cs fs (LVo y p cs fs)
abbrev innY (y : Ly) (p : Pl) (cs : List Int) (fs : List T3) (t : Nat) : List Nat := inn y.nodes (LVo y p cs fs) t
abbrev bagY (y : Ly) (p : Pl) (cs : List Int) (fs : List T3) (m : Nat) : Int := bagOf y.nodes p cs fs (LVo y p cs fs) m
abbrev outY (y : Ly) (p : Pl) (cs : List Int) (fs : List T3) (m : Nat) : List Int := outB y.nodes p cs fs (LVo y p cs fs) m
theorem mv_filter {xs : List Nd} {LV : List Int} {t : Nat} : (((List.range xs.length).filter fun m => decide (0 ≤ LV.getD m 0)).map (mvOf xs p cs fs LV)).filter (fun m : T3 => decide (m.c = (t : Int))) = (inn xs LV t).map (mvOf xs p cs fs LV) := by
  rw [List.filter_map, List.filter_filter, inn]
  congr 2
  funext m
  show (decide (goesTo xs LV m = t) && decide (0 ≤ LV.getD m 0)) = _
  rw [Bool.and_comm]
theorem mv_to (h : Sx A n y p cs fs) : ∀ m ∈ (st1 y.nodes p cs fs (LVo y p cs fs) y.nodes.length).2.2, 0 ≤ m.c ∧ m.c < y.nodes.length :=
  st1_to h.good.ex (goes_lv h) _ (Nat.le_refl _)
theorem step_slot (h : Sx A n y p cs fs) {t : Nat} (ht : t < n) :
    (stepY y p cs fs).1.slots.getD t [] = if isStrip (y.nodes.getD t default).kd = true then (innY y p cs fs t).foldl (fun r m => r.set 0 (bagY y p cs fs m)) (advN y p fs (LVo y p cs fs) t).1 else p.slots.getD t [] := by
  have hl := h.good.len
  have h1 := (st2_row (n := t) (s := ((st1 y.nodes p cs fs (LVo y p cs fs) y.nodes.length).1, (st1 y.nodes p cs fs (LVo y p cs fs) y.nodes.length).2.1)) (by simp only; rw [st1_len1, h.fp.sl]) (by omega) (mv_to h) _ (Nat.le_refl _)).2
  show (st2 _ _ _ _).1.getD t [] = _
  rw [h1, List.take_length, st1_mv, mv_filter, List.foldl_map]
  simp only
  rw [st1_row (by rw [h.fp.sl]; omega)]
  by_cases hs : isStrip (y.nodes.getD t default).kd = true
  · rw [if_pos hs, if_pos hs, if_pos ⟨by omega, hs⟩]; rfl
  · rw [if_neg hs, if_neg hs, if_neg (fun h => hs h.2)]
theorem step_bin (h : Sx A n y p cs fs) {t : Nat} (ht : t < n) :
    (stepY y p cs fs).1.bins.getD t [] = if isStrip (y.nodes.getD t default).kd = true then p.bins.getD t [] else (innY y p cs fs t).foldl (fun r m => putL r (bagY y p cs fs m)) (if 0 ≤ (LVo y p cs fs).getD t 0 then (p.bins.getD t []).filter (fun z => !decide (z = cs.getD t 0)) else p.bins.getD t []) := by
  have hl := h.good.len
  have h1 := (st2_bin (n := t) (s := ((st1 y.nodes p cs fs (LVo y p cs fs) y.nodes.length).1, (st1 y.nodes p cs fs (LVo y p cs fs) y.nodes.length).2.1)) (by simp only; rw [st1_len2, h.fp.bl]) (by omega) (mv_to h) _ (Nat.le_refl _)).2
  show (st2 _ _ _ _).2.getD t [] = _
  rw [h1, List.take_length, st1_mv, mv_filter, List.foldl_map]
  simp only
  rw [st1_bin (by rw [h.fp.bl]; omega)]
  by_cases hs : isStrip (y.nodes.getD t default).kd = true
  · rw [if_pos hs, if_pos hs, if_neg (fun h => h.2.1 hs)]
  · rw [if_neg hs, if_neg hs]
    by_cases h0 : 0 ≤ (LVo y p cs fs).getD t 0
    · rw [if_pos ⟨by omega, hs, h0⟩, if_pos h0]; rfl
    · rw [if_neg (fun h => h0 h.2.2), if_neg h0]; rfl
theorem inn_strip (h : Sx A n y p cs fs) {t : Nat} (hs : isStrip (y.nodes.getD t default).kd = true) : innY y p cs fs t = [] ∨ ∃ m, m < n ∧ 0 ≤ (LVo y p cs fs).getD m 0 ∧ goesTo y.nodes (LVo y p cs fs) m = t ∧ innY y p cs fs t = [m] := by
  have hl := h.good.len
  rcases filter_one (q := fun m => decide (0 ≤ (LVo y p cs fs).getD m 0) && decide (goesTo y.nodes (LVo y p cs fs) m = t)) (l := List.range y.nodes.length) List.nodup_range (fun a ha b hb qa qb => by
      simp only [Bool.and_eq_true, decide_eq_true_eq] at qa qb
      rw [List.mem_range] at ha hb
      exact goes_one h (by omega) (by omega) qa.1 qb.1 qa.2 qb.2 hs) with h1 | ⟨m, h1, h2, h3⟩
  · exact .inl h1
  · simp only [Bool.and_eq_true, decide_eq_true_eq] at h2
    rw [List.mem_range] at h1
    exact .inr ⟨m, by omega, h2.1, h2.2, h3⟩
theorem bag_ne (h : Sx A n y p cs fs) (hpos : ∀ t, t < n → ∀ b ∈ p.bins.getD t [], b ≠ 0) {m : Nat} (hm : m < n) (h0 : 0 ≤ (LVo y p cs fs).getD m 0) : bagY y p cs fs m ≠ 0 := by
  show bagOf _ _ _ _ _ _ ≠ 0
  rw [bagOf]
  split
  · rename_i hs
    have := bag_strip h hm h0 hs
    have h2 : (advN y p fs (LVo y p cs fs) m).2 ≠ 0 := by rw [this.1]; exact this.2
    exact h2
  · rename_i hs
    obtain ⟨a1, _⟩ := goes_cases h hm h0
    obtain ⟨_, ⟨k7, _, hb⟩ | ⟨hs2, _⟩⟩ := wnt_ok h hm a1
    · exact hpos m hm _ hb
    · exact absurd hs2 hs
theorem nz_one {b : Int} (h : b ≠ 0) : nz [b] = [b] := by rw [nz_cons h]; rfl
theorem step_nz (h : Sx A n y p cs fs) (hpos : ∀ t, t < n → ∀ b ∈ p.bins.getD t [], b ≠ 0) {t : Nat} (ht : t < n) (hs : isStrip (y.nodes.getD t default).kd = true) :
    nz ((stepY y p cs fs).1.slots.getD t []) ++ outY y p cs fs t = (innY y p cs fs t).map (bagY y p cs fs) ++ nz (p.slots.getD t []) := by
  have hl := h.good.len
  rw [step_slot h ht, if_pos hs]
  have e1 := advL_nz (p.slots.getD t []) (atF fs t (y.nodes.getD t default).ln.toNat) (decide (0 ≤ (LVo y p cs fs).getD t 0))
  have e2 : nz [(advN y p fs (LVo y p cs fs) t).2] = outY y p cs fs t := by
    show _ = outB _ _ _ _ _ _
    rw [outB]
    split
    · rename_i h0
      have := bag_ne h hpos ht h0
      have e3 : bagOf y.nodes p cs fs (LVo y p cs fs) t = (advN y p fs (LVo y p cs fs) t).2 := by rw [bagOf, if_pos hs]; rfl
      rw [e3, nz_one (by rw [← e3]; exact this)]
    · rename_i h0
      rw [bag_none (by omega)]; rfl
  have e1' : nz (advN y p fs (LVo y p cs fs) t).1 ++ outY y p cs fs t = nz (p.slots.getD t []) := by rw [← e2]; exact e1
  rcases inn_strip h hs with h1 | ⟨m, hm, h0, hg, h1⟩
  · rw [h1]; exact e1'
  · rw [h1]
    have hb := bag_ne h hpos hm h0
    have hr := (goes_room h hm h0 hg hs).1
    have hz := advL_head (p.slots.getD t []) (atF fs t (y.nodes.getD t default).ln.toNat) (decide (0 ≤ (LVo y p cs fs).getD t 0)) hr
    have hlen : (advN y p fs (LVo y p cs fs) t).1.length = (p.slots.getD t []).length := advL_len _ _ _
    have hrow := h.fp.row t (by omega)
    have hst := h.fp.st t (by omega) hs
    rw [← e1']
    have hz' : (advN y p fs (LVo y p cs fs) t).1.getD 0 0 = 0 := hz
    generalize (advN y p fs (LVo y p cs fs) t).1 = a at *
    cases a with
    | nil => rw [List.length_nil] at hlen; omega
    | cons z r =>
      simp at hz'
      subst hz'
      simp only [List.foldl_cons, List.foldl_nil, List.set_cons_zero, List.map_cons, List.map_nil, nz_zero, nz_cons hb, List.cons_append, List.nil_append]
end
end Go.Proofs.YtkhjenddapaejaaGreatDoor
namespace Go.Proofs.YtkhjenddapaejaaGreatDoor
open Go Go.Sym
open Go.Plant
def sumN (f : Nat → Nat) : Nat → Nat
  | 0 => 0
  | k + 1 => sumN f k + f k
theorem sumN_congr {f g : Nat → Nat} : ∀ {k}, (∀ i, i < k → f i = g i) → sumN f k = sumN g k
  | 0, _ => rfl
  | k + 1, h => by rw [sumN, sumN, sumN_congr fun i hi => h i (by omega), h k (by omega)]
theorem sumN_add {f g : Nat → Nat} : ∀ k, sumN (fun i => f i + g i) k = sumN f k + sumN g k
  | 0 => rfl
  | k + 1 => by rw [sumN, sumN, sumN, sumN_add k]; omega
theorem sumN_zero : ∀ k, sumN (fun _ => 0) k = 0
  | 0 => rfl
  | k + 1 => by rw [sumN, sumN_zero k]
theorem sumN_swap {g : Nat → Nat → Nat} {M : Nat} : ∀ N, sumN (fun t => sumN (fun m => g t m) M) N = sumN (fun m => sumN (fun t => g t m) N) M
  | 0 => by rw [sumN]; exact (sumN_zero M).symm
  | N + 1 => by
    rw [sumN, sumN_swap N, ← sumN_add]
    rfl
theorem sumN_one {c : Nat} {v : Nat} : ∀ {N}, sumN (fun t => if t = c then v else 0) N = if c < N then v else 0
  | 0 => by simp [sumN]
  | N + 1 => by
    rw [sumN, sumN_one]
    by_cases h : N = c
    · subst h; simp
    · rw [if_neg h]
      by_cases h2 : c < N
      · rw [if_pos h2, if_pos (by omega)]; rfl
      · rw [if_neg h2, if_neg (by omega)]
theorem count_range {q : Nat → Bool} {f : Nat → Int} {b : Int} : ∀ N, (((List.range N).filter q).map f).count b = sumN (fun m => if q m = true ∧ f m = b then 1 else 0) N
  | 0 => rfl
  | N + 1 => by
    rw [List.range_succ, List.filter_append, List.map_append, List.count_append, count_range N, sumN]
    congr 1
    by_cases h : q N = true
    · by_cases h2 : f N = b
      · simp [h, h2]
      · simp [h, h2]
    · simp [h]
def rowP (p : Pl) (t : Nat) : List Int := nz (p.slots.getD t []) ++ p.bins.getD t []
def allB (p : Pl) : Nat → List Int
  | 0 => []
  | t + 1 => allB p t ++ rowP p t
theorem allB_count (p : Pl) (b : Int) : ∀ N, (allB p N).count b = sumN (fun t => (rowP p t).count b) N
  | 0 => rfl
  | N + 1 => by rw [allB, List.count_append, allB_count p b N]; rfl
theorem allB_mem {p : Pl} {b : Int} : ∀ {N}, b ∈ allB p N ↔ ∃ t, t < N ∧ b ∈ rowP p t
  | 0 => by simp [allB]
  | N + 1 => by
    rw [allB, List.mem_append, allB_mem]
    constructor
    · rintro (⟨t, h, h2⟩ | h)
      · exact ⟨t, by omega, h2⟩
      · exact ⟨N, by omega, h⟩
    · rintro ⟨t, h, h2⟩
      by_cases ht : t = N
      · subst ht; exact .inr h2
      · exact .inl ⟨t, by omega, h2⟩
theorem allB_row_le {p : Pl} {t : Nat} : ∀ {N}, t < N → (rowP p t).length ≤ (allB p N).length
  | N + 1, h => by
    rw [allB, List.length_append]
    by_cases ht : t = N
    · subst ht; omega
    · have := allB_row_le (p := p) (t := t) (N := N) (by omega); omega
theorem allB_nodup_row {p : Pl} {t : Nat} : ∀ {N}, t < N → (allB p N).Nodup → (rowP p t).Nodup
  | N + 1, h, hd => by
    rw [allB, List.nodup_append] at hd
    by_cases ht : t = N
    · subst ht; exact hd.2.1
    · exact allB_nodup_row (by omega) hd.1
theorem putL_count {l : List Int} {x b : Int} : (putL l x).count b = l.count b + if x = b then 1 else 0 := by
  have h : l.count b = (l.takeWhile (fun y => decide (y < x))).count b + (l.dropWhile (fun y => decide (y < x))).count b := by
    rw [← List.count_append, List.takeWhile_append_dropWhile]
  rw [putL, List.count_append, List.count_append, h]
  by_cases hx : x = b
  · simp [hx]; omega
  · simp [hx]
theorem putLs_count {b : Int} {f : Nat → Int} : ∀ {ms : List Nat} {l : List Int}, (ms.foldl (fun r m => putL r (f m)) l).count b = l.count b + (ms.map f).count b
  | [], l => by simp
  | m :: ms, l => by
    rw [List.foldl_cons, putLs_count, putL_count, List.map_cons, List.count_cons]
    by_cases h : f m = b
    · simp [h]; omega
    · simp [h]
theorem filter_ne_count {l : List Int} {c b : Int} (hd : l.Nodup) (hc : c ∈ l) : (l.filter fun z => !decide (z = c)).count b + (if c = b then 1 else 0) = l.count b := by
  by_cases h : c = b
  · subst h
    have h1 : (l.filter fun z => !decide (z = c)).count c = 0 := by
      rw [List.count_eq_zero]
      intro h2
      have := (List.mem_filter.1 h2).2
      simp at this
    rw [h1, List.Nodup.count hd, if_pos rfl, if_pos hc]
  · rw [if_neg h, Nat.add_zero, List.count_filter]
    simp; exact fun h2 => h h2.symm
structure PInv (y : Ly) (p : Pl) (L : List Int) : Prop where
  fp : FitP y.nodes p
  perm : (allB p y.nodes.length).Perm L
  srt : ∀ t, t < y.nodes.length → (p.bins.getD t []).Pairwise (· ≤ ·)
structure LOk (L : List Int) : Prop where
  nd : L.Nodup
  pos : ∀ b ∈ L, 1 ≤ b ∧ b ≤ 40
  len : L.length ≤ 40
section
variable {A n : Nat} {y : Ly} {p : Pl} {cs : List Int} {fs : List T3} {L : List Int}
theorem PInv.nd (h : PInv y p L) (hL : LOk L) : (allB p y.nodes.length).Nodup := (h.perm.nodup_iff).2 hL.nd
theorem PInv.mem (h : PInv y p L) {b : Int} : b ∈ allB p y.nodes.length ↔ b ∈ L := h.perm.mem_iff
theorem PInv.rowpos (h : PInv y p L) (hL : LOk L) {t : Nat} (ht : t < y.nodes.length) {b : Int} (hb : b ∈ rowP p t) : 1 ≤ b ∧ b ≤ 40 :=
  hL.pos b (h.mem.1 (allB_mem.2 ⟨t, ht, hb⟩))
theorem PInv.binpos (h : PInv y p L) (hL : LOk L) {t : Nat} (ht : t < y.nodes.length) : ∀ b ∈ p.bins.getD t [], b ≠ 0 := fun b hb => by
  have := h.rowpos hL ht (b := b) (List.mem_append.2 (.inr hb)); omega
theorem step_row (h : Sx A n y p cs fs) (hi : PInv y p L) (hL : LOk L) {t : Nat} (ht : t < n) (b : Int) :
    (rowP (stepY y p cs fs).1 t).count b + (outY y p cs fs t).count b = ((innY y p cs fs t).map (bagY y p cs fs)).count b + (rowP p t).count b := by
  have hl := h.good.len
  have hpos : ∀ t, t < n → ∀ b ∈ p.bins.getD t [], b ≠ 0 := fun t ht => hi.binpos hL (by omega)
  unfold rowP
  rw [List.count_append, List.count_append]
  by_cases hs : isStrip (y.nodes.getD t default).kd = true
  · have h1 := congrArg (List.count b) (step_nz h hpos ht hs)
    rw [List.count_append, List.count_append] at h1
    rw [step_bin h ht, if_pos hs]
    omega
  · rw [step_slot h ht, step_bin h ht, if_neg hs, if_neg hs, putLs_count]
    show _ + (outB _ _ _ _ _ _).count b = _
    rw [outB]
    have hnd : (p.bins.getD t []).Nodup := by
      have := allB_nodup_row (by omega) (hi.nd hL) (p := p) (t := t)
      rw [rowP, List.nodup_append] at this
      exact this.2.1
    split
    · rename_i h0
      obtain ⟨a1, _⟩ := goes_cases h ht h0
      obtain ⟨_, ⟨k7, _, hb⟩ | ⟨hs2, _⟩⟩ := wnt_ok h ht a1
      · have := filter_ne_count (b := b) hnd hb
        have e : (bagOf y.nodes p cs fs (LVo y p cs fs) t) = cs.getD t 0 := by rw [bagOf, if_neg hs]
        rw [e, List.count_singleton]
        simp only [beq_iff_eq]
        have e2 : (if cs.getD t 0 = b then 1 else 0) = (if cs.getD t 0 = b then 1 else 0 : Nat) := rfl
        omega
      · exact absurd hs2 hs
    · simp; omega
theorem step_perm (h : Sx A n y p cs fs) (hi : PInv y p L) (hL : LOk L) : (allB (stepY y p cs fs).1 y.nodes.length).Perm L := by
  have hl := h.good.len
  refine List.Perm.trans ?_ hi.perm
  rw [List.perm_iff_count]
  intro b
  rw [allB_count, allB_count]
  have h1 : sumN (fun t => (rowP (stepY y p cs fs).1 t).count b + (outY y p cs fs t).count b) n = sumN (fun t => ((innY y p cs fs t).map (bagY y p cs fs)).count b + (rowP p t).count b) n := sumN_congr fun t ht => step_row h hi hL ht b
  rw [sumN_add, sumN_add] at h1
  have h2 : sumN (fun t => ((innY y p cs fs t).map (bagY y p cs fs)).count b) n = sumN (fun t => (outY y p cs fs t).count b) n := by
    have e1 : ∀ t, t < n → ((innY y p cs fs t).map (bagY y p cs fs)).count b = sumN (fun m => if t = (goesTo y.nodes (LVo y p cs fs) m).toNat then (if 0 ≤ (LVo y p cs fs).getD m 0 ∧ bagY y p cs fs m = b then 1 else 0) else 0) n := fun t ht => by
      show (((List.range y.nodes.length).filter _).map _).count b = _
      rw [count_range, hl]
      refine sumN_congr fun m hm => ?_
      simp only [Bool.and_eq_true, decide_eq_true_eq]
      by_cases h0 : 0 ≤ (LVo y p cs fs).getD m 0
      · obtain ⟨_, g1, g2, _⟩ := goes_cases h hm h0
        by_cases hg : goesTo y.nodes (LVo y p cs fs) m = t
        · simp [h0, hg]
        · simp [hg, show ¬ t = (goesTo y.nodes (LVo y p cs fs) m).toNat by omega]
      · rw [if_neg (fun h2 => h0 h2.1.1)]
        split
        · rw [if_neg (fun h2 => h0 h2.1)]
        · rfl
    rw [sumN_congr e1, sumN_swap]
    refine sumN_congr fun m hm => ?_
    rw [sumN_one]
    show _ = (outB _ _ _ _ _ _).count b
    rw [outB]
    by_cases h0 : 0 ≤ (LVo y p cs fs).getD m 0
    · obtain ⟨_, g1, g2, _⟩ := goes_cases h hm h0
      rw [if_pos (by omega), if_pos h0, List.count_singleton]
      by_cases hb : bagOf y.nodes p cs fs (LVo y p cs fs) m = b
      · rw [if_pos ⟨h0, hb⟩, if_pos (by simpa using hb)]
      · rw [if_neg (fun h2 => hb h2.2), if_neg (by simpa using hb)]
    · rw [if_neg h0, if_neg (fun h2 : 0 ≤ (LVo y p cs fs).getD m 0 ∧ bagY y p cs fs m = b => h0 h2.1)]
      simp
  rw [hl]
  omega
theorem step_inv (h : Sx A n y p cs fs) (hi : PInv y p L) (hL : LOk L) : PInv y (stepY y p cs fs).1 L := by
  have hl := h.good.len
  have hp := step_perm h hi hL
  have hok := st2_ok (ms := (st1 y.nodes p cs fs (LVo y p cs fs) y.nodes.length).2.2) (st1_ok (cs := cs) (fs := fs) (LV := LVo y p cs fs) hi.fp hi.srt _ (Nat.le_refl _)) (st1 y.nodes p cs fs (LVo y p cs fs) y.nodes.length).2.2.length
  refine ⟨⟨hi.fp.xl, hok.l1, hok.l2, hok.r1, fun t ht => ?_, hi.fp.ln, hi.fp.st, hi.fp.ex⟩, hp, fun t ht => (hok.r2 t ht).1⟩
  have h1 := allB_row_le (p := (stepY y p cs fs).1) ht
  rw [hp.length_eq] at h1
  have := hL.len
  have h2 : ((stepY y p cs fs).1.bins.getD t []).length ≤ (rowP (stepY y p cs fs).1 t).length := by rw [rowP, List.length_append]; omega
  omega
end
end Go.Proofs.YtkhjenddapaejaaGreatDoor
namespace Go.Proofs.YtkhjenddapaejaaGreatDoor
open Go Go.Sym
open Go.Plant
theorem moved_ok (xs : List Nd) (p : Pl) (cs : List Int) (fs : List T3) (LV : List Int) : (stepP xs p cs fs LV).2.Pairwise (fun a b => a.b < b.b) ∧ (∀ m ∈ (stepP xs p cs fs LV).2, 0 ≤ m.b ∧ m.b < xs.length) ∧ (stepP xs p cs fs LV).2.length ≤ xs.length := by
  have e : (stepP xs p cs fs LV).2 = (((List.range xs.length).filter fun m => decide (0 ≤ LV.getD m 0)).map (mvOf xs p cs fs LV)).filter fun m => !decide (m.b = m.c) := by
    show List.filter _ (st1 _ _ _ _ _ _).2.2 = _
    rw [st1_mv]
  rw [e]
  refine ⟨List.Pairwise.filter _ (List.pairwise_map.2 (List.Pairwise.filter _ (List.Pairwise.imp ?_ List.pairwise_lt_range))), fun m hm => ?_, ?_⟩
  · intro a b h
    simp only [mvOf]
    omega
  · have h1 := (List.mem_filter.1 hm).1
    obtain ⟨k, hk, rfl⟩ := List.mem_map.1 h1
    have := List.mem_range.1 (List.mem_filter.1 hk).1
    simp only [mvOf]
    omega
  · refine Nat.le_trans (List.length_filter_le _ _) ?_
    rw [List.length_map]
    refine Nat.le_trans (List.length_filter_le _ _) ?_
    rw [List.length_range]
    exact Nat.le_refl _
theorem moved_asc (xs : List Nd) (p : Pl) (cs : List Int) (fs : List T3) (LV : List Int) : Asc (stepP xs p cs fs LV).2 := by
  intro i hi
  have := pw_getD (d := default) (moved_ok xs p cs fs LV).1 (show i < i + 1 by omega) hi
  omega
theorem moved_sml (xs : List Nd) (p : Pl) (cs : List Int) (fs : List T3) (LV : List Int) (h : xs.length ≤ 1000) : Sml (stepP xs p cs fs LV).2 := by
  intro i hi
  have := (moved_ok xs p cs fs LV).2.1 _ (mem_getD (d := default) hi)
  omega
theorem pstep_ok (y : Ly) (p : Pl) (cs : List Int) (fs : List T3) (hs : Sml7 y) (hv : validE y = 0) (hr : ExOk y.nodes) (hp : FitP y.nodes p) (hb : possR y.nodes cs fs = 0)
    (hN : y.nodes.length ≤ 11) (hc : cs.length = y.nodes.length) (hf : FitF y.nodes fs)
    (hx : ∀ m, m < y.nodes.length → 0 ≤ (wnts y.nodes p cs fs y.nodes.length).getD m 0 → (wnts y.nodes p cs fs y.nodes.length).getD m 0 < (y.nodes.getD m default).ex.length)
    (hol : (order y.nodes).length ≤ 1000) (hord : ∀ i, i < (order y.nodes).length → 0 ≤ (order y.nodes).getD i 0 ∧ (order y.nodes).getD i 0 < y.nodes.length) (LV EN : List Int)
    (hLl : LV.length = y.nodes.length) (hx1 : LvOk y.nodes LV) (hbs : ∀ n, n < y.nodes.length → (p.bins.getD n []).Pairwise (· ≤ ·)) (hLV : flows y.nodes p (wnts y.nodes p cs fs y.nodes.length) (order y.nodes) = (LV, EN)) :
    SatG Tryz.prog tab 16 [] [y.av, p.av, IS cs, .sl (t3s fs) false] [] (.tup [(stepP y.nodes p cs fs LV).1.av, .sl (t3s (stepP y.nodes p cs fs LV).2) false, I 0]) := by
  have h1 := enew_sat y hs hv hr
  have h2 := fits_sat y p (order y.nodes) hp
  have h3 := refused_sat y (order y.nodes) cs fs hs.n (by omega) hf.len hp.ex
  have h4 := estep_sat y p (order y.nodes) cs fs hp hN hc hf hx hol hord LV EN hLl hx1 hr hbs hLV
  have h5 := (moved_ok y.nodes p cs fs LV).2.2
  have h6 := sortP_sat _ (by omega) (moved_asc y.nodes p cs fs LV) (moved_sml y.nodes p cs fs LV (by omega))
  rw [hb] at h3
  generalize stepP y.nodes p cs fs LV = r at *
  obtain ⟨⟨q1, q2⟩, mv⟩ := r
  simp only at h4 h5 h6 ⊢
  refine uFN Tryz.func16 Tryz.ntmps16 ?_; intro w e X hC
  refine uA ?_
  refine uR ?_; intro K hK
  refine callP uTS (h1) uTS uTS uTS ?_; refine uS ?_
  refine hK _ ?_; clear hK K
  refine uR ?_; intro K hK
  refine callF uTS (h2) uTS uTS uTS ?_; refine uS ?_
  refine hK _ ?_; clear hK K
  refine uF ?_
  refine uR ?_; intro K hK
  refine callF uTS (h3) uTS uTS uTS ?_; refine uS ?_
  refine hK _ ?_; clear hK K
  refine uR ?_; intro K hK
  refine hK _ ?_; clear hK K
  refine uF ?_
  refine uR ?_; intro K hK
  have z := (And.intro @Bool.or_true (And.intro @Bool.true_or @Bool.false_or)); refine callE [] [(143, 32, 100, 1), (401, 32, 101, 1), (402, 32, 102, 1)] false (h4) (uTR1 z) (uTR1 z) (uTE1 z) (uTE1 z) (uTE1 z) (uTE1 z) (uTE1 z) (uTE1 z) (uTE1 z) (uTE1 z) (uTE1 z) (uTE1 z) (uTE1 z) (uTE1 z) (uTE1 z) (uTE1 z) (uTE1 z) ?_; refine uQS1 z ?_; clear z
  refine hK _ ?_; clear hK K
  refine uR ?_; intro K hK
  refine callE [(0, 0, 402, 32)] [(402, 32, 0, 0)] true (h6) uTR uTR uTE uTE uTE uTE uTE uTE uTE uTE uTE uTE uTE uTE uTE uTE uTE ?_; refine uQS ?_
  refine hK _ ?_; clear hK K
  repeat refine uA ?_
  refine awp_ret ?_; rw [show Tryz.f16.results.toList = [.cell 8 34, .tmp 9, .tmp 10] from rfl]; (refine (retN (by simp only [go_sem, Nat.reduceAdd, Nat.reduceSub, Nat.reduceMul, Nat.reduceLT, Nat.reduceEqDiff, Nat.reduceBEq, Nat.reduceLeDiff, Int.reduceToNat, ↓reduceIte, Int.reduceEq, Int.reduceLT, Int.reduceLE, Int.reduceAdd, Int.reduceSub, Int.reduceNeg, reduceCtorEq, retAV, resV] <;> simp) (by simp only [go_sem, Nat.reduceAdd, Nat.reduceSub, Nat.reduceMul, Nat.reduceLT, Nat.reduceEqDiff, Nat.reduceBEq, Nat.reduceLeDiff, Int.reduceToNat, ↓reduceIte, Int.reduceEq, Int.reduceLT, Int.reduceLE, Int.reduceAdd, Int.reduceSub, Int.reduceNeg, reduceCtorEq, retAV, resV] <;> trivial) ?_); simp only [go_sem, Nat.reduceAdd, Nat.reduceSub, Nat.reduceMul, Nat.reduceLT, Nat.reduceEqDiff, Nat.reduceBEq, Nat.reduceLeDiff, Int.reduceToNat, ↓reduceIte, Int.reduceEq, Int.reduceLT, Int.reduceLE, Int.reduceAdd, Int.reduceSub, Int.reduceNeg, reduceCtorEq, retAV, resV])
end Go.Proofs.YtkhjenddapaejaaGreatDoor
namespace Go.Proofs.YtkhjenddapaejaaGreatDoor
open Go Go.Sym
open Go.Plant
def upF (b : Int) (k : Nat) : List Int := (List.range k).map fun (i : Nat) => b + i
theorem upF_succ (b : Int) (k : Nat) : upF b (k + 1) = upF b k ++ [b + k] := by simp [upF, List.range_succ]
theorem upF_len (b : Int) (k : Nat) : (upF b k).length = k := by simp [upF]
theorem upF_mem {b e : Int} {k : Nat} : e ∈ upF b k ↔ b ≤ e ∧ e < b + k := by
  simp only [upF, List.mem_map, List.mem_range]
  constructor
  · rintro ⟨i, h, rfl⟩; omega
  · rintro ⟨h1, h2⟩; exact ⟨(e - b).toNat, by omega, by omega⟩
theorem upF_add (b : Int) (j : Nat) : ∀ k, upF b (j + k) = upF b j ++ upF (b + j) k
  | 0 => by simp [upF]
  | k + 1 => by
    rw [← Nat.add_assoc, upF_succ, upF_succ, upF_add b j k, List.append_assoc]
    congr 3
    omega
theorem upF_nodup (b : Int) (k : Nat) : (upF b k).Nodup := by
  unfold upF
  exact List.nodup_range.map (f := fun (i : Nat) => b + (i : Int)) (fun i j h hne => h (by omega))
theorem free_nz (s : List Int) : free s + (nz s).length = s.length := by
  unfold free nz
  induction s with
  | nil => rfl
  | cons b r ih =>
    by_cases h : b = 0
    · subst h; simp at ih ⊢; omega
    · simp [h] at ih ⊢; omega
theorem pwk_inv {l : List Int} {s : PW} {ln : Nat} (hw : s.w = List.replicate ln 0) (hb : 1 ≤ s.bag) : ∀ k, k ≤ ln → ∃ u j, (pwk l s k).w = u ++ List.replicate (ln - k) 0 ∧ u.length = k ∧ nz u = upF s.bag j ∧ (pwk l s k).bag = s.bag + j ∧ (pwk l s k).full = s.full - j ∧ (j = 0 ∨ (j : Int) ≤ s.full)
  | 0, _ => ⟨[], 0, by simp [pwk, hw], rfl, rfl, by simp [pwk], by simp [pwk], .inl rfl⟩
  | k + 1, hk => by
    obtain ⟨u, j, h1, h2, h3, h4, h5, h6⟩ := pwk_inv (l := l) hw hb k (by omega)
    rw [pwk]
    generalize pwk l s k = r at *
    have er : List.replicate (ln - k) (0 : Int) = 0 :: List.replicate (ln - (k + 1)) 0 := by
      rw [show ln - k = (ln - (k + 1)) + 1 by omega, List.replicate_succ]
    have same : ∃ u' j', r.w = u' ++ List.replicate (ln - (k + 1)) 0 ∧ u'.length = k + 1 ∧ nz u' = upF s.bag j' ∧ r.bag = s.bag + j' ∧ r.full = s.full - j' ∧ (j' = 0 ∨ (j' : Int) ≤ s.full) :=
      ⟨u ++ [0], j, by rw [h1, er]; simp, by simp [h2], by rw [nz_append, h3]; simp, h4, h5, h6⟩
    unfold pw1
    split
    · rename_i hc
      split
      · refine ⟨u ++ [r.bag], j + 1, ?_, by simp [h2], ?_, by simp only; omega, by simp only; omega, .inr (by omega)⟩
        · simp only
          rw [h1, er, List.set_append_right _ _ (by omega), h2]
          simp
        · rw [nz_append, h3, nz_cons (by omega), upF_succ, h4]; rfl
      · exact same
    · exact same
theorem allB_congr {p q : Pl} : ∀ {N}, (∀ t, t < N → rowP p t = rowP q t) → allB p N = allB q N
  | 0, _ => rfl
  | N + 1, h => by rw [allB, allB, allB_congr fun t ht => h t (by omega), h N (by omega)]
theorem getD_snoc {α : Type} {l : List α} {x d : α} {t : Nat} : (l ++ [x]).getD t d = if t < l.length then l.getD t d else if t = l.length then x else d := by
  simp only [List.getD_eq_getElem?_getD, List.getElem?_append]
  split
  · rfl
  · split
    · rename_i h; subst h; simp
    · rw [List.getElem?_eq_none (by simp; omega)]; rfl
structure PnOk (xs : List Nd) (s : PN) (i : Nat) : Prop where
  bag : 1 ≤ s.bag
  sl : s.slots.length = i
  bl : s.bins.length = i
  all : allB ⟨s.slots, s.bins⟩ i = upF 1 (s.bag - 1).toNat
  row : ∀ t, t < i → (s.slots.getD t []).length = (xs.getD t default).ln.toNat ∧ ((xs.getD t default).kd = 5 → 1 ≤ free (s.slots.getD t [])) ∧ (s.bins.getD t []).length ≤ 1
theorem pns_inv {l : List Int} {xs : List Nd} {n : Int} {a : Nat} (hx : ∀ i, i < xs.length → 0 ≤ (xs.getD i default).ln ∧ ((xs.getD i default).kd = 5 → 2 ≤ (xs.getD i default).ln)) : ∀ i, i ≤ xs.length → PnOk xs (pns l xs n a i) i
  | 0, _ => ⟨Int.le_refl _, rfl, rfl, rfl, fun t h => absurd h (Nat.not_lt_zero _)⟩
  | i + 1, hi => by
    obtain ⟨h1, h2, h3, h4, h5⟩ := pns_inv (l := l) (n := n) (a := a) hx i (by omega)
    have hxi := hx i (by omega)
    rw [pns]
    generalize pns l xs n a i = s at *
    generalize hxe : xs.getD i default = x at *
    obtain ⟨u, j, g1, g2, g3, g4, g5, g6⟩ := pwk_inv (l := l) (s := pw0 x s) (ln := x.ln.toNat) rfl h1 _ (Nat.le_refl _)
    generalize pwk l (pw0 x s) x.ln.toNat = r at *
    have e0 : (pw0 x s).bag = s.bag := rfl
    have ef : (pw0 x s).full = if x.kd = 5 then x.ln - 1 else x.ln := rfl
    rw [e0] at g3 g4
    simp only [Nat.sub_self, List.replicate_zero, List.append_nil] at g1
    have hwl : r.w.length = x.ln.toNat := by rw [g1, g2]
    have hnz : nz r.w = upF s.bag j := by rw [g1, g3]
    have hfree : x.kd = 5 → 1 ≤ free r.w := fun h5 => by
      have e1 := free_nz r.w
      rw [hwl, hnz, upF_len] at e1
      have := hxi.2 h5
      rw [ef, if_pos h5] at g6
      omega
    have key : ∀ (bin : List Int) (b : Int) (k : Nat) (nn : Int) (aa : Nat), bin = upF r.bag k → k ≤ 1 → b = r.bag + k → PnOk xs ⟨s.slots ++ [r.w], s.bins ++ [bin], b, nn, aa⟩ (i + 1) := by
      intro bin b k nn aa hbin hk hb
      have hrow : ∀ t, t < i → rowP ⟨s.slots ++ [r.w], s.bins ++ [bin]⟩ t = rowP ⟨s.slots, s.bins⟩ t := fun t ht => by
        simp only [rowP, getD_snoc, h2, h3, if_pos ht]
      have hrow2 : rowP ⟨s.slots ++ [r.w], s.bins ++ [bin]⟩ i = nz r.w ++ bin := by
        simp only [rowP, getD_snoc, h2, h3, Nat.lt_irrefl, if_false, if_true]
      refine ⟨by simp only; omega, by simp [h2], by simp [h3], ?_, fun t ht => ?_⟩
      · simp only
        rw [allB, allB_congr hrow, h4, hrow2, hnz, hbin, g4]
        rw [show (b - 1).toNat = (s.bag - 1).toNat + (j + k) by omega, upF_add, upF_add, show (1 : Int) + ((s.bag - 1).toNat : Nat) = s.bag by omega]
      · simp only [getD_snoc, h2, h3]
        by_cases ht2 : t < i
        · rw [if_pos ht2, if_pos ht2]; exact h5 t ht2
        · have : t = i := by omega
          subst this
          rw [if_neg ht2, if_neg ht2, if_pos rfl, if_pos rfl, hxe]
          exact ⟨hwl, hfree, by rw [hbin, upF_len]; exact hk⟩
    unfold pn2
    split
    · split
      · exact key _ _ 1 _ _ (by simp [upF]) (Nat.le_refl _) (by simp)
      · exact key _ _ 0 _ _ (by simp [upF]) (by omega) (by simp)
    · exact key _ _ 0 _ _ (by simp [upF]) (by omega) (by simp)
structure GenP (y : Ly) (p : Pl) (m : Nat) : Prop where
  inv : PInv y p (upF 1 m)
  lp : ∀ t, t < y.nodes.length → (y.nodes.getD t default).kd = 5 → 1 ≤ free (p.slots.getD t [])
theorem upF_ok {m : Nat} (h : m ≤ 40) : LOk (upF 1 m) := ⟨upF_nodup _ _, fun b hb => by have := upF_mem.1 hb; omega, by rw [upF_len]; exact h⟩
theorem gPl_gen {A N : Nat} {y : Ly} (hg : Good A N y) (l : List Int) (a : Nat) (n : Int) (hn : 0 ≤ n) : ∃ m : Nat, (m : Int) ≤ n ∧ allB (gPl l a y.nodes n).1 y.nodes.length = upF 1 m ∧ GenP y (gPl l a y.nodes n).1 m := by
  have hN := hg.n11
  have hl := hg.len
  have hx : ∀ i, i < y.nodes.length → 0 ≤ (y.nodes.getD i default).ln ∧ (y.nodes.getD i default).ln ≤ 4 ∧ ((y.nodes.getD i default).kd = 5 → 2 ≤ (y.nodes.getD i default).ln) := fun i hi => by
    have hs := hg.shp i (by omega)
    have h1 := hs.ln
    have h2 := hs.l5
    have h3 := hs.l0
    omega
  have h1 := pns_inv (l := l) (n := n) (a := a) (fun i hi => ⟨(hx i hi).1, (hx i hi).2.2⟩) y.nodes.length (Nat.le_refl _)
  have h2 := pns_ok (l := l) (a := a) hn (fun i hi => (hx i hi).1) y.nodes.length (Nat.le_refl _)
  obtain ⟨g1, g2, g3, g4, g5⟩ := h1
  refine ⟨((pns l y.nodes n a y.nodes.length).bag - 1).toNat, by omega, g4, ⟨⟨by omega, g2, g3, fun t ht => (g5 t ht).1, fun t ht => ?_, fun t ht => ?_, fun t ht hs => ?_, fun t ht => ?_⟩, ?_, fun t ht => ?_⟩, fun t ht => (g5 t ht).2.1⟩
  · have := (g5 t ht).2.2
    show ((pns l y.nodes n a y.nodes.length).bins.getD t []).length ≤ 500
    omega
  · have := hx t ht; omega
  · have hs2 := (hg.shp t (by omega)).ln
    rw [isStrip, Bool.and_eq_true, decide_eq_true_eq, decide_eq_true_eq] at hs
    exact (hs2 hs.2).1
  · have := hg.exl (m := t) (by omega)
    rw [exitsN] at this
    split at this
    · omega
    · split at this <;> omega
  · show (allB ⟨_, _⟩ _).Perm _
    rw [g4]
  · have := (g5 t ht).2.2
    show ((pns l y.nodes n a y.nodes.length).bins.getD t []).Pairwise (· ≤ ·)
    generalize (pns l y.nodes n a y.nodes.length).bins.getD t [] = b at *
    match b, this with
    | [], _ => exact .nil
    | [x], _ => simp
    | x :: z :: w, h => simp at h
end Go.Proofs.YtkhjenddapaejaaGreatDoor
namespace Go.Proofs.YtkhjenddapaejaaGreatDoor
open Go Go.Sym
open Go.Plant
theorem cmd1_ok {A n : Nat} {y : Ly} (hg : Good A n y) (l : List Int) (a : Nat) {i : Nat} (hi : i < n) : cmdOk (y.nodes.getD i default) (cmd1 l (y.nodes.getD i default) a).1 = true := by
  have hs := hg.shp i hi
  have he := hg.exl hi
  generalize y.nodes.getD i default = x at *
  obtain ⟨k1, k2⟩ := hs.kd
  unfold cmd1
  by_cases c7 : x.kd = 7
  · rw [if_pos c7, cmdOk, if_pos c7]
    have := gN_lt (l := l) (a := a) (n := 8) (by omega)
    simp; omega
  rw [if_neg c7]
  by_cases c8 : x.kd = 8 ∨ x.kd = 9
  · rw [if_pos c8, cmdOk, if_neg c7, if_pos (by simp [isStrip]; omega)]; rfl
  rw [if_neg c8]
  have hst : ¬ isStrip x.kd = false := by simp [isStrip]; omega
  by_cases c5 : x.kd = 5
  · rw [if_pos c5, cmdOk, if_neg c7, if_neg hst]
    have hm := gP_mem (l := l) (a := a) (es := [1, 1, 0]) (by simp)
    simp only [List.mem_cons, List.not_mem_nil, or_false] at hm
    simp only
    rw [if_neg (by omega)]
    rw [exitsN, if_pos (by omega)] at he
    simp; omega
  rw [if_neg c5]
  by_cases c4 : x.kd = 4 ∨ x.kd = 6
  · rw [if_pos c4, cmdOk, if_neg c7, if_neg hst]
    have hm := gP_mem (l := l) (a := a) (es := [1, 0, 1, 0, -1]) (by simp)
    simp only [List.mem_cons, List.not_mem_nil, or_false] at hm
    simp only
    rw [exitsN, if_pos (by omega)] at he
    split
    · simp [c5]
    · simp; omega
  · rw [if_neg c4, cmdOk, if_neg c7, if_neg hst]
    have hm := gP_mem (l := l) (a := a) (es := [0, 0, 0, 0, -1]) (by simp)
    simp only [List.mem_cons, List.not_mem_nil, or_false] at hm
    simp only
    rw [exitsN, if_neg (by omega), if_neg (by omega)] at he
    split
    · simp [c5]
    · simp; omega
theorem cmds_getD (l : List Int) (xs : List Nd) (a : Nat) : ∀ i j, j < i → ∃ b, (cmds l xs a i).1.getD j 0 = (cmd1 l (xs.getD j default) b).1
  | 0, j, h => absurd h (Nat.not_lt_zero _)
  | i + 1, j, h => by
    rw [cmds, getD_snoc, cmds_length]
    by_cases hj : j < i
    · rw [if_pos hj]; exact cmds_getD l xs a i j hj
    · have : j = i := by omega
      subst this
      rw [if_neg hj, if_pos rfl]; exact ⟨_, rfl⟩
theorem gC_ok {A n : Nat} {y : Ly} (hg : Good A n y) (l : List Int) (a : Nat) : (gC l a y.nodes).1.length = n ∧ ∀ i, i < n → cmdOk (y.nodes.getD i default) ((gC l a y.nodes).1.getD i 0) = true := by
  refine ⟨by rw [gC, cmds_length, hg.len], fun i hi => ?_⟩
  obtain ⟨b, hb⟩ := cmds_getD l y.nodes a y.nodes.length i (by rw [hg.len]; exact hi)
  rw [gC, hb]
  exact cmd1_ok hg l b hi
structure FtOk (xs : List Nd) (fs : List T3) : Prop where
  ok : ∀ f ∈ fs, (f.a = 1 ∨ f.a = 2) ∧ 0 ≤ f.b ∧ f.b < xs.length ∧ 0 ≤ f.c ∧ f.c < (xs.getD f.b.toNat default).ln
  dif : fs.Pairwise fun f g => ¬ (g.b = f.b ∧ g.c = f.c)
theorem mvs_ok {A n : Nat} {y : Ly} (hg : Good A n y) (l : List Int) (a : Nat) : ∀ k, FtOk y.nodes (mvs l y.nodes a k).1
  | 0 => ⟨by simp [mvs], by simp [mvs]⟩
  | k + 1 => by
    obtain ⟨h1, h2⟩ := mvs_ok hg l a k
    have hn := hg.n11
    have hl := hg.len
    rw [mvs]
    generalize mvs l y.nodes a k = o at *
    unfold mv1
    simp only
    have hk := gN_lt (l := l) (a := o.2) (n := (y.nodes.length : Int)) (by omega)
    have hx := hg.shp (gN l o.2 y.nodes.length).toNat (by omega)
    have hln := hx.ln
    have hl0 := hx.l0
    split
    · exact ⟨h1, h2⟩
    · rename_i hne
      have hw := gN_lt (l := l) (a := o.2 + 2) (n := (y.nodes.getD (gN l o.2 y.nodes.length).toNat default).ln) (by omega)
      have hr := gR_lt (l := l) (a := o.2 + 1) (lo := 1) (hi := 2) (by omega)
      split
      · exact ⟨h1, h2⟩
      · rename_i hany
        refine ⟨fun f hf => ?_, List.pairwise_append.2 ⟨h2, by simp, fun f hf g hg2 => ?_⟩⟩
        · rcases List.mem_append.1 hf with hf | hf
          · exact h1 f hf
          · rw [List.mem_singleton] at hf
            subst hf
            simp only
            omega
        · rw [List.mem_singleton] at hg2
          simp only [Bool.not_eq_true, List.any_eq_false] at hany
          have := hany f hf
          subst hg2
          rw [sameW, Bool.and_eq_false_iff, decide_eq_false_iff_not, decide_eq_false_iff_not] at this
          simp only
          rintro ⟨e1, e2⟩
          exact this.elim (fun h => h e1.symm) (fun h => h e2.symm)
theorem FtOk.fit {xs : List Nd} {fs : List T3} (h : FtOk xs fs) (hl : fs.length ≤ 1000) : FitF xs fs := by
  refine ⟨hl, fun i hi n hn hb => ?_⟩
  have := h.ok _ (mem_getD (d := default) hi)
  rw [hb, Int.toNat_natCast] at this
  exact this.2.2.2
theorem FtOk.first {xs : List Nd} : ∀ {fs : List T3}, FtOk xs fs → firstE xs fs = 0
  | [], _ => rfl
  | f :: r, h => by
    have hf := h.ok f List.mem_cons_self
    have : fltE xs f = 0 := by unfold fltE; rw [if_neg (by omega), if_neg (by omega)]
    rw [firstE, if_neg (by rw [this]; simp)]
    exact FtOk.first ⟨fun g hg => h.ok g (List.mem_cons_of_mem _ hg), (List.pairwise_cons.1 h.dif).2⟩
theorem FtOk.dup {xs : List Nd} {fs : List T3} (h : FtOk xs fs) : dupF fs = false := by
  rw [dupF, List.any_eq_false]
  intro i hi
  rw [List.mem_range] at hi
  simp only [Bool.not_eq_true, List.any_eq_false, List.mem_range]
  intro k hk
  have := pw_getD (d := default) h.dif hk hi
  simp only [Bool.not_eq_true, Bool.and_eq_false_iff, decide_eq_false_iff_not]
  by_cases h1 : (fs.getD i default).b = (fs.getD k default).b
  · exact .inr fun h2 => this ⟨h1, h2⟩
  · exact .inl h1
theorem poss_zero {A n : Nat} {y : Ly} {cs : List Int} {fs : List T3} (hg : Good A n y) (hc : cs.length = n) (hk : ∀ i, i < n → cmdOk (y.nodes.getD i default) (cs.getD i 0) = true) (hf : FtOk y.nodes fs) (hl : fs.length ≤ 4) : possR y.nodes cs fs = 0 := by
  have hN := hg.len
  rw [possR, if_neg (by omega), if_neg, if_neg (by omega), hf.first, if_neg (by simp), hf.dup, if_neg (by simp)]
  rw [cmdsOk, hc, range_all_true hk]; simp
theorem Good.sx {A n : Nat} {y : Ly} {p : Pl} {L : List Int} (hg : Good A n y) (hi : PInv y p L) {cs : List Int} {fs : List T3} (hc : cs.length = n) (hk : ∀ i, i < n → cmdOk (y.nodes.getD i default) (cs.getD i 0) = true) (hf : FtOk y.nodes fs) (hl : fs.length ≤ 4) : Sx A n y p cs fs :=
  ⟨hg, hi.fp, hf.fit (by omega), hc, hk⟩
theorem step_free {A n : Nat} {y : Ly} {p : Pl} {cs : List Int} {fs : List T3} {L : List Int} (h : Sx A n y p cs fs) (hi : PInv y p L) (hL : LOk L) {t : Nat} (ht : t < n) (h5 : (y.nodes.getD t default).kd = 5)
    (hf : 1 ≤ free (p.slots.getD t [])) : 1 ≤ free ((stepY y p cs fs).1.slots.getD t []) := by
  have hl := h.good.len
  have hs : isStrip (y.nodes.getD t default).kd = true := by rw [h5]; decide
  have hpos : ∀ t, t < n → ∀ b ∈ p.bins.getD t [], b ≠ 0 := fun t ht => hi.binpos hL (by omega)
  have h1 := congrArg List.length (step_nz h hpos ht hs)
  rw [List.length_append, List.length_append, List.length_map] at h1
  have f1 := free_nz (p.slots.getD t [])
  have f2 := free_nz ((stepY y p cs fs).1.slots.getD t [])
  have r1 := hi.fp.row t (by omega)
  have r2 := (step_inv h hi hL).fp.row t (by omega)
  have ho : (outY y p cs fs t).length = if 0 ≤ (LVo y p cs fs).getD t 0 then 1 else 0 := by
    show (outB _ _ _ _ _ _).length = _
    rw [outB]; split <;> rfl
  rcases inn_strip h hs with e | ⟨m, hm, h0, hg, e⟩
  · rw [e, List.length_nil] at h1
    omega
  · rw [e, List.length_singleton] at h1
    by_cases hmt : m = t
    · subst hmt
      rw [if_pos h0] at ho
      omega
    · have := (goes_room h hm h0 hg hs).2 hmt h5
      omega
end Go.Proofs.YtkhjenddapaejaaGreatDoor
namespace Go.Proofs.YtkhjenddapaejaaGreatDoor
open Go Go.Sym
open Go.Plant
theorem nmI_len : ∀ i, i < 11 → (bs (nmI i)).length ≤ 1000 := by decide +kernel
structure GoodY (A n : Nat) (y : Ly) : Prop where
  g : Good A n y
  d : devE y.nodes y.devs = 0
  dl : y.devs.length ≤ 24
theorem gL_good (l : List Int) (a : Nat) : ∃ A n, GoodY A n (gL l a).1 := by
  obtain ⟨A, n, h⟩ := gL_nodes l a
  refine ⟨A, n, h, ?_, ?_⟩
  · have hx : ∀ i, i < (gL l a).1.nodes.length → 0 ≤ ((gL l a).1.nodes.getD i default).ln := fun i hi => by
      have hs := h.shp i (by rw [← h.len]; exact hi)
      have h1 := hs.ln
      have h2 := hs.l0
      omega
    exact devE_zero hx
  · exact dvN_len _
section
variable {A n : Nat} {y : Ly}
theorem GoodY.sml (h : GoodY A n y) : Sml7 y := by
  have hl := h.g.len
  have hn := h.g.n11
  refine ⟨by omega, by have := h.dl; omega, fun i hi => ?_, fun i hi => ?_⟩
  · have := h.g.exl (m := i) (by omega)
    rw [exitsN] at this
    split at this
    · omega
    · split at this <;> omega
  · rw [h.g.nm i (by omega)]; exact nmI_len i (by omega)
theorem GoodY.val (h : GoodY A n y) : validE y = 0 := by
  have hl := h.g.len
  have hn := h.g.n11
  have hd := h.dl
  have ht := h.g.tot
  have h0 : entB y.nodes = true := by
    rw [entB, List.any_eq_true]
    refine ⟨_, mem_getD (d := default) (show 0 < y.nodes.length by omega), ?_⟩
    rw [decide_eq_true_eq]
    exact (h.g.shp 0 (by omega)).k1.2 rfl
  rw [validE, if_neg (by omega), nodesE_ok (fun j hj => by rw [hl]; exact h.g.node (by omega)), if_neg (by simp), if_neg (by omega), named_good h.g, if_neg (by decide), zonesB, range_all_true (fun i hi => h.g.zoned (by omega)), if_neg (by decide), h.g.ord, upL_len, if_neg (by omega), h.d, if_neg (by simp), h0, if_neg (by decide)]
theorem GoodY.sum (h : GoodY A n y) : y.nodes.length ≤ 11 ∧ 0 < y.nodes.length ∧ (∀ i, i < y.nodes.length → 0 ≤ (y.nodes.getD i default).ln ∧ (y.nodes.getD i default).ln ≤ 1000) := by
  have hl := h.g.len
  have hn := h.g.n11
  refine ⟨by omega, by omega, fun i hi => ?_⟩
  have hs := h.g.shp i (by omega)
  have h1 := hs.ln
  have h2 := hs.l0
  omega
theorem gstep_sat {p : Pl} {cs : List Int} {fs : List T3} {L : List Int} (h : GoodY A n y) (hx : Sx A n y p cs fs) (hi : PInv y p L) (hb : possR y.nodes cs fs = 0) :
    SatG Tryz.prog tab 16 [] [y.av, p.av, IS cs, .sl (t3s fs) false] [] (.tup [(stepY y p cs fs).1.av, .sl (t3s (stepY y p cs fs).2) false, I 0]) := by
  have hl := h.g.len
  have hn := h.g.n11
  have ho := h.g.ord
  have e := hx.eq
  refine pstep_ok y p cs fs h.sml h.val h.g.ex hx.fp hb (by omega) (by rw [hx.cl, hl]) hx.ff (fun m hm h0 => (wnt_ok hx (by omega) h0).1) (by rw [ho, upL_len]; omega) (fun i hi => ?_) (LVo y p cs fs) (flows y.nodes p (wnts y.nodes p cs fs y.nodes.length) (order y.nodes)).2 e.len (goes_lv hx) hi.srt ?_
  · rw [ho] at hi ⊢
    rw [upL_len] at hi
    rw [upL_getD hi]
    omega
  · rw [ho, ← hl]
    rfl
end
end Go.Proofs.YtkhjenddapaejaaGreatDoor
namespace Go.Proofs.YtkhjenddapaejaaGreatDoor
open Go Go.Sym
open Go.Plant
theorem cut2_fits {l : List Int} (hr : ∀ x ∈ l, I64 x) : Fits (cut2 l) := ⟨by rw [cut2, List.length_take]; omega, fun x hx => hr x (List.mem_of_mem_take hx)⟩
theorem loops_law (l : List Int) (hl : l.length ≤ 9223372036854775807) (hr : ∀ x ∈ l, I64 x) (haw : SatG Tryz.prog tab 10 [] [] [] (B true)) : SatG Tryz.prog tab 5 [] [IS l] [] (B true) := by
  have hnew := new_sat l hl
  have hf := cut2_fits hr
  generalize cut2 l = l' at *
  have hlay := layout_sat l' 0 hf
  obtain ⟨A, n, hg⟩ := gL_good l' 0
  generalize gL l' 0 = gl at *
  obtain ⟨y, a0⟩ := gl
  simp only at hg hlay
  obtain ⟨hN, hN0, hln⟩ := hg.sum
  have hpl := plant_sat l' a0 20 y hf (by omega) (by omega) hln
  obtain ⟨m, hm, -, hgp⟩ := gPl_gen hg.g l' a0 20 (by omega)
  have hL := upF_ok (m := m) (by omega)
  generalize gPl l' a0 y.nodes 20 = gp at *
  obtain ⟨p, a1⟩ := gp
  simp only at hpl hgp
  refine uFN Tryz.func5 Tryz.ntmps5 ?_; intro w e X hC
  refine uA ?_
  refine uR ?_; intro K hK
  refine callE [] [(112, 3, 100, 1)] false (hnew) uTR uTR uTE uTE uTE uTE uTE uTE uTE uTE uTE uTE uTE uTE uTE uTE uTE ?_; refine uQS ?_
  refine hK _ ?_; clear hK K
  refine awp_weak (s' := ⟨[(3, .ptO 112 3 0 0 0)], (112, some (3, .box [IS l', I (min 0 l'.length : Nat)])) :: [], _⟩) (.of (Nat.le_refl _) (uHF1 (And.intro @Nat.zero_min @Int.natCast_zero)) uWF) ?_
  refine uR ?_; intro K hK
  refine callL rfl (hlay) uTS uTS uTS uTS uTS ?_; refine uS ?_
  refine hK _ ?_; clear hK K
  refine uR ?_; intro K hK
  refine callL rfl (hpl) uTS uTS uTS uTS uTS ?_; refine uS ?_
  refine hK _ ?_; clear hK K
  refine uA ?_
  refine uW ?_
  refine awp_loopW (fun q : Nat × Nat × Nat × Pl => ⟨[(3, .ptO 112 3 0 0 0), (4, .ptO 104 7 0 0 0), (5, .ptO 105 12 0 0 0), (6, I q.2.1)], (105, some (12, .box [RS q.2.2.2.slots, RS q.2.2.2.bins])) :: (104, some (7, .box [.sl (nds y.nodes) false, .sl (t3s y.devs) false])) :: (112, some (3, .box [IS l', I (min q.2.2.1 l'.length : Nat)])) :: [], q.1⟩)
    (fun q => q.2.1 ≤ 12 ∧ PInv y q.2.2.2 (upF 1 m) ∧ ∀ t, t < y.nodes.length → (y.nodes.getD t default).kd = 5 → 1 ≤ free (q.2.2.2.slots.getD t [])) (fun q => 12 - q.2.1) (_, 0, a1, p) ⟨Nat.zero_le _, hgp.inv, hgp.lp⟩ (uKF) ?_
  clear hgp hpl hlay hnew
  clear p a1 a0
  rintro ⟨ck, i, a, p⟩ ⟨hi, hinv, hfr⟩
  simp only at hi hinv hfr
  refine awp_seq ?_
  refine awp_merge (fun q : Nat => ⟨[(3, .ptO 112 3 0 0 0), (4, .ptO 104 7 0 0 0), (5, .ptO 105 12 0 0 0), (6, I i)], (105, some (12, .box [RS p.slots, RS p.bins])) :: (104, some (7, .box [.sl (nds y.nodes) false, .sl (t3s y.devs) false])) :: (112, some (3, .box [IS l', I (min a l'.length : Nat)])) :: [], q⟩) (fun _ => i < 12) ?_ ?_
  · by_cases c1 : i < 12
    · have d1 : decide ((i : Int) < 12) = true := decide_eq_true (by omega)
      by_cases c2 : i < 3
      · have d2 : decide ((i : Int) < 3) = true := decide_eq_true (by omega)
        refine uR1 (And.intro @d1 @d2) ?_; intro K hK
        refine hK _ ?_; clear hK K
        refine uT ?_
        refine uW ?_
        refine ⟨_, c1, uKF⟩
      · have d2 : decide ((i : Int) < 3) = false := decide_eq_false (by omega)
        have hM := gM_sat l' a hf
        generalize decide (a < l'.length) = mo at *
        refine uR1 (And.intro @d1 @d2) ?_; intro K hK
        refine callL rfl (hM) uTS uTS uTS uTS uTS ?_; refine uS ?_
        refine hK _ ?_; clear hK K
        cases mo with
        | true =>
          refine uT ?_
          refine uW ?_
          refine ⟨_, c1, uKF⟩
        | false =>
          refine uF ?_
          refine awp_exit ?_
          refine uR ?_; intro K hK
          refine callF uTS (haw) uTS uTS uTS ?_; refine uS ?_
          refine hK _ ?_; clear hK K
          (refine awp_ret (ret1 uRT ?_); try rfl)
    · have d1 : decide ((i : Int) < 12) = false := decide_eq_false (by omega)
      refine uR1 @d1 ?_; intro K hK
      refine hK _ ?_; clear hK K
      refine uF ?_
      refine awp_exit ?_
      refine uR ?_; intro K hK
      refine callF uTS (haw) uTS uTS uTS ?_; refine uS ?_
      refine hK _ ?_; clear hK K
      (refine awp_ret (ret1 uRT ?_); try rfl)
  · rintro ck1 hi12
    have hcm := commands_sat l' a y hf (by omega)
    obtain ⟨hcl, hck⟩ := gC_ok hg.g l' a
    generalize gC l' a y.nodes = gc at *
    obtain ⟨cs, a2⟩ := gc
    simp only at hcm hcl hck
    have hmv := moves_sat l' a2 2 y hf (by omega) hN0 (by omega) hln
    have hft := mvs_ok hg.g l' a2 2
    have hfl := mvs_len l' y.nodes a2 2
    generalize mvs l' y.nodes a2 2 = gm at *
    obtain ⟨fs, a3⟩ := gm
    simp only at hmv hft hfl
    have hposs := poss_zero hg.g hcl hck hft (by omega)
    have hsx := hg.g.sx hinv hcl hck hft (by omega)
    have hstep := gstep_sat hg hsx hinv hposs
    have hinv2 := step_inv hsx hinv hL
    have hfr2 := fun t ht h5 => step_free hsx hinv hL (t := t) ht h5 (hfr t (by have := hg.g.len; omega) h5)
    generalize stepY y p cs fs = r at *
    obtain ⟨q, mv⟩ := r
    simp only at hstep hinv2 hfr2
    have hqs := hinv2.fp.sl
    refine uD ?_; intro K hK
    refine callL rfl (hcm) uTS uTS uTS uTS uTS ?_; refine uS ?_
    refine callL rfl (hmv) uTS uTS uTS uTS uTS ?_; refine uS ?_
    refine callP uTS (hstep) uTS uTS uTS ?_; refine uS ?_
    refine uH ?_
    refine hK _ ?_; clear hK K
    have d0 : decide (¬ (q.slots.length : Int) = y.nodes.length) = false := decide_eq_false (by omega)
    repeat first | refine uC ?_ | refine uA1 @d0 ?_
    refine uW ?_
    refine awp_loopW (fun k : Nat × Nat => ⟨[(3, .ptO 112 3 0 0 0), (4, .ptO 104 7 0 0 0), (5, .ptO 105 12 0 0 0), (6, I i), (7, .ptO 107 (ck1+13) 0 0 0), (10, I k.2)], (107, some (ck1+13, .box [RS q.slots, RS q.bins])) :: (105, some (12, .box [RS p.slots, RS p.bins])) :: (104, some (7, .box [.sl (nds y.nodes) false, .sl (t3s y.devs) false])) :: (112, some (3, .box [IS l', I (min a3 l'.length : Nat)])) :: [], k.1⟩)
      (fun k => k.2 ≤ y.nodes.length) (fun k => y.nodes.length - k.2) (_, 0) (Nat.zero_le _) (uKF) ?_
    rintro ⟨ck2, k⟩ hk
    simp only at hk
    refine uA ?_
    refine uW ?_; refine condP _ rfl (fun h => ?_) (fun h => ?_)
    · have hlt : k < y.nodes.length := by omega
      have hks : k < q.slots.length := by omega
      have hkl := hinv2.fp.row k hlt
      have hkn := hinv2.fp.ln k hlt
      have hff := hfr2 k (by have := hg.g.len; omega)
      generalize e1 : q.slots.getD k [] = sl at *
      have hfs := free_sat sl (by omega)
      generalize free sl = fr at *
      by_cases c5 : (y.nodes.getD k default).kd = 5
      · have d5 := decide_eq_true c5
        have dn : decide ((fr : Int) = 0) = false := decide_eq_false (by have := hff c5; omega)
        generalize e2 : y.nodes.getD k default = x at *
        refine uR1 (And.intro (nds_getD hlt) (And.intro @e2 (And.intro @d5 (And.intro (rows_getD hks) @e1)))) ?_; intro K hK
        refine uH ?_
        refine callF uTS (hfs) uTS uTS uTS ?_; refine uS ?_
        first | refine uS1 @dn ?_ | exact uX1 @dn
        refine hK _ ?_; clear hK K
        refine uF ?_
        repeat refine uA ?_
        refine ⟨(_, k + 1), by simp only; omega, by simp only; omega, uKF⟩
      · have d5 := decide_eq_false c5
        generalize e2 : y.nodes.getD k default = x at *
        refine uR1 (And.intro (nds_getD hlt) (And.intro @e2 @d5)) ?_; intro K hK
        refine uH ?_
        refine hK _ ?_; clear hK K
        refine uF ?_
        repeat refine uA ?_
        refine ⟨(_, k + 1), by simp only; omega, by simp only; omega, uKF⟩
    · refine awp_exit ?_
      repeat refine uA ?_
      refine ⟨(_, i + 1, a3, q), ⟨by simp only; omega, hinv2, fun t ht h5 => hfr2 t (by have := hg.g.len; omega) h5⟩, by simp only; omega, uKF⟩
end Go.Proofs.YtkhjenddapaejaaGreatDoor
namespace Go.Proofs.YtkhjenddapaejaaGreatDoor
open Go Go.Sym
def leadA (N i : Int) (x : Nd) (k : Nat) : Bool := inB (x.ex.getD k 0) 0 (N - 1) && (decide (x.ex.getD k 0 = i) == (decide (x.kd = 5) && decide (k = 0)))
theorem leadP_two {N i : Int} {x : Nd} (h : (x.ex.length : Int) = exitsN x.kd) : leadP N i x = ((List.range x.ex.length).all (leadA N i x) && !(decide (x.ex.length = 2) && decide (x.ex.getD 0 0 = x.ex.getD 1 0))) := by
  have hl : x.ex.length = 0 ∨ x.ex.length = 1 ∨ x.ex.length = 2 := by
    have : exitsN x.kd = 0 ∨ exitsN x.kd = 1 ∨ exitsN x.kd = 2 := by unfold exitsN; split <;> (try split) <;> simp
    omega
  have hin : ∀ e : Int, inB e 0 (N - 1) = (decide (0 ≤ e) && decide (e < N)) := fun e => by
    unfold inB
    congr 1
    by_cases h : e < N
    · rw [decide_eq_true h, decide_eq_true (by omega)]
    · rw [decide_eq_false h, decide_eq_false (by omega)]
  rw [leadP, decide_eq_true h, Bool.true_and]
  rcases hl with hl | hl | hl
  · rw [hl]; simp
  · rw [hl]; simp [List.range_succ, leadK, leadA, hin, Bool.and_assoc]
  · match he : x.ex, hl with
    | [a, b], _ =>
      simp [List.range_succ, leadK, leadA, hin, he, Bool.and_assoc]
      have : decide (b = a) = decide (a = b) := by by_cases h : a = b <;> simp [h, eq_comm]
      rw [this]
def loN (kd : Int) : Int := if kd = 5 then 2 else if isStrip kd = true then 1 else 0
def hiN (kd : Int) : Int := if isStrip kd = true then 8 else 0
theorem lenOk_in (x : Nd) : lenOk x = inB x.ln (loN x.kd) (hiN x.kd) := by
  unfold lenOk inB loN hiN
  by_cases h5 : x.kd = 5
  · simp only [if_pos h5, if_pos (show isStrip x.kd = true by rw [h5]; decide)]
  · simp only [if_neg h5]
    split
    · rfl
    · by_cases h : x.ln = 0
      · simp [h]
      · rw [decide_eq_false h]
        simp; omega
theorem rnode_sat (y : Ly) (i : Nat) (hi : i < y.nodes.length) (hN : y.nodes.length ≤ 1000) (hx : (y.nodes.getD i default).ex.length ≤ 1000) (hnm : (bs (y.nodes.getD i default).nm).length ≤ 1000) :
    SatG Tryz.prog tab 98 [] [y.av, I i] [] (I (nodeE y.nodes.length i (y.nodes.getD i default))) := by
  have h1 := name4_sat _ hnm
  generalize e1 : y.nodes.getD i default = x at *
  have hE : nodeE y.nodes.length i x = _ := nodeE.eq_1 _ _ _
  have hlp := fun h => leadP_two (N := y.nodes.length) (i := i) (x := x) h
  have hex : ¬ ((x.ex.length : Int) = exitsN x.kd) → leadP y.nodes.length i x = false := fun h => by rw [leadP, decide_eq_false h, Bool.false_and]
  rw [lenOk_in] at hE
  generalize nodeE y.nodes.length i x = r at *
  generalize nameOk x.nm = a at *
  generalize leadP y.nodes.length i x = p at *
  refine uFN Tryz.func98 Tryz.ntmps98 ?_; intro w e X hC
  refine uA ?_
  repeat refine uA1 (And.intro (nds_getD hi) @e1) ?_
  refine uR ?_; intro K hK
  refine callF uTS (h1) uTS uTS uTS ?_; refine uS ?_
  refine hK _ ?_; clear hK K
  cases a with
  | false =>
    refine uT ?_
    repeat refine uA ?_
    rw [if_pos rfl] at hE
    subst hE
    (refine awp_ret (ret1 uRT ?_); try rfl)
  | true =>
  rw [if_neg (by decide)] at hE
  refine uF ?_
  refine uR ?_; intro K hK
  refine callF uTS ((in7_sat x.kd 1 9)) uTS uTS uTS ?_; refine uS ?_
  refine hK _ ?_; clear hK K
  cases d1 : inB x.kd 1 9 with
  | false =>
    have : x.kd < 1 ∨ 9 < x.kd := by simp [inB] at d1; omega
    rw [if_pos this] at hE
    subst hE
    refine uT ?_
    repeat refine uA ?_
    (refine awp_ret (ret1 uRT ?_); try rfl)
  | true =>
  rw [if_neg (by simp [inB] at d1; omega)] at hE
  refine uF ?_
  refine uA ?_
  refine awp_seq ?_
  refine awp_merge (fun q : Nat => ⟨[(1, I i), (2, .ptO 102 1 0 0 0), (5, .ptO 105 8 0 0 0), (6, I (if isStrip x.kd = true then 1 else 0)), (7, I (hiN x.kd))], (105, some (8, .box [S x.nm, I x.kd, I x.ln, I x.zn, IS x.ex])) :: (102, some (1, .box [.sl (nds y.nodes) false, .sl (t3s y.devs) false])) :: [], q⟩) (fun _ => True) ?_ ?_
  · refine uR ?_; intro K hK
    refine callF uTS ((strip7_sat x.kd)) uTS uTS uTS ?_; refine uS ?_
    refine hK _ ?_; clear hK K
    unfold hiN
    cases isStrip x.kd with
    | true =>
      refine uT ?_
      repeat refine uA ?_
      refine ⟨_, trivial, uKF⟩
    | false =>
      refine uF ?_
      refine uW ?_
      refine ⟨_, trivial, uKF⟩
  rintro ck1 -
  refine awp_seq ?_
  refine awp_merge (fun q : Nat => ⟨[(1, I i), (2, .ptO 102 1 0 0 0), (5, .ptO 105 8 0 0 0), (6, I (loN x.kd)), (7, I (hiN x.kd))], (105, some (8, .box [S x.nm, I x.kd, I x.ln, I x.zn, IS x.ex])) :: (102, some (1, .box [.sl (nds y.nodes) false, .sl (t3s y.devs) false])) :: [], q⟩) (fun _ => True) ?_ ?_
  · unfold loN
    by_cases c5 : x.kd = 5
    · have d5 := decide_eq_true c5
      simp only [if_pos c5]
      refine uR1 @d5 ?_; intro K hK
      refine hK _ ?_; clear hK K
      refine uT ?_
      repeat refine uA ?_
      refine ⟨_, trivial, uKF⟩
    · have d5 := decide_eq_false c5
      simp only [if_neg c5]
      refine uR1 @d5 ?_; intro K hK
      refine hK _ ?_; clear hK K
      refine uF ?_
      refine uW ?_
      refine ⟨_, trivial, uKF⟩
  rintro ck2 -
  have hi1 := in7_sat x.ln (loN x.kd) (hiN x.kd)
  have hi2 := in7_sat x.zn 0 1
  have hz : (x.zn = 0 ∨ x.zn = 1) ↔ inB x.zn 0 1 = true := by simp [inB]; omega
  simp only [hz] at hE
  generalize inB x.ln (loN x.kd) (hiN x.kd) = b1 at *
  generalize inB x.zn 0 1 = b2 at *
  have hxs := exits7_sat x.kd
  generalize exitsN x.kd = en at *
  cases b1 with
  | false =>
    rw [if_neg (by simp)] at hE
    subst hE
    refine uE ?_; intro K hK
    refine uH ?_
    refine callF uTS (hi1) uTS uTS uTS ?_; refine uS ?_
    refine uH ?_
    refine hK _ ?_; clear hK K
    refine uT ?_
    repeat refine uA ?_
    (refine awp_ret (ret1 uRT ?_); try rfl)
  | true =>
  cases b2 with
  | false =>
    rw [if_neg (by simp)] at hE
    subst hE
    refine uE ?_; intro K hK
    refine uH ?_
    refine callF uTS (hi1) uTS uTS uTS ?_; refine uS ?_
    refine callF uTS (hi2) uTS uTS uTS ?_; refine uS ?_
    refine uH ?_
    refine hK _ ?_; clear hK K
    refine uT ?_
    repeat refine uA ?_
    (refine awp_ret (ret1 uRT ?_); try rfl)
  | true =>
  by_cases c3 : (x.ex.length : Int) = en
  · have d3 : decide (¬ (x.ex.length : Int) = en) = false := decide_eq_false (by omega)
    refine uE ?_; intro K hK
    refine uH ?_
    refine callF uTS (hi1) uTS uTS uTS ?_; refine uS ?_
    refine callF uTS (hi2) uTS uTS uTS ?_; refine uS ?_
    refine callF uTS (hxs) uTS uTS uTS ?_; refine uS ?_
    first | refine uS1 @d3 ?_ | exact uX1 @d3
    refine uH ?_
    refine hK _ ?_; clear hK K
    refine uF ?_
    replace hlp := hlp c3
    clear hex hxs hi1 hi2 hz c3 d3
    repeat refine uA ?_
    refine uW ?_
    refine awp_loopW (fun q : Nat × Nat => ⟨[(1, I i), (2, .ptO 102 1 0 0 0), (5, .ptO 105 8 0 0 0), (8, I q.2)], (105, some (8, .box [S x.nm, I x.kd, I x.ln, I x.zn, IS x.ex])) :: (102, some (1, .box [.sl (nds y.nodes) false, .sl (t3s y.devs) false])) :: [], q.1⟩) (fun q => q.2 ≤ x.ex.length ∧ ∀ j, j < q.2 → leadA y.nodes.length i x j = true) (fun q => x.ex.length - q.2) (_, 0) ⟨Nat.zero_le _, fun j hj => absurd hj (Nat.not_lt_zero _)⟩ (uKF) ?_
    rintro ⟨ck3, k⟩ ⟨hk, hj⟩
    simp only at hk hj
    repeat refine uA ?_
    refine uW ?_; refine condP _ rfl (fun h => ?_) (fun h => ?_)
    · have hlt : k < x.ex.length := by omega
      have hbad := range_all_false (p := leadA y.nodes.length i x) hlt
      have hgood : leadA y.nodes.length i x k = true → ∀ j, j < k + 1 → leadA y.nodes.length i x j = true := fun h j hj' => by
        by_cases hji : j = k
        · subst hji; exact h
        · exact hj j (by omega)
      have hA : leadA y.nodes.length i x k = _ := leadA.eq_1 _ _ _ _
      generalize leadA y.nodes.length i x k = la at *
      iterate 3 (first | refine awp_skip ?_ | refine awp_seq ?_ | refine awp_block ?_)
      refine awp_seq ?_
      refine awp_merge (fun q : Nat => ⟨[(1, I i), (2, .ptO 102 1 0 0 0), (5, .ptO 105 8 0 0 0), (8, I k), (9, B (decide (x.kd = 5) && decide (k = 0)))], (105, some (8, .box [S x.nm, I x.kd, I x.ln, I x.zn, IS x.ex])) :: (102, some (1, .box [.sl (nds y.nodes) false, .sl (t3s y.devs) false])) :: [], q⟩) (fun _ => True) ?_ ?_
      · by_cases c5 : x.kd = 5
        · have d5 := decide_eq_true c5
          by_cases c0 : k = 0
          · have d0 : decide ((k : Int) = 0) = true := decide_eq_true (by omega)
            repeat refine uA1 (And.intro @d5 @d0) ?_
            refine ⟨_, trivial, .of (Nat.le_refl _) uHF (uWF1 (And.intro @d5 (And.intro @c0 @Bool.true_and)))⟩
          · have d0 : decide ((k : Int) = 0) = false := decide_eq_false (by omega)
            repeat refine uA1 (And.intro @d5 @d0) ?_
            refine ⟨_, trivial, .of (Nat.le_refl _) uHF (uWF1 (And.intro @d5 (And.intro @c0 @Bool.true_and)))⟩
        · have d5 := decide_eq_false c5
          repeat refine uA1 @d5 ?_
          refine ⟨_, trivial, .of (Nat.le_refl _) uHF (uWF1 (And.intro @d5 @Bool.false_and))⟩
      rintro ck4 -
      have hin := in7_sat (x.ex.getD k 0) 0 (y.nodes.length - 1)
      generalize inB (x.ex.getD k 0) 0 (y.nodes.length - 1) = b3 at *
      generalize (decide (x.kd = 5) && decide (k = 0)) = ow at *
      cases b3 with
      | false =>
        rw [Bool.false_and] at hA
        subst hA
        rw [hlp, hbad rfl, if_neg (by simp)] at hE
        subst hE
        refine uE1 (ints_getD hlt) ?_; intro K hK
        refine ⟨by omega, by omega, ?_⟩
        refine callF uTS (hin) uTS uTS uTS ?_; refine uS ?_
        refine uH ?_
        refine hK _ ?_; clear hK K
        refine uT ?_
        repeat refine uA ?_
        (refine awp_ret (ret1 uRT ?_); try rfl)
      | true =>
        rw [Bool.true_and] at hA
        refine uE1 (ints_getD hlt) ?_; intro K hK
        refine ⟨by omega, by omega, ?_⟩
        refine callF uTS (hin) uTS uTS uTS ?_; refine uS ?_
        first | refine uS1 (And.intro (ints_getD hlt) @hA.symm) ?_ | exact uX1 (And.intro (ints_getD hlt) @hA.symm)
        refine uH ?_
        refine hK _ ?_; clear hK K
        cases la with
        | false =>
          rw [hlp, hbad rfl, if_neg (by simp)] at hE
          subst hE
          refine uT ?_
          repeat refine uA ?_
          (refine awp_ret (ret1 uRT ?_); try rfl)
        | true =>
          refine uF ?_
          repeat refine uA ?_
          refine ⟨(_, k + 1), ⟨by simp only; omega, hgood rfl⟩, by simp only; omega, uKF⟩
    · refine awp_exit ?_
      obtain rfl : k = x.ex.length := by omega
      rw [range_all_true hj, Bool.true_and] at hlp
      by_cases c2 : x.ex.length = 2
      · have d2 : decide ((x.ex.length : Int) = 2) = true := decide_eq_true (by omega)
        rw [decide_eq_true c2, Bool.true_and] at hlp
        have hl0 : 0 < x.ex.length := by omega
        have hl1 : 1 < x.ex.length := by omega
        refine uE1 (And.intro @d2 (And.intro (ints_getD hl0) (And.intro (ints_getD hl1) (And.intro @Int.toNat_zero @Int.toNat_one)))) ?_; intro K hK
        refine uH ?_
        refine hK _ ?_; clear hK K
        refine uW ?_; refine condP _ rfl (fun c4 => ?_) (fun c4 => ?_)
        · rw [decide_eq_true c4] at hlp
          rw [hlp, if_neg (by simp)] at hE
          subst hE
          repeat refine uA ?_
          (refine awp_ret (ret1 uRT ?_); try rfl)
        · rw [decide_eq_false c4] at hlp
          rw [hlp, if_pos (by simp)] at hE
          subst hE
          repeat refine uA ?_
          (refine awp_ret (ret1 uRT ?_); try rfl)
      · have d2 : decide ((x.ex.length : Int) = 2) = false := decide_eq_false (by omega)
        rw [decide_eq_false c2, Bool.false_and] at hlp
        rw [hlp, if_pos (by simp)] at hE
        subst hE
        refine uE1 @d2 ?_; intro K hK
        refine uH ?_
        refine hK _ ?_; clear hK K
        refine uF ?_
        repeat refine uA ?_
        (refine awp_ret (ret1 uRT ?_); try rfl)
  · have d3 : decide (¬ (x.ex.length : Int) = en) = true := decide_eq_true c3
    rw [if_neg (by rw [hex c3]; simp)] at hE
    subst hE
    refine uE ?_; intro K hK
    refine uH ?_
    refine callF uTS (hi1) uTS uTS uTS ?_; refine uS ?_
    refine callF uTS (hi2) uTS uTS uTS ?_; refine uS ?_
    refine callF uTS (hxs) uTS uTS uTS ?_; refine uS ?_
    first | refine uS1 @d3 ?_ | exact uX1 @d3
    refine uH ?_
    refine hK _ ?_; clear hK K
    refine uT ?_
    repeat refine uA ?_
    (refine awp_ret (ret1 uRT ?_); try rfl)
end Go.Proofs.YtkhjenddapaejaaGreatDoor
namespace Go.Proofs.YtkhjenddapaejaaGreatDoor
open Go Go.Sym
def zf (x : Nd) : Bool := decide (x.kd = 1) || (decide (x.kd = 3) || decide (x.kd = 6))
def zs (x : Nd) : Bool := decide (x.kd = 7) || decide (x.kd = 8)
theorem zoneA_fs (x : Nd) : zoneA x = !((zf x && decide (¬ x.zn = 0)) || (zs x && decide (¬ x.zn = 1))) := by
  unfold zoneA zf zs
  by_cases h1 : x.kd = 1 ∨ x.kd = 3 ∨ x.kd = 6
  · rw [if_pos h1]
    have h7 : ¬ x.kd = 7 := by omega
    have h8 : ¬ x.kd = 8 := by omega
    have : (decide (x.kd = 1) || (decide (x.kd = 3) || decide (x.kd = 6))) = true := by simpa using h1
    rw [this, decide_eq_false h7, decide_eq_false h8]
    simp
  · rw [if_neg h1]
    have : (decide (x.kd = 1) || (decide (x.kd = 3) || decide (x.kd = 6))) = false := by simpa using h1
    rw [this]
    by_cases h2 : x.kd = 7 ∨ x.kd = 8
    · rw [if_pos h2]
      have : (decide (x.kd = 7) || decide (x.kd = 8)) = true := by simpa using h2
      rw [this]; simp
    · rw [if_neg h2]
      have : (decide (x.kd = 7) || decide (x.kd = 8)) = false := by simpa using h2
      rw [this]; simp
theorem rzoned_sat (y : Ly) (hN : y.nodes.length ≤ 1000) (hx : ∀ i, i < y.nodes.length → (y.nodes.getD i default).ex.length ≤ 1000) (hr : ∀ i, i < y.nodes.length → ∀ k, k < (y.nodes.getD i default).ex.length → 0 ≤ (y.nodes.getD i default).ex.getD k 0 ∧ (y.nodes.getD i default).ex.getD k 0 < y.nodes.length) :
    SatG Tryz.prog tab 99 [] [y.av] [] (B (zonesB y.nodes)) := by
  refine uFN Tryz.func99 Tryz.ntmps99 ?_; intro w e X hC
  repeat refine uA ?_
  refine uW ?_
  refine awp_loopW (fun q : Nat × Nat => ⟨[(1, .ptO 101 1 0 0 0), (3, I q.2)], (101, some (1, .box [.sl (nds y.nodes) false, .sl (t3s y.devs) false])) :: [], q.1⟩) (fun q => q.2 ≤ y.nodes.length ∧ ∀ j, j < q.2 → zoneB y.nodes (y.nodes.getD j default) = true) (fun q => y.nodes.length - q.2) (_, 0) ⟨Nat.zero_le _, fun j hj => absurd hj (Nat.not_lt_zero _)⟩ (uKF) ?_
  rintro ⟨ck, i⟩ ⟨hi, hj⟩
  simp only at hi hj
  repeat refine uA ?_
  refine uW ?_; refine condP _ rfl (fun h => ?_) (fun h => ?_)
  · have hlt : i < y.nodes.length := by omega
    have hbad := range_all_false (p := fun i => zoneB y.nodes (y.nodes.getD i default)) hlt
    have hzB : zonesB y.nodes = _ := zonesB.eq_1 y.nodes
    try simp only at hbad
    rw [← hzB] at hbad
    have hgood : zoneB y.nodes (y.nodes.getD i default) = true → ∀ j, j < i + 1 → zoneB y.nodes (y.nodes.getD j default) = true := fun h j hj' => by
      by_cases hji : j = i
      · subst hji; exact h
      · exact hj j (by omega)
    have hxi := hx i hlt
    have hri := hr i hlt
    clear hzB
    generalize e1 : y.nodes.getD i default = x at *
    have hZ : zoneB y.nodes x = _ := zoneB.eq_1 _ _
    rw [zoneA_fs] at hZ
    iterate 3 (first | refine awp_skip ?_ | refine awp_seq ?_ | refine awp_block ?_)
    refine awp_seq ?_
    refine uR1 (And.intro (nds_getD hlt) @e1) ?_; intro K hK
    refine uH ?_
    refine hK _ ?_; clear hK K
    refine awp_weak (s' := ⟨[(1, .ptO 101 1 0 0 0), (3, I i), (4, .ptO 104 (ck+10) 0 0 0)], (104, some (ck+10, .box [S x.nm, I x.kd, I x.ln, I x.zn, IS x.ex])) :: (101, some (1, .box [.sl (nds y.nodes) false, .sl (t3s y.devs) false])) :: [], _⟩) (uKF) ?_
    generalize hgk : ck + 10 = g
    clear hgk
    refine awp_seq ?_
    refine awp_merge (fun q : Nat => ⟨[(1, .ptO 101 1 0 0 0), (3, I i), (4, .ptO 104 g 0 0 0), (5, B (zf x))], (104, some (g, .box [S x.nm, I x.kd, I x.ln, I x.zn, IS x.ex])) :: (101, some (1, .box [.sl (nds y.nodes) false, .sl (t3s y.devs) false])) :: [], q⟩) (fun _ => True) ?_ ?_
    · unfold zf
      cases d1 : decide (x.kd = 1) with
      | true =>
        repeat refine uA1 @d1 ?_
        refine ⟨_, trivial, uKF⟩
      | false =>
      cases d3 : decide (x.kd = 3) with
      | true =>
        repeat refine uA1 (And.intro @d1 @d3) ?_
        refine ⟨_, trivial, uKF⟩
      | false =>
        repeat refine uA1 (And.intro @d1 @d3) ?_
        refine ⟨_, trivial, uKF⟩
    rintro ck1 -
    refine awp_seq ?_
    refine awp_merge (fun q : Nat => ⟨[(1, .ptO 101 1 0 0 0), (3, I i), (4, .ptO 104 g 0 0 0), (5, B (zf x)), (6, B (zs x))], (104, some (g, .box [S x.nm, I x.kd, I x.ln, I x.zn, IS x.ex])) :: (101, some (1, .box [.sl (nds y.nodes) false, .sl (t3s y.devs) false])) :: [], q⟩) (fun _ => True) ?_ ?_
    · unfold zs
      cases d1 : decide (x.kd = 7) with
      | true =>
        repeat refine uA1 @d1 ?_
        refine ⟨_, trivial, uKF⟩
      | false =>
        repeat refine uA1 @d1 ?_
        refine ⟨_, trivial, uKF⟩
    rintro ck2 -
    generalize zf x = f at *
    generalize zs x = sc at *
    have hb0 : ∀ u : Bool, zoneB y.nodes x = (false && u) → zoneB y.nodes x = false := fun u h => by rw [h, Bool.false_and]
    refine awp_seq ?_
    refine awp_merge (fun q : Nat => ⟨[(1, .ptO 101 1 0 0 0), (3, I i), (4, .ptO 104 g 0 0 0)], (104, some (g, .box [S x.nm, I x.kd, I x.ln, I x.zn, IS x.ex])) :: (101, some (1, .box [.sl (nds y.nodes) false, .sl (t3s y.devs) false])) :: [], q⟩) (fun _ => zoneB y.nodes x = (List.range x.ex.length).all (zoneK y.nodes x)) ?_ ?_
    · cases f with
      | true =>
        cases z0 : decide (¬ x.zn = 0) with
        | true =>
          rw [z0] at hZ
          repeat first | refine uC ?_ | refine uA1 @z0 ?_
          rw [hbad (hb0 _ hZ)]
          (refine awp_ret (ret1 uRT ?_); try rfl)
        | false =>
          rw [z0] at hZ
          cases sc with
          | true =>
            cases z1 : decide (¬ x.zn = 1) with
            | true =>
              rw [z1] at hZ
              repeat first | refine uC ?_ | refine uA1 (And.intro @z0 @z1) ?_
              rw [hbad (hb0 _ hZ)]
              (refine awp_ret (ret1 uRT ?_); try rfl)
            | false =>
              rw [z1] at hZ
              repeat first | refine uC ?_ | refine uA1 (And.intro @z0 @z1) ?_
              refine uW ?_
              refine ⟨_, hZ, uKF⟩
          | false =>
            repeat first | refine uC ?_ | refine uA1 @z0 ?_
            refine uW ?_
            refine ⟨_, hZ, uKF⟩
      | false =>
        cases sc with
        | true =>
          cases z1 : decide (¬ x.zn = 1) with
          | true =>
            rw [z1] at hZ
            repeat first | refine uC ?_ | refine uA1 @z1 ?_
            rw [hbad (hb0 _ hZ)]
            (refine awp_ret (ret1 uRT ?_); try rfl)
          | false =>
            rw [z1] at hZ
            repeat first | refine uC ?_ | refine uA1 @z1 ?_
            refine uW ?_
            refine ⟨_, hZ, uKF⟩
        | false =>
          repeat first | refine uC ?_ | refine uA ?_
          refine uW ?_
          refine ⟨_, hZ, uKF⟩
    rintro ck3 hZ2
    clear hZ hb0
    repeat refine uA ?_
    refine uW ?_
    refine awp_loopW (fun q : Nat × Nat => ⟨[(1, .ptO 101 1 0 0 0), (3, I i), (4, .ptO 104 g 0 0 0), (7, I q.2)], (104, some (g, .box [S x.nm, I x.kd, I x.ln, I x.zn, IS x.ex])) :: (101, some (1, .box [.sl (nds y.nodes) false, .sl (t3s y.devs) false])) :: [], q.1⟩) (fun q => q.2 ≤ x.ex.length ∧ ∀ j, j < q.2 → zoneK y.nodes x j = true) (fun q => x.ex.length - q.2) (_, 0) ⟨Nat.zero_le _, fun j hj => absurd hj (Nat.not_lt_zero _)⟩ (uKF) ?_
    rintro ⟨ck, k⟩ ⟨hk, hj2⟩
    simp only at hk hj2
    repeat refine uA ?_
    refine uW ?_; refine condP _ rfl (fun h2 => ?_) (fun h2 => ?_)
    · have hlt2 : k < x.ex.length := by omega
      obtain ⟨r0, r1⟩ := hri k hlt2
      have hbad2 : zoneK y.nodes x k = false → zonesB y.nodes = false := fun h => hbad (by rw [hZ2, range_all_false hlt2 h])
      have hgood2 : zoneK y.nodes x k = true → ∀ j, j < k + 1 → zoneK y.nodes x j = true := fun h j hj' => by
        by_cases hji : j = k
        · subst hji; exact h
        · exact hj2 j (by omega)
      obtain ⟨zk, hzk⟩ : ∃ zk, zk = zoneK y.nodes x k := ⟨_, rfl⟩
      rw [← hzk] at hbad2 hgood2
      unfold zoneK at hzk
      obtain ⟨m, hm⟩ : ∃ m, m = (x.ex.getD k 0).toNat := ⟨_, rfl⟩
      have hmm : x.ex.getD k 0 = (m : Int) := by omega
      rw [← hm] at hzk
      have hmn : m < y.nodes.length := by omega
      generalize e3 : y.nodes.getD m default = t at *
      refine uD1 (And.intro (ints_getD hlt2) (And.intro @hmm (And.intro (nds_getD hmn) @e3))) ?_; intro K hK
      refine uH ?_
      refine hK _ ?_; clear hK K
      refine awp_weak (s' := ⟨[(1, .ptO 101 1 0 0 0), (3, I i), (4, .ptO 104 g 0 0 0), (7, I k), (8, .ptO 108 (ck+14) 0 0 0)], (108, some (ck+14, .box [S t.nm, I t.kd, I t.ln, I t.zn, IS t.ex])) :: (104, some (g, .box [S x.nm, I x.kd, I x.ln, I x.zn, IS x.ex])) :: (101, some (1, .box [.sl (nds y.nodes) false, .sl (t3s y.devs) false])) :: [], _⟩) (uKF) ?_
      generalize hgk : ck + 14 = g2
      clear hgk
      refine uA ?_
      refine awp_seq ?_
      refine awp_merge (fun q : Nat => ⟨[(1, .ptO 101 1 0 0 0), (3, I i), (4, .ptO 104 g 0 0 0), (7, I k), (8, .ptO 108 g2 0 0 0), (9, I (zoneW x k))], (108, some (g2, .box [S t.nm, I t.kd, I t.ln, I t.zn, IS t.ex])) :: (104, some (g, .box [S x.nm, I x.kd, I x.ln, I x.zn, IS x.ex])) :: (101, some (1, .box [.sl (nds y.nodes) false, .sl (t3s y.devs) false])) :: [], q⟩) (fun _ => True) ?_ ?_
      · by_cases c6 : x.kd = 6
        · have d6 := decide_eq_true c6
          by_cases ck1 : k = 1
          · have dk : decide ((k : Int) = 1) = true := decide_eq_true (by omega)
            have hw : zoneW x k = 1 := by rw [zoneW, if_pos ⟨c6, ck1⟩]
            repeat first | refine uC ?_ | refine uA1 (And.intro @d6 @dk) ?_
            refine uW ?_
            refine ⟨_, trivial, .of (Nat.le_refl _) (uHF1 @hw) (uWF1 @hw)⟩
          · have dk : decide ((k : Int) = 1) = false := decide_eq_false (by omega)
            have hw : zoneW x k = x.zn := by rw [zoneW, if_neg (fun h => ck1 h.2)]
            repeat first | refine uC ?_ | refine uA1 (And.intro @d6 @dk) ?_
            refine uW ?_
            refine ⟨_, trivial, .of (Nat.le_refl _) (uHF1 @hw) (uWF1 @hw)⟩
        · have d6 := decide_eq_false c6
          have hw : zoneW x k = x.zn := by rw [zoneW, if_neg (fun h => c6 h.1)]
          repeat first | refine uC ?_ | refine uA1 @d6 ?_
          refine uW ?_
          refine ⟨_, trivial, .of (Nat.le_refl _) (uHF1 @hw) (uWF1 @hw)⟩
      rintro ck4 -
      generalize zoneW x k = wt at *
      cases c1 : decide (t.kd = 1) with
      | true =>
        rw [c1, Bool.true_or] at hzk
        repeat first | refine uC ?_ | refine uA1 @c1 ?_
        rw [hbad2 hzk]
        (refine awp_ret (ret1 uRT ?_); try rfl)
      | false =>
        cases c2 : decide (¬ t.zn = wt) with
        | true =>
          rw [c1, c2] at hzk
          repeat first | refine uC ?_ | refine uA1 (And.intro @c1 @c2) ?_
          rw [hbad2 hzk]
          (refine awp_ret (ret1 uRT ?_); try rfl)
        | false =>
          rw [c1, c2] at hzk
          repeat first | refine uC ?_ | refine uA1 (And.intro @c1 @c2) ?_
          refine ⟨(_, k + 1), ⟨by simp only; omega, hgood2 hzk⟩, by simp only; omega, uKF⟩
    · refine awp_exit ?_
      rw [range_all_true fun j hj' => hj2 j (by omega)] at hZ2
      repeat refine uA ?_
      refine ⟨(_, i + 1), ⟨by simp only; omega, hgood hZ2⟩, by simp only; omega, uKF⟩
  · refine awp_exit ?_
    have : zonesB y.nodes = true := range_all_true fun j hj' => hj j (by omega)
    rw [this]
    repeat refine uA ?_
    (refine awp_ret (ret1 uRT ?_); try rfl)
end Go.Proofs.YtkhjenddapaejaaGreatDoor
namespace Go.Proofs.YtkhjenddapaejaaGreatDoor
open Go Go.Sym
theorem cnt_take {xs : List Nd} {k : Nat} (h : k < xs.length) : (xs.take (k + 1)).countP (fun x => decide (x.kd = 1)) = (xs.take k).countP (fun x => decide (x.kd = 1)) + if (xs.getD k default).kd = 1 then 1 else 0 := by
  rw [take_getD (d := default) h, List.countP_append]
  congr 1
  by_cases h1 : (xs.getD k default).kd = 1
  · rw [if_pos h1, List.countP_cons_of_pos (by exact decide_eq_true h1)]; rfl
  · rw [if_neg h1, List.countP_cons_of_neg (by simpa only [decide_eq_true_eq] using h1)]; rfl
theorem ent_cnt (xs : List Nd) : entB xs = decide (¬ xs.countP (fun x => decide (x.kd = 1)) = 0) := by
  rw [entB, Bool.eq_iff_iff, decide_eq_true_eq, List.countP_eq_zero, List.any_eq_true]
  constructor
  · rintro ⟨x, hx, h1⟩ h2
    exact h2 x hx h1
  · intro h
    refine Decidable.byContradiction fun h2 => h fun x hx h1 => h2 ⟨x, hx, h1⟩
theorem rvalidate_sat (y : Ly) (hs : Sml7 y) : SatG Tryz.prog tab 58 [] [y.av] [] (I (validE y)) := by
  obtain ⟨hN, hD, hx, hnm⟩ := hs
  have hnode := fun i hi => rnode_sat y i hi hN (hx i hi) (hnm i hi)
  have htot := total_sat y hN
  have hfnd := fun nm => find_sat y nm hN
  have hzon := rzoned_sat y hN hx
  have hord := order7_sat y hN hx
  have hE : validE y = _ := validE.eq_1 y
  rw [ent_cnt] at hE
  generalize validE y = r at *
  refine uFN Tryz.func58 Tryz.ntmps58 ?_; intro w e X hC
  repeat refine uA ?_
  cases d1 : decide (24 < (y.nodes.length : Int)) with
  | true =>
    have h1 := of_decide_eq_true d1
    rw [if_pos (.inl (by omega))] at hE
    subst hE
    repeat first | refine uC ?_ | refine uA1 @d1 ?_
    (refine awp_ret (ret1 uRT ?_); try rfl)
  | false =>
  have h1 := of_decide_eq_false d1
  cases d2 : decide (24 < (y.devs.length : Int)) with
  | true =>
    have h2 := of_decide_eq_true d2
    rw [if_pos (.inr (by omega))] at hE
    subst hE
    repeat first | refine uC ?_ | refine uA1 (And.intro @d1 @d2) ?_
    (refine awp_ret (ret1 uRT ?_); try rfl)
  | false =>
  have h2 := of_decide_eq_false d2
  rw [if_neg (by omega)] at hE
  refine uR1 (And.intro @d1 @d2) ?_; intro K hK
  refine hK _ ?_; clear hK K
  refine uF ?_
  repeat refine uA ?_
  refine uW ?_
  refine awp_loopW (fun q : Nat × Nat => ⟨[(1, .ptO 101 1 0 0 0), (3, I ((y.nodes.take q.2).countP (fun x => decide (x.kd = 1)) : Nat)), (4, I q.2)], (101, some (1, .box [.sl (nds y.nodes) false, .sl (t3s y.devs) false])) :: [], q.1⟩) (fun q => q.2 ≤ y.nodes.length ∧ ∀ j, j < q.2 → nodeE y.nodes.length j (y.nodes.getD j default) = 0) (fun q => y.nodes.length - q.2) (_, 0) ⟨Nat.zero_le _, fun j hj => absurd hj (Nat.not_lt_zero _)⟩ (uKF) ?_
  rintro ⟨ck, k⟩ ⟨hk, hj⟩
  simp only at hk hj
  have hcnt : (y.nodes.take k).countP (fun x => decide (x.kd = 1)) ≤ k := Nat.le_trans List.countP_le_length (by rw [List.length_take]; omega)
  have hcf : k = y.nodes.length → (y.nodes.take k).countP (fun x => decide (x.kd = 1)) = y.nodes.countP (fun x => decide (x.kd = 1)) := fun h => by rw [h, List.take_length]
  have hct := cnt_take (xs := y.nodes) (k := k)
  generalize (y.nodes.take k).countP (fun x => decide (x.kd = 1)) = ct at *
  repeat refine uA ?_
  refine uW ?_; refine condP _ rfl (fun h => ?_) (fun h => ?_)
  · have hlt : k < y.nodes.length := by omega
    replace hct := hct hlt
    have hbad := nodesE_bad hlt hj
    have hsat := hnode k hlt
    have hgood : nodeE y.nodes.length k (y.nodes.getD k default) = 0 → ∀ j, j < k + 1 → nodeE y.nodes.length j (y.nodes.getD j default) = 0 := fun h j hj' => by
      by_cases hji : j = k
      · subst hji; exact h
      · exact hj j (by omega)
    generalize nodeE y.nodes.length k (y.nodes.getD k default) = e at *
    generalize e2 : y.nodes.getD k default = x at *
    refine uR ?_; intro K hK
    refine callF uTS (hsat) uTS uTS uTS ?_; refine uS ?_
    refine hK _ ?_; clear hK K
    repeat refine uA ?_
    refine uW ?_; refine condP _ rfl (fun c1 => ?_) (fun c1 => ?_)
    · rw [if_pos (by rw [hbad c1]; exact c1), hbad c1] at hE
      subst hE
      repeat refine uA ?_
      (refine awp_ret (ret1 uRT ?_); try rfl)
    · have hg2 := hgood (Decidable.byContradiction c1)
      by_cases c2 : x.kd = 1
      · have d3 := decide_eq_true c2
        rw [if_pos c2] at hct
        repeat first | refine uC ?_ | refine uA1 (And.intro (nds_getD hlt) (And.intro @e2 @d3)) ?_
        refine ⟨(_, k + 1), ⟨by simp only; omega, hg2⟩, by simp only; omega, .of (Nat.le_refl _) uHF (uWF1 @hct)⟩
      · have d3 := decide_eq_false c2
        rw [if_neg c2] at hct
        repeat first | refine uC ?_ | refine uA1 (And.intro (nds_getD hlt) (And.intro @e2 @d3)) ?_
        refine ⟨(_, k + 1), ⟨by simp only; omega, hg2⟩, by simp only; omega, .of (Nat.le_refl _) uHF (uWF1 @hct)⟩
  · refine awp_exit ?_
    obtain rfl : k = y.nodes.length := by omega
    rw [← hcf rfl] at hE
    rw [if_neg (by rw [nodesE_ok hj]; simp)] at hE
    replace htot := htot fun i hi => ⟨(nodeE_len (hj i hi)).1, by have := (nodeE_len (hj i hi)).2.1; omega⟩
    replace hzon := hzon fun i hi k hk => nodeE_ex (hj i hi) k hk
    have hlns : ∀ i, i < y.nodes.length → 0 ≤ (y.nodes.getD i default).ln ∧ (y.nodes.getD i default).ln ≤ 8 := fun i hi => ⟨(nodeE_len (hj i hi)).1, (nodeE_len (hj i hi)).2.1⟩
    clear hj hnode hct hcf
    have hnB : namedB y.nodes = _ := namedB.eq_1 y.nodes
    generalize total y.nodes = t at *
    generalize namedB y.nodes = nb at *
    generalize zonesB y.nodes = zb at *
    generalize order y.nodes = o at *
    refine uR ?_; intro K hK
    refine callF uTS (htot) uTS uTS uTS ?_; refine uS ?_
    refine hK _ ?_; clear hK K
    refine uW ?_; refine condP _ rfl (fun c1 => ?_) (fun c1 => ?_)
    · rw [if_pos c1] at hE
      subst hE
      repeat refine uA ?_
      (refine awp_ret (ret1 uRT ?_); try rfl)
    rw [if_neg c1] at hE
    repeat refine uA ?_
    refine uW ?_
    refine awp_loopW (fun q : Nat × Nat => ⟨[(1, .ptO 101 1 0 0 0), (3, I ct), (6, I q.2)], (101, some (1, .box [.sl (nds y.nodes) false, .sl (t3s y.devs) false])) :: [], q.1⟩) (fun q => q.2 ≤ y.nodes.length ∧ ∀ j, j < q.2 → decide (findN y.nodes (y.nodes.getD j default).nm = (j : Int)) = true) (fun q => y.nodes.length - q.2) (_, 0) ⟨Nat.zero_le _, fun j hj => absurd hj (Nat.not_lt_zero _)⟩ (uKF) ?_
    rintro ⟨ck2, k⟩ ⟨hk, hj⟩
    simp only at hk hj
    repeat refine uA ?_
    refine uW ?_; refine condP _ rfl (fun h3 => ?_) (fun h3 => ?_)
    · have hlt : k < y.nodes.length := by omega
      have hbad := range_all_false (p := fun i => decide (findN y.nodes (y.nodes.getD i default).nm = (i : Int))) hlt
      try simp only at hbad
      rw [← hnB] at hbad
      have hsat := hfnd (y.nodes.getD k default).nm
      have hgood : decide (findN y.nodes (y.nodes.getD k default).nm = (k : Int)) = true → ∀ j, j < k + 1 → decide (findN y.nodes (y.nodes.getD j default).nm = (j : Int)) = true := fun h j hj' => by
        by_cases hji : j = k
        · subst hji; exact h
        · exact hj j (by omega)
      generalize e2 : y.nodes.getD k default = x at *
      generalize findN y.nodes x.nm = f at *
      refine uE1 (And.intro (nds_getD hlt) @e2) ?_; intro K hK
      refine ⟨by omega, ?_⟩
      refine callF uTS (hsat) uTS uTS uTS ?_; refine uS ?_
      refine uH ?_
      refine hK _ ?_; clear hK K
      refine uW ?_; refine condP _ rfl (fun c2 => ?_) (fun c2 => ?_)
      · rw [if_pos (hbad (decide_eq_false c2))] at hE
        subst hE
        repeat refine uA ?_
        (refine awp_ret (ret1 uRT ?_); try rfl)
      · repeat refine uA ?_
        refine ⟨(_, k + 1), ⟨by simp only; omega, hgood (decide_eq_true (Decidable.byContradiction c2))⟩, by simp only; omega, uKF⟩
    refine awp_exit ?_
    rw [if_neg (by rw [hnB, range_all_true fun j hj' => hj j (by omega)]; decide)] at hE
    clear hj
    refine uR ?_; intro K hK
    refine callF uTS (hzon) uTS uTS uTS ?_; refine uS ?_
    refine hK _ ?_; clear hK K
    cases zb with
    | false =>
      rw [if_pos rfl] at hE
      subst hE
      refine uT ?_
      repeat refine uA ?_
      (refine awp_ret (ret1 uRT ?_); try rfl)
    | true =>
    rw [if_neg (by decide)] at hE
    refine uF ?_
    refine uE ?_; intro K hK
    refine callP uTS (hord) uTS uTS uTS ?_; refine uS ?_
    refine uH ?_
    refine hK _ ?_; clear hK K
    refine uW ?_; refine condP _ rfl (fun c2 => ?_) (fun c2 => ?_)
    · rw [if_pos (by omega)] at hE
      subst hE
      repeat refine uA ?_
      (refine awp_ret (ret1 uRT ?_); try rfl)
    rw [if_neg (by omega)] at hE
    repeat refine uA ?_
    refine uW ?_
    refine awp_loopW (fun q : Nat × Nat => ⟨[(1, .ptO 101 1 0 0 0), (3, I ct), (7, I q.2)], (101, some (1, .box [.sl (nds y.nodes) false, .sl (t3s y.devs) false])) :: [], q.1⟩) (fun q => q.2 ≤ y.devs.length ∧ ∀ j, j < q.2 → devOne y.nodes (y.devs.getD j default) = 0) (fun q => y.devs.length - q.2) (_, 0) ⟨Nat.zero_le _, fun j hj => absurd hj (Nat.not_lt_zero _)⟩ (uKF) ?_
    rintro ⟨ck3, k⟩ ⟨hk, hj⟩
    simp only at hk hj
    repeat refine uA ?_
    refine uW ?_; refine condP _ rfl (fun h4 => ?_) (fun h4 => ?_)
    · have hlt : k < y.devs.length := by omega
      have hbad := devE_bad hlt hj
      have hgood : devOne y.nodes (y.devs.getD k default) = 0 → ∀ j, j < k + 1 → devOne y.nodes (y.devs.getD j default) = 0 := fun h j hj' => by
        by_cases hji : j = k
        · subst hji; exact h
        · exact hj j (by omega)
      have hO : devOne y.nodes (y.devs.getD k default) = _ := devOne.eq_1 _ _
      generalize devOne y.nodes (y.devs.getD k default) = dv at *
      generalize e2 : y.devs.getD k default = d at *
      iterate 3 (first | refine awp_skip ?_ | refine awp_seq ?_ | refine awp_block ?_)
      refine awp_seq ?_
      refine uR1 (And.intro (t3s_getD hlt) @e2) ?_; intro K hK
      refine uH ?_
      refine hK _ ?_; clear hK K
      refine awp_weak (s' := ⟨[(1, .ptO 101 1 0 0 0), (3, I ct), (7, I k), (8, .ptO 108 (ck3+10) 0 0 0)], (108, some (ck3+10, .box [I d.a, I d.b, I d.c])) :: (101, some (1, .box [.sl (nds y.nodes) false, .sl (t3s y.devs) false])) :: [], _⟩) (uKF) ?_
      generalize hgk : ck3 + 10 = g
      clear hgk
      refine awp_seq ?_
      refine awp_merge (fun q : Nat => ⟨[(1, .ptO 101 1 0 0 0), (3, I ct), (7, I k), (8, .ptO 108 g 0 0 0)], (108, some (g, .box [I d.a, I d.b, I d.c])) :: (101, some (1, .box [.sl (nds y.nodes) false, .sl (t3s y.devs) false])) :: [], q⟩) (fun _ => ¬ (¬ d.a = 1 ∧ ¬ d.a = 2)) ?_ ?_
      · cases q1 : decide (¬ d.a = 1) with
        | true =>
          have g1 := of_decide_eq_true q1
          cases q2 : decide (¬ d.a = 2) with
          | true =>
            have g2 := of_decide_eq_true q2
            rw [if_pos ⟨g1, g2⟩] at hO
            rw [if_pos (by rw [hbad (by omega)]; omega), hbad (by omega), hO] at hE
            subst hE
            repeat first | refine uC ?_ | refine uA1 (And.intro @q1 @q2) ?_
            (refine awp_ret (ret1 uRT ?_); try rfl)
          | false =>
            have g2 := of_decide_eq_false q2
            repeat first | refine uC ?_ | refine uA1 (And.intro @q1 @q2) ?_
            refine uW ?_
            refine ⟨_, fun h => g2 h.2, uKF⟩
        | false =>
          have g1 := of_decide_eq_false q1
          repeat first | refine uC ?_ | refine uA1 @q1 ?_
          refine uW ?_
          refine ⟨_, fun h => g1 h.1, uKF⟩
      rintro ck4 hak
      rw [if_neg hak] at hO
      have hi1 := in7_sat d.b 0 (y.nodes.length - 1)
      cases b3 : inB d.b 0 (y.nodes.length - 1) with
      | false =>
        rw [b3] at hi1
        rw [if_pos (by simp [inB] at b3; omega)] at hO
        rw [if_pos (by rw [hbad (by omega)]; omega), hbad (by omega), hO] at hE
        subst hE
        refine uE ?_; intro K hK
        refine uH ?_
        refine callF uTS (hi1) uTS uTS uTS ?_; refine uS ?_
        refine uH ?_
        refine hK _ ?_; clear hK K
        refine uT ?_
        repeat refine uA ?_
        (refine awp_ret (ret1 uRT ?_); try rfl)
      | true =>
        rw [b3] at hi1
        have hb1 : 0 ≤ d.b ∧ d.b < y.nodes.length := by simp [inB] at b3; omega
        obtain ⟨m, hm⟩ : ∃ m, m = d.b.toNat := ⟨_, rfl⟩
        have hmm : d.b = (m : Int) := by omega
        rw [← hm] at hO
        have hmn : m < y.nodes.length := by omega
        have hlm := hlns m hmn
        generalize e3 : y.nodes.getD m default = x at *
        have hi2 := in7_sat d.c 0 (x.ln - 1)
        rw [hmm] at hi1
        cases b4 : inB d.c 0 (x.ln - 1) with
        | false =>
          rw [b4] at hi2
          rw [if_pos (by simp [inB] at b4; omega)] at hO
          rw [if_pos (by rw [hbad (by omega)]; omega), hbad (by omega), hO] at hE
          subst hE
          refine uE1 @hmm ?_; intro K hK
          refine uH ?_
          refine callF uTS (hi1) uTS uTS uTS ?_; refine uS ?_
          first | refine uS1 (And.intro @hmm (And.intro (nds_getD hmn) @e3)) ?_ | exact uX1 (And.intro @hmm (And.intro (nds_getD hmn) @e3))
          refine uH ?_
          refine callF uTS (hi2) uTS uTS uTS ?_; refine uS ?_
          refine uH ?_
          refine hK _ ?_; clear hK K
          refine uT ?_
          repeat refine uA ?_
          (refine awp_ret (ret1 uRT ?_); try rfl)
        | true =>
          rw [b4] at hi2
          rw [if_neg (by simp [inB] at b4; omega)] at hO
          refine uE1 @hmm ?_; intro K hK
          refine uH ?_
          refine callF uTS (hi1) uTS uTS uTS ?_; refine uS ?_
          first | refine uS1 (And.intro @hmm (And.intro (nds_getD hmn) @e3)) ?_ | exact uX1 (And.intro @hmm (And.intro (nds_getD hmn) @e3))
          refine uH ?_
          refine callF uTS (hi2) uTS uTS uTS ?_; refine uS ?_
          refine uH ?_
          refine hK _ ?_; clear hK K
          refine uF ?_
          repeat refine uA ?_
          refine ⟨(_, k + 1), ⟨by simp only; omega, hgood hO⟩, by simp only; omega, uKF⟩
    refine awp_exit ?_
    obtain rfl : k = y.devs.length := by omega
    rw [devE_ok hj] at hE
    clear hj
    repeat refine uA ?_
    refine uW ?_
    refine awp_loopW (fun q : Nat × Nat => ⟨[(1, .ptO 101 1 0 0 0), (3, I ct), (9, I q.2)], (101, some (1, .box [.sl (nds y.nodes) false, .sl (t3s y.devs) false])) :: [], q.1⟩) (fun q => q.2 ≤ y.devs.length ∧ ∀ j, j < q.2 → dupK y.devs j = true) (fun q => y.devs.length - q.2) (_, 0) ⟨Nat.zero_le _, fun j hj => absurd hj (Nat.not_lt_zero _)⟩ (uKF) ?_
    rintro ⟨ck4, k⟩ ⟨hk, hj⟩
    simp only at hk hj
    repeat refine uA ?_
    refine uW ?_; refine condP _ rfl (fun h5 => ?_) (fun h5 => ?_)
    · have hlt : k < y.devs.length := by omega
      have hbad : dupK y.devs k = false → (List.range y.devs.length).all (dupK y.devs) = false := range_all_false hlt
      have hgood : dupK y.devs k = true → ∀ j, j < k + 1 → dupK y.devs j = true := fun h j hj' => by
        by_cases hji : j = k
        · subst hji; exact h
        · exact hj j (by omega)
      repeat refine uA ?_
      refine uW ?_
      refine awp_loopW (fun q : Nat × Nat => ⟨[(1, .ptO 101 1 0 0 0), (3, I ct), (9, I k), (10, I q.2)], (101, some (1, .box [.sl (nds y.nodes) false, .sl (t3s y.devs) false])) :: [], q.1⟩) (fun q => q.2 ≤ k ∧ ∀ j, j < q.2 → eqT (y.devs.getD k default) (y.devs.getD j default) = false) (fun q => k - q.2) (_, 0) ⟨Nat.zero_le _, fun j hj => absurd hj (Nat.not_lt_zero _)⟩ (uKF) ?_
      rintro ⟨ck5, c⟩ ⟨hc, hjc⟩
      simp only at hc hjc
      repeat refine uA ?_
      refine uW ?_; refine condP _ rfl (fun h6 => ?_) (fun h6 => ?_)
      · have hck : c < k := by omega
        have hcl : c < y.devs.length := by omega
        have hall : eqT (y.devs.getD k default) (y.devs.getD c default) = true → dupK y.devs k = false := fun h => by
          rw [dupK, Bool.not_eq_false', List.any_eq_true]
          refine ⟨y.devs.getD c default, ?_, h⟩
          have hcl2 : c < (y.devs.take k).length := by rw [List.length_take]; omega
          have : (y.devs.take k).getD c default = y.devs.getD c default := by
            simp only [List.getD_eq_getElem?_getD, List.getElem?_take]
            rw [if_pos hck]
          rw [← this]
          exact mem_getD hcl2
        have hg2 : eqT (y.devs.getD k default) (y.devs.getD c default) = false → ∀ j, j < c + 1 → eqT (y.devs.getD k default) (y.devs.getD j default) = false := fun h j hj' => by
          by_cases hji : j = c
          · subst hji; exact h
          · exact hjc j (by omega)
        have hT : eqT (y.devs.getD k default) (y.devs.getD c default) = _ := eqT.eq_1 _ _
        generalize eqT (y.devs.getD k default) (y.devs.getD c default) = tt at *
        generalize e2 : y.devs.getD k default = d at *
        generalize e3 : y.devs.getD c default = d' at *
        refine uE1 (And.intro (t3s_getD hlt) (And.intro @e2 (And.intro (t3s_getD hcl) (And.intro @e3 @hT.symm)))) ?_; intro K hK
        refine uH ?_
        refine hK _ ?_; clear hK K
        cases tt with
        | true =>
          rw [hbad (hall rfl)] at hE
          simp only [Bool.false_eq_true, if_false, Int.reduceEq, not_false_eq_true, if_true] at hE
          subst hE
          refine uT ?_
          repeat refine uA ?_
          (refine awp_ret (ret1 uRT ?_); try rfl)
        | false =>
          refine uF ?_
          repeat refine uA ?_
          refine ⟨(_, c + 1), ⟨by simp only; omega, hg2 rfl⟩, by simp only; omega, uKF⟩
      · refine awp_exit ?_
        obtain rfl : c = k := by omega
        have hdk : dupK y.devs c = true := by
          rw [dupK, Bool.not_eq_true', List.any_eq_false]
          intro z hz
          obtain ⟨j, hj, rfl⟩ := List.getElem_of_mem hz
          have hjl : j < c := by rw [List.length_take] at hj; omega
          have := hjc j hjl
          rw [List.getElem_take]
          simpa [show j < y.devs.length by omega] using this
        repeat refine uA ?_
        refine ⟨(_, c + 1), ⟨by simp only; omega, hgood hdk⟩, by simp only; omega, uKF⟩
    refine awp_exit ?_
    rw [if_pos (range_all_true fun j hj' => hj j (by omega)), if_neg (by simp)] at hE
    repeat refine uA ?_
    refine uW ?_; refine condP _ rfl (fun c6 => ?_) (fun c6 => ?_)
    · rw [decide_eq_false (show ¬ ¬ ct = 0 from fun h => h (by omega)), if_pos rfl] at hE
      subst hE
      repeat refine uA ?_
      (refine awp_ret (ret1 uRT ?_); try rfl)
    · rw [decide_eq_true (show ¬ ct = 0 from by omega), if_neg (by decide)] at hE
      subst hE
      repeat refine uA ?_
      (refine awp_ret (ret1 uRT ?_); try rfl)
end Go.Proofs.YtkhjenddapaejaaGreatDoor
namespace Go.Proofs.YtkhjenddapaejaaGreatDoor
open Go Go.Sym
def winR (y : Ly) : Int := if validE y = 0 then total y.nodes else 0
theorem validE_nodes {y : Ly} (h : validE y = 0) : ∀ i, i < y.nodes.length → nodeE y.nodes.length i (y.nodes.getD i default) = 0 := by
  rw [validE] at h
  split at h
  · cases h
  · split at h
    · rename_i h2; exact absurd h h2
    · rename_i h2
      have h2 : nodesE y.nodes = 0 := Decidable.byContradiction h2
      intro i
      induction i using Nat.strongRecOn with
      | _ i ih =>
        intro hi
        refine Decidable.byContradiction fun hb => ?_
        rw [nodesE_bad hi (fun j hj => ih j hj (by omega)) hb] at h2
        exact hb h2
theorem winR_le {y : Ly} (hN : y.nodes.length ≤ 1000) : 0 ≤ winR y ∧ winR y ≤ 80 := by
  unfold winR
  split
  · rename_i h
    have hn := validE_nodes h
    have h1 : total y.nodes ≤ 80 := by
      rw [validE] at h
      split at h
      · cases h
      · split at h
        · rename_i h2; exact absurd h h2
        · split at h
          · cases h
          · omega
    have := (totL_le (fun i hi => ⟨(nodeE_len (hn i hi)).1, by have := (nodeE_len (hn i hi)).2.1; omega⟩) _ (Nat.le_refl y.nodes.length)).1
    exact ⟨this, h1⟩
  · omega
theorem lwindows_sat (y : Ly) (hs : Sml7 y) : SatG Tryz.prog tab 57 [] [y.av] [] (I (winR y)) := by
  have h1 := validate_sat y hs
  have h2 := fun h : validE y = 0 => ltotal_sat y hs.n fun i hi => ⟨(nodeE_len (validE_nodes h i hi)).1, by have := (nodeE_len (validE_nodes h i hi)).2.1; omega⟩
  unfold winR
  generalize validE y = v at *
  refine uFN Tryz.func57 Tryz.ntmps57 ?_; intro w e X hC
  refine uA ?_
  refine uR ?_; intro K hK
  refine callF uTS (h1) uTS uTS uTS ?_; refine uS ?_
  refine hK _ ?_; clear hK K
  refine uW ?_; refine condP _ rfl (fun c => ?_) (fun c => ?_)
  · rw [if_neg c]
    repeat refine uA ?_
    (refine awp_ret (ret1 uRT ?_); try rfl)
  · have c' := Decidable.byContradiction c
    have h3 := h2 c'
    rw [if_pos c']
    refine uR ?_; intro K hK
    refine callF uTS (h3) uTS uTS uTS ?_; refine uS ?_
    refine hK _ ?_; clear hK K
    (refine awp_ret (ret1 uRT ?_); try rfl)
def clampN (n : Int) : Int := max 0 (min n 40)
theorem pbound_sat (y : Ly) (n : Int) (hs : Sml7 y) : SatG Tryz.prog tab 25 [] [y.av, I n] [] (I (clampN n * winR y)) := by
  have h1 := lwindows_sat y hs
  have h2 := winR_le hs.n
  generalize winR y = wv at *
  have hce : (if 40 < (if n < 0 then 0 else n) then 40 else if n < 0 then 0 else n) = clampN n := by unfold clampN; split <;> split at * <;> omega
  have hc : 0 ≤ clampN n ∧ clampN n ≤ 40 := by unfold clampN; omega
  have hm1 : 0 ≤ clampN n * wv ∧ clampN n * wv ≤ 3200 := ⟨Int.mul_nonneg hc.1 h2.1, by
    have := Int.mul_le_mul hc.2 h2.2 h2.1 (by omega : (0 : Int) ≤ 40)
    omega⟩
  refine uFN Tryz.func25 Tryz.ntmps25 ?_; intro w e X hC
  refine uA ?_
  refine uR ?_; intro K hK
  refine callF uTS (h1) uTS uTS uTS ?_; refine uS ?_
  simp only [hce]
  refine uH ?_
  refine hK _ ?_; clear hK K
  (refine awp_ret (ret1 uRT ?_); try rfl)
end Go.Proofs.YtkhjenddapaejaaGreatDoor
namespace Go.Proofs.YtkhjenddapaejaaGreatDoor
open Go Go.Sym
def nlL (n : Nat) : List AV := List.replicate n (.sl [] true)
theorem nl_length (n : Nat) : (nlL n).length = n := by simp [nlL]
theorem nl_snoc (n : Nat) : nlL n ++ [.sl [] true] = nlL (n + 1) := by simp [nlL, List.replicate_succ']
theorem nl_all {f : AV → Prop} (n : Nat) (h : f (.sl [] true)) : (∀ e ∈ nlL n, ∀ c ∈ e.cells, f c) = True := by
  refine eq_true fun e he c hc => ?_
  obtain rfl := (List.mem_replicate.1 he).2
  rw [show (AV.sl [] true).cells = [.sl [] true] from rfl, List.mem_singleton] at hc
  rw [hc]; exact h
theorem nl_cells (n : Nat) : (∀ y ∈ nlL n, y.cells.length = 1) = True := by
  refine eq_true fun e he => ?_
  obtain rfl := (List.mem_replicate.1 he).2
  rfl
theorem nl_map {f : AV → AV} {v : AV} (n : Nat) (h : f (.sl [] true) = v) : (nlL n).map (mapc f) = List.replicate n v := by
  rw [nlL, List.map_replicate]
  congr 1
theorem nl_fm {f : AV → List Nat} (n : Nat) (h : f (.sl [] true) = []) : ((nlL n).flatMap fun e => e.cells.flatMap f) = [] := by
  refine fm_nil fun e he => ?_
  obtain rfl := (List.mem_replicate.1 he).2
  show (List.flatMap f [.sl [] true]) = []
  simp [h]
theorem rep_rows (n : Nat) : List.replicate n (AV.sl [] false) = rows (List.replicate n []) := by simp [rows, ints]
theorem nl_fz (k n : Nat) (hp : Hp) : (nlL n).map (mapc (fz k hp)) = rows (List.replicate n []) := by rw [nl_map n (fz_sl k hp [] true), rep_rows]
theorem nl_fzP (k n : Nat) (hp : Hp) : (∀ e ∈ nlL n, ∀ c ∈ e.cells, fzP k hp c) = True := nl_all n (by cases k <;> trivial)
theorem nl_fzR (k n : Nat) (hp : Hp) : ((nlL n).flatMap fun e => e.cells.flatMap (fzR k hp)) = [] := nl_fm n (by cases k <;> rfl)
attribute [go_sem] nl_length nl_snoc nl_cells nl_fz nl_fzP nl_fzR
def emptyP (xs : List Nd) (k : Nat) : Pl := ⟨(List.range k).map fun i => List.replicate (xs.getD i default).ln.toNat 0, List.replicate k []⟩
theorem emptyP_succ (xs : List Nd) (k : Nat) : (emptyP xs (k + 1)).slots = (emptyP xs k).slots ++ [List.replicate (xs.getD k default).ln.toNat 0] := by simp [emptyP, List.range_succ]
theorem emptyP_len (xs : List Nd) (k : Nat) : (emptyP xs k).slots.length = k ∧ (emptyP xs k).bins.length = k := by simp [emptyP]
def newP (y : Ly) : Pl := if validE y = 0 then emptyP y.nodes y.nodes.length else ⟨[], []⟩
theorem pnew_sat (y : Ly) (hs : Sml7 y) (hn0 : validE y = 0 → 0 < y.nodes.length) : SatG Tryz.prog tab 31 [] [y.av] [] (.tup [(newP y).av, I (validE y)]) := by
  have h1 := validate_sat y hs
  have hE : newP y = _ := newP.eq_1 y
  have hln := fun h : validE y = 0 => fun i hi => (⟨(nodeE_len (validE_nodes h i hi)).1, (nodeE_len (validE_nodes h i hi)).2.1⟩ : 0 ≤ (y.nodes.getD i default).ln ∧ (y.nodes.getD i default).ln ≤ 8)
  have hN := hs.n
  generalize newP y = r at *
  generalize validE y = v at *
  refine uFN Tryz.func31 Tryz.ntmps31 ?_; intro w e X hC
  refine uA ?_
  refine uR ?_; intro K hK
  refine callF uTS (h1) uTS uTS uTS ?_; refine uS ?_
  refine hK _ ?_; clear hK K
  repeat refine uA ?_
  refine uW ?_; refine condP _ rfl (fun c => ?_) (fun c => ?_)
  · rw [if_neg c] at hE
    subst hE
    repeat refine uA ?_
    refine awp_ret ?_; rw [show Tryz.f31.results.toList = [.cell 2 34, .tmp 3] from rfl]; first | refine uRN ?_ | exact uRM
    rfl
  · have c' := Decidable.byContradiction c
    rw [if_pos c'] at hE
    replace hln := hln c'
    replace hn0 := hn0 c'
    subst hE
    repeat refine uA ?_
    refine uW ?_
    refine awp_loopW (fun q : Nat × Nat × Nat × Nat => ⟨[(1, .ptO 101 1 0 0 0), (2, .ptO 102 2 0 0 0), (5, .ptO 105 9 0 0 0), (15, .sl (nds y.nodes) false), (16, I y.nodes.length), (17, I q.2.1)],
      (105, some (9, .box [nilC q.2.1 (.slO 127 q.2.2.1 0 q.2.1), nilC q.2.1 (.slO 132 q.2.2.2 0 q.2.1)])) :: (127, nilH q.2.1 (q.2.2.1, .own 22 1 (krows 3 (emptyP y.nodes q.2.1).slots))) :: (132, nilH q.2.1 (q.2.2.2, .own 22 1 (nlL q.2.1))) :: (102, some (2, .box [.sl [] true, .sl [] true])) :: (101, some (1, .box [.sl (nds y.nodes) false, .sl (t3s y.devs) false])) :: [], q.1⟩)
      (fun q => q.2.1 ≤ y.nodes.length) (fun q => y.nodes.length - q.2.1) (_, 0, 0, 0) (Nat.zero_le _) (uKF) ?_
    rintro ⟨ck, i, g1, g2⟩ hi
    simp only at hi
    obtain ⟨hol, -⟩ := emptyP_len y.nodes i
    have e1 := emptyP_succ y.nodes i
    repeat refine uA ?_
    refine uW ?_; refine condP _ rfl (fun h => ?_) (fun h => ?_)
    · have hlt : i < y.nodes.length := by omega
      have hli := hln i hlt
      generalize (emptyP y.nodes i).slots = o at *
      generalize e2 : y.nodes.getD i default = x at *
      obtain ⟨m, hm⟩ : ∃ m : Nat, m = x.ln.toNat := ⟨_, rfl⟩
      have hmm : x.ln = (m : Int) := by omega
      rw [← hm] at e1
      by_cases hi0 : i = 0
      · subst hi0
        simp only [nilC_z, nilH_z]
        obtain rfl : o = [] := List.length_eq_zero_iff.1 hol
        repeat refine uA1 (And.intro (nds_getD hlt) (And.intro @e2 @hmm)) ?_
        refine uD1 @krows_one ?_; intro K hK
        refine uH ?_
        refine hK _ ?_; clear hK K
        repeat refine uA ?_
        refine ⟨(_, 0 + 1, ck + 11, ck + 17), by simp only; omega, by simp only; omega, .of (Nat.le_refl _) (uHF1 (And.intro @e1 (And.intro @nilC_s @nilH_s))) uWF⟩
      · simp only [nilC_p hi0, nilH_p hi0]
        repeat refine uA1 (And.intro (nds_getD hlt) (And.intro @e2 (And.intro @hmm @hol))) ?_
        refine uD1 @hol ?_; intro K hK
        refine uH ?_
        refine hK _ ?_; clear hK K
        repeat refine uA ?_
        refine ⟨(_, i + 1, g1, g2), by simp only; omega, by simp only; omega, .of (Nat.le_refl _) (uHF1 (And.intro @e1 (And.intro @nilC_s @nilH_s))) uWF⟩
    · refine awp_exit ?_
      obtain rfl : i = y.nodes.length := by omega
      have hnz : y.nodes.length ≠ 0 := by omega
      simp only [nilC_p hnz, nilH_p hnz]
      repeat refine uA ?_
      refine awp_ret ?_; rw [show Tryz.f31.results.toList = [.cell 2 34, .tmp 3] from rfl]; first | refine uRN1 @hol ?_ | exact uRM1 @hol
      rw [c']
      rfl
end Go.Proofs.YtkhjenddapaejaaGreatDoor
namespace Go.Proofs.YtkhjenddapaejaaGreatDoor
open Go Go.Sym
open Go.Plant
def whereQ (p : Pl) (b : Int) : Int × Int × Bool := if b = 0 then (0, 0, false) else whereP p b
theorem idxR_sym {l : List Int} {b : Int} : idxR (fun y => decide (b = y)) l = idxR (fun y => decide (y = b)) l := by
  have : (fun y : Int => decide (b = y)) = fun y => decide (y = b) := by
    funext y
    by_cases h : b = y
    · subst h; rfl
    · rw [decide_eq_false h, decide_eq_false (fun h2 => h h2.symm)]
  rw [this]
theorem idxR_mem {l : List Int} {b : Int} : (b ∈ l ∧ ∃ k : Nat, k < l.length ∧ idxR (fun y => decide (y = b)) l = k ∧ (l.findIdx? fun x => decide (x = b)) = some k) ∨ (b ∉ l ∧ idxR (fun y => decide (y = b)) l = -1) := by
  by_cases h : b ∈ l
  · refine .inl ⟨h, ?_⟩
    cases hf : (l.findIdx? fun x => decide (x = b)) with
    | none =>
      rw [List.findIdx?_eq_none_iff] at hf
      have := hf b h
      simp at this
    | some k =>
      have h2 := hf
      rw [List.findIdx?_eq_some_iff_getElem] at h2
      obtain ⟨h3, _⟩ := h2
      exact ⟨k, h3, by rw [idxR, hf], rfl⟩
  · refine .inr ⟨h, ?_⟩
    have : (l.findIdx? fun x => decide (x = b)) = none := by
      rw [List.findIdx?_eq_none_iff]
      intro x hx
      simp only [decide_eq_false_iff_not]
      rintro rfl
      exact h hx
    rw [idxR, this]
theorem pwhere_sat (p : Pl) (b : Int) (h1 : p.slots.length ≤ 1000) (h2 : p.bins.length ≤ 1000) (h3 : ∀ i, i < p.slots.length → (p.slots.getD i []).length ≤ 1000) (h4 : ∀ i, i < p.bins.length → (p.bins.getD i []).length ≤ 1000) :
    SatG Tryz.prog tab 39 [] [p.av, I b] [] (whereAV (whereQ p b)) := by
  refine uFN Tryz.func39 Tryz.ntmps39 ?_; intro w e X hC
  repeat refine uA ?_
  refine uW ?_; refine condP _ rfl (fun c0 => ?_) (fun c0 => ?_)
  · have hE : whereQ p b = (0, 0, false) := if_pos c0
    rw [hE]
    repeat refine uA ?_
    refine awp_ret ?_; rw [show Tryz.f39.results.toList = [.cell 4 52, .tmp 5] from rfl]; (refine (retN (by simp only [go_sem, Nat.reduceAdd, Nat.reduceSub, Nat.reduceMul, Nat.reduceLT, Nat.reduceEqDiff, Nat.reduceBEq, Nat.reduceLeDiff, Int.reduceToNat, ↓reduceIte, Int.reduceEq, Int.reduceLT, Int.reduceLE, Int.reduceAdd, Int.reduceSub, Int.reduceNeg, reduceCtorEq, retAV, resV] <;> simp) (by simp only [go_sem, Nat.reduceAdd, Nat.reduceSub, Nat.reduceMul, Nat.reduceLT, Nat.reduceEqDiff, Nat.reduceBEq, Nat.reduceLeDiff, Int.reduceToNat, ↓reduceIte, Int.reduceEq, Int.reduceLT, Int.reduceLE, Int.reduceAdd, Int.reduceSub, Int.reduceNeg, reduceCtorEq, retAV, resV] <;> trivial) ?_); simp only [go_sem, Nat.reduceAdd, Nat.reduceSub, Nat.reduceMul, Nat.reduceLT, Nat.reduceEqDiff, Nat.reduceBEq, Nat.reduceLeDiff, Int.reduceToNat, ↓reduceIte, Int.reduceEq, Int.reduceLT, Int.reduceLE, Int.reduceAdd, Int.reduceSub, Int.reduceNeg, reduceCtorEq, retAV, resV])
  · have hE : whereQ p b = whereP p b := if_neg c0
    rw [hE]
    repeat refine uA ?_
    refine uW ?_
    refine awp_loopW (fun q : Nat × Nat => ⟨[(1, I b), (2, .ptO 102 1 0 0 0), (4, .ptO 104 2 0 0 0), (15, RS p.slots), (16, I p.slots.length), (17, I q.2)], (102, some (1, .box [RS p.slots, RS p.bins])) :: (104, some (2, .box [I 0, I 0])) :: [], q.1⟩) (fun q => q.2 ≤ p.slots.length ∧ ∀ j, j < q.2 → b ∉ p.slots.getD j []) (fun q => p.slots.length - q.2) (_, 0) ⟨Nat.zero_le _, fun j hj => absurd hj (Nat.not_lt_zero _)⟩ (uKF) ?_
    rintro ⟨ck, i⟩ ⟨hi, hj⟩
    simp only at hi hj
    repeat refine uA ?_
    refine uW ?_; refine condP _ rfl (fun h => ?_) (fun h => ?_)
    · have hlt : i < p.slots.length := by omega
      have hri := h3 i hlt
      have hfr := fun h => fR_some hlt h hj
      have hgd : b ∉ p.slots.getD i [] → ∀ j, j < i + 1 → b ∉ p.slots.getD j [] := fun h j hj' => by
        by_cases hji : j = i
        · subst hji; exact h
        · exact hj j (by omega)
      have hix := idxR_mem (l := p.slots.getD i []) (b := b)
      have hgi : (p.slots.findIdx? fun r => decide (b ∈ r)) = some i → whereP p b = ((i : Int), ((((p.slots.getD i []).findIdx? fun x => decide (x = b)).getD 0 : Nat) : Int), true) := fun h => by rw [whereP, if_neg c0, h]
      generalize e1 : p.slots.getD i [] = sl at *
      have hsat := indexI_sat sl b (by omega)
      rw [idxR_sym] at hsat
      generalize idxR (fun y => decide (y = b)) sl = ix at *
      refine uA1 (And.intro (rows_getD hlt) @e1) ?_
      refine uR ?_; intro K hK
      refine callF uTS (hsat) uTS uTS uTS ?_; refine uS ?_
      refine hK _ ?_; clear hK K
      repeat refine uA ?_
      rcases hix with ⟨hm, k, hk, rfl, hf⟩ | ⟨hm, rfl⟩
      · have hw := hgi (hfr hm)
        rw [hf] at hw
        rw [hw]
        refine uW ?_; refine condP _ rfl (fun h5 => ?_) (fun h5 => ?_)
        · repeat refine uA ?_
          refine awp_ret ?_; rw [show Tryz.f39.results.toList = [.cell 4 52, .tmp 5] from rfl]; (refine (retN (by simp only [go_sem, Nat.reduceAdd, Nat.reduceSub, Nat.reduceMul, Nat.reduceLT, Nat.reduceEqDiff, Nat.reduceBEq, Nat.reduceLeDiff, Int.reduceToNat, ↓reduceIte, Int.reduceEq, Int.reduceLT, Int.reduceLE, Int.reduceAdd, Int.reduceSub, Int.reduceNeg, reduceCtorEq, retAV, resV] <;> simp) (by simp only [go_sem, Nat.reduceAdd, Nat.reduceSub, Nat.reduceMul, Nat.reduceLT, Nat.reduceEqDiff, Nat.reduceBEq, Nat.reduceLeDiff, Int.reduceToNat, ↓reduceIte, Int.reduceEq, Int.reduceLT, Int.reduceLE, Int.reduceAdd, Int.reduceSub, Int.reduceNeg, reduceCtorEq, retAV, resV] <;> trivial) ?_); simp only [go_sem, Nat.reduceAdd, Nat.reduceSub, Nat.reduceMul, Nat.reduceLT, Nat.reduceEqDiff, Nat.reduceBEq, Nat.reduceLeDiff, Int.reduceToNat, ↓reduceIte, Int.reduceEq, Int.reduceLT, Int.reduceLE, Int.reduceAdd, Int.reduceSub, Int.reduceNeg, reduceCtorEq, retAV, resV])
        · omega
      · refine uW ?_; refine condP _ rfl (fun h5 => ?_) (fun h5 => ?_)
        · omega
        · repeat refine uA ?_
          refine ⟨(_, i + 1), ⟨by simp only; omega, hgd hm⟩, by simp only; omega, uKF⟩
    · refine awp_exit ?_
      obtain rfl : i = p.slots.length := by omega
      have hno := fR_none hj
      have hgi : whereP p b = (match p.bins.findIdx? fun r => decide (b ∈ r) with | some n => ((n : Int), -1, true) | none => (0, 0, false)) := by rw [whereP, if_neg c0, hno]; rfl
      rw [hgi]
      repeat refine uA ?_
      refine uW ?_
      refine awp_loopW (fun q : Nat × Nat => ⟨[(1, I b), (2, .ptO 102 1 0 0 0), (4, .ptO 104 2 0 0 0), (32, RS p.bins), (33, I p.bins.length), (34, I q.2)], (102, some (1, .box [RS p.slots, RS p.bins])) :: (104, some (2, .box [I 0, I 0])) :: [], q.1⟩) (fun q => q.2 ≤ p.bins.length ∧ ∀ j, j < q.2 → b ∉ p.bins.getD j []) (fun q => p.bins.length - q.2) (_, 0) ⟨Nat.zero_le _, fun j hj => absurd hj (Nat.not_lt_zero _)⟩ (uKF) ?_
      rintro ⟨ck2, i⟩ ⟨hi, hj2⟩
      simp only at hi hj2
      repeat refine uA ?_
      refine uW ?_; refine condP _ rfl (fun h5 => ?_) (fun h5 => ?_)
      · have hlt : i < p.bins.length := by omega
        have hri := h4 i hlt
        have hfr := fun h => fR_some hlt h hj2
        have hgd : b ∉ p.bins.getD i [] → ∀ j, j < i + 1 → b ∉ p.bins.getD j [] := fun h j hj' => by
          by_cases hji : j = i
          · subst hji; exact h
          · exact hj2 j (by omega)
        generalize e1 : p.bins.getD i [] = sl at *
        have hsat := containsI_sat sl b (by omega)
        have hany : sl.any (fun y => decide (b = y)) = decide (b ∈ sl) := by
          rw [Bool.eq_iff_iff, List.any_eq_true, decide_eq_true_eq]
          constructor
          · rintro ⟨z, hz, h⟩
            rw [decide_eq_true_eq] at h
            rw [h]; exact hz
          · intro h; exact ⟨b, h, by simp⟩
        rw [hany] at hsat
        refine uA1 (And.intro (rows_getD hlt) @e1) ?_
        refine uR ?_; intro K hK
        refine callF uTS (hsat) uTS uTS uTS ?_; refine uS ?_
        refine hK _ ?_; clear hK K
        refine uW ?_; refine condP _ rfl (fun h6 => ?_) (fun h6 => ?_)
        · have := hfr h6
          rw [this]
          repeat refine uA ?_
          refine awp_ret ?_; rw [show Tryz.f39.results.toList = [.cell 4 52, .tmp 5] from rfl]; (refine (retN (by simp only [go_sem, Nat.reduceAdd, Nat.reduceSub, Nat.reduceMul, Nat.reduceLT, Nat.reduceEqDiff, Nat.reduceBEq, Nat.reduceLeDiff, Int.reduceToNat, ↓reduceIte, Int.reduceEq, Int.reduceLT, Int.reduceLE, Int.reduceAdd, Int.reduceSub, Int.reduceNeg, reduceCtorEq, retAV, resV] <;> simp) (by simp only [go_sem, Nat.reduceAdd, Nat.reduceSub, Nat.reduceMul, Nat.reduceLT, Nat.reduceEqDiff, Nat.reduceBEq, Nat.reduceLeDiff, Int.reduceToNat, ↓reduceIte, Int.reduceEq, Int.reduceLT, Int.reduceLE, Int.reduceAdd, Int.reduceSub, Int.reduceNeg, reduceCtorEq, retAV, resV] <;> trivial) ?_); simp only [go_sem, Nat.reduceAdd, Nat.reduceSub, Nat.reduceMul, Nat.reduceLT, Nat.reduceEqDiff, Nat.reduceBEq, Nat.reduceLeDiff, Int.reduceToNat, ↓reduceIte, Int.reduceEq, Int.reduceLT, Int.reduceLE, Int.reduceAdd, Int.reduceSub, Int.reduceNeg, reduceCtorEq, retAV, resV])
        · repeat refine uA ?_
          refine ⟨(_, i + 1), ⟨by simp only; omega, hgd h6⟩, by simp only; omega, uKF⟩
      · refine awp_exit ?_
        obtain rfl : i = p.bins.length := by omega
        rw [fR_none hj2]
        repeat refine uA ?_
        refine awp_ret ?_; rw [show Tryz.f39.results.toList = [.cell 4 52, .tmp 5] from rfl]; (refine (retN (by simp only [go_sem, Nat.reduceAdd, Nat.reduceSub, Nat.reduceMul, Nat.reduceLT, Nat.reduceEqDiff, Nat.reduceBEq, Nat.reduceLeDiff, Int.reduceToNat, ↓reduceIte, Int.reduceEq, Int.reduceLT, Int.reduceLE, Int.reduceAdd, Int.reduceSub, Int.reduceNeg, reduceCtorEq, retAV, resV] <;> simp) (by simp only [go_sem, Nat.reduceAdd, Nat.reduceSub, Nat.reduceMul, Nat.reduceLT, Nat.reduceEqDiff, Nat.reduceBEq, Nat.reduceLeDiff, Int.reduceToNat, ↓reduceIte, Int.reduceEq, Int.reduceLT, Int.reduceLE, Int.reduceAdd, Int.reduceSub, Int.reduceNeg, reduceCtorEq, retAV, resV] <;> trivial) ?_); simp only [go_sem, Nat.reduceAdd, Nat.reduceSub, Nat.reduceMul, Nat.reduceLT, Nat.reduceEqDiff, Nat.reduceBEq, Nat.reduceLeDiff, Int.reduceToNat, ↓reduceIte, Int.reduceEq, Int.reduceLT, Int.reduceLE, Int.reduceAdd, Int.reduceSub, Int.reduceNeg, reduceCtorEq, retAV, resV])
def pushOk (s : List Int) (b : Int) : Bool := !(decide (s.length = 0) || (decide (¬ s.getD 0 0 = 0) || decide (b = 0)))
theorem push_ok (s : List Int) (b : Int) (hs : s.length ≤ 1000) (h : pushOk s b = true) : SatG Tryz.prog tab 68 [] [IS s, I b] [(100, some (1, .own 3 1 (ints (s.set 0 b))))] (.tup [.slO 100 1 0 s.length, B true]) := by
  simp only [pushOk, Bool.not_eq_true', Bool.or_eq_false_iff, decide_eq_false_iff_not] at h
  obtain ⟨h0, h1, h2⟩ := h
  have d0 : decide ((s.length : Int) = 0) = false := decide_eq_false (by omega)
  have d1 : decide (¬ s.getD 0 0 = 0) = false := decide_eq_false h1
  have d2 : decide (b = 0) = false := decide_eq_false h2
  have hl0 : 0 < s.length := by omega
  refine uFN Tryz.func68 Tryz.ntmps68 ?_; intro w e X hC
  repeat refine uA ?_
  refine uR1 (And.intro @d0 (And.intro (ints_getD hl0) (And.intro @Int.toNat_zero (And.intro @d1 @d2)))) ?_; intro K hK
  refine uH ?_
  refine hK _ ?_; clear hK K
  refine uF ?_
  refine uR ?_; intro K hK
  refine callE [] [(121, 17, 100, 1)] false ((clone_sat s hl0 hs)) uTR uTR uTE uTE uTE uTE uTE uTE uTE uTE uTE uTE uTE uTE uTE uTE uTE ?_; refine uQS ?_
  refine hK _ ?_; clear hK K
  repeat refine uA ?_
  refine awp_ret ?_; rw [show Tryz.f68.results.toList = [.tmp 4, .tmp 5] from rfl]; (refine retG [(100, 1, 121, 17)] (by simp only [go_sem, Nat.reduceAdd, Nat.reduceSub, Nat.reduceMul, Nat.reduceLT, Nat.reduceEqDiff, Nat.reduceBEq, Nat.reduceLeDiff, Int.reduceToNat, ↓reduceIte, Int.reduceEq, Int.reduceLT, Int.reduceLE, Int.reduceAdd, Int.reduceSub, Int.reduceNeg, reduceCtorEq, retAV, resV] <;> trivial) (by simp) (by simp) (by simp) uTG uTG uTG ?_ ?_; all_goals (first | refine uSG ?_ | exact uXG | skip))
theorem push_bad (s : List Int) (b : Int) (hs : s.length ≤ 1000) (h : pushOk s b = false) : SatG Tryz.prog tab 68 [] [IS s, I b] [] (.tup [.sl [] false, B false]) := by
  simp only [pushOk, Bool.not_eq_false', Bool.or_eq_true, decide_eq_true_eq] at h
  refine uFN Tryz.func68 Tryz.ntmps68 ?_; intro w e X hC
  repeat refine uA ?_
  by_cases h0 : s.length = 0
  · have d0 : decide ((s.length : Int) = 0) = true := decide_eq_true (by omega)
    refine uR1 @d0 ?_; intro K hK
    refine hK _ ?_; clear hK K
    refine uT ?_
    repeat refine uA ?_
    refine awp_ret ?_; rw [show Tryz.f68.results.toList = [.tmp 4, .tmp 5] from rfl]; (refine (retN (by simp only [go_sem, Nat.reduceAdd, Nat.reduceSub, Nat.reduceMul, Nat.reduceLT, Nat.reduceEqDiff, Nat.reduceBEq, Nat.reduceLeDiff, Int.reduceToNat, ↓reduceIte, Int.reduceEq, Int.reduceLT, Int.reduceLE, Int.reduceAdd, Int.reduceSub, Int.reduceNeg, reduceCtorEq, retAV, resV] <;> simp) (by simp only [go_sem, Nat.reduceAdd, Nat.reduceSub, Nat.reduceMul, Nat.reduceLT, Nat.reduceEqDiff, Nat.reduceBEq, Nat.reduceLeDiff, Int.reduceToNat, ↓reduceIte, Int.reduceEq, Int.reduceLT, Int.reduceLE, Int.reduceAdd, Int.reduceSub, Int.reduceNeg, reduceCtorEq, retAV, resV] <;> trivial) ?_); simp only [go_sem, Nat.reduceAdd, Nat.reduceSub, Nat.reduceMul, Nat.reduceLT, Nat.reduceEqDiff, Nat.reduceBEq, Nat.reduceLeDiff, Int.reduceToNat, ↓reduceIte, Int.reduceEq, Int.reduceLT, Int.reduceLE, Int.reduceAdd, Int.reduceSub, Int.reduceNeg, reduceCtorEq, retAV, resV])
  have d0 : decide ((s.length : Int) = 0) = false := decide_eq_false (by omega)
  have hl0 : 0 < s.length := by omega
  by_cases h1 : s.getD 0 0 = 0
  · have d1 : decide (¬ s.getD 0 0 = 0) = false := decide_eq_false (fun h => h h1)
    have d2 : decide (b = 0) = true := decide_eq_true ((h.resolve_left h0).resolve_left (fun h => h h1))
    refine uR1 (And.intro @d0 (And.intro (ints_getD hl0) (And.intro @Int.toNat_zero (And.intro @d1 @d2)))) ?_; intro K hK
    refine uH ?_
    refine hK _ ?_; clear hK K
    refine uT ?_
    repeat refine uA ?_
    refine awp_ret ?_; rw [show Tryz.f68.results.toList = [.tmp 4, .tmp 5] from rfl]; (refine (retN (by simp only [go_sem, Nat.reduceAdd, Nat.reduceSub, Nat.reduceMul, Nat.reduceLT, Nat.reduceEqDiff, Nat.reduceBEq, Nat.reduceLeDiff, Int.reduceToNat, ↓reduceIte, Int.reduceEq, Int.reduceLT, Int.reduceLE, Int.reduceAdd, Int.reduceSub, Int.reduceNeg, reduceCtorEq, retAV, resV] <;> simp) (by simp only [go_sem, Nat.reduceAdd, Nat.reduceSub, Nat.reduceMul, Nat.reduceLT, Nat.reduceEqDiff, Nat.reduceBEq, Nat.reduceLeDiff, Int.reduceToNat, ↓reduceIte, Int.reduceEq, Int.reduceLT, Int.reduceLE, Int.reduceAdd, Int.reduceSub, Int.reduceNeg, reduceCtorEq, retAV, resV] <;> trivial) ?_); simp only [go_sem, Nat.reduceAdd, Nat.reduceSub, Nat.reduceMul, Nat.reduceLT, Nat.reduceEqDiff, Nat.reduceBEq, Nat.reduceLeDiff, Int.reduceToNat, ↓reduceIte, Int.reduceEq, Int.reduceLT, Int.reduceLE, Int.reduceAdd, Int.reduceSub, Int.reduceNeg, reduceCtorEq, retAV, resV])
  · have d1 : decide (¬ s.getD 0 0 = 0) = true := decide_eq_true h1
    refine uR1 (And.intro @d0 (And.intro (ints_getD hl0) (And.intro @Int.toNat_zero @d1))) ?_; intro K hK
    refine uH ?_
    refine hK _ ?_; clear hK K
    refine uT ?_
    repeat refine uA ?_
    refine awp_ret ?_; rw [show Tryz.f68.results.toList = [.tmp 4, .tmp 5] from rfl]; (refine (retN (by simp only [go_sem, Nat.reduceAdd, Nat.reduceSub, Nat.reduceMul, Nat.reduceLT, Nat.reduceEqDiff, Nat.reduceBEq, Nat.reduceLeDiff, Int.reduceToNat, ↓reduceIte, Int.reduceEq, Int.reduceLT, Int.reduceLE, Int.reduceAdd, Int.reduceSub, Int.reduceNeg, reduceCtorEq, retAV, resV] <;> simp) (by simp only [go_sem, Nat.reduceAdd, Nat.reduceSub, Nat.reduceMul, Nat.reduceLT, Nat.reduceEqDiff, Nat.reduceBEq, Nat.reduceLeDiff, Int.reduceToNat, ↓reduceIte, Int.reduceEq, Int.reduceLT, Int.reduceLE, Int.reduceAdd, Int.reduceSub, Int.reduceNeg, reduceCtorEq, retAV, resV] <;> trivial) ?_); simp only [go_sem, Nat.reduceAdd, Nat.reduceSub, Nat.reduceMul, Nat.reduceLT, Nat.reduceEqDiff, Nat.reduceBEq, Nat.reduceLeDiff, Int.reduceToNat, ↓reduceIte, Int.reduceEq, Int.reduceLT, Int.reduceLE, Int.reduceAdd, Int.reduceSub, Int.reduceNeg, reduceCtorEq, retAV, resV])
def enterR (y : Ly) (p : Pl) (node bag : Int) : Pl × Int :=
  if node < 0 ∨ y.nodes.length ≤ node ∨ bag < 1 ∨ 40 < bag then (⟨[], []⟩, 1)
  else if ¬ (y.nodes.getD node.toNat default).kd = 1 then (⟨[], []⟩, 4)
  else if (whereP p bag).2.2 = true then (⟨[], []⟩, 5)
  else if ¬ (p.slots.getD node.toNat []).getD 0 0 = 0 then (⟨[], []⟩, 8)
  else (⟨p.slots.set node.toNat ((p.slots.getD node.toNat []).set 0 bag), p.bins⟩, 0)
theorem penter_sat (y : Ly) (p : Pl) (node bag : Int) (hp : FitP y.nodes p) : SatG Tryz.prog tab 37 [] [y.av, p.av, I node, I bag] [] (.tup [(enterR y p node bag).1.av, I (enterR y p node bag).2]) := by
  have hxl := hp.xl
  have hsl := hp.sl
  have hbl := hp.bl
  have hr1 : ∀ i, i < p.slots.length → (p.slots.getD i []).length ≤ 1000 := fun i hi => by
    rw [hp.sl] at hi
    have := hp.row i hi; have := hp.ln i hi; omega
  have hr2 : ∀ i, i < p.bins.length → (p.bins.getD i []).length ≤ 1000 := fun i hi => by
    rw [hp.bl] at hi
    have := hp.bin i hi; omega
  have hwh := pwhere_sat p bag (by omega) (by omega) hr1 hr2
  have hcl := clone69_sat p (by omega) (by omega) hr1 hr2
  have hE : enterR y p node bag = _ := enterR.eq_1 y p node bag
  generalize enterR y p node bag = r at *
  refine uFN Tryz.func37 Tryz.ntmps37 ?_; intro w e X hC
  repeat refine uA ?_
  cases d1 : decide (node < 0) with
  | true =>
    rw [if_pos (.inl (of_decide_eq_true d1))] at hE
    subst hE
    refine uR1 @d1 ?_; intro K hK
    refine hK _ ?_; clear hK K
    refine uT ?_
    repeat refine uA ?_
    refine awp_ret ?_; rw [show Tryz.f37.results.toList = [.cell 8 34, .tmp 9] from rfl]; first | refine uRN ?_ | exact uRM
    rfl
  | false =>
  have g1 := of_decide_eq_false d1
  cases d2 : decide ((y.nodes.length : Int) ≤ node) with
  | true =>
    rw [if_pos (.inr (.inl (of_decide_eq_true d2)))] at hE
    subst hE
    refine uR1 (And.intro @d1 @d2) ?_; intro K hK
    refine hK _ ?_; clear hK K
    refine uT ?_
    repeat refine uA ?_
    refine awp_ret ?_; rw [show Tryz.f37.results.toList = [.cell 8 34, .tmp 9] from rfl]; first | refine uRN ?_ | exact uRM
    rfl
  | false =>
  have g2 := of_decide_eq_false d2
  cases d3 : decide (bag < 1) with
  | true =>
    rw [if_pos (.inr (.inr (.inl (of_decide_eq_true d3))))] at hE
    subst hE
    refine uR1 (And.intro @d1 (And.intro @d2 @d3)) ?_; intro K hK
    refine hK _ ?_; clear hK K
    refine uT ?_
    repeat refine uA ?_
    refine awp_ret ?_; rw [show Tryz.f37.results.toList = [.cell 8 34, .tmp 9] from rfl]; first | refine uRN ?_ | exact uRM
    rfl
  | false =>
  have g3 := of_decide_eq_false d3
  cases d4 : decide (40 < bag) with
  | true =>
    rw [if_pos (.inr (.inr (.inr (of_decide_eq_true d4))))] at hE
    subst hE
    refine uR1 (And.intro @d1 (And.intro @d2 (And.intro @d3 @d4))) ?_; intro K hK
    refine hK _ ?_; clear hK K
    refine uT ?_
    repeat refine uA ?_
    refine awp_ret ?_; rw [show Tryz.f37.results.toList = [.cell 8 34, .tmp 9] from rfl]; first | refine uRN ?_ | exact uRM
    rfl
  | false =>
  have g4 := of_decide_eq_false d4
  rw [if_neg (fun h => by rcases h with h | h | h | h <;> omega)] at hE
  obtain ⟨m, hm⟩ : ∃ m, m = node.toNat := ⟨_, rfl⟩
  have hmm : node = (m : Int) := by omega
  rw [← hm] at hE
  subst hmm
  have hmn : m < y.nodes.length := by omega
  have hms : m < p.slots.length := by omega
  have hst := hp.st m hmn
  have hrow := hp.row m hmn
  have hrl := hr1 m hms
  have hw : whereQ p bag = whereP p bag := if_neg (by omega)
  rw [hw] at hwh
  generalize whereP p bag = wq at *
  obtain ⟨q1, q2, q3⟩ := wq
  simp only at hE hwh
  generalize e2 : y.nodes.getD m default = x at *
  generalize e3 : p.slots.getD m [] = sl at *
  refine uR1 (And.intro @d1 (And.intro @d2 (And.intro @d3 @d4))) ?_; intro K hK
  refine hK _ ?_; clear hK K
  refine uF ?_
  repeat refine uA1 (And.intro (nds_getD hmn) @e2) ?_
  refine uW ?_; refine condP _ rfl (fun c1 => ?_) (fun c1 => ?_)
  · rw [if_pos c1] at hE
    subst hE
    repeat refine uA ?_
    refine awp_ret ?_; rw [show Tryz.f37.results.toList = [.cell 8 34, .tmp 9] from rfl]; first | refine uRN ?_ | exact uRM
    rfl
  rw [if_neg c1] at hE
  have c1' : x.kd = 1 := Decidable.byContradiction c1
  have hl0 : 0 < sl.length := by have := hst (by rw [c1']; decide); omega
  refine uR ?_; intro K hK
  refine callP uTS (hwh) uTS uTS uTS ?_; refine uS ?_
  refine hK _ ?_; clear hK K
  repeat refine uA ?_
  cases q3 with
  | true =>
    rw [if_pos rfl] at hE
    subst hE
    refine uT ?_
    repeat refine uA ?_
    refine awp_ret ?_; rw [show Tryz.f37.results.toList = [.cell 8 34, .tmp 9] from rfl]; first | refine uRN ?_ | exact uRM
    rfl
  | false =>
  rw [if_neg (by decide)] at hE
  refine uF ?_
  repeat refine uA ?_
  refine uW ?_; refine condP _ rfl (fun c2 => ?_) (fun c2 => ?_)
  · omega
  by_cases c3 : sl.getD 0 0 = 0
  · rw [if_neg (fun h => h c3)] at hE
    subst hE
    have hpu := push_ok sl bag hrl (by
      simp only [pushOk, Bool.not_eq_true', Bool.or_eq_false_iff, decide_eq_false_iff_not]
      exact ⟨by omega, fun h => h c3, by omega⟩)
    refine uR1 (And.intro (rows_getD hms) @e3) ?_; intro K hK
    refine uH ?_
    refine callE [] [(162, 50, 100, 1)] false (hpu) uTR uTR uTE uTE uTE uTE uTE uTE uTE uTE uTE uTE uTE uTE uTE uTE uTE ?_; refine uQS ?_
    refine hK _ ?_; clear hK K
    repeat refine uA ?_
    refine uF ?_
    refine uR ?_; intro K hK
    have z := @Bool.or_true; refine callE [] [(169, 59, 100, 1), (401, 59, 101, 1)] false (hcl) (uTR1 z) (uTR1 z) (uTE1 z) (uTE1 z) (uTE1 z) (uTE1 z) (uTE1 z) (uTE1 z) (uTE1 z) (uTE1 z) (uTE1 z) (uTE1 z) (uTE1 z) (uTE1 z) (uTE1 z) (uTE1 z) (uTE1 z) ?_; refine uQS1 z ?_; clear z
    refine hK _ ?_; clear hK K
    repeat refine uA ?_
    refine awp_ret ?_; rw [show Tryz.f37.results.toList = [.cell 8 34, .tmp 9] from rfl]; (refine (retN (by simp only [go_sem, Nat.reduceAdd, Nat.reduceSub, Nat.reduceMul, Nat.reduceLT, Nat.reduceEqDiff, Nat.reduceBEq, Nat.reduceLeDiff, Int.reduceToNat, ↓reduceIte, Int.reduceEq, Int.reduceLT, Int.reduceLE, Int.reduceAdd, Int.reduceSub, Int.reduceNeg, reduceCtorEq, retAV, resV] <;> simp) (by simp only [go_sem, Nat.reduceAdd, Nat.reduceSub, Nat.reduceMul, Nat.reduceLT, Nat.reduceEqDiff, Nat.reduceBEq, Nat.reduceLeDiff, Int.reduceToNat, ↓reduceIte, Int.reduceEq, Int.reduceLT, Int.reduceLE, Int.reduceAdd, Int.reduceSub, Int.reduceNeg, reduceCtorEq, retAV, resV] <;> trivial) ?_); simp only [go_sem, Nat.reduceAdd, Nat.reduceSub, Nat.reduceMul, Nat.reduceLT, Nat.reduceEqDiff, Nat.reduceBEq, Nat.reduceLeDiff, Int.reduceToNat, ↓reduceIte, Int.reduceEq, Int.reduceLT, Int.reduceLE, Int.reduceAdd, Int.reduceSub, Int.reduceNeg, reduceCtorEq, retAV, resV])
  · rw [if_pos c3] at hE
    subst hE
    have hpu := push_bad sl bag hrl (by
      simp only [pushOk, Bool.not_eq_false', Bool.or_eq_true, decide_eq_true_eq]
      exact .inr (.inl c3))
    refine uR1 (And.intro (rows_getD hms) @e3) ?_; intro K hK
    refine uH ?_
    refine callP uTS (hpu) uTS uTS uTS ?_; refine uS ?_
    refine hK _ ?_; clear hK K
    repeat refine uA ?_
    refine uT ?_
    repeat refine uA ?_
    refine awp_ret ?_; rw [show Tryz.f37.results.toList = [.cell 8 34, .tmp 9] from rfl]; first | refine uRN ?_ | exact uRM
    rfl
end Go.Proofs.YtkhjenddapaejaaGreatDoor
namespace Go.Proofs.YtkhjenddapaejaaGreatDoor
open Go Go.Sym
open Go.Plant
def strs (l : List ByteArray) : List AV := l.map S
theorem strs_length (l : List ByteArray) : (strs l).length = l.length := by simp [strs]
theorem strs_getD {l : List ByteArray} {i : Nat} (h : i < l.length) : (strs l).getD i .bad = S (l.getD i .empty) := by simp [strs, h]
theorem PE_strs (l : List ByteArray) : PE (strs l) = True := by
  refine eq_true fun e he c hc => ?_
  simp only [strs, List.mem_map] at he
  obtain ⟨x, _, rfl⟩ := he
  simp only [AV.cells, List.mem_singleton] at hc
  subst hc; trivial
theorem all_strs {l : List ByteArray} : (∀ y ∈ strs l, y.cells.length = 1) = True := by
  refine eq_true fun e he => ?_
  simp only [strs, List.mem_map] at he
  obtain ⟨x, _, rfl⟩ := he
  rfl
theorem strs_snoc {l : List ByteArray} {b : ByteArray} : strs l ++ [.lit (.string b)] = strs (l ++ [b]) := by simp [strs]
theorem lits_strs {l : List ByteArray} : (∀ e ∈ strs l, ∀ c ∈ e.cells, isLit c) = True := by
  refine eq_true fun e he c hc => ?_
  simp only [strs, List.mem_map] at he
  obtain ⟨x, _, rfl⟩ := he
  simp only [AV.cells, List.mem_singleton] at hc
  subst hc; trivial
theorem strs_drop {l : List ByteArray} {i : Nat} : (strs l).drop i = strs (l.drop i) := by simp [strs]
theorem strs_take {l : List ByteArray} {i : Nat} : (strs l).take i = strs (l.take i) := by simp [strs]
attribute [go_sem] strs_length PE_strs all_strs strs_snoc lits_strs
def spS (b : Nat) (c : UInt8) (o : List ByteArray × ByteArray) : List ByteArray × ByteArray := if c.toNat = b then (o.1 ++ [o.2], .empty) else (o.1, o.2 ++ strOf [c])
def spF (s : ByteArray) (b : Nat) : Nat → List ByteArray × ByteArray
  | 0 => ([], .empty)
  | k + 1 => spS b (s.data.toList.getD k 0) (spF s b k)
def splitR (s : ByteArray) (b : Nat) : List ByteArray := (spF s b s.data.toList.length).1 ++ [(spF s b s.data.toList.length).2]
theorem spF_size (s : ByteArray) (b : Nat) : ∀ k, (spF s b k).2.size ≤ k ∧ (spF s b k).1.length ≤ k
  | 0 => by simp [spF]
  | k + 1 => by
    obtain ⟨h1, h2⟩ := spF_size s b k
    have h3 : ∀ c : UInt8, (strOf [c]).size = 1 := fun _ => rfl
    rw [spF]
    generalize s.data.toList.getD k 0 = c
    generalize spF s b k = o at *
    unfold spS
    split
    · refine ⟨Nat.zero_le _, ?_⟩
      simp only [List.length_append, List.length_singleton]; omega
    · refine ⟨?_, by simp only; omega⟩
      show (o.2 ++ strOf [c]).size ≤ _
      rw [ByteArray.size_append, h3]; omega
theorem byte_slice {l : List UInt8} {i : Nat} (h : i < l.length) : (l.take (i + 1)).drop i = [l.getD i 0] := by
  rw [take_getD (d := 0) h, List.drop_append]
  simp [List.length_take, Nat.min_eq_left (Nat.le_of_lt h)]
theorem split_sat (s : ByteArray) (b : Nat) (hs : s.data.toList.length ≤ 5000) : SatG Tryz.prog tab 72 [] [S s, U8 b] [] (.sl (strs (splitR s b)) false) := by
  have hsz : s.size = s.data.toList.length := by rw [← bs_size, bs_len]
  refine uFN Tryz.func72 Tryz.ntmps72 ?_; intro w e X hC
  repeat refine uA ?_
  refine uW ?_
  refine awp_loopW (fun q : Nat × Nat × Nat => ⟨[(0, S s), (1, U8 b), (5, .slO 105 q.2.2 0 (spF s b q.2.1).1.length), (6, S (spF s b q.2.1).2), (7, I q.2.1)], (105, some (q.2.2, .own 9 1 (strs (spF s b q.2.1).1))) :: [], q.1⟩) (fun q => q.2.1 ≤ s.data.toList.length) (fun q => s.data.toList.length - q.2.1) (_, 0, _) (Nat.zero_le _) (.of (Nat.le_refl _) (by repeat first | exact HOk.nil | refine uHN ?_ | (refine HOk.cons ?_ ?_; (focus (simp only [go_sem, Nat.reduceAdd, Nat.reduceSub, Nat.reduceMul, Nat.reduceLT, Nat.reduceEqDiff, Nat.reduceBEq, Nat.reduceLeDiff, Int.reduceToNat, ↓reduceIte, Int.reduceEq, Int.reduceLT, Int.reduceLE, Int.reduceAdd, Int.reduceSub, Int.reduceNeg, reduceCtorEq, spF]; done)))) (by repeat first | exact WOk.nil | refine uWN ?_ | (refine WOk.cons ?_ ?_; (focus (simp only [go_sem, Nat.reduceAdd, Nat.reduceSub, Nat.reduceMul, Nat.reduceLT, Nat.reduceEqDiff, Nat.reduceBEq, Nat.reduceLeDiff, Int.reduceToNat, ↓reduceIte, Int.reduceEq, Int.reduceLT, Int.reduceLE, Int.reduceAdd, Int.reduceSub, Int.reduceNeg, reduceCtorEq, spF]; done))))) ?_
  rintro ⟨ck, k, g⟩ hk
  simp only at hk
  obtain ⟨hz1, hz2⟩ := spF_size s b k
  have e1 : spF s b (k + 1) = spS b (s.data.toList.getD k 0) (spF s b k) := rfl
  have e2 : k = s.data.toList.length → splitR s b = (spF s b k).1 ++ [(spF s b k).2] := fun h => by rw [h]; rfl
  generalize spF s b k = o at *
  obtain ⟨o1, o2⟩ := o
  simp only at hz1 hz2 e2
  refine uA1 @hsz ?_
  refine uW ?_; refine condP _ rfl (fun h => ?_) (fun h => ?_)
  · have hlt : k < s.data.toList.length := by omega
    have hb1 := byte_slice hlt
    have hb2 : (strOf [s.data.toList.getD k 0]).size = 1 := rfl
    generalize hc : s.data.toList.getD k 0 = c at *
    unfold spS at e1
    simp only at e1
    refine uA1 @hc ?_
    refine uW ?_; refine condP _ rfl (fun c1 => ?_) (fun c1 => ?_)
    · rw [if_pos (by omega)] at e1
      repeat refine uA ?_
      refine awp_exit ?_
      repeat refine uA ?_
      refine ⟨(_, k + 1, g), by simp only; omega, by simp only; omega, .of (Nat.le_refl _) (uHF1 @e1) (uWF1 (And.intro @e1 @List.length_singleton.{0}))⟩
    · rw [if_neg (by omega)] at e1
      have hkt : ((k : Int) + 1).toNat = k + 1 := by omega
      repeat refine uA1 (And.intro @hkt (And.intro @hb1 @hb2)) ?_
      refine ⟨(_, k + 1, g), by simp only; omega, by simp only; omega, .of (Nat.le_refl _) (uHF1 @e1) (uWF1 @e1)⟩
  · refine awp_exit ?_
    have e3 := e2 (by omega)
    repeat refine uA ?_
    rw [e3]
    refine awp_ret ?_; rw [show Tryz.f72.results.toList = [.tmp 4] from rfl]; (refine (retN (by simp only [go_sem, Nat.reduceAdd, Nat.reduceSub, Nat.reduceMul, Nat.reduceLT, Nat.reduceEqDiff, Nat.reduceBEq, Nat.reduceLeDiff, Int.reduceToNat, ↓reduceIte, Int.reduceEq, Int.reduceLT, Int.reduceLE, Int.reduceAdd, Int.reduceSub, Int.reduceNeg, reduceCtorEq, retAV, resV, List.length_append, List.length_singleton] <;> simp) (by simp only [go_sem, Nat.reduceAdd, Nat.reduceSub, Nat.reduceMul, Nat.reduceLT, Nat.reduceEqDiff, Nat.reduceBEq, Nat.reduceLeDiff, Int.reduceToNat, ↓reduceIte, Int.reduceEq, Int.reduceLT, Int.reduceLE, Int.reduceAdd, Int.reduceSub, Int.reduceNeg, reduceCtorEq, retAV, resV, List.length_append, List.length_singleton] <;> trivial) ?_); simp only [go_sem, Nat.reduceAdd, Nat.reduceSub, Nat.reduceMul, Nat.reduceLT, Nat.reduceEqDiff, Nat.reduceBEq, Nat.reduceLeDiff, Int.reduceToNat, ↓reduceIte, Int.reduceEq, Int.reduceLT, Int.reduceLE, Int.reduceAdd, Int.reduceSub, Int.reduceNeg, reduceCtorEq, retAV, resV, List.length_append, List.length_singleton])
end Go.Proofs.YtkhjenddapaejaaGreatDoor
namespace Go.Proofs.YtkhjenddapaejaaGreatDoor
open Go Go.Sym
open Go.Plant
theorem rall_sat (s : ByteArray) (hs : (bs s).length ≤ 5000) : SatG Tryz.prog tab 154 [] [S s] [] (B ((bs s).all digB)) := by
  have hbl := bs_len s
  have hbz := bs_size s
  refine uFN Tryz.func154 Tryz.ntmps154 ?_; intro w e X hC
  repeat refine uA ?_
  refine uW ?_
  refine awp_loopW (fun i : Nat × Nat => ⟨[(0, S s), (3, I i.2)], [], i.1⟩) (fun i => i.2 ≤ (bs s).length ∧ ∀ j, j < i.2 → digB ((bs s).getD j 0) = true) (fun i => (bs s).length - i.2) (_, 0) ⟨Nat.zero_le _, fun j hj => absurd hj (Nat.not_lt_zero _)⟩ (uKF) ?_
  rintro ⟨ck, i⟩ ⟨hi, hj⟩
  simp only at hi hj
  repeat ((repeat first | refine awp_seq ?_ | refine awp_skip ?_ | refine awp_block ?_); refine awp_region hC rfl fun K hK => ?_; simp only [go_sem, Nat.reduceAdd, Nat.reduceSub, Nat.reduceMul, Nat.reduceLT, Nat.reduceEqDiff, Nat.reduceBEq, Nat.reduceLeDiff, Int.reduceToNat, ↓reduceIte, Int.reduceEq, Int.reduceLT, Int.reduceLE, Int.reduceAdd, Int.reduceSub, Int.reduceNeg, reduceCtorEq, ← hbz]; (repeat ((with_reducible refine And.intro ?_ ?_); focus (((repeat' apply And.intro) <;> first | omega | (simp; done) | kernel_rfl)))); refine hK _ ?_; clear hK K)
  refine uW ?_; refine condP _ rfl (fun h => ?_) (fun h => ?_)
  · have hlt : i < (bs s).length := by omega
    have hg := bs_getD s i
    have hbad : digB ((bs s).getD i 0) = false → (bs s).all digB = false := fun h => by
      rw [List.all_eq_false]; exact ⟨_, mem_getD (d := 0) hlt, by rw [h]; decide⟩
    have hgood : digB ((bs s).getD i 0) = true → ∀ j, j < i + 1 → digB ((bs s).getD j 0) = true := fun h j hj' => by
      by_cases hji : j = i
      · subst hji; exact h
      · exact hj j (by omega)
    generalize (bs s).getD i 0 = c at *
    cases d1 : decide ((c : Int) < 48) with
    | true =>
      have g1 := of_decide_eq_true d1
      rw [hbad (by unfold digB; rw [decide_eq_false (by omega)]; rfl)]
      (repeat first | refine awp_seq ?_ | refine awp_skip ?_ | refine awp_block ?_); refine awp_region hC rfl fun K hK => ?_; simp only [go_sem, Nat.reduceAdd, Nat.reduceSub, Nat.reduceMul, Nat.reduceLT, Nat.reduceEqDiff, Nat.reduceBEq, Nat.reduceLeDiff, Int.reduceToNat, ↓reduceIte, Int.reduceEq, Int.reduceLT, Int.reduceLE, Int.reduceAdd, Int.reduceSub, Int.reduceNeg, reduceCtorEq, hg, ← hbl, d1]
      refine uH ?_
      refine hK _ ?_; clear hK K
      refine uT ?_
      repeat refine uA ?_
      (refine awp_ret (ret1 uRT ?_); try rfl)
    | false =>
      have g1 := of_decide_eq_false d1
      cases d2 : decide (57 < (c : Int)) with
      | true =>
        have g2 := of_decide_eq_true d2
        rw [hbad (by unfold digB; rw [decide_eq_false (show ¬ (c : Int) ≤ 57 by omega), Bool.and_false])]
        (repeat first | refine awp_seq ?_ | refine awp_skip ?_ | refine awp_block ?_); refine awp_region hC rfl fun K hK => ?_; simp only [go_sem, Nat.reduceAdd, Nat.reduceSub, Nat.reduceMul, Nat.reduceLT, Nat.reduceEqDiff, Nat.reduceBEq, Nat.reduceLeDiff, Int.reduceToNat, ↓reduceIte, Int.reduceEq, Int.reduceLT, Int.reduceLE, Int.reduceAdd, Int.reduceSub, Int.reduceNeg, reduceCtorEq, hg, ← hbl, d1, d2]
        refine uH ?_
        refine hK _ ?_; clear hK K
        refine uT ?_
        repeat refine uA ?_
        (refine awp_ret (ret1 uRT ?_); try rfl)
      | false =>
        have g2 := of_decide_eq_false d2
        (repeat first | refine awp_seq ?_ | refine awp_skip ?_ | refine awp_block ?_); refine awp_region hC rfl fun K hK => ?_; simp only [go_sem, Nat.reduceAdd, Nat.reduceSub, Nat.reduceMul, Nat.reduceLT, Nat.reduceEqDiff, Nat.reduceBEq, Nat.reduceLeDiff, Int.reduceToNat, ↓reduceIte, Int.reduceEq, Int.reduceLT, Int.reduceLE, Int.reduceAdd, Int.reduceSub, Int.reduceNeg, reduceCtorEq, hg, ← hbl, d1, d2]
        refine uH ?_
        refine hK _ ?_; clear hK K
        refine uF ?_
        repeat refine uA ?_
        refine ⟨(_, i + 1), ⟨by simp only; omega, hgood (by unfold digB; rw [decide_eq_true (show (48 : Int) ≤ c by omega), decide_eq_true (show (c : Int) ≤ 57 by omega)]; rfl)⟩, by simp only; omega, uKF⟩
  · refine awp_exit ?_
    have : (bs s).all digB = true := by
      rw [List.all_eq_true]
      intro x hx
      obtain ⟨j, hj2, rfl⟩ := List.getElem_of_mem hx
      have := hj j (by omega)
      simpa [hj2] using this
    rw [this]
    repeat refine uA ?_
    (refine awp_ret (ret1 uRT ?_); try rfl)
def valF (s : ByteArray) : Nat → Int
  | 0 => 0
  | k + 1 => valF s k * 10 + (((bs s).getD k 0 : Nat) - 48)
theorem valF_le {s : ByteArray} (h : ∀ j, j < (bs s).length → digB ((bs s).getD j 0) = true) : ∀ k, k ≤ (bs s).length → 0 ≤ valF s k ∧ valF s k < 10 ^ k
  | 0, _ => by simp [valF]
  | k + 1, hk => by
    obtain ⟨h1, h2⟩ := valF_le h k (by omega)
    have := h k (by omega)
    simp only [digB, Bool.and_eq_true, decide_eq_true_eq] at this
    rw [valF, Int.pow_succ]
    omega
theorem rvalue_sat (s : ByteArray) (hs : (bs s).length ≤ 3) (hd : ∀ j, j < (bs s).length → digB ((bs s).getD j 0) = true) : SatG Tryz.prog tab 155 [] [S s] [] (I (valF s (bs s).length)) := by
  have hbl := bs_len s
  have hbz := bs_size s
  refine uFN Tryz.func155 Tryz.ntmps155 ?_; intro w e X hC
  repeat refine uA ?_
  refine uW ?_
  refine awp_loopW (fun i : Nat × Nat => ⟨[(0, S s), (3, I (valF s i.2)), (4, I i.2)], [], i.1⟩) (fun i => i.2 ≤ (bs s).length) (fun i => (bs s).length - i.2) (_, 0) (Nat.zero_le _) (.of (Nat.le_refl _) (by repeat first | exact HOk.nil | refine uHN ?_ | (refine HOk.cons ?_ ?_; (focus (simp only [go_sem, Nat.reduceAdd, Nat.reduceSub, Nat.reduceMul, Nat.reduceLT, Nat.reduceEqDiff, Nat.reduceBEq, Nat.reduceLeDiff, Int.reduceToNat, ↓reduceIte, Int.reduceEq, Int.reduceLT, Int.reduceLE, Int.reduceAdd, Int.reduceSub, Int.reduceNeg, reduceCtorEq, valF]; done)))) (by repeat first | exact WOk.nil | refine uWN ?_ | (refine WOk.cons ?_ ?_; (focus (simp only [go_sem, Nat.reduceAdd, Nat.reduceSub, Nat.reduceMul, Nat.reduceLT, Nat.reduceEqDiff, Nat.reduceBEq, Nat.reduceLeDiff, Int.reduceToNat, ↓reduceIte, Int.reduceEq, Int.reduceLT, Int.reduceLE, Int.reduceAdd, Int.reduceSub, Int.reduceNeg, reduceCtorEq, valF]; done))))) ?_
  rintro ⟨ck, i⟩ hi
  simp only at hi
  obtain ⟨v1, v2⟩ := valF_le hd i hi
  have hp : (10 : Int) ^ i ≤ 10 ^ 3 := by
    have : i = 0 ∨ i = 1 ∨ i = 2 ∨ i = 3 := by omega
    rcases this with rfl | rfl | rfl | rfl <;> decide
  have e1 : valF s (i + 1) = valF s i * 10 + (((bs s).getD i 0 : Nat) - 48) := rfl
  have efin : i = (bs s).length → valF s (bs s).length = valF s i := fun h => by rw [h]
  generalize valF s i = v at *
  iterate 1 ((repeat first | refine awp_seq ?_ | refine awp_skip ?_ | refine awp_block ?_); refine awp_region hC rfl fun K hK => ?_; simp only [go_sem, Nat.reduceAdd, Nat.reduceSub, Nat.reduceMul, Nat.reduceLT, Nat.reduceEqDiff, Nat.reduceBEq, Nat.reduceLeDiff, Int.reduceToNat, ↓reduceIte, Int.reduceEq, Int.reduceLT, Int.reduceLE, Int.reduceAdd, Int.reduceSub, Int.reduceNeg, reduceCtorEq, ← hbz]; (repeat ((with_reducible refine And.intro ?_ ?_); focus (((repeat' apply And.intro) <;> first | omega | (simp; done) | kernel_rfl)))); refine hK _ ?_; clear hK K)
  refine uW ?_; refine condP _ rfl (fun h => ?_) (fun h => ?_)
  · have hlt : i < (bs s).length := by omega
    have hg := bs_getD s i
    have hdi := hd i hlt
    simp only [digB, Bool.and_eq_true, decide_eq_true_eq] at hdi
    generalize (bs s).getD i 0 = c at *
    have hwu : IntKind.u8.wrap ((c : Int) - 48) = (c : Int) - 48 := by
      simp only [IntKind.wrap, IntKind.bits, IntKind.signed, Bool.false_and, Bool.false_eq_true, false_and, if_false]
      omega
    have hwi : IntKind.i64.wrap ((c : Int) - 48) = (c : Int) - 48 := wrap_i64 ⟨by omega, by omega⟩
    repeat ((repeat first | refine awp_seq ?_ | refine awp_skip ?_ | refine awp_block ?_); refine awp_region hC rfl fun K hK => ?_; simp only [go_sem, Nat.reduceAdd, Nat.reduceSub, Nat.reduceMul, Nat.reduceLT, Nat.reduceEqDiff, Nat.reduceBEq, Nat.reduceLeDiff, Int.reduceToNat, ↓reduceIte, Int.reduceEq, Int.reduceLT, Int.reduceLE, Int.reduceAdd, Int.reduceSub, Int.reduceNeg, reduceCtorEq, hg, ← hbl, hwu, hwi]; (repeat ((with_reducible refine And.intro ?_ ?_); focus (((repeat' apply And.intro) <;> first | omega | (simp; done) | kernel_rfl)))); refine hK _ ?_; clear hK K)
    refine ⟨(_, i + 1), by simp only; omega, by simp only; omega, .of (Nat.le_refl _) uHF (uWF1 @e1)⟩
  · refine awp_exit ?_
    have hf := efin (by omega)
    rw [hf]
    repeat refine uA ?_
    (refine awp_ret (ret1 uRT ?_); try rfl)
def numOk (s : ByteArray) : Bool := decide (1 ≤ (bs s).length) && (decide ((bs s).length ≤ 3) && ((bs s).all digB && !(decide (1 < (bs s).length) && decide ((bs s).getD 0 0 = 48))))
def numV (s : ByteArray) : Int := valF s (bs s).length
theorem number_sat (s : ByteArray) (h : numOk s = true) : SatG Tryz.prog tab 113 [] [S s] [] (.tup [I (numV s), B true]) := by
  have hbl := bs_len s
  have hbz := bs_size s
  simp only [numOk, Bool.and_eq_true, decide_eq_true_eq, Bool.not_eq_true', Bool.and_eq_false_iff, decide_eq_false_iff_not] at h
  obtain ⟨h1, h2, h3, h4⟩ := h
  have hal := rall_sat s (by omega)
  rw [h3] at hal
  have hd : ∀ j, j < (bs s).length → digB ((bs s).getD j 0) = true := fun j hj => List.all_eq_true.1 h3 _ (mem_getD hj)
  have hv := rvalue_sat s h2 hd
  have hg := bs_getD s 0
  have d1 : decide (((bs s).length : Int) < 1) = false := decide_eq_false (by omega)
  have d2 : decide (3 < ((bs s).length : Int)) = false := decide_eq_false (by omega)
  have hN : numV s = valF s (bs s).length := rfl
  rw [hN]
  generalize valF s (bs s).length = v at *
  refine uFN Tryz.func113 Tryz.ntmps113 ?_; intro w e X hC
  repeat refine uA ?_
  by_cases c1 : 1 < (bs s).length
  · have d3 : decide (1 < ((bs s).length : Int)) = true := decide_eq_true (by omega)
    have d4 : decide ((((bs s).getD 0 0 : Nat) : Int) = 48) = false := decide_eq_false (by have := h4.resolve_left (fun h => h c1); omega)
    (repeat first | refine awp_seq ?_ | refine awp_skip ?_ | refine awp_block ?_); refine awp_region hC rfl fun K hK => ?_; simp only [go_sem, Nat.reduceAdd, Nat.reduceSub, Nat.reduceMul, Nat.reduceLT, Nat.reduceEqDiff, Nat.reduceBEq, Nat.reduceLeDiff, Int.reduceToNat, ↓reduceIte, Int.reduceEq, Int.reduceLT, Int.reduceLE, Int.reduceAdd, Int.reduceSub, Int.reduceNeg, reduceCtorEq, ← hbz, d1, d2]
    refine callF uTS (hal) uTS uTS uTS ?_; refine uS ?_
    simp only [go_sem, Nat.reduceAdd, Nat.reduceSub, Nat.reduceMul, Nat.reduceLT, Nat.reduceEqDiff, Nat.reduceBEq, Nat.reduceLeDiff, Int.reduceToNat, ↓reduceIte, Int.reduceEq, Int.reduceLT, Int.reduceLE, Int.reduceAdd, Int.reduceSub, Int.reduceNeg, reduceCtorEq, ← hbz, ← hbl, d3, hg, d4, Int.toNat_zero]
    refine uH ?_
    refine hK _ ?_; clear hK K
    refine uF ?_
    refine uR ?_; intro K hK
    refine callF uTS (hv) uTS uTS uTS ?_; refine uS ?_
    refine hK _ ?_; clear hK K
    refine awp_ret ?_; rw [show Tryz.f113.results.toList = [.tmp 2, .tmp 3] from rfl]; (refine (retN (by simp only [go_sem, Nat.reduceAdd, Nat.reduceSub, Nat.reduceMul, Nat.reduceLT, Nat.reduceEqDiff, Nat.reduceBEq, Nat.reduceLeDiff, Int.reduceToNat, ↓reduceIte, Int.reduceEq, Int.reduceLT, Int.reduceLE, Int.reduceAdd, Int.reduceSub, Int.reduceNeg, reduceCtorEq, retAV, resV] <;> simp) (by simp only [go_sem, Nat.reduceAdd, Nat.reduceSub, Nat.reduceMul, Nat.reduceLT, Nat.reduceEqDiff, Nat.reduceBEq, Nat.reduceLeDiff, Int.reduceToNat, ↓reduceIte, Int.reduceEq, Int.reduceLT, Int.reduceLE, Int.reduceAdd, Int.reduceSub, Int.reduceNeg, reduceCtorEq, retAV, resV] <;> trivial) ?_); simp only [go_sem, Nat.reduceAdd, Nat.reduceSub, Nat.reduceMul, Nat.reduceLT, Nat.reduceEqDiff, Nat.reduceBEq, Nat.reduceLeDiff, Int.reduceToNat, ↓reduceIte, Int.reduceEq, Int.reduceLT, Int.reduceLE, Int.reduceAdd, Int.reduceSub, Int.reduceNeg, reduceCtorEq, retAV, resV])
  · have d3 : decide (1 < ((bs s).length : Int)) = false := decide_eq_false (by omega)
    (repeat first | refine awp_seq ?_ | refine awp_skip ?_ | refine awp_block ?_); refine awp_region hC rfl fun K hK => ?_; simp only [go_sem, Nat.reduceAdd, Nat.reduceSub, Nat.reduceMul, Nat.reduceLT, Nat.reduceEqDiff, Nat.reduceBEq, Nat.reduceLeDiff, Int.reduceToNat, ↓reduceIte, Int.reduceEq, Int.reduceLT, Int.reduceLE, Int.reduceAdd, Int.reduceSub, Int.reduceNeg, reduceCtorEq, ← hbz, d1, d2]
    refine callF uTS (hal) uTS uTS uTS ?_; refine uS ?_
    simp only [go_sem, Nat.reduceAdd, Nat.reduceSub, Nat.reduceMul, Nat.reduceLT, Nat.reduceEqDiff, Nat.reduceBEq, Nat.reduceLeDiff, Int.reduceToNat, ↓reduceIte, Int.reduceEq, Int.reduceLT, Int.reduceLE, Int.reduceAdd, Int.reduceSub, Int.reduceNeg, reduceCtorEq, ← hbz, d3]
    refine uH ?_
    refine hK _ ?_; clear hK K
    refine uF ?_
    refine uR ?_; intro K hK
    refine callF uTS (hv) uTS uTS uTS ?_; refine uS ?_
    refine hK _ ?_; clear hK K
    refine awp_ret ?_; rw [show Tryz.f113.results.toList = [.tmp 2, .tmp 3] from rfl]; (refine (retN (by simp only [go_sem, Nat.reduceAdd, Nat.reduceSub, Nat.reduceMul, Nat.reduceLT, Nat.reduceEqDiff, Nat.reduceBEq, Nat.reduceLeDiff, Int.reduceToNat, ↓reduceIte, Int.reduceEq, Int.reduceLT, Int.reduceLE, Int.reduceAdd, Int.reduceSub, Int.reduceNeg, reduceCtorEq, retAV, resV] <;> simp) (by simp only [go_sem, Nat.reduceAdd, Nat.reduceSub, Nat.reduceMul, Nat.reduceLT, Nat.reduceEqDiff, Nat.reduceBEq, Nat.reduceLeDiff, Int.reduceToNat, ↓reduceIte, Int.reduceEq, Int.reduceLT, Int.reduceLE, Int.reduceAdd, Int.reduceSub, Int.reduceNeg, reduceCtorEq, retAV, resV] <;> trivial) ?_); simp only [go_sem, Nat.reduceAdd, Nat.reduceSub, Nat.reduceMul, Nat.reduceLT, Nat.reduceEqDiff, Nat.reduceBEq, Nat.reduceLeDiff, Int.reduceToNat, ↓reduceIte, Int.reduceEq, Int.reduceLT, Int.reduceLE, Int.reduceAdd, Int.reduceSub, Int.reduceNeg, reduceCtorEq, retAV, resV])
end Go.Proofs.YtkhjenddapaejaaGreatDoor
namespace Go.Proofs.YtkhjenddapaejaaGreatDoor
open Go Go.Sym
open Go.Plant
def atN (kd : Int) : Nat := if isStrip kd = true then 3 else 2
def enN (kd : Int) : Nat := (exitsN kd).toNat
def wantN (kd : Int) : Nat := (if isStrip kd = true then 4 else 3) + if 0 < enN kd then 1 + enN kd else 0
def eqB (a b : ByteArray) : Bool := decide (a.data.toList = b.data.toList)
def phB : ByteArray := ⟨#[112, 104, 111, 116, 111, 99, 101, 108, 108]⟩
def scB : ByteArray := ⟨#[115, 99, 97, 110, 110, 101, 114]⟩
def arB : ByteArray := ⟨#[62]⟩
structure RdN (w : List ByteArray) (kd : Int) : Prop where
  kr : 1 ≤ kd ∧ kd ≤ 9
  len : w.length = wantN kd
  w0 : ∀ j, 1 ≤ j → j ≤ 9 → eqB (wordsB.getD j .empty) (w.getD 0 .empty) = decide ((j : Int) = kd)
  ph : eqB (w.getD 0 .empty) phB = false ∧ eqB (w.getD 0 .empty) scB = false
  nm : nameOk (w.getD 1 .empty) = true ∧ (bs (w.getD 1 .empty)).length ≤ 1000
  n2 : isStrip kd = true → numOk (w.getD 2 .empty) = true
  zn : numOk (w.getD (atN kd) .empty) = true
  ar : 0 < enN kd → eqB (w.getD (atN kd + 1) .empty) arB = true
  ex : ∀ k, k < enN kd → nameOk (w.getD (atN kd + 2 + k) .empty) = true ∧ (bs (w.getD (atN kd + 2 + k) .empty)).length ≤ 1000
structure Ln where
  nm : ByteArray
  kd : Int
  ln : Int
  zn : Int
  ex : List Int
  dk : Int
  dn : Int
  dw : Int
  names : List ByteArray
  deriving Inhabited
abbrev Ln.av (x : Ln) : AV := .agg [S x.nm, I x.kd, I x.ln, I x.zn, IS x.ex, I x.dk, I x.dn, I x.dw, .sl (strs x.names) false]
def lns (l : List Ln) : List AV := l.map Ln.av
theorem lns_length (l : List Ln) : (lns l).length = l.length := by simp [lns]
theorem lns_getD {l : List Ln} {i : Nat} (h : i < l.length) : (lns l).getD i .bad = (l.getD i default).av := by simp [lns, h]
theorem PE_lns (l : List Ln) : PE (lns l) = True := by
  refine eq_true fun e he c hc => ?_
  simp only [lns, List.mem_map] at he
  obtain ⟨x, _, rfl⟩ := he
  simp only [AV.cells, List.mem_cons, List.not_mem_nil, or_false] at hc
  rcases hc with rfl | rfl | rfl | rfl | rfl | rfl | rfl | rfl | rfl <;> first | trivial | rfl
theorem all_lns {l : List Ln} : (∀ y ∈ lns l, y.cells.length = 9) = True := by
  refine eq_true fun e he => ?_
  simp only [lns, List.mem_map] at he
  obtain ⟨x, _, rfl⟩ := he
  rfl
theorem lns_snoc {l : List Ln} {nm : ByteArray} {kd : Int} {ln : Int} {zn : Int} {ex : List Int} {dk : Int} {dn : Int} {dw : Int} {names : List ByteArray} : lns l ++ [.agg [.lit (.string nm), .lit (.int .i64 kd), .lit (.int .i64 ln), .lit (.int .i64 zn), .sl (ints ex) false, .lit (.int .i64 dk), .lit (.int .i64 dn), .lit (.int .i64 dw), .sl (strs names) false]] = lns (l ++ [⟨nm, kd, ln, zn, ex, dk, dn, dw, names⟩]) := by simp [lns]
theorem lns_set {l : List Ln} {i : Nat} {nm : ByteArray} {kd : Int} {ln : Int} {zn : Int} {ex : List Int} {dk : Int} {dn : Int} {dw : Int} {names : List ByteArray} : (lns l).set i (.agg [.lit (.string nm), .lit (.int .i64 kd), .lit (.int .i64 ln), .lit (.int .i64 zn), .sl (ints ex) false, .lit (.int .i64 dk), .lit (.int .i64 dn), .lit (.int .i64 dw), .sl (strs names) false]) = lns (l.set i ⟨nm, kd, ln, zn, ex, dk, dn, dw, names⟩) := by simp [lns, List.map_set]
theorem lns_nil : lns [] = [] := rfl
attribute [go_sem] lns_length PE_lns all_lns lns_snoc lns_set
def rdN (w : List ByteArray) (kd : Int) : Ln := ⟨w.getD 1 .empty, kd, if isStrip kd = true then numV (w.getD 2 .empty) else 0, numV (w.getD (atN kd) .empty), [], 0, 0, 0, (w.drop (atN kd + 2)).take (enN kd)⟩
theorem glu0 : glu tab.gl 0 = some [.sl (strs wordsB) false] := rfl
theorem wordsB_len : wordsB.length = 10 := rfl
theorem read_node (s : ByteArray) (ws : List ByteArray) (kd : Int) (hs : s.data.toList.length ≤ 5000) (hw : splitR s 32 = ws) (hr : RdN ws kd) : SatG Tryz.prog tab 73 [] [S s] [] (.tup [(rdN ws kd).av, B true]) := by
  have hsp := split_sat s 32 hs
  rw [hw] at hsp
  have hxs := exits7_sat kd
  have hst := strip7_sat kd
  have hen : exitsN kd = (enN kd : Int) ∧ enN kd ≤ 2 := by
    have : exitsN kd = 0 ∨ exitsN kd = 1 ∨ exitsN kd = 2 := by unfold exitsN; split <;> (try split) <;> simp
    unfold enN; omega
  rw [hen.1] at hxs
  obtain ⟨⟨hk1, hk9⟩, hlen, hw0, hph, hnm, hn2, hzn, har, hex⟩ := hr
  have hl3 : 3 ≤ ws.length ∧ ws.length ≤ 7 := by rw [hlen, wantN]; split <;> split <;> omega
  have hi0 : 0 < ws.length := by omega
  have hi1 : 1 < ws.length := by omega
  have hi2 : 2 < ws.length := by omega
  refine uFN Tryz.func73 Tryz.ntmps73 ?_; intro w e X hC
  refine uA ?_
  refine uR ?_; intro K hK
  refine callP uTS (hsp) uTS uTS uTS ?_; refine uS ?_
  refine hK _ ?_; clear hK K
  refine uA ?_
  refine awp_seq ?_
  refine awp_merge (fun q : Nat => ⟨[(2, .ptO 102 1 0 0 0), (4, .sl (strs ws) false), (5, .ptO 105 6 0 0 0)], (105, some (6, .box [S .empty, I 0, I 0, I 0, .sl [] true, I 0, I 0, I 0, .sl [] true])) :: (102, some (1, .box [S .empty, I 0, I 0, I 0, .sl [] true, I 0, I 0, I 0, .sl [] true])) :: [], q⟩) (fun _ => True) ?_ ?_
  · repeat refine uA ?_
    refine uW ?_
    refine awp_loopW (fun q : Nat × Nat => ⟨[(2, .ptO 102 1 0 0 0), (4, .sl (strs ws) false), (5, .ptO 105 6 0 0 0), (6, I q.2)], (105, some (6, .box [S .empty, I 0, I 0, I 0, .sl [] true, I 0, I 0, I 0, .sl [] true])) :: (102, some (1, .box [S .empty, I 0, I 0, I 0, .sl [] true, I 0, I 0, I 0, .sl [] true])) :: [], q.1⟩) (fun q => 1 ≤ q.2 ∧ q.2 ≤ 3) (fun q => 3 - q.2) (_, 1) ⟨by omega, by omega⟩ (uKF) ?_
    rintro ⟨ck, k⟩ ⟨hk, hk3⟩
    simp only at hk hk3
    refine awp_seq ?_
    refine awp_merge (fun q : Nat => ⟨[(2, .ptO 102 1 0 0 0), (4, .sl (strs ws) false), (5, .ptO 105 6 0 0 0), (6, I k)], (105, some (6, .box [S .empty, I 0, I 0, I 0, .sl [] true, I 0, I 0, I 0, .sl [] true])) :: (102, some (1, .box [S .empty, I 0, I 0, I 0, .sl [] true, I 0, I 0, I 0, .sl [] true])) :: [], q⟩) (fun _ => k ≤ 2 ∧ ws.length = 3) ?_ ?_
    · by_cases c1 : k ≤ 2
      · have d1 : decide ((k : Int) ≤ 2) = true := decide_eq_true (by omega)
        by_cases c2 : ws.length = 3
        · have d2 : decide ((ws.length : Int) = 3) = true := decide_eq_true (by omega)
          refine uR1 (And.intro @d1 @d2) ?_; intro K hK
          refine hK _ ?_; clear hK K
          refine uT ?_
          refine uW ?_
          refine ⟨_, ⟨c1, c2⟩, uKF⟩
        · have d2 : decide ((ws.length : Int) = 3) = false := decide_eq_false (by omega)
          refine uR1 (And.intro @d1 @d2) ?_; intro K hK
          refine hK _ ?_; clear hK K
          refine uF ?_
          refine awp_exit ?_
          refine ⟨_, trivial, uKF⟩
      · have d1 : decide ((k : Int) ≤ 2) = false := decide_eq_false (by omega)
        refine uR1 @d1 ?_; intro K hK
        refine hK _ ?_; clear hK K
        refine uF ?_
        refine awp_exit ?_
        refine ⟨_, trivial, uKF⟩
    rintro ck1 ⟨hk2, hl3'⟩
    have hnum : numOk (ws.getD 2 .empty) = true := by
      have : isStrip kd = false ∧ enN kd = 0 := by
        rw [hlen, wantN] at hl3'
        cases h : isStrip kd with
        | true => rw [h, if_pos rfl] at hl3'; omega
        | false => rw [h] at hl3'; refine ⟨rfl, ?_⟩; simp only [Bool.false_eq_true, if_false] at hl3'; split at hl3' <;> omega
      rw [atN, this.1] at hzn
      simpa using hzn
    have hns := number_sat _ hnum
    refine uR1 (strs_getD hi2) ?_; intro K hK
    refine ⟨by omega, ?_⟩
    refine callF uTS (hns) uTS uTS uTS ?_; refine uS ?_
    refine uH ?_
    refine hK _ ?_; clear hK K
    have hk12 : k = 1 ∨ k = 2 := by omega
    have hq1 : decide ((ws.getD 0 .empty).data.toList = [112, 104, 111, 116, 111, 99, 101, 108, 108]) = false := hph.1
    have hq2 : decide ((ws.getD 0 .empty).data.toList = [115, 99, 97, 110, 110, 101, 114]) = false := hph.2
    rcases hk12 with rfl | rfl
    · refine uD1 (And.intro (strs_getD hi0) (And.intro @Int.toNat_zero @hq1)) ?_; intro K hK
      refine ⟨by omega, by omega, ?_⟩
      refine uH ?_
      refine hK _ ?_; clear hK K
      refine uF ?_
      repeat refine uA ?_
      refine ⟨(_, 2), ⟨by omega, by omega⟩, by simp only; omega, uKF⟩
    · refine uD1 (And.intro (strs_getD hi0) (And.intro @Int.toNat_zero @hq2)) ?_; intro K hK
      refine ⟨by omega, by omega, ?_⟩
      refine uH ?_
      refine hK _ ?_; clear hK K
      refine uF ?_
      repeat refine uA ?_
      refine ⟨(_, 3), ⟨by omega, by omega⟩, by simp only; omega, uKF⟩
  · rintro ck1 -
    refine uA ?_
    refine uW ?_
    refine awp_loopW (fun q : Nat × Nat => ⟨[(2, .ptO 102 1 0 0 0), (4, .sl (strs ws) false), (5, .ptO 105 6 0 0 0), (9, I q.2)], (105, some (6, .box [S .empty, I (if kd < q.2 then kd else 0), I 0, I 0, .sl [] true, I 0, I 0, I 0, .sl [] true])) :: (102, some (1, .box [S .empty, I 0, I 0, I 0, .sl [] true, I 0, I 0, I 0, .sl [] true])) :: [], q.1⟩) (fun q => 1 ≤ q.2 ∧ q.2 ≤ 10) (fun q => 10 - q.2) (_, 1) ⟨by omega, by omega⟩ (.of (Nat.le_refl _) (by repeat first | exact HOk.nil | refine uHN ?_ | (refine HOk.cons ?_ ?_; (focus (simp only [go_sem, Nat.reduceAdd, Nat.reduceSub, Nat.reduceMul, Nat.reduceLT, Nat.reduceEqDiff, Nat.reduceBEq, Nat.reduceLeDiff, Int.reduceToNat, ↓reduceIte, Int.reduceEq, Int.reduceLT, Int.reduceLE, Int.reduceAdd, Int.reduceSub, Int.reduceNeg, reduceCtorEq, if_neg (show ¬ kd < (1 : Nat) by omega)]; done)))) (by repeat first | exact WOk.nil | refine uWN ?_ | (refine WOk.cons ?_ ?_; (focus (simp only [go_sem, Nat.reduceAdd, Nat.reduceSub, Nat.reduceMul, Nat.reduceLT, Nat.reduceEqDiff, Nat.reduceBEq, Nat.reduceLeDiff, Int.reduceToNat, ↓reduceIte, Int.reduceEq, Int.reduceLT, Int.reduceLE, Int.reduceAdd, Int.reduceSub, Int.reduceNeg, reduceCtorEq]; done))))) ?_
    rintro ⟨ck2, k⟩ ⟨hk, hk10⟩
    simp only at hk hk10
    repeat refine uA ?_
    refine uW ?_; refine condP _ rfl (fun h => ?_) (fun h => ?_)
    · have hkl : k < wordsB.length := by rw [wordsB_len]; omega
      have hwk : decide ((wordsB.getD k .empty).data.toList = (ws.getD 0 .empty).data.toList) = decide ((k : Int) = kd) := hw0 k hk (by omega)
      by_cases c1 : (k : Int) = kd
      · have d1 : decide ((k : Int) = kd) = true := decide_eq_true c1
        have hif : (if kd < ((k + 1 : Nat) : Int) then kd else 0) = kd := if_pos (by omega)
        have hif2 : (if kd < (k : Int) + 1 then kd else 0) = kd := if_pos (by omega)
        refine uE1 (And.intro @glu0 (And.intro (strs_getD hkl) (And.intro (strs_getD hi0) (And.intro @Int.toNat_zero (And.intro @hwk @d1))))) ?_; intro K hK
        refine ⟨by rw [wordsB_len]; omega, by omega, ?_⟩
        refine hK _ ?_; clear hK K
        refine uT ?_
        repeat refine uA ?_
        refine ⟨(_, k + 1), ⟨by simp only; omega, by simp only; omega⟩, by simp only; omega, .of (Nat.le_refl _) (uHF1 (And.intro @hif (And.intro @hif2 @c1))) uWF⟩
      · have d1 : decide ((k : Int) = kd) = false := decide_eq_false c1
        have hif : (if kd < ((k + 1 : Nat) : Int) then kd else 0) = if kd < (k : Int) then kd else 0 := by
          by_cases h : kd < (k : Int)
          · rw [if_pos h, if_pos (by omega)]
          · rw [if_neg h, if_neg (by omega)]
        refine uE1 (And.intro @glu0 (And.intro (strs_getD hkl) (And.intro (strs_getD hi0) (And.intro @Int.toNat_zero (And.intro @hwk @d1))))) ?_; intro K hK
        refine ⟨by rw [wordsB_len]; omega, by omega, ?_⟩
        refine hK _ ?_; clear hK K
        refine uF ?_
        repeat refine uA ?_
        refine ⟨(_, k + 1), ⟨by simp only; omega, by simp only; omega⟩, by simp only; omega, .of (Nat.le_refl _) (uHF1 @hif) uWF⟩
    refine awp_exit ?_
    rw [if_pos (by omega)]
    obtain rfl : k = 10 := by omega
    obtain ⟨hene, hen2⟩ := hen
    obtain ⟨at', hat⟩ : ∃ a, a = atN kd := ⟨_, rfl⟩
    rw [← hat] at hzn har hex
    have hwant := hlen
    unfold wantN at hwant
    have hRD : rdN ws kd = _ := rdN.eq_1 ws kd
    rw [← hat] at hRD
    generalize rdN ws kd = rr at *
    have hen0 : 0 ≤ (enN kd : Int) := by omega
    generalize enN kd = en at *
    have hatv : at' = if isStrip kd = true then 3 else 2 := hat
    have hat4 : (if isStrip kd = true then 4 else 3) = at' + 1 := by rw [hatv]; split <;> rfl
    have hla : at' < ws.length := by rw [hwant, hat4]; omega
    have hla1 : 0 < en → at' + 1 < ws.length := fun h => by rw [hwant, hat4, if_pos h]; omega
    have hla2 : ∀ k, k < en → at' + 2 + k < ws.length := fun k hk => by rw [hwant, hat4, if_pos (by omega)]; omega
    clear hat4
    generalize isStrip kd = st at *
    refine uR ?_; intro K hK
    refine callF uTS (hxs) uTS uTS uTS ?_; refine uS ?_
    refine hK _ ?_; clear hK K
    refine uA ?_
    refine awp_seq ?_
    refine awp_merge (fun q : Nat => ⟨[(2, .ptO 102 1 0 0 0), (4, .sl (strs ws) false), (5, .ptO 105 6 0 0 0), (10, I en), (11, I 2), (12, I (if st = true then 4 else 3))], (105, some (6, .box [S .empty, I kd, I 0, I 0, .sl [] true, I 0, I 0, I 0, .sl [] true])) :: (102, some (1, .box [S .empty, I 0, I 0, I 0, .sl [] true, I 0, I 0, I 0, .sl [] true])) :: [], q⟩) (fun _ => True) ?_ ?_
    · cases st with
      | true =>
        refine uR ?_; intro K hK
        refine callF uTS (hst) uTS uTS uTS ?_; refine uS ?_
        refine hK _ ?_; clear hK K
        refine uT ?_
        repeat refine uA ?_
        refine ⟨_, trivial, uKF⟩
      | false =>
        refine uR ?_; intro K hK
        refine callF uTS (hst) uTS uTS uTS ?_; refine uS ?_
        refine hK _ ?_; clear hK K
        refine uF ?_
        refine uW ?_
        refine ⟨_, trivial, uKF⟩
    rintro ck3 -
    refine awp_seq ?_
    refine awp_merge (fun q : Nat => ⟨[(2, .ptO 102 1 0 0 0), (4, .sl (strs ws) false), (5, .ptO 105 6 0 0 0), (10, I en), (11, I 2), (12, I ws.length)], (105, some (6, .box [S .empty, I kd, I 0, I 0, .sl [] true, I 0, I 0, I 0, .sl [] true])) :: (102, some (1, .box [S .empty, I 0, I 0, I 0, .sl [] true, I 0, I 0, I 0, .sl [] true])) :: [], q⟩) (fun _ => True) ?_ ?_
    · by_cases c1 : 0 < en
      · have d1 : decide (0 < (en : Int)) = true := decide_eq_true (by omega)
        rw [if_pos c1] at hwant
        have hv : (if st = true then (4 : Int) else 3) + (1 + (en : Int)) = ws.length := by rw [hwant]; cases st <;> simp <;> omega
        have hvb : 3 ≤ (if st = true then (4 : Int) else 3) ∧ (if st = true then (4 : Int) else 3) ≤ 4 := by cases st <;> simp
        generalize (if st = true then (4 : Int) else 3) = v4 at *
        repeat first | refine uC ?_ | refine uA1 @d1 ?_
        refine ⟨_, trivial, .of (Nat.le_refl _) uHF (uWF1 @hv)⟩
      · have d1 : decide (0 < (en : Int)) = false := decide_eq_false (by omega)
        rw [if_neg c1] at hwant
        have hv : (if st = true then (4 : Int) else 3) = ws.length := by rw [hwant]; cases st <;> simp
        repeat first | refine uC ?_ | refine uA1 @d1 ?_
        refine uW ?_
        refine ⟨_, trivial, .of (Nat.le_refl _) uHF (uWF1 @hv)⟩
    rintro ck4 -
    have dk0 : decide (kd = 0) = false := decide_eq_false (by omega)
    have dwl : decide (¬ (ws.length : Int) = ws.length) = false := decide_eq_false (fun h => h rfl)
    have hnms := name4_sat _ hnm.2
    rw [hnm.1] at hnms
    have hl0 := hla
    refine uR1 (And.intro @dk0 (And.intro @dwl (And.intro (strs_getD hi1) @Int.toNat_one))) ?_; intro K hK
    refine ⟨by omega, ?_⟩
    refine callF uTS (hnms) uTS uTS uTS ?_; refine uS ?_
    refine uH ?_
    refine hK _ ?_; clear hK K
    refine uF ?_
    repeat refine uA1 (And.intro (strs_getD hi1) @Int.toNat_one) ?_
    refine awp_seq ?_
    refine awp_merge (fun q : Nat => ⟨[(2, .ptO 102 1 0 0 0), (4, .sl (strs ws) false), (5, .ptO 105 6 0 0 0), (10, I en), (11, I at'), (13, B true)], (105, some (6, .box [S (ws.getD 1 .empty), I kd, I (if st = true then numV (ws.getD 2 .empty) else 0), I 0, .sl [] true, I 0, I 0, I 0, .sl [] true])) :: (102, some (1, .box [S .empty, I 0, I 0, I 0, .sl [] true, I 0, I 0, I 0, .sl [] true])) :: [], q⟩) (fun _ => True) ?_ ?_
    · cases st with
      | true =>
        have hn2s := number_sat _ (hn2 rfl)
        rw [if_pos rfl] at hatv
        subst hatv
        refine uR ?_; intro K hK
        refine callF uTS (hst) uTS uTS uTS ?_; refine uS ?_
        refine hK _ ?_; clear hK K
        refine uT ?_
        refine uR1 (strs_getD hi2) ?_; intro K hK
        refine ⟨by omega, ?_⟩
        refine callF uTS (hn2s) uTS uTS uTS ?_; refine uS ?_
        refine uH ?_
        refine hK _ ?_; clear hK K
        repeat refine uA ?_
        refine ⟨_, trivial, uKF⟩
      | false =>
        rw [if_neg (by decide)] at hatv
        subst hatv
        refine uR ?_; intro K hK
        refine callF uTS (hst) uTS uTS uTS ?_; refine uS ?_
        refine hK _ ?_; clear hK K
        refine uF ?_
        refine uW ?_
        refine ⟨_, trivial, uKF⟩
    rintro ck5 -
    have hzs := number_sat _ hzn
    refine uR1 (strs_getD hla) ?_; intro K hK
    refine ⟨by omega, ?_⟩
    refine callF uTS (hzs) uTS uTS uTS ?_; refine uS ?_
    refine uH ?_
    refine hK _ ?_; clear hK K
    generalize (if st = true then numV (ws.getD 2 .empty) else 0) = vln at *
    generalize numV (ws.getD at' .empty) = vzn at *
    refine uA ?_
    refine awp_seq ?_
    refine awp_merge (fun q : Nat => ⟨[(2, .ptO 102 1 0 0 0), (4, .sl (strs ws) false), (5, .ptO 105 6 0 0 0), (10, I en), (11, I at')], (105, some (6, .box [S (ws.getD 1 .empty), I kd, I vln, I vzn, .sl [] true, I 0, I 0, I 0, .sl [] true])) :: (102, some (1, .box [S .empty, I 0, I 0, I 0, .sl [] true, I 0, I 0, I 0, .sl [] true])) :: [], q⟩) (fun _ => True) ?_ ?_
    · by_cases c1 : 0 < en
      · have d1 : decide (0 < (en : Int)) = true := decide_eq_true (by omega)
        have hl1 := hla1 c1
        have hkt : ((at' : Int) + 1).toNat = at' + 1 := by omega
        have hat1 : decide (¬ (ws.getD (at' + 1) .empty).data.toList = [62]) = false := by
          have h1 : (ws.getD (at' + 1) .empty).data.toList = [62] := of_decide_eq_true (har c1)
          exact decide_eq_false (fun h => h h1)
        refine uR1 (And.intro @d1 (And.intro @hkt (And.intro (strs_getD hl1) @hat1))) ?_; intro K hK
        refine uH ?_
        refine hK _ ?_; clear hK K
        refine uF ?_
        refine uW ?_
        refine ⟨_, trivial, uKF⟩
      · have d1 : decide (0 < (en : Int)) = false := decide_eq_false (by omega)
        refine uR1 @d1 ?_; intro K hK
        refine hK _ ?_; clear hK K
        refine uF ?_
        refine uW ?_
        refine ⟨_, trivial, uKF⟩
    rintro ck6 -
    repeat refine uA ?_
    refine uW ?_
    refine awp_loopW (fun q : Nat × Nat × Nat => ⟨[(2, .ptO 102 1 0 0 0), (4, .sl (strs ws) false), (5, .ptO 105 6 0 0 0), (10, I en), (11, I at'), (16, I q.2.1)], (105, some (6, .box [S (ws.getD 1 .empty), I kd, I vln, I vzn, .sl [] true, I 0, I 0, I 0, nilC q.2.1 (.slO 280 q.2.2 0 q.2.1)])) :: (280, nilH q.2.1 (q.2.2, .own 9 1 (strs ((ws.drop (at' + 2)).take q.2.1)))) :: (102, some (1, .box [S .empty, I 0, I 0, I 0, .sl [] true, I 0, I 0, I 0, .sl [] true])) :: [], q.1⟩)
      (fun q => q.2.1 ≤ en) (fun q => en - q.2.1) (_, 0, 0) (Nat.zero_le _) (uKF) ?_
    rintro ⟨ck7, k, g⟩ hk
    simp only at hk
    repeat refine uA ?_
    refine uW ?_; refine condP _ rfl (fun h7 => ?_) (fun h7 => ?_)
    · have hlt : k < en := by omega
      have hlk := hla2 k hlt
      have hxk := hex k hlt
      have hxs2 := name4_sat _ hxk.2
      rw [hxk.1] at hxs2
      have hkt : ((at' : Int) + 2 + (k : Int)).toNat = at' + 2 + k := by omega
      have hsn : (ws.drop (at' + 2)).take (k + 1) = (ws.drop (at' + 2)).take k ++ [ws.getD (at' + 2 + k) .empty] := by
        rw [take_getD (d := .empty) (by rw [List.length_drop]; omega)]
        congr 2
        simp [List.getD_eq_getElem?_getD]
      have htl : ((ws.drop (at' + 2)).take k).length = k := by rw [List.length_take, List.length_drop]; omega
      generalize (ws.drop (at' + 2)).take k = o at *
      refine uR1 (And.intro @hkt (strs_getD hlk)) ?_; intro K hK
      refine uH ?_
      refine callF uTS (hxs2) uTS uTS uTS ?_; refine uS ?_
      refine uH ?_
      refine hK _ ?_; clear hK K
      refine uF ?_
      by_cases hi0' : k = 0
      · subst hi0'
        obtain rfl : o = [] := List.length_eq_zero_iff.1 htl
        simp only [nilC_z, nilH_z]
        refine uD1 (And.intro @hkt (strs_getD hlk)) ?_; intro K hK
        refine uH ?_
        refine hK _ ?_; clear hK K
        repeat refine uA ?_
        refine ⟨(_, 0 + 1, ck7 + 22), by simp only; omega, by simp only; omega, .of (Nat.le_refl _) (by repeat first | exact HOk.nil | refine uHN ?_ | (refine HOk.cons ?_ ?_; (focus (simp only [go_sem, Nat.reduceAdd, Nat.reduceSub, Nat.reduceMul, Nat.reduceLT, Nat.reduceEqDiff, Nat.reduceBEq, Nat.reduceLeDiff, Int.reduceToNat, ↓reduceIte, Int.reduceEq, Int.reduceLT, Int.reduceLE, Int.reduceAdd, Int.reduceSub, Int.reduceNeg, reduceCtorEq, hsn, List.nil_append, Nat.add_zero, strs, List.map_cons, List.map_nil, nilC_s, nilH_s]; done)))) (by repeat first | exact WOk.nil | refine uWN ?_ | (refine WOk.cons ?_ ?_; (focus (simp only [go_sem, Nat.reduceAdd, Nat.reduceSub, Nat.reduceMul, Nat.reduceLT, Nat.reduceEqDiff, Nat.reduceBEq, Nat.reduceLeDiff, Int.reduceToNat, ↓reduceIte, Int.reduceEq, Int.reduceLT, Int.reduceLE, Int.reduceAdd, Int.reduceSub, Int.reduceNeg, reduceCtorEq]; done))))⟩
      · simp only [nilC_p hi0', nilH_p hi0']
        refine uD1 (And.intro @hkt (And.intro (strs_getD hlk) @htl)) ?_; intro K hK
        refine uH ?_
        refine hK _ ?_; clear hK K
        repeat refine uA ?_
        refine ⟨(_, k + 1, g), by simp only; omega, by simp only; omega, .of (Nat.le_refl _) (uHF1 (And.intro @hsn (And.intro @nilC_s @nilH_s))) uWF⟩
    · refine awp_exit ?_
      obtain rfl : k = en := by omega
      subst hRD
      by_cases hi0' : k = 0
      · subst hi0'
        simp only [nilC_z, nilH_z]
        repeat refine uA ?_
        refine awp_ret ?_; rw [show Tryz.f73.results.toList = [.cell 2 106, .tmp 3] from rfl]; first | refine uRN ?_ | exact uRM
        rfl
      · simp only [nilC_p hi0', nilH_p hi0']
        repeat refine uA ?_
        have htl : ((ws.drop (at' + 2)).take k).length = k := by rw [List.length_take, List.length_drop]; have := hla2 (k - 1) (by omega); omega
        refine awp_ret ?_; rw [show Tryz.f73.results.toList = [.cell 2 106, .tmp 3] from rfl]; first | refine uRN1 @htl ?_ | exact uRM1 @htl
        rfl
end Go.Proofs.YtkhjenddapaejaaGreatDoor
namespace Go.Proofs.YtkhjenddapaejaaGreatDoor
open Go Go.Sym
open Go.Plant
def rdS (ws : List ByteArray) : Ln := ⟨.empty, 0, 0, 0, [], 2, 0, numV (ws.getD 2 .empty), [ws.getD 1 .empty]⟩
theorem read_scan (s : ByteArray) (ws : List ByteArray) (hs : s.data.toList.length ≤ 5000) (hw : splitR s 32 = ws) (hl : ws.length = 3) (h0 : eqB (ws.getD 0 .empty) phB = false ∧ eqB (ws.getD 0 .empty) scB = true)
    (hnm : nameOk (ws.getD 1 .empty) = true ∧ (bs (ws.getD 1 .empty)).length ≤ 1000) (hn : numOk (ws.getD 2 .empty) = true) : SatG Tryz.prog tab 73 [] [S s] [] (.tup [(rdS ws).av, B true]) := by
  have hsp := split_sat s 32 hs
  rw [hw] at hsp
  have hns := number_sat _ hn
  have hnms := name4_sat _ hnm.2
  rw [hnm.1] at hnms
  have hi0 : 0 < ws.length := by omega
  have hi1 : 1 < ws.length := by omega
  have hi2 : 2 < ws.length := by omega
  have hq1 : decide ((ws.getD 0 .empty).data.toList = [112, 104, 111, 116, 111, 99, 101, 108, 108]) = false := h0.1
  have hq2 : decide ((ws.getD 0 .empty).data.toList = [115, 99, 97, 110, 110, 101, 114]) = true := h0.2
  have hRD : rdS ws = _ := rdS.eq_1 ws
  have htd : List.take 1 (List.drop 1 ws) = [ws.getD 1 .empty] := by
    match ws, hl with
    | [a, b, c], _ => rfl
  have htd2 : List.drop 1 (List.take 2 ws) = [ws.getD 1 .empty] := by
    match ws, hl with
    | [a, b, c], _ => rfl
  generalize rdS ws = rr at *
  generalize numV (ws.getD 2 .empty) = nv at *
  have d3 : decide ((ws.length : Int) = 3) = true := decide_eq_true (by omega)
  refine uFN Tryz.func73 Tryz.ntmps73 ?_; intro w e X hC
  refine uA ?_
  refine uR ?_; intro K hK
  refine callP uTS (hsp) uTS uTS uTS ?_; refine uS ?_
  refine hK _ ?_; clear hK K
  refine uA ?_
  repeat refine uA ?_
  refine uW ?_
  refine awp_loopW (fun q : Nat × Nat => ⟨[(2, .ptO 102 1 0 0 0), (4, .sl (strs ws) false), (5, .ptO 105 6 0 0 0), (6, I q.2)], (105, some (6, .box [S .empty, I 0, I 0, I 0, .sl [] true, I 0, I 0, I 0, .sl [] true])) :: (102, some (1, .box [S .empty, I 0, I 0, I 0, .sl [] true, I 0, I 0, I 0, .sl [] true])) :: [], q.1⟩) (fun q => 1 ≤ q.2 ∧ q.2 ≤ 2) (fun q => 3 - q.2) (_, 1) ⟨by omega, by omega⟩ (uKF) ?_
  rintro ⟨ck, k⟩ ⟨hk, hk3⟩
  simp only at hk hk3
  have d1 : decide ((k : Int) ≤ 2) = true := decide_eq_true (by omega)
  refine uR1 (And.intro @d1 @d3) ?_; intro K hK
  refine hK _ ?_; clear hK K
  refine uT ?_
  refine uR1 (strs_getD hi2) ?_; intro K hK
  refine ⟨by omega, ?_⟩
  refine callF uTS (hns) uTS uTS uTS ?_; refine uS ?_
  refine uH ?_
  refine hK _ ?_; clear hK K
  have hk12 : k = 1 ∨ k = 2 := by omega
  rcases hk12 with rfl | rfl
  · refine uD1 (And.intro (strs_getD hi0) (And.intro @Int.toNat_zero @hq1)) ?_; intro K hK
    refine ⟨by omega, by omega, ?_⟩
    refine uH ?_
    refine hK _ ?_; clear hK K
    refine uF ?_
    repeat refine uA ?_
    refine ⟨(_, 2), ⟨by omega, by omega⟩, by simp only; omega, uKF⟩
  · refine uD1 (And.intro (strs_getD hi0) (And.intro (strs_getD hi1) (And.intro @Int.toNat_zero (And.intro @Int.toNat_one @hq2)))) ?_; intro K hK
    refine ⟨by omega, by omega, by omega, ?_⟩
    refine callF uTS (hnms) uTS uTS uTS ?_; refine uS ?_
    refine uH ?_
    refine hK _ ?_; clear hK K
    refine uT ?_
    refine uD1 (And.intro @strs_drop (And.intro @strs_take (And.intro @htd @htd2))) ?_; intro K hK
    refine uH ?_
    refine hK _ ?_; clear hK K
    subst hRD
    repeat refine uA ?_
    refine awp_ret ?_; rw [show Tryz.f73.results.toList = [.cell 2 106, .tmp 3] from rfl]; first | refine uRN ?_ | exact uRM
    rfl
end Go.Proofs.YtkhjenddapaejaaGreatDoor
