/-
  SYM, part 12: append.
-/
import Derived.Test.YtmjlnndnpdbagaaSym11
set_option linter.all false
set_option linter.unusedSimpArgs false
set_option linter.unusedVariables false
set_option linter.deprecated false
namespace Go.Sym
open Go Go.Great

section
variable {C : Cx} {e : Env} {G : Nat → Prop} {g : Nat} {hp : Hp} {w : World} {T : List (Nat × TI)}

/-- what an appended slice holds -/
structure Src (w : World) (e : Env) (ys : List AV) (k : Nat) (x : Value) (news : List Value) : Prop where
  len : news.length = ys.length * k
  at_ : ys.length = 0 ∨ ∃ b off cap, x = .slice (some ⟨b, off, none⟩) ys.length cap ∧ ∀ j v, news[j]? = some v → w.cell? ((⟨b, off, none⟩ : Addr).add j) = some v
  shape : ∃ a cap, x = .slice a ys.length cap
  lens : ∀ i (h : i < ys.length), ys[i].cells.length = k
  one : ∀ i (h : i < ys.length) j (h' : j < ys[i].cells.length), ys[i].cells[j].one = true
  vals : ∀ i (h : i < ys.length) j (h' : j < ys[i].cells.length), VD w (UE e) ys[i].cells[j] (news.getD (i * k + j) undef)

theorem news_get {n : Nat} (f : Nat → Value) {b off : Nat} (hc : ∀ j, j < n → w.cell? ⟨b, off + j, none⟩ = some (f j)) :
    ∀ j v, ((List.range n).map f)[j]? = some v → w.cell? ((⟨b, off, none⟩ : Addr).add j) = some v := by
  intro j v hj
  by_cases h : j < n
  · simp [h] at hj
    subst hj
    rw [add_none]; exact hc j h
  · simp [h] at hj

theorem news_getD {n : Nat} (f : Nat → Value) {j : Nat} (h : j < n) : ((List.range n).map f).getD j undef = f j := by
  simp [List.getD_eq_getElem?_getD, h]

theorem src_ok (hr : HRel w e G hp) {v : AV} {x : Value} (hx : VR w (UE e) e G v x) (h : snap1P hp v) {ys : List AV} {fl : Bool} (hs : snap1 hp v = .sl ys fl) {k : Nat} (hk0 : 0 < k)
    (hk : ∀ y ∈ ys, y.cells.length = k) : ∃ news, Src w e ys k x news := by
  have lens : ∀ i (h : i < ys.length), ys[i].cells.length = k := fun i hi => hk _ (List.getElem_mem hi)
  cases v with
  | sl es full =>
    simp only [snap1] at hs
    injection hs with hs1 hs2
    subst hs1
    rcases hx.sl_inv.sl_inv with ⟨rfl, a, rfl⟩ | ⟨b, off, cap, k', f, rfl, hb, hbs, _, _, _, hk0', hk', hc, h1', hv⟩
    · exact ⟨[], by simp, .inl rfl, ⟨_, _, rfl⟩, fun i hi => by simp at hi, fun i hi => by simp at hi, fun i hi => by simp at hi⟩
    · by_cases he : es = []
      · subst he
        exact ⟨[], by simp, .inl rfl, ⟨_, _, rfl⟩, fun i hi => by simp at hi, fun i hi => by simp at hi, fun i hi => by simp at hi⟩
      · have h0 : 0 < es.length := List.length_pos_iff.2 he
        have hkk : k' = k := by rw [← hk' 0 h0, lens 0 h0]
        subst hkk
        refine ⟨(List.range (es.length * k')).map f, by simp, .inr ⟨b, off, cap, rfl, news_get f hc⟩, ⟨_, _, rfl⟩, lens, h1', fun i hi j hj => ?_⟩
        rw [news_getD f (mul_lt_of hi (by have := lens i hi; omega))]
        exact hv i hi j hj
  | slO id g' off len =>
    simp only [snap1P, snap1] at h hs
    cases hg : hp.get id with
    | none => simp only [hg] at h
    | some q =>
      obtain ⟨g'', ob⟩ := q
      cases ob with
      | box cs => simp only [hg] at h
      | own t k' es =>
        simp only [hg] at h hs
        obtain ⟨rfl, hl⟩ := h
        cases hs
        obtain ⟨ee, he, hgg, hn, hok, hor⟩ := slO_val hr hx hg hl
        obtain ⟨hk', _, hk0', hkl, h1, hb⟩ := hor
        have hlen : (es.drop off).length = len := by simp; omega
        obtain ⟨a, cap', hshape⟩ := hok.shape
        unfold SlOK at hok
        by_cases hz : len = 0
        · refine ⟨[], by simp [hlen, hz], .inl (by rw [hlen]; exact hz), ⟨a, cap', by rw [hlen]; exact hshape⟩, lens, fun i hi => by omega, fun i hi => by omega⟩
        · cases hbl : ee.blk with
          | none => rw [hbl] at hok; omega
          | some q =>
            obtain ⟨b, bcap⟩ := q
            rw [hbl] at hok hb
            obtain ⟨cap, rfl, hcp, hlc⟩ := hok
            obtain ⟨hm, hlb, cs, hh, hs, hv⟩ := hb
            have hkk : k' = k := by rw [← hkl off (by omega)]; have := lens 0 (by omega); rw [List.getElem_drop] at this; simpa using this
            subst hkk
            have hc : ∀ j, j < (es.drop off).length * k' → w.cell? ⟨b, off * ee.k + j, none⟩ = some (cs.getD (off * ee.k + j) undef) := by
              intro j hj
              rw [hlen] at hj
              refine cell_of_heap hh ?_
              rw [hs, hk']
              calc off * k' + j < off * k' + len * k' := by omega
                _ = (off + len) * k' := by rw [Nat.add_mul]
                _ ≤ bcap * k' := Nat.mul_le_mul_right _ (by omega)
            refine ⟨(List.range ((es.drop off).length * k')).map (fun j => cs.getD (off * ee.k + j) undef), by simp, .inr ⟨b, off * ee.k, cap, by rw [hlen], news_get _ hc⟩, ⟨_, _, by rw [hlen]⟩, lens, ?_, ?_⟩
            · intro i hi j hj
              simp only [List.getElem_drop] at hj ⊢
              exact h1 _ _ _ _
            · intro i hi j hj
              rw [news_getD _ (mul_lt_of hi (by have := lens i hi; omega))]
              simp only [List.getElem_drop] at hj ⊢
              have := hv (off + i) (by simp at hi; omega) j hj
              rw [Nat.add_mul, Nat.add_assoc] at this
              rw [hk']
              exact this
  | _ => simp only [snap1] at hs; cases hs

theorem Src.oneCell {ys : List AV} {k : Nat} {x : Value} {news : List Value} (h : Src w e ys k x news) (hk : 0 < k) : ∀ u ∈ news, u.oneCell' = true := by
  intro u hu
  obtain ⟨p, hp, rfl⟩ := List.getElem_of_mem hu
  have hpl : p < ys.length * k := by rw [← h.len]; exact hp
  have hi : p / k < ys.length := (Nat.div_lt_iff_lt_mul hk).2 hpl
  have hj : p % k < ys[p / k].cells.length := by rw [h.lens _ hi]; exact Nat.mod_lt _ hk
  have h1 := (h.vals _ hi _ hj).oneCell (h.one _ hi _ hj)
  have e1 : p / k * k + p % k = p := by rw [Nat.mul_comm]; exact Nat.div_add_mod p k
  rw [e1, List.getD_eq_getElem?_getD, List.getElem?_eq_getElem hp] at h1
  exact h1

/-- nothing is appended -/
theorem run_append_zero {P : Program} {t el : Nat} {ei : TI} (hu : P.underlying t = some (.slice el)) (hf : TFit P el ei) (ty : Nat) (a a' : Option Addr) (n cap cap' : Nat) (hn : n ≤ cap) (w : World) :
    (Builtin.append_ #[t, t] ty #[.slice a n cap, .slice a' 0 cap']).run P w = .ok (.slice a n cap) w := by
  cases a <;> cases a' <;> simp [Builtin.append_, run_underlying hu, run_sizeOf' hf, Builtin.lenOf, hn, Builtin.firstCells, loadCells, loadCellsFrom, storeCells]

/-- something is appended to a slice that has no room: a new row -/
theorem run_append_new {P : Program} {t el : Nat} {ei : TI} (hu : P.underlying t = some (.slice el)) (hf : TFit P el ei) (ty : Nat) {a : Option Addr} {n cap m : Nat} {x : Value} {ys : List AV} {news olds : List Value}
    (ho : olds.length = n * ei.size) (hold : ∀ j v, olds[j]? = some v → ∀ ad, a = some ad → w.cell? (ad.add j) = some v) (hnil : a = none → n = 0 ∧ cap = 0) (hs : Src w e ys ei.size x news) (hm : ys.length = m) (hm0 : 0 < m)
    (hcap : cap < n + m) (h63 : n + m ≤ 9223372036854775807) (h48 : (n + m) * ei.bytes ≤ 140737488355328) :
    ∃ nc zs, n + m ≤ nc ∧ nc ≤ maxLen ∧ zs.length = (nc - (n + m)) * ei.size ∧ (Builtin.append_ #[t, t] ty #[.slice a n cap, x]).run P w =
      .ok (.slice (some ⟨w.heap.size, 0, none⟩) (n + m) nc) (w.drew.alloc (.cells (olds ++ news ++ zs).toArray el)) := by
  obtain ⟨ie, hi, hsz, hby, hz⟩ := hf.info
  obtain ⟨b, off, cap', hx, hc⟩ := hs.at_.resolve_left (by omega)
  have hzz : (ei.zval).cells.size = ei.size := by
    obtain ⟨v1, v2, v3⟩ := zval_zav (w := w) hf (fun _ => True)
    rw [(cells_valsD v1 v2).1, v3]
  subst hx
  rw [hm]
  have hln : news.length = m * ie.size := by rw [hsz, hs.len, hm]
  refine ⟨grownCap w (n + m) cap el, (Builtin.zeroCells ei.zval.cells (grownCap w (n + m) cap el - (n + m))).toList, grownCap_ge _ _ _ _, grownCap_le_maxLen _ _ _ _ (by simp only [maxLen]; omega), ?_, ?_⟩
  · rw [Array.length_toList, size_zeroCells, hzz]
  · cases a with
    | none =>
      obtain ⟨rfl, rfl⟩ := hnil rfl
      have ho' : olds = [] := List.eq_nil_of_length_eq_zero (by omega)
      subst ho'
      have := run_append_nil (P := P) w t ty el ie _ hu hi hz ⟨b, off, none⟩ m cap' news hln hc hm0 (by omega) (by rw [hby]; simp only [Nat.zero_add] at h48; omega)
      simp only [Nat.zero_add, List.nil_append]
      rw [this]
      congr 3
      apply Array.ext'
      simp
    | some ad =>
      have := run_append_grow (P := P) w t ty el ie _ hu hi hz ad n cap olds (by rw [hsz]; exact ho) (fun j v hj => hold j v hj ad rfl) ⟨b, off, none⟩ m cap' news hln hc hcap (by omega)
        (growslice_fits (by omega) (by rw [hby]; exact h48))
      rw [this]
      congr 3
      apply Array.ext'
      simp

theorem append_getD {olds news zs : List Value} {n m k i j : Nat} (ho : olds.length = n * k) (hn : news.length = m * k) (hi : i < n + m) (hj : j < k) :
    ((olds ++ news ++ zs).toArray).getD (i * k + j) undef = if i < n then olds.getD (i * k + j) undef else news.getD ((i - n) * k + j) undef := by
  rw [Array.getD_eq_getD_getElem?, List.getElem?_toArray]
  by_cases h : i < n
  · rw [if_pos h, List.append_assoc, List.getElem?_append_left (by rw [ho]; exact mul_lt_of h hj), List.getD_eq_getElem?_getD]
  · rw [if_neg h]
    have h1 : n * k ≤ i * k + j := Nat.le_trans (Nat.mul_le_mul_right _ (by omega)) (Nat.le_add_right _ _)
    have h2 : i * k + j < (n + m) * k := mul_lt_of hi hj
    have h3 : (i - n) * k = i * k - n * k := Nat.sub_mul i n k
    have h4 : n * k ≤ i * k := Nat.mul_le_mul_right _ (by omega)
    rw [List.getElem?_append_left (by rw [List.length_append, ho, hn, ← Nat.add_mul]; exact h2), List.getElem?_append_right (by omega), List.getD_eq_getElem?_getD, ho]
    congr 2
    omega

/-- old elements and new ones, laid into a block -/
theorem cat_cells {es ys : List AV} {k n m : Nat} {olds news zs : List Value} (ho : olds.length = n * k) (hnw : news.length = m * k) (hn : es.length = n) (hm : ys.length = m)
    (hel : ∀ i (h : i < es.length), es[i].cells.length = k) (hyl : ∀ i (h : i < ys.length), ys[i].cells.length = k) {U : Nat → Prop}
    (hev : ∀ i (h : i < es.length) j (h' : j < es[i].cells.length), VD w U es[i].cells[j] (olds.getD (i * k + j) undef))
    (hyv : ∀ i (h : i < ys.length) j (h' : j < ys[i].cells.length), VD w U ys[i].cells[j] (news.getD (i * k + j) undef)) :
    ∀ i (h : i < (es ++ ys).length) j (h' : j < (es ++ ys)[i].cells.length), VD w U (es ++ ys)[i].cells[j] (((olds ++ news ++ zs).toArray).getD (i * k + j) undef) := by
  intro i hi j hj
  have hi' : i < n + m := by simp at hi; omega
  by_cases h : i < es.length
  · have hg : (es ++ ys)[i] = es[i] := List.getElem_append_left h
    simp only [hg] at hj ⊢
    rw [append_getD ho hnw hi' (by have := hel i h; omega), if_pos (by omega)]
    exact hev i h j hj
  · have hg : (es ++ ys)[i] = ys[i - es.length]'(by simp at hi; omega) := List.getElem_append_right (by omega)
    simp only [hg] at hj ⊢
    have hlt : i - es.length < ys.length := by simp at hi; omega
    rw [append_getD ho hnw hi' (by have := hyl _ hlt; omega), if_neg (by omega)]
    subst hn
    exact hyv _ hlt j hj

theorem cat_lens {es ys : List AV} {k : Nat} (h1 : ∀ i (h : i < es.length), es[i].cells.length = k) (h2 : ∀ i (h : i < ys.length), ys[i].cells.length = k) :
    ∀ i (h : i < (es ++ ys).length), (es ++ ys)[i].cells.length = k := by
  intro i hi
  rw [List.getElem_append]
  split
  · exact h1 _ _
  · exact h2 _ _
theorem cat_ones {es ys : List AV} (h1 : ∀ i (h : i < es.length) j (h' : j < es[i].cells.length), es[i].cells[j].one = true) (h2 : ∀ i (h : i < ys.length) j (h' : j < ys[i].cells.length), ys[i].cells[j].one = true) :
    ∀ i (h : i < (es ++ ys).length) j (h' : j < (es ++ ys)[i].cells.length), (es ++ ys)[i].cells[j].one = true := by
  intro i hi j hj
  by_cases h : i < es.length
  · have hg : (es ++ ys)[i] = es[i] := List.getElem_append_left h
    simp only [hg] at hj ⊢
    exact h1 _ _ _ _
  · have hg : (es ++ ys)[i] = ys[i - es.length]'(by simp at hi; omega) := List.getElem_append_right (by omega)
    simp only [hg] at hj ⊢
    exact h2 _ _ _ _

/-- to nil or an empty slice without room: an object of its own -/
theorem append_nil_ok (p : Pre C e G g hp w) {t el did ty : Nat} {ei : TI} (hid : C.lent.length ≤ did) (hu : C.P.underlying t = some (.slice el)) (hf : TFit C.P el ei) (hs : ei.size ≠ 0) {a : Option Addr} {x : Value} {ys : List AV} {news : List Value}
    (hsrc : Src w e ys ei.size x news) (h48 : ys.length * ei.bytes ≤ 140737488355328) (h63 : ys.length ≤ 9223372036854775807) {P : Prop} :
    OpOk C e G g hp w (P, .slO did g 0 ys.length, [(did, some (g, .own el ei.size ys))]) (((Builtin.append_ #[t, t] ty #[.slice a 0 0, x]).run C.P w).andThen fun v w => .ok (.value v) w) := by
  have hpos : 0 < ei.size := by omega
  by_cases hm : ys.length = 0
  · have hy : ys = [] := List.eq_nil_of_length_eq_zero hm
    subst hy
    obtain ⟨a', cap', rfl⟩ := hsrc.shape
    have hrun := run_append_zero (P := C.P) hu hf ty a a' 0 0 cap' (Nat.le_refl _) w
    simp only [List.length_nil] at hrun ⊢
    rw [hrun, Result.andThen_ok]
    refine mk_obj p (Grow.refl w) hid (ee := ⟨g, none, ei.size, 0⟩) rfl (by simp) ?_ ?_
    · exact ⟨rfl, rfl, hpos, by simp, by simp, rfl⟩
    refine .slO _ _ _ _ _ (.inr rfl) rfl fun ee he _ => ?_
    rw [eset_same] at he; cases he
    exact ⟨Nat.le_refl _, fun _ => ⟨rfl, rfl, a, rfl⟩⟩
  · obtain ⟨nc, zs, h1, h2, h3, hrun⟩ := run_append_new (P := C.P) (w := w) hu hf ty (a := a) (n := 0) (cap := 0) (olds := []) (by simp) (by simp) (fun _ => ⟨rfl, rfl⟩) hsrc rfl (by omega) (by omega) (by omega) (by simpa using h48)
    rw [hrun, Result.andThen_ok]
    simp only [Nat.zero_add] at h1 h3 ⊢
    have x2 := Ext.new p (Grow.drew_alloc w (.cells ([] ++ news ++ zs).toArray el)) (did := did) (ee := ⟨g, some (w.heap.size, nc), ei.size, ys.length⟩) rfl (by rintro b c ⟨⟩; exact Nat.le_refl _)
    refine mk_obj p (Grow.drew_alloc w _) hid (ee := ⟨g, some (w.heap.size, nc), ei.size, ys.length⟩) rfl (by rintro b c ⟨⟩; exact ⟨Nat.le_refl _, by rw [show (w.drew.alloc _).heap.size = w.heap.size + 1 from size_new w.drew _]; omega⟩) ?_ ?_
    · refine ⟨rfl, rfl, hpos, hsrc.lens, hsrc.one, h2, h1, _, heap_new w.drew _, ?_, ?_⟩
      · rw [List.size_toArray, List.length_append, List.length_append, hsrc.len, h3, List.length_nil, Nat.zero_add, ← Nat.add_mul]; congr 1; omega
      · intro i hi j hj
        have := cat_cells (w := w) (U := UE e) (es := []) (ys := ys) (zs := zs) (olds := []) (n := 0) (m := ys.length) (by simp) hsrc.len rfl rfl (by simp) hsrc.lens (by simp) hsrc.vals i (by simpa using hi) j (by simpa using hj)
        exact VD.mono x2.size x2.un x2.same (by simpa using this)
    · refine .slO _ _ _ _ _ (.inr rfl) rfl fun ee he _ => ?_
      rw [eset_same] at he; cases he
      refine ⟨by simp, fun _ => ⟨nc, by simp, by simp, h1⟩⟩

/-- to an immutable slice without room: immutable again -/
theorem append_full_ok (p : Pre C e G g hp w) {t el ty : Nat} {ei : TI} (hu : C.P.underlying t = some (.slice el)) (hf : TFit C.P el ei) (hs : ei.size ≠ 0) {es ys : List AV} {xd x : Value} {news : List Value}
    (hd : VR w (UE e) e G (.sl es true) xd) (hsrc : Src w e ys ei.size x news) (hel : ∀ y ∈ es, y.cells.length = ei.size) (h48 : (es.length + ys.length) * ei.bytes ≤ 140737488355328)
    (h63 : es.length + ys.length ≤ 9223372036854775807) {P : Prop} :
    OpOk C e G g hp w (P, .sl (es ++ ys) false, []) (((Builtin.append_ #[t, t] ty #[xd, x]).run C.P w).andThen fun v w => .ok (.value v) w) := by
  have hpos : 0 < ei.size := by omega
  have hel' : ∀ i (h : i < es.length), es[i].cells.length = ei.size := fun i hi => hel _ (List.getElem_mem hi)
  by_cases hm : ys.length = 0
  · have hy : ys = [] := List.eq_nil_of_length_eq_zero hm
    subst hy
    obtain ⟨a', cap', rfl⟩ := hsrc.shape
    obtain ⟨a, cap, rfl, hc, _⟩ := hd.slice_cap
    have hrun := run_append_zero (P := C.P) hu hf ty a a' es.length cap cap' hc w
    simp only [List.length_nil] at hrun ⊢
    rw [hrun, Result.andThen_ok, List.append_nil]
    refine .pure p (.dat _ _ ?_)
    rcases hd.sl_inv.sl_inv with ⟨rfl, _, hx⟩ | ⟨b, off, cap', k, f, hx, q1, q2, q3, q4, _, q6, q7, q8, q9, q10⟩
    · cases hx; exact .nil _ _
    · cases hx; exact .sl _ _ b off _ k f q1 q2 q3 q4 (by simp) q6 q7 q8 q9 q10
  · have hread : ∃ (a : Option Addr) (cap : Nat) (olds : List Value), xd = .slice a es.length cap ∧ cap = es.length ∧ olds.length = es.length * ei.size ∧ (∀ j v, olds[j]? = some v → ∀ ad, a = some ad → w.cell? (ad.add j) = some v) ∧
        (a = none → es.length = 0 ∧ cap = 0) ∧ (∀ i (h : i < es.length) j (h' : j < es[i].cells.length), es[i].cells[j].one = true) ∧
        ∀ i (h : i < es.length) j (h' : j < es[i].cells.length), VD w (UE e) es[i].cells[j] (olds.getD (i * ei.size + j) undef) := by
      rcases hd.sl_inv.sl_inv with ⟨rfl, a, rfl⟩ | ⟨b, off, cap', k, f, rfl, q1, q2, q3, q4, q5, q6, q7, q8, q9, q10⟩
      · exact ⟨a, 0, [], rfl, rfl, by simp, by simp, fun _ => ⟨rfl, rfl⟩, by simp, by simp⟩
      · by_cases he : es = []
        · subst he
          exact ⟨_, _, [], rfl, q5 rfl, by simp, by simp, by simp, by simp, by simp⟩
        · have h0 : 0 < es.length := List.length_pos_iff.2 he
          have hkk : k = ei.size := by rw [← q7 0 h0, hel' 0 h0]
          subst hkk
          refine ⟨_, _, (List.range (es.length * ei.size)).map f, rfl, q5 rfl, by simp, ?_, by simp, q9, ?_⟩
          · rintro j v hj ad ⟨⟩; exact news_get f q8 j v hj
          · intro i hi j hj
            rw [news_getD f (mul_lt_of hi (by have := hel' i hi; omega))]
            exact q10 i hi j hj
    obtain ⟨a, cap, olds, rfl, rfl, r1, r2, r3, r4, r5⟩ := hread
    obtain ⟨nc, zs, h1, h2, h3, hrun⟩ := run_append_new (P := C.P) (w := w) hu hf ty (a := a) (n := es.length) (cap := es.length) (olds := olds) r1 r2 r3 hsrc rfl (by omega) (by omega) h63 h48
    rw [hrun, Result.andThen_ok]
    have hds : w.drew.heap.size = w.heap.size := rfl
    have x2 : Ext w e G (w.drew.alloc (.cells (olds ++ news ++ zs).toArray el)) e (gadd G g) :=
      ⟨(Grow.drew_alloc w _).size, fun _ h => .inl h, fun _ _ h => h, fun b hb _ => (Grow.drew_alloc w _).same b hb, fun _ ee' h _ => ⟨ee', h, rfl, rfl, .inl ⟨rfl, rfl⟩⟩⟩
    have := mk_imm (P := P) p (Grow.drew_alloc w (.cells (olds ++ news ++ zs).toArray el)) [] (v := .sl (es ++ ys) false) (xv := .slice (some ⟨w.heap.size, 0, none⟩) (es.length + ys.length) nc) ?_
    · exact this
    · rw [edrop_nil]
      refine .dat _ _ ?_
      rw [show es.length + ys.length = (es ++ ys).length from by simp]
      refine .sl _ _ w.heap.size 0 nc ei.size (fun j => ((olds ++ news ++ zs).toArray).getD j undef) (UE.lt_new p.hr p.ln p.fr) (by rw [show (w.drew.alloc _).heap.size = w.heap.size + 1 from size_new w.drew _]; omega)
        (by simpa using h1) h2 (by simp) hpos (cat_lens hel' hsrc.lens) ?_ (cat_ones r4 hsrc.one) ?_
      · intro j hj
        rw [Nat.zero_add]
        refine cell_of_heap (heap_new w.drew _) ?_
        rw [List.size_toArray, List.length_append, List.length_append, r1, hsrc.len]
        rw [List.length_append, Nat.add_mul] at hj
        omega
      · intro i hi j hj
        exact VD.mono x2.size x2.un x2.same (cat_cells (w := w) (U := UE e) (zs := zs) r1 hsrc.len rfl rfl hel' hsrc.lens r5 hsrc.vals i hi j hj)

/-- to an own slice -/
theorem append_own_ok (p : Pre C e G g hp w) {t el id ty g' : Nat} {ei : TI} (hid : C.lent.length ≤ id) (hu : C.P.underlying t = some (.slice el)) (hf : TFit C.P el ei) (hs : ei.size ≠ 0) {es ys : List AV} {xd x : Value} {news : List Value}
    (hd : VR w (UE e) e G (.slO id g' 0 es.length) xd) (hg : hp.get id = some (g', .own el ei.size es)) (hsrc : Src w e ys ei.size x news) (h48 : (es.length + ys.length) * ei.bytes ≤ 140737488355328)
    (h63 : es.length + ys.length ≤ 9223372036854775807) {P : Prop} :
    OpOk C e G g hp w (P, .slO id g' 0 (es.length + ys.length), [(id, some (g', .own el ei.size (es ++ ys)))]) (((Builtin.append_ #[t, t] ty #[xd, x]).run C.P w).andThen fun v w => .ok (.value v) w) := by
  have hpos : 0 < ei.size := by omega
  obtain ⟨ee, he, hgg, hn, hok, hor⟩ := slO_val p.hr hd hg (by omega)
  have hGe := p.hr.gen id ee he
  obtain ⟨hk, _, _, hel, q1, hb⟩ := hor
  have hee := eset_id he
  by_cases hm : ys.length = 0
  · -- nothing new
    have hy : ys = [] := List.eq_nil_of_length_eq_zero hm
    subst hy
    obtain ⟨a', cap', rfl⟩ := hsrc.shape
    have hrun : (Builtin.append_ #[t, t] ty #[xd, .slice a' 0 cap']).run C.P w = .ok xd w := by
      have hcap : ∃ a cap, xd = .slice a es.length cap ∧ es.length ≤ cap := by
        unfold SlOK at hok
        cases hbl : ee.blk with
        | none => rw [hbl] at hok; obtain ⟨_, h0, a, rfl⟩ := hok; exact ⟨a, 0, by rw [h0], by omega⟩
        | some q =>
          obtain ⟨b, bc⟩ := q
          rw [hbl] at hok
          obtain ⟨cap, rfl, _, hc⟩ := hok
          exact ⟨_, cap, rfl, hc⟩
      obtain ⟨a, cap, rfl, hc⟩ := hcap
      exact run_append_zero hu hf ty a a' es.length cap cap' hc w
    simp only [List.length_nil] at hrun ⊢
    rw [hrun, Result.andThen_ok]
    simp only [List.append_nil, Nat.add_zero]
    have x1 := Ext.wide w e G g
    refine ⟨_, w, e, rfl, ?_, x1, p.ln, p.fr, .inl ⟨xd, rfl, hd.ext x1⟩⟩
    have hset := p.hr.set (id := id) (ee := ee) (ob := .own el ei.size es) (G' := gadd G g) (w' := w) (by rw [hee]; exact x1)
      (by rw [hee]; exact ORel.ext x1 ⟨hk, hn, hpos, hel, q1, hb⟩ fun _ _ _ => rfl) (.inl hGe) (fun _ _ _ _ _ _ _ => rfl)
      (fun i ei' b c c' hne hi hbi hb' => hne (p.hr.inj i id ei' ee b c c' hi he hbi hb')) (fun b c hb' => p.hr.lt id ee b c he hb') (fun b c hb' => p.hr.nz id ee b c he hb')
    rw [hee, hgg] at hset
    exact hset
  · have hym : 0 < ys.length := by omega
    -- the new entry: more elements
    have key : ∀ (w' : World) (blk' : Option (Nat × Nat)) (xv : Value), w.heap.size ≤ w'.heap.size → Frm C w' →
        (∀ b, b < w.heap.size → UE e b → w'.heap[b]? = w.heap[b]?) → (∀ i ei' b c, i ≠ id → e i = some ei' → ei'.blk = some (b, c) → w'.heap[b]? = w.heap[b]?) →
        (∀ b c, blk' = some (b, c) → (w.heap.size ≤ b ∨ ∃ c', ee.blk = some (b, c')) ∧ b < w'.heap.size) → SlOK ⟨g', blk', ei.size, es.length + ys.length⟩ 0 (es.length + ys.length) xv → xv.oneCell' = true →
        (∀ x : Ext w e G w' (eset e id (some ⟨g', blk', ei.size, es.length + ys.length⟩)) (gadd G g), ORel w' (eset e id (some ⟨g', blk', ei.size, es.length + ys.length⟩)) (gadd G g) (.own el ei.size (es ++ ys)) ⟨g', blk', ei.size, es.length + ys.length⟩) →
        OpOk C e G g hp w (P, .slO id g' 0 (es.length + ys.length), [(id, some (g', .own el ei.size (es ++ ys)))]) (.ok (.value xv) w') := by
      intro w' blk' xv hsz hfr hsame hoth hbk hsl hone hor'
      have ext : Ext w e G w' (eset e id (some ⟨g', blk', ei.size, es.length + ys.length⟩)) (gadd G g) := by
        refine ⟨hsz, fun _ h => .inl h, fun b hb hu' => ⟨hu'.1, fun i ei' c hi => ?_⟩, hsame, fun i ee' hi _ => ?_⟩
        · by_cases h : i = id
          · subst h
            rw [eset_same] at hi; cases hi
            intro hbc
            rcases (hbk b c hbc).1 with h1 | ⟨c', h1⟩
            · omega
            · exact hu'.2 i ee c' he h1
          · rw [eset_other _ _ h] at hi; exact hu'.2 i ei' c hi
        · by_cases h : i = id
          · subst h
            rw [eset_same] at hi; cases hi
            exact ⟨ee, he, hgg, hk, .inr (by rw [hn]; show es.length < es.length + ys.length; omega)⟩
          · rw [eset_other _ _ h] at hi; exact ⟨ee', hi, rfl, rfl, .inl ⟨rfl, rfl⟩⟩
      refine ⟨_, w', _, rfl, ?_, ext, ?_, hfr, .inl ⟨xv, rfl, ?_⟩⟩
      · refine p.hr.set ext (hor' ext) (.inl (by rw [← hgg]; exact hGe)) hoth (fun i ei' b c c' hne hi hbi hb' => ?_) (fun b c hb' => (hbk b c hb').2) (fun b c hb' => ?_)
        · rcases (hbk b c' hb').1 with h1 | ⟨c'', h1⟩
          · have := p.hr.lt i ei' b c hi hbi; omega
          · exact hne (p.hr.inj i id ei' ee b c c'' hi he hbi h1)
        · rcases (hbk b c hb').1 with h1 | ⟨c'', h1⟩
          · exact not_z p.ln p.fr h1
          · exact p.hr.nz id ee b c'' he h1
      · refine ⟨p.ln.zeq, p.ln.zlt, fun i ee' b c hl hi hb' => ?_, fun i hl ee' hi => ?_⟩
        · by_cases h : i = id
          · subst h; rw [eset_same] at hi; cases hi
            rcases (hbk b c hb').1 with h1 | ⟨c', h1⟩
            · exact Nat.le_trans p.fr.size h1
            · exact p.ln.mine i ee b c' hl he h1
          · rw [eset_other _ _ h] at hi; exact p.ln.mine i ee' b c hl hi hb'
        · rw [eset_other _ _ (by omega)] at hi; exact p.ln.lent i hl ee' hi
      · refine .slO _ _ _ _ _ (.inl (by rw [← hgg]; exact hGe)) hone fun ee' he' _ => ?_
        rw [eset_same] at he'; cases he'
        exact ⟨by simp, fun _ => hsl⟩
    -- a new row
    have grow : ∀ (a : Option Addr) (cap : Nat) (olds : List Value), xd = .slice a es.length cap → cap < es.length + ys.length → olds.length = es.length * ei.size →
        (∀ j v, olds[j]? = some v → ∀ ad, a = some ad → w.cell? (ad.add j) = some v) → (a = none → es.length = 0 ∧ cap = 0) →
        (∀ i (h : i < es.length) j (h' : j < es[i].cells.length), VD w (UE e) es[i].cells[j] (olds.getD (i * ei.size + j) undef)) →
        OpOk C e G g hp w (P, .slO id g' 0 (es.length + ys.length), [(id, some (g', .own el ei.size (es ++ ys)))]) (((Builtin.append_ #[t, t] ty #[xd, x]).run C.P w).andThen fun v w => .ok (.value v) w) := by
      rintro a cap olds rfl hcap r1 r2 r3 r5
      obtain ⟨nc, zs, h1, h2, h3, hrun⟩ := run_append_new (P := C.P) (w := w) hu hf ty (a := a) (n := es.length) (cap := cap) (olds := olds) r1 r2 r3 hsrc rfl hym hcap h63 h48
      rw [hrun, Result.andThen_ok]
      have hgw := Grow.drew_alloc w (.cells (olds ++ news ++ zs).toArray el)
      refine key _ (some (w.heap.size, nc)) _ hgw.size (p.fr.grow hgw) (fun b hb _ => hgw.same b hb) (fun i ei' b c _ hi hb' => hgw.same b (p.hr.lt i ei' b c hi hb')) ?_ ⟨nc, by simp, by simp, h1⟩ rfl ?_
      · rintro b c ⟨⟩; exact ⟨.inl (Nat.le_refl _), by rw [show (w.drew.alloc _).heap.size = w.heap.size + 1 from size_new w.drew _]; omega⟩
      · intro ext
        refine ⟨rfl, by simp, hpos, cat_lens hel hsrc.lens, cat_ones q1 hsrc.one, h2, by simpa using h1, _, heap_new w.drew _, ?_, ?_⟩
        · rw [List.size_toArray, List.length_append, List.length_append, r1, hsrc.len, h3, ← Nat.add_mul, ← Nat.add_mul]; congr 1; omega
        · intro i hi j hj
          exact VD.mono ext.size ext.un ext.same (cat_cells (w := w) (U := UE e) (zs := zs) r1 hsrc.len rfl rfl hel hsrc.lens r5 hsrc.vals i hi j hj)
    unfold SlOK at hok
    cases hbl : ee.blk with
    | none =>
      rw [hbl] at hok hb
      obtain ⟨_, h0, a, rfl⟩ := hok
      subst hb
      exact grow a 0 [] rfl (by omega) (by simp) (by simp) (fun _ => ⟨rfl, rfl⟩) (by simp)
    | some q =>
      obtain ⟨b, bcap⟩ := q
      rw [hbl] at hok hb
      obtain ⟨cap, rfl, hcp, hlc⟩ := hok
      obtain ⟨hmx, hlb, cs, hh, hsz, hv⟩ := hb
      simp only [Nat.zero_add] at hcp
      subst hcp
      have hfit : es.length * ei.size ≤ cs.size := by rw [hsz]; exact Nat.mul_le_mul_right _ hlb
      by_cases hroom : es.length + ys.length ≤ cap
      · obtain ⟨b', off', cap', hx', hc'⟩ := hsrc.at_.resolve_left (by omega)
        obtain ⟨ie, hi, hisz, _, _⟩ := hf.info
        have hfit2 : es.length * ei.size + news.length ≤ cs.size := by rw [hsrc.len, hsz, ← Nat.add_mul]; exact Nat.mul_le_mul_right _ hroom
        have hrun := run_append_room (P := C.P) w t ty el ie hu hi b es.length cap cs hh ⟨b', off', none⟩ ys.length cap' news (by rw [hisz]; exact hsrc.len) hc' (hsrc.oneCell hpos) hroom (by rw [hisz]; exact hfit2)
        rw [← hx'] at hrun
        simp only [Nat.zero_mul]
        rw [hrun, Result.andThen_ok, hisz]
        refine key _ (some (b, cap)) _ (by simp) (p.fr.write p.ln he hbl _) (fun b'' hb'' hu'' => setRow_other w b b'' _ (by rintro rfl; exact hu''.2 id ee cap he hbl))
          (fun i ei' b'' c'' hne hi' hbi => setRow_other w b b'' _ (by rintro rfl; exact hne (p.hr.inj i id ei' ee b'' c'' cap hi' he hbi hbl))) ?_ ⟨cap, by simp, by simp, hroom⟩ rfl ?_
        · rintro b'' c'' ⟨⟩; exact ⟨.inr ⟨_, hbl⟩, by simpa using p.hr.lt id ee b cap he hbl⟩
        · intro ext
          refine ⟨rfl, by simp, hpos, cat_lens hel hsrc.lens, cat_ones q1 hsrc.one, hmx, by simpa using hroom, _, setRow_heap w b cs _ el (0, 0) hh, ?_, ?_⟩
          · simp only [List.size_toArray, List.length_append, List.length_take, List.length_drop, Array.length_toList]; omega
          · intro i hi' j hj
            have r1 : (cs.toList.take (es.length * ei.size)).length = es.length * ei.size := by simp; omega
            refine VD.mono ext.size ext.un ext.same (cat_cells (w := w) (U := UE e) r1 hsrc.len rfl rfl hel hsrc.lens (fun i hi'' j hj' => ?_) hsrc.vals i hi' j hj)
            have := hv i hi'' j hj'
            have hlt : i * ei.size + j < es.length * ei.size := mul_lt_of hi'' (by have := hel i hi''; omega)
            rw [List.getD_eq_getElem?_getD, List.getElem?_take, if_pos hlt, Array.getElem?_toList, ← Array.getD_eq_getD_getElem?]
            exact this
      · refine grow (some ⟨b, 0 * ee.k, none⟩) cap ((List.range (es.length * ei.size)).map fun j => cs.getD j undef) rfl (by omega) (by simp) ?_ (by simp) ?_
        · rintro j v hj ad ⟨⟩
          refine news_get (b := b) (off := 0 * ee.k) _ (fun j hj => ?_) j v hj
          rw [Nat.zero_mul, Nat.zero_add]
          exact cell_of_heap hh (by omega)
        · intro i hi' j hj
          rw [news_getD _ (mul_lt_of hi' (by have := hel i hi'; omega))]
          exact hv i hi' j hj

theorem opAppend_ok (p : Pre C e G g hp w) (hT : TOk C.P T) {t ty did : Nat} (hl : C.lent.length ≤ 100) (hid : 100 ≤ did) {el : Nat} (ht : (tl T t).ty = .slice el) {d v : AV} {xd x : Value} (hd : VR w (UE e) e G d xd) (hx : VR w (UE e) e G v x)
    (h : (opAppend T t did g hp d v).1) :
    OpOk C e G g hp w (opAppend T t did g hp d v) (((Builtin.append_ #[t, t] ty #[xd, x]).run C.P w).andThen fun v w => .ok (.value v) w) := by
  obtain ⟨dd, hu, hdd⟩ := (hT.fit ht (by simp)).under
  rw [ht] at hdd
  cases hdd
  simp only [opAppend, elem_of_slice ht] at h ⊢
  cases hy : snap1 hp v with
  | sl ys fl =>
    simp only [hy] at h ⊢
    have main : (snap1P hp v ∧ (tl T el).size ≠ 0 ∧ ∀ y ∈ ys, y.cells.length = (tl T el).size) → TFit C.P el (tl T el) ∧ (tl T el).size ≠ 0 ∧ ∃ news, Src w e ys (tl T el).size x news := by
      rintro ⟨h1, h2, h3⟩
      exact ⟨hT.fits h2, h2, src_ok p.hr hx h1 hy (by omega) h3⟩
    cases d with
    | sl es full =>
      cases full with
      | false => cases es <;> exact h.elim
      | true =>
        cases es with
        | nil =>
          obtain ⟨h1, h2, h3⟩ := h
          obtain ⟨hf, hs, news, hsrc⟩ := main h1
          obtain ⟨a, cap, rfl, _, hc⟩ := hd.slice_cap
          have hc := hc rfl
          simp only [List.length_nil] at hc
          subst hc
          exact append_nil_ok p (by omega) hu hf hs hsrc h2 h3
        | cons y0 es =>
          obtain ⟨h1, h2, h3, h4⟩ := h
          obtain ⟨hf, hs, news, hsrc⟩ := main h1
          exact append_full_ok p hu hf hs hd hsrc h4 h2 h3
    | slO id g' off len =>
      cases hg : hp.get id with
      | none => simp only [hg] at h; exact h.elim
      | some q =>
        obtain ⟨g'', ob⟩ := q
        cases ob with
        | box cs => simp only [hg] at h; exact h.elim
        | own e' k es =>
          simp only [hg] at h ⊢
          obtain ⟨h1, h2, rfl, rfl, rfl, rfl, rfl, h3, h4⟩ := h
          obtain ⟨hf, hs, news, hsrc⟩ := main h1
          exact append_own_ok p (by omega) hu hf hs hd hg hsrc h3 h4
    | _ => exact h.elim
  | _ => simp only [hy] at h; exact h.elim

end
end Go.Sym
