/-
  SYM, part 32: the arguments of a law: how they read, and that they read so behind the call.
-/
import Derived.Test.YtmjlnndnpdbagaaSym33
import Derived.ProofKit
import Derived.Deep.Matrix
set_option linter.all false
set_option linter.unusedSimpArgs false
set_option linter.unusedVariables false
set_option linter.deprecated false
namespace Go.Sym
open Go Go.Deep Go.ChangeShapes Go.WideShapes Go.ChangeAt Go.RowKit

section
variable {H : Type} {enc : TypeId × Value → H} {P : Program} {W W' : World}

theorem trodAll_below (hl : laidOutB P = true) (hb : Below W.heap.size W W') : ∀ {ts : List TypeId} {vs : List Value} {ds : List (DataW H)} {ps : List MemPlace}, (∀ t ∈ ts, P.readableRec t = true ∧ t < P.types.size) →
    DataW.TrodAll enc P W 0 (fun _ => true) true ts vs ds ps → (∀ x ∈ ps, x.block < W.heap.size) → DataW.TrodAll enc P W' 0 (fun b => decide (b < W.heap.size)) true ts vs ds ps
  | [], vs, ds, ps, _, h, _ => by obtain ⟨rfl, rfl, rfl⟩ := trodAll_nil h; exact trodAll_mk0
  | t :: ts, vs, ds, ps, ht, h, hlt => by
    obtain ⟨v, vs', d, ds', p, q, rfl, rfl, rfl, h1, h2⟩ := trodAll_cons h
    have := ht t (by simp)
    exact ⟨p, q, Below.trod hl this.1 this.2 h1 hb fun x hx => hlt x (by simp [hx]), trodAll_below hl hb (fun t' h' => ht t' (by simp [h'])) h2 fun x hx => hlt x (by simp [hx]), rfl⟩

theorem wf_i64 {a : Int} (h : (Lit.int .i64 a).wf = true) : -9223372036854775808 ≤ a ∧ a ≤ 9223372036854775807 := by
  have h1 : (decide (IntKind.min .i64 ≤ a) && decide (a ≤ IntKind.max .i64)) = true := h
  have e1 : IntKind.min .i64 = -9223372036854775808 := by decide
  have e2 : IntKind.max .i64 = 9223372036854775807 := by decide
  rw [e1, e2] at h1
  simpa using h1

/-- numbers of the machine -/
def I64 (x : Int) : Prop := -9223372036854775808 ≤ x ∧ x ≤ 9223372036854775807

variable {U : Nat → Prop} {t e q : TypeId} {v : Value} {d : DataW H} {ps : List MemPlace}

theorem arg_int (ht : P.underlying t = some (.int .i64)) (hval : Value.okWide P W .any 0 t v) (hd : DataW.Trod enc P W 0 (fun _ => true) true t v d ps) : ∃ n, I64 n ∧ VD W U (I n) v := by
  obtain ⟨n, rfl, _, _, hw⟩ := open_int ht hval hd
  exact ⟨n, wf_i64 hw, .lit _ rfl⟩

theorem arg_bool (ht : P.underlying t = some .bool) (hval : Value.okWide P W .any 0 t v) (hd : DataW.Trod enc P W 0 (fun _ => true) true t v d ps) : ∃ b, VD W U (B b) v := by
  obtain ⟨b, rfl, _⟩ := open_bool ht hval hd
  exact ⟨b, .lit _ rfl⟩

theorem cell_spot {w : World} {a : Addr} {x : Value} (h : w.cell? a = some x) : a = ⟨a.block, a.off, none⟩ ∧ a.block < w.heap.size := by
  unfold World.cell? at h
  split at h
  · rename_i c _ _ hb
    split at h
    · cases h
    · rename_i hs
      refine ⟨?_, (Array.getElem?_eq_some_iff.1 hb).1⟩
      cases a with
      | mk b o s => cases s <;> simp_all
  · cases h

theorem add_zero (a : Addr) : a.add 0 = a := rfl

theorem VD.ints_mk (hU : ∀ b, U b) {a : Addr} {len cap : Nat} {zs : List Int} (hl : len ≤ cap) (hm : cap ≤ maxLen) (hz : zs.length = cap) (hc : ∀ i, i < cap → W.cell? (a.add i) = some (.int .i64 (zs.getD i 0))) :
    VD W U (IS (zs.take len)) (.slice (some a) len cap) := by
  by_cases h0 : cap = 0
  · obtain rfl : len = 0 := by omega
    subst h0
    rw [List.take_zero]
    exact .nil _ _
  · have h1 := cell_spot (hc 0 (by omega))
    have e : a = ⟨a.block, a.off, none⟩ := h1.1
    have hlen : (zs.take len).length = len := by simp; omega
    have := VD.sl (w := W) (U := U) (ints (zs.take len)) false a.block a.off cap 1 (fun i => .int .i64 (zs.getD i 0)) (hU _) h1.2 (by rw [ints_length, hlen]; exact hl) hm (by simp) (by omega)
      (by intro i hi; simp [ints, AV.cells, I]) (by
        intro j hj
        rw [ints_length, hlen, Nat.mul_one] at hj
        have h2 := hc j (by omega)
        rw [e, add_none] at h2
        exact h2) (by
        intro i hi j hj
        simp only [ints, List.getElem_map, I, AV.cells] at hj ⊢
        simp at hj; subst hj; rfl) (by
        intro i hi j hj
        rw [ints_length, hlen] at hi
        simp only [ints, List.getElem_map, I, AV.cells, List.getElem_take] at hj ⊢
        simp at hj; subst hj
        simp only [List.getElem_cons_zero, Nat.mul_one, Nat.add_zero]
        have : zs.getD i 0 = zs[i]'(by omega) := by simp [show i < zs.length by omega]
        rw [this]
        exact .lit _ rfl)
    rw [ints_length, hlen] at this
    rw [← e] at this
    exact this

theorem arg_ints (hU : ∀ b, U b) (ht : P.underlying t = some (.slice e)) (he : P.underlying e = some (.int .i64)) (hc : P.cellsOf e = 1) (hval : Value.okWide P W .any 0 t v)
    (hd : DataW.Trod enc P W 0 (fun _ => true) true t v d ps) : ∃ zs : List Int, zs.length ≤ 9223372036854775807 ∧ (∀ x ∈ zs, I64 x) ∧ VD W U (IS zs) v := by
  obtain ⟨a, len, cap, rfl⟩ := okWide_slice ht hval
  obtain ⟨fuel, hf⟩ := hd
  rcases open_ints ht he hc hf with ⟨h1, _⟩ | ⟨a', len', cap', zs, h1, _, hl, hm, hz, _, hcell, hw⟩
  · simp [Value.cells] at h1
    obtain ⟨rfl, rfl, rfl⟩ := h1
    exact ⟨[], by simp, by simp, .nil _ _⟩
  · simp [Value.cells] at h1
    obtain ⟨rfl, rfl, rfl⟩ := h1
    simp only [if_true] at hz
    have hm' : cap ≤ 9223372036854775807 := by unfold maxLen at hm; omega
    exact ⟨zs.take len, by simp; omega, fun x hx => wf_i64 (hw x (List.mem_of_mem_take hx)), VD.ints_mk hU hl hm hz fun i hi => hcell i (by omega)⟩

theorem arg_rows (hU : ∀ b, U b) (ht : P.underlying t = some (.slice e)) (he : P.underlying e = some (.slice q)) (hq : P.underlying q = some (.int .i64)) (ce : P.cellsOf e = 1) (cq : P.cellsOf q = 1) (hval : Value.okWide P W .any 0 t v)
    (hd : DataW.Trod enc P W 0 (fun _ => true) true t v d ps) : ∃ zs : List (List Int), zs.length ≤ 9223372036854775807 ∧ (∀ z ∈ zs, z.length ≤ 9223372036854775807 ∧ ∀ x ∈ z, I64 x) ∧ VD W U (RS zs) v := by
  obtain ⟨a, len, cap, rfl⟩ := okWide_slice ht hval
  obtain ⟨fuel, hf⟩ := hd
  rcases open_int_rows ht he hq ce cq hf with ⟨h1, _⟩ | ⟨a', len', cap', A, L, C, Z, h1, _, hl, hm, _, hcell⟩
  · simp [Value.cells] at h1
    obtain ⟨rfl, rfl, rfl⟩ := h1
    exact ⟨[], by simp, by simp, .nil _ _⟩
  · simp [Value.cells] at h1
    obtain ⟨rfl, rfl, rfl⟩ := h1
    have hm' : cap ≤ 9223372036854775807 := by unfold maxLen at hm; omega
    refine ⟨(List.range len).map fun r => (Z r).take (L r), by simp; omega, ?_, ?_⟩
    · intro z hz
      simp only [List.mem_map, List.mem_range] at hz
      obtain ⟨r, hr, rfl⟩ := hz
      obtain ⟨_, h2, h3, h4, h5, _⟩ := hcell r (by omega)
      have : C r ≤ 9223372036854775807 := by unfold maxLen at h3; omega
      exact ⟨by simp; omega, fun x hx => wf_i64 (h5 x (List.mem_of_mem_take hx))⟩
    · by_cases h0 : cap = 0
      · obtain rfl : len = 0 := by omega
        subst h0
        exact .nil _ _
      · have h1 := cell_spot (hcell 0 (by omega)).1
        have e : a' = ⟨a'.block, a'.off, none⟩ := h1.1
        have hlen : (rows ((List.range len).map fun r => (Z r).take (L r))).length = len := by simp [rows]
        have := VD.sl (w := W) (U := U) (rows ((List.range len).map fun r => (Z r).take (L r))) false a'.block a'.off cap 1 (fun i => .slice (A i) (L i) (C i)) (hU _) h1.2 (by rw [hlen]; exact hl) hm (by simp) (by omega)
          (by intro i hi; simp [rows, AV.cells, IS]) (by
            intro j hj
            rw [hlen, Nat.mul_one] at hj
            have h2 := (hcell j (by omega)).1
            rw [e, add_none] at h2
            exact h2) (by
            intro i hi j hj
            simp only [rows, List.getElem_map, IS, AV.cells] at hj ⊢
            simp at hj; subst hj; rfl) (by
            intro i hi j hj
            rw [hlen] at hi
            simp only [rows, List.getElem_map, IS, AV.cells, List.getElem_range] at hj ⊢
            simp at hj; subst hj
            simp only [List.getElem_cons_zero, Nat.mul_one, Nat.add_zero]
            obtain ⟨_, h2, h3, h4, h5, h6, h7⟩ := hcell i (by omega)
            cases hA : A i with
            | none =>
              have := h6 hA
              have hL : L i = 0 := by omega
              rw [hL, this, List.take_zero]
              exact .nil _ _
            | some a'' => exact VD.ints_mk hU h2 h3 h4 fun c hc => (h7 a'' hA).2 c hc)
        rw [hlen] at this
        rw [← e] at this
        exact this

theorem UE_all : ∀ b, UE (benv [] fun _ => False) b := fun _ => ⟨fun h => h, fun id ee c he => by simp [benv] at he⟩

/-- a law that is true of all that its arguments read as -/
theorem law_any {f : FuncId} {as : List AV} {vals : Array Value} (h : Sat P f as [] (B true) []) (hsz : as.length = vals.size) (hv : ∀ i (hi : i < as.length), VD W (UE (benv [] fun _ => False)) as[i] (vals.getD i undef)) :
    Calls P f vals W fun e W' => e = .returned (.bool true) ∧ Below W.heap.size W W' := by
  have h := h.2 W (fun _ => False) [] vals rfl List.nodup_nil (by simp) (by simp) (by simp) hsz (fun i hi => .dat _ _ (hv i hi))
  refine h.mono ?_
  rintro e W' ⟨v, rfl, hf, _, _, hv⟩
  cases hv with
  | lit _ _ => exact ⟨rfl, hf.os, hf.tape, hf.output, hf.size, fun k hk => hf.same k hk (by simp)⟩
end
end Go.Sym
