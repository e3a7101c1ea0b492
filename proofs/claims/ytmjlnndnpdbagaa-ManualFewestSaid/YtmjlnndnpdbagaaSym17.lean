/-
  SYM, part 17: the types' table, held against the program.
-/
import Derived.Test.YtmjlnndnpdbagaaSym16
set_option linter.all false
set_option linter.unusedSimpArgs false
set_option linter.unusedVariables false
set_option linter.deprecated false
namespace Go.Sym
open Go Go.Great

def tyB : Ty → TypeDesc → Bool
  | .int k, .int k' => decide (k = k')
  | .bool, .bool => true
  | .str, .string => true
  | .slice e, .slice e' => e == e'
  | .array n e, .array n' e' => n == n' && e == e'
  | .struct fs, .struct a => a.toList.map (fun f => (f.offset, f.type)) == fs
  | .ptr e, .pointer e' => e == e'
  | .map k e, .map k' e' => k == k' && e == e'
  | .other, _ => true
  | _, _ => false

def zB : ZC → Value → Bool
  | .int k, .int k' n => decide (k = k') && decide (n = 0)
  | .bool, .bool b => !b
  | .str, .string s => s.data.toList.isEmpty
  | .sl, .slice none 0 0 => true
  | .ptr, .pointer none => true
  | .map, .map none => true
  | .fn, .nilFunc => true
  | .iface, .nilIface => true
  | _, _ => false

def zsB : List ZC → List Value → Bool
  | [], [] => true
  | z :: zs, v :: vs => zB z v && zsB zs vs
  | _, _ => false

def tiB (P : Program) (t : Nat) (ti : TI) : Bool :=
  match P.info? t, P.underlying t with
  | some i, some d =>
    i.size == ti.size && i.bytes == ti.bytes && tyB ti.ty d && (ti.agg == (match d with | .struct _ | .array _ _ => true | _ => false)) && ti.zs.length == ti.size && (ti.agg || ti.size == 1) &&
    (match d with | .struct a => a.all fun f => (P.info? f.type).isSome | _ => true) &&
    (match i.zero with
     | some (.agg cs) => ti.agg && zsB ti.zs cs.toList
     | some v => !ti.agg && zsB ti.zs [v]
     | none => false)
  | _, _ => false

theorem tyB_fits {ty : Ty} {d : TypeDesc} (h : tyB ty d = true) : ty.fits d := by
  cases ty <;> cases d <;> simp [tyB, Ty.fits] at h ⊢ <;> first | exact h | (simp_all; done) | skip

theorem zB_val {z : ZC} {v : Value} (h : zB z v = true) : v = z.val := by
  unfold zB at h
  split at h <;> simp_all [ZC.val]
  rename_i s
  cases s with
  | mk d => cases d with | mk l => simp at h; subst h; rfl

theorem zsB_vals : ∀ {zs : List ZC} {vs : List Value}, zsB zs vs = true → vs = zs.map ZC.val
  | [], [], _ => rfl
  | z :: zs, v :: vs, h => by
    simp only [zsB, Bool.and_eq_true] at h
    rw [zB_val h.1, zsB_vals h.2]; rfl
  | [], _ :: _, h => by cases h
  | _ :: _, [], h => by cases h

theorem tiB_fit {P : Program} {t : Nat} {ti : TI} (h : tiB P t ti = true) : TFit P t ti := by
  unfold tiB at h
  split at h
  · rename_i i d hi hd
    simp only [Bool.and_eq_true, beq_iff_eq, Bool.or_eq_true] at h
    obtain ⟨⟨⟨⟨⟨⟨⟨h1, h2⟩, h3⟩, h4⟩, h5⟩, h6⟩, h7⟩, h8⟩ := h
    refine ⟨⟨i, hi, h1, h2, ?_⟩, ⟨d, hd, tyB_fits h3, ?_⟩, h5, ?_, ?_⟩
    · split at h8
      · rename_i cs hz
        simp only [Bool.and_eq_true] at h8
        rw [hz]
        unfold TI.zval
        rw [if_pos h8.1, ← zsB_vals h8.2]
      · rename_i v hne hz
        simp only [Bool.and_eq_true, Bool.not_eq_true'] at h8
        rw [hz]
        unfold TI.zval
        rw [if_neg (by simp [h8.1])]
        have := zsB_vals h8.2
        match hzs : ti.zs with
        | [z] => rw [hzs] at this; simp at this; rw [this]
        | [] => rw [hzs] at this; simp at this
        | _ :: _ :: _ => rw [hzs] at this; simp at this
      · cases h8
    · exact h4.trans (by cases d <;> rfl)
    · intro a ha f hf
      rw [hd] at ha
      cases ha
      rw [Array.all_eq_true_iff_forall_mem] at h7
      exact h7 f hf
    · intro hag
      rcases h6 with h6 | h6
      · rw [hag] at h6; cases h6
      · exact h6
  · cases h

theorem TOk_of {P : Program} {T : List (Nat × TI)} (h : (T.all fun p => tiB P p.1 p.2) = true) : TOk P T := by
  intro t
  have key : ∀ T : List (Nat × TI), (T.all fun p => tiB P p.1 p.2) = true → tl T t = .none ∨ TFit P t (tl T t) := by
    intro T
    induction T with
    | nil => exact fun _ => .inl rfl
    | cons p T ih =>
      intro h
      simp only [List.all_cons, Bool.and_eq_true] at h
      obtain ⟨i, x⟩ := p
      simp only [tl]
      by_cases hi : i = t
      · subst hi; rw [if_pos rfl]; exact .inr (tiB_fit h.1)
      · rw [if_neg hi]; exact ih h.2
  exact key T h
end Go.Sym
