/-
  SYM, part 21: the rule of a region whose order is drawn (second half).
-/
import Derived.Test.YtmjlnndnpdbagaaSym20
set_option linter.all false
set_option linter.unusedSimpArgs false
set_option linter.unusedVariables false
set_option linter.deprecated false
namespace Go.Sym
open Go Go.Great

structure En where
  d : Option Nat
  v : AV
  ups : List Up
  acc : List Nat

/-- the state when, of the first n operations, those in S have been done -/
def sS (s : St) (e : Nat → En) (S : Nat → Bool) : Nat → St
  | 0 => s
  | n + 1 => if S n then (sS s e S n).put (e n).d (e n).v (e n).ups else ⟨(sS s e S n).tm, (sS s e S n).hp, (sS s e S n).ck + 1⟩

section
variable {s : St} {e : Nat → En} {S S' : Nat → Bool}

theorem sS_yes {n : Nat} (h : S n = true) : sS s e S (n + 1) = (sS s e S n).put (e n).d (e n).v (e n).ups := by rw [sS, if_pos h]
theorem sS_no {n : Nat} (h : ¬ S n = true) : sS s e S (n + 1) = ⟨(sS s e S n).tm, (sS s e S n).hp, (sS s e S n).ck + 1⟩ := by rw [sS, if_neg h]

theorem sS_ck : ∀ n, (sS s e S n).ck = s.ck + n
  | 0 => rfl
  | n + 1 => by
    unfold sS
    split
    · simp only [St.put, sS_ck n]; omega
    · simp only [sS_ck n]; omega

theorem tget_put (s : St) (d : Option Nat) (v : AV) (ups : List Up) (t : Nat) : tget (s.put d v ups).tm t = if d = some t then v else tget s.tm t := by
  cases d with
  | none => simp [St.put]
  | some d => simp only [St.put, tget, Option.some.injEq]

def hget : List Up → Nat → Option (Option (Nat × Ob))
  | [], _ => none
  | (i, x) :: h, n => if i = n then some x else hget h n

theorem get_append (ups : List Up) (hp : Hp) (i : Nat) : Hp.get (ups ++ hp) i = (hget ups i).getD (hp.get i) := by
  induction ups with
  | nil => rfl
  | cons p ups ih =>
    obtain ⟨j, x⟩ := p
    simp only [List.cons_append, Hp.get, hget]
    split
    · rfl
    · exact ih

theorem hget_none {ups : List Up} {i : Nat} (h : i ∉ ups.map (·.1)) : hget ups i = none := by
  induction ups with
  | nil => rfl
  | cons p ups ih =>
    obtain ⟨j, x⟩ := p
    simp only [List.map_cons, List.mem_cons, not_or] at h
    simp only [hget, if_neg (Ne.symm h.1), ih h.2]

theorem get_put (s : St) (d : Option Nat) (v : AV) (ups : List Up) (i : Nat) : (s.put d v ups).hp.get i = (hget ups i).getD (s.hp.get i) := get_append ups s.hp i

theorem sS_tm {t : Nat} : ∀ n, (∀ j, j < n → (e j).d = some t → S j = S' j) → tget (sS s e S n).tm t = tget (sS s e S' n).tm t
  | 0, _ => rfl
  | n + 1, h => by
    have ih := sS_tm n fun j hj => h j (by omega)
    have hn := h n (by omega)
    unfold sS
    by_cases hd : (e n).d = some t
    · rw [hn hd]
      split
      · rw [tget_put, tget_put, if_pos hd, if_pos hd]
      · exact ih
    · split <;> split <;> simp only [tget_put, if_neg hd] <;> exact ih

theorem sS_hp {i : Nat} : ∀ n, (∀ j, j < n → i ∈ (e j).ups.map (·.1) → S j = S' j) → (sS s e S n).hp.get i = (sS s e S' n).hp.get i
  | 0, _ => rfl
  | n + 1, h => by
    have ih := sS_hp n fun j hj => h j (by omega)
    have hn := h n (by omega)
    unfold sS
    by_cases hd : i ∈ (e n).ups.map (·.1)
    · rw [hn hd]
      split
      · rw [get_put, get_put, ih]
      · exact ih
    · split <;> split <;> simp only [get_put, hget_none hd, Option.getD_none] <;> exact ih

theorem sS_lt {k : Nat} : ∀ n, k ≤ n → (sS s e (fun j => decide (j < k)) n).tm = (sS s e (fun _ => true) k).tm ∧ (sS s e (fun j => decide (j < k)) n).hp = (sS s e (fun _ => true) k).hp := by
  intro n hk
  have base : ∀ m, m ≤ k → sS s e (fun j => decide (j < k)) m = sS s e (fun _ => true) m := by
    intro m
    induction m with
    | zero => intro _; rfl
    | succ m ih =>
      intro hm
      unfold sS
      rw [ih (by omega)]
      simp [show m < k by omega]
  induction n with
  | zero => have : k = 0 := by omega
            subst this; exact ⟨rfl, rfl⟩
  | succ n ih =>
    by_cases h : k = n + 1
    · subst h; rw [base _ (Nat.le_refl _)]; exact ⟨rfl, rfl⟩
    · have hn : ¬ n < k := by omega
      have := ih (by omega)
      rw [sS_no (by simpa using hn)]
      exact this

/-- one more is done -/
theorem sS_ins {i : Nat} (hi : S i = false) : ∀ n, i < n →
    ((∀ t, (∀ k, i < k → k < n → S k = true → (e i).d = some t → (e k).d ≠ some t) →
      tget (sS s e (fun j => S j || decide (j = i)) n).tm t = if (e i).d = some t then (e i).v else tget (sS s e S n).tm t) ∧
     (∀ id, (∀ k, i < k → k < n → S k = true → id ∈ (e i).ups.map (·.1) → id ∉ (e k).ups.map (·.1)) →
      (sS s e (fun j => S j || decide (j = i)) n).hp.get id = (hget (e i).ups id).getD ((sS s e S n).hp.get id)))
  | 0, h => by omega
  | n + 1, h => by
    by_cases hni : n = i
    · subst hni
      have e1 : ∀ t, tget (sS s e (fun j => S j || decide (j = n)) n).tm t = tget (sS s e S n).tm t := fun t => sS_tm n fun j hj _ => by simp [show j ≠ n by omega]
      have e2 : ∀ t, (sS s e (fun j => S j || decide (j = n)) n).hp.get t = (sS s e S n).hp.get t := fun t => sS_hp n fun j hj _ => by simp [show j ≠ n by omega]
      unfold sS
      simp only [hi, decide_true, Bool.or_true, if_true, Bool.false_eq_true, if_false]
      exact ⟨fun t _ => by rw [tget_put, e1], fun id _ => by rw [get_put, e2]⟩
    · obtain ⟨ih1, ih2⟩ := sS_ins (i := i) hi n (by omega)
      unfold sS
      simp only [hni, decide_false, Bool.or_false]
      cases hS : S n with
      | false =>
        simp only [Bool.false_eq_true, if_false]
        exact ⟨fun t ht => ih1 t fun k h1 h2 => ht k h1 (by omega), fun id ht => ih2 id fun k h1 h2 => ht k h1 (by omega)⟩
      | true =>
        simp only [if_true]
        refine ⟨fun t ht => ?_, fun id ht => ?_⟩
        · rw [tget_put, tget_put, ih1 t fun k h1 h2 => ht k h1 (by omega)]
          have := ht n (by omega) (by omega) hS
          by_cases h1 : (e i).d = some t
          · rw [if_neg (this h1), if_pos h1, if_pos h1]
          · simp only [if_neg h1]
        · rw [get_put, get_put, ih2 id fun k h1 h2 => ht k h1 (by omega)]
          have := ht n (by omega) (by omega) hS
          by_cases h1 : id ∈ (e i).ups.map (·.1)
          · rw [hget_none (this h1)]; rfl
          · rw [hget_none h1]; rfl
end

/-! one operation of a region, with its guard -/
def EnOk (P : Program) (T : List (Nat × TI)) (all : List Oper) (o : Oper) (s : St) (en : En) : Prop :=
  en.d = o.dst ∧ match o.guard with
    | none => opSem P T o s.ev s.hp s.ck en.v en.ups en.acc
    | some (j, want) => ∃ d, dstOf all j = some d ∧ ((∃ b, tget s.tm d = .lit (.bool b) ∧ ((b = want ∧ opSem P T o s.ev s.hp s.ck en.v en.ups en.acc) ∨ (b ≠ want ∧ en.v = .tup [] ∧ en.ups = []))) ∨ (tget s.tm d = .tup [] ∧ en.v = .tup [] ∧ en.ups = []))

abbrev Rec := List Nat × List Nat

def awpD (P : Program) (T : List (Nat × TI)) (all : List Oper) : List Oper → St → (St → List Rec → Prop) → Prop
  | [], s, K => K s []
  | o :: rest, s, K =>
    match o.guard with
    | none => opKD P T o s fun v ups acc => awpD P T all rest (s.put o.dst v ups) fun s' rs => K s' ((ups.map (·.1), acc) :: rs)
    | some (j, want) =>
      GM ((dstOf all j).map (tget s.tm)) want (opKD P T o s fun v ups acc => awpD P T all rest (s.put o.dst v ups) fun s' rs => K s' ((ups.map (·.1), acc) :: rs))
          (awpD P T all rest (s.put o.dst (.tup []) []) fun s' rs => K s' (([], []) :: rs))

def recs (e : Nat → En) (n : Nat) : List Rec := (List.range n).map fun k => ((e k).ups.map (·.1), (e k).acc)

theorem sS_cons (s : St) (en : En) (e : Nat → En) : ∀ k, sS s (fun | 0 => en | k + 1 => e k) (fun _ => true) (k + 1) = sS (s.put en.d en.v en.ups) e (fun _ => true) k
  | 0 => rfl
  | k + 1 => by
    rw [sS_yes (n := k + 1) rfl, sS_cons s en e k]
    exact (sS_yes (n := k) (S := fun _ => true) rfl).symm

theorem awpD_ok {P : Program} {T : List (Nat × TI)} {all : List Oper} : ∀ (rest : List Oper) (s : St) (K : St → List Rec → Prop), awpD P T all rest s K →
    ∃ e : Nat → En, (∀ k (h : k < rest.length), EnOk P T all rest[k] (sS s e (fun _ => true) k) (e k)) ∧ K (sS s e (fun _ => true) rest.length) (recs e rest.length)
  | [], s, K, h => ⟨fun _ => ⟨none, .bad, [], []⟩, fun k h => by simp at h, h⟩
  | o :: rest, s, K, h => by
    have key : ∃ en : En, EnOk P T all o s en ∧ awpD P T all rest (s.put en.d en.v en.ups) fun s' rs => K s' ((en.ups.map (·.1), en.acc) :: rs) := by
      unfold awpD at h
      cases hg : o.guard with
      | none =>
        simp only [hg] at h
        obtain ⟨v, ups, acc, h1, h2⟩ := opKD_ok h
        exact ⟨⟨o.dst, v, ups, acc⟩, ⟨rfl, by simp only [hg]; exact h1⟩, h2⟩
      | some q =>
        obtain ⟨j, want⟩ := q
        simp only [hg] at h
        cases hdj : dstOf all j with
        | none => simp only [hdj, Option.map_none, GM] at h
        | some d =>
          simp only [hdj, Option.map_some, GM] at h
          split at h
          · rename_i b hb
            simp only [Option.some.injEq] at hb
            by_cases hbw : b = want
            · obtain ⟨v, ups, acc, h1, h2⟩ := opKD_ok (h.1 hbw)
              exact ⟨⟨o.dst, v, ups, acc⟩, ⟨rfl, by simp only [hg]; exact ⟨d, hdj, .inl ⟨b, hb, .inl ⟨hbw, h1⟩⟩⟩⟩, h2⟩
            · exact ⟨⟨o.dst, .tup [], [], []⟩, ⟨rfl, by rw [hg]; exact ⟨d, hdj, .inl ⟨b, hb, .inr ⟨hbw, rfl, rfl⟩⟩⟩⟩, h.2 hbw⟩
          · rename_i hb
            simp only [Option.some.injEq] at hb
            exact ⟨⟨o.dst, .tup [], [], []⟩, ⟨rfl, by rw [hg]; exact ⟨d, hdj, .inr ⟨hb, rfl, rfl⟩⟩⟩, h⟩
          · exact h.elim
    obtain ⟨en, h1, h2⟩ := key
    obtain ⟨e, h3, h4⟩ := awpD_ok rest _ _ h2
    refine ⟨(fun | 0 => en | k + 1 => e k), fun k hk => ?_, ?_⟩
    · cases k with
      | zero => exact h1
      | succ k => rw [sS_cons]; exact h3 k (by simpa using hk)
    · simp only [List.length_cons]
      rw [sS_cons]
      have : recs (fun | 0 => en | k + 1 => e k) (rest.length + 1) = (en.ups.map (·.1), en.acc) :: recs e rest.length := by
        simp only [recs, List.range_succ_eq_map, List.map_cons, List.map_map]
        rfl
      rw [this]; exact h4

/-! the order of a region -/
def masks : List Oper → List Nat → List Nat
  | [], acc => acc
  | o :: rest, acc => masks rest (acc ++ [(o.after.toList.filter (Region.binds .any)).foldl (fun m e => m ||| ((1 <<< e.on) ||| acc.getD e.on 0)) 0])

def rds (all : List Oper) (o : Oper) : List Nat :=
  (o.op.operands.toList.filterMap fun | .tmp t => some t | _ => none) ++ (match o.guard with | some (j, _) => (dstOf all j).toList | none => [])

def inO (d : Option Nat) (l : List Nat) : Bool := match d with | some d => l.contains d | none => false

def slotOk (l : List Oper) : Bool :=
  let ms := masks l []
  (List.range l.length).all (fun j => match l[j]? with
    | none => true
    | some y => y.after.toList.all (fun e => !Region.binds .any e || decide (e.on < j)) &&
      (List.range j).all (fun i => (ms.getD j 0).testBit i || match l[i]? with
        | none => true
        | some x => !inO x.dst (rds l y) && !inO y.dst (rds l x) && (match x.dst with | some d => y.dst != some d | none => true)))

def disj (a b : List Nat) : Bool := a.all fun x => !b.contains x

def conf (ms : List Nat) (rs : List Rec) : Bool :=
  rs.all (fun r => r.1.isEmpty) ||
  (List.range rs.length).all (fun j => (List.range j).all fun i => (ms.getD j 0).testBit i ||
    (disj (rs.getD i ([], [])).1 ((rs.getD j ([], [])).1 ++ (rs.getD j ([], [])).2) && disj (rs.getD j ([], [])).1 (rs.getD i ([], [])).2))

end Go.Sym
