import Derived.Test.YtmjlnndnpdbagaaM18
set_option linter.all false
set_option linter.unusedSimpArgs false
set_option linter.unusedVariables false
set_option linter.deprecated false
namespace Go.Proofs.Ytmjlnndnpdbagaa
open Go Go.Sym

/-- the digit of the bag at a place -/
def dig (row pass : List Int) (i : Int) : Int := pass.getD (row.getD i.toNat 0).toNat 0

theorem mem_pile {bags pass : List Int} {n p : Nat} {i : Int} (h : i ∈ pile bags pass n p) : 0 ≤ i ∧ i < n ∧ dig bags pass i = p := by
  simp only [pile, List.mem_map, List.mem_filter, List.mem_range, decide_eq_true_eq] at h
  obtain ⟨j, ⟨h1, h2⟩, rfl⟩ := h
  exact ⟨by omega, by omega, by simpa [dig] using h2⟩

theorem performL_sorted (bags pass : List Int) : (performL bags pass).Pairwise fun i j => dig bags pass i < dig bags pass j ∨ (dig bags pass i = dig bags pass j ∧ i < j) := by
  unfold performL
  rw [List.pairwise_flatMap]
  constructor
  · intro p _
    have h0 : (pile bags pass bags.length p).Pairwise fun i j => i < j := by
      simp only [pile]
      rw [List.pairwise_map]
      refine List.Pairwise.filter _ (List.Pairwise.imp ?_ List.pairwise_lt_range)
      intro a b h; omega
    refine List.Pairwise.imp_of_mem ?_ h0
    intro a b ha hb h
    exact .inr ⟨by rw [(mem_pile ha).2.2, (mem_pile hb).2.2], h⟩
  · refine List.Pairwise.imp ?_ List.pairwise_lt_range
    intro p r hpr x hx y hy
    left
    rw [(mem_pile hx).2.2, (mem_pile hy).2.2]
    omega

def Good (ps : List (List Int)) (m : Nat) (q : Int) : Prop := ∀ p ∈ ps, p.length = m ∧ ∀ d ∈ p, 0 ≤ d ∧ d ≤ q - 1

/-- the number of a flight that its digits spell, the last pass's digit the greatest -/
def codeF (q : Int) : List (List Int) → Int → (Nat → Int) → Nat → Int
  | [], _, c => c
  | p :: ps, W, c => codeF q ps (W * q) fun x => c x + p.getD x 0 * W
/-- its bound -/
def codeW (q : Int) : List (List Int) → Int → Int
  | [], W => W
  | _ :: ps, W => codeW q ps (W * q)

theorem code_step {q W c d : Int} (hd : 0 ≤ d ∧ d ≤ q - 1) (hc : 0 ≤ c ∧ c < W) : 0 ≤ c + d * W ∧ c + d * W < W * q := by
  have h1 : 0 ≤ d * W := Int.mul_nonneg hd.1 (by omega)
  have h2 : d * W ≤ (q - 1) * W := Int.mul_le_mul_of_nonneg_right hd.2 (by omega)
  have h3 : (q - 1) * W = W * q - W := by rw [Int.sub_mul, Int.one_mul, Int.mul_comm]
  omega

theorem code_lt {W c c' d d' : Int} (hc : 0 ≤ c ∧ c < W) (hc' : 0 ≤ c' ∧ c' < W) (h : d < d') : c + d * W < c' + d' * W := by
  have h2 : (d + 1) * W ≤ d' * W := Int.mul_le_mul_of_nonneg_right (by omega) (by omega)
  have h3 : (d + 1) * W = d * W + W := by rw [Int.add_mul, Int.one_mul]
  omega

theorem codeF_bd {q : Int} {m : Nat} : ∀ {ps : List (List Int)} {W : Int} {c : Nat → Int}, Good ps m q → (∀ x, x < m → 0 ≤ c x ∧ c x < W) → ∀ x, x < m → 0 ≤ codeF q ps W c x ∧ codeF q ps W c x < codeW q ps W
  | [], _, _, _, hc, x, hx => hc x hx
  | p :: ps, W, c, hg, hc, x, hx => by
    have hp := hg p (by simp)
    exact codeF_bd (fun r hr => hg r (by simp [hr])) (fun y hy => code_step (hp.2 _ (getD_memI (by rw [hp.1]; exact hy))) (hc y hy)) x hx

theorem codeW_pow (q : Int) : ∀ (ps : List (List Int)) (W : Int), codeW q ps W = W * q ^ ps.length
  | [], W => by simp [codeW]
  | _ :: ps, W => by rw [codeW, codeW_pow q ps, List.length_cons, Int.pow_succ, Int.mul_assoc, Int.mul_comm q]

/-- what 'before' says, in numbers -/
theorem bef_code {q : Int} {m : Nat} {f g : Nat} (hf : f < m) (hg' : g < m) : ∀ {ps : List (List Int)} {W : Int} {c : Nat → Int}, Good ps m q → (∀ x, x < m → 0 ≤ c x ∧ c x < W) →
    ps.foldl (bstep f g) (decide (c f < c g)) = decide (codeF q ps W c f < codeF q ps W c g)
  | [], _, _, _, _ => rfl
  | p :: ps, W, c, hg, hc => by
    have hp := hg p (by simp)
    have hd : ∀ y, y < m → 0 ≤ p.getD y 0 ∧ p.getD y 0 ≤ q - 1 := fun y hy => hp.2 _ (getD_memI (by rw [hp.1]; exact hy))
    rw [List.foldl_cons, codeF, ← bef_code hf hg' (c := fun x => c x + p.getD x 0 * W) (fun r hr => hg r (by simp [hr])) (fun y hy => code_step (hd y hy) (hc y hy))]
    congr 1
    unfold bstep
    split
    · rename_i h; rw [h]; congr 1; exact propext ⟨fun h => by omega, fun h => by omega⟩
    · rename_i h
      congr 1
      refine propext ⟨fun h1 => code_lt (hc f hf) (hc g hg') h1, fun h1 => ?_⟩
      rcases Int.lt_trichotomy (p.getD f 0) (p.getD g 0) with h2 | h2 | h2
      · exact h2
      · exact absurd h2 h
      · have := code_lt (hc g hg') (hc f hf) h2; omega

theorem bef_iff {q : Int} {m : Nat} {f g : Nat} (hf : f < m) (hg' : g < m) {ps : List (List Int)} (hg : Good ps m q) : bef ps f g = decide (codeF q ps 1 (fun _ => 0) f < codeF q ps 1 (fun _ => 0) g) := by
  rw [← bef_code hf hg' (c := fun _ => 0) hg (fun x _ => by omega)]
  rfl

/-- a bag lies ahead of another one -/
def Ahead (bags : List Int) (c : Nat → Int) (i j : Int) : Prop :=
  c (bags.getD i.toNat 0).toNat < c (bags.getD j.toNat 0).toNat ∨ (c (bags.getD i.toNat 0).toNat = c (bags.getD j.toNat 0).toNat ∧ i < j)

/-- an order of bags -/
structure Ord (bags : List Int) (c : Nat → Int) (out : List Int) : Prop where
  len : out.length = bags.length
  mem : ∀ k ∈ out, 0 ≤ k ∧ k < bags.length
  pair : out.Pairwise (Ahead bags c)

theorem getD_mapI {f : Int → Int} {l : List Int} {x : Nat} (h : x < l.length) : (l.map f).getD x 0 = f (l.getD x 0) := by simp [h]
theorem getD_mapO {f : Int → Int} {l : List Int} {x : Nat} (h : x < l.length) : (List.map f l).getD x 0 = f (l.getD x 0) := by simp [h]

theorem pairwise_getD {R : Int → Int → Prop} {l : List Int} (h : l.Pairwise R) {a b : Nat} (hab : a < b) (hb : b < l.length) : R (l.getD a 0) (l.getD b 0) := by
  have := List.pairwise_iff_getElem.1 h a b (by omega) hb hab
  have e1 : l.getD a 0 = l[a] := by simp [show a < l.length by omega]
  have e2 : l.getD b 0 = l[b] := by simp [hb]
  rw [e1, e2]; exact this

theorem next_ord {bags pass out : List Int} {q W : Int} {c : Nat → Int} {m : Nat} (hbm : ∀ b ∈ bags, 0 ≤ b ∧ b < m) (hp : pass.length = m ∧ ∀ d ∈ pass, 0 ≤ d ∧ d ≤ q - 1) (he : errOf (rowOf bags out) pass q = 0)
    (hc : ∀ x, x < m → 0 ≤ c x ∧ c x < W) (h : Ord bags c out) : Ord bags (fun x => c x + pass.getD x 0 * W) (nextOf out (performL (rowOf bags out) pass)) := by
  have hrl : (rowOf bags out).length = out.length := by simp [rowOf]
  have hpl := performL_length he
  have hmem : ∀ k ∈ performL (rowOf bags out) pass, 0 ≤ k ∧ k < out.length := fun k hk => by rw [← hrl]; exact performL_mem hk
  refine ⟨by rw [nextOf, List.length_map, hpl, hrl, h.len], ?_, ?_⟩
  · intro k hk
    simp only [nextOf, List.mem_map] at hk
    obtain ⟨y, hy, rfl⟩ := hk
    have := hmem y hy
    exact h.mem _ (getD_memI (by omega))
  · rw [nextOf, List.pairwise_map]
    refine List.Pairwise.imp_of_mem ?_ (performL_sorted (rowOf bags out) pass)
    intro a b ha hb hab
    have ha' := hmem a ha
    have hb' := hmem b hb
    have hda : dig (rowOf bags out) pass a = pass.getD (bags.getD (out.getD a.toNat 0).toNat 0).toNat 0 := by
      rw [dig, rowOf, getD_mapO (by omega)]
    have hdb : dig (rowOf bags out) pass b = pass.getD (bags.getD (out.getD b.toNat 0).toNat 0).toNat 0 := by
      rw [dig, rowOf, getD_mapO (by omega)]
    rw [hda, hdb] at hab
    have hoa := h.mem _ (getD_memI (show a.toNat < out.length by omega))
    have hob := h.mem _ (getD_memI (show b.toNat < out.length by omega))
    have hfa := hbm _ (getD_memI (show (out.getD a.toNat 0).toNat < bags.length by omega))
    have hfb := hbm _ (getD_memI (show (out.getD b.toNat 0).toNat < bags.length by omega))
    have hca := hc (bags.getD (out.getD a.toNat 0).toNat 0).toNat (by omega)
    have hcb := hc (bags.getD (out.getD b.toNat 0).toNat 0).toNat (by omega)
    unfold Ahead
    rcases hab with hab | ⟨hab, hlt⟩
    · left; exact code_lt hca hcb hab
    · have := pairwise_getD h.pair (a := a.toNat) (b := b.toNat) (by omega) (by omega)
      unfold Ahead at this
      simp only [hab]
      rcases this with h1 | ⟨h1, h2⟩
      · left; omega
      · right; exact ⟨by omega, h2⟩

theorem sortGo_spec {bags : List Int} {q : Int} {m : Nat} (hq : 2 ≤ q ∧ q ≤ 9) (hm : m ≤ 40) (hb : bags.length ≤ 40) (hbm : ∀ b ∈ bags, 0 ≤ b ∧ b < m) :
    ∀ {ps : List (List Int)} {out : List Int} {W : Int} {c : Nat → Int}, Good ps m q → (∀ x, x < m → 0 ≤ c x ∧ c x < W) → Ord bags c out → ∃ out', sortGo bags q ps out = (0, out') ∧ Ord bags (codeF q ps W c) out'
  | [], out, W, c, _, _, ho => ⟨out, rfl, ho⟩
  | p :: ps, out, W, c, hg, hc, ho => by
    have hp := hg p (by simp)
    have he : errOf (rowOf bags out) p q = 0 := by
      unfold errOf
      rw [if_neg (by rw [rowOf, List.length_map, ho.len]; omega), if_neg (by omega), if_neg (fun ⟨d, hd, h⟩ => h (hp.2 d hd)), if_neg]
      rintro ⟨b, hb', h⟩
      simp only [rowOf, List.mem_map] at hb'
      obtain ⟨k, hk, rfl⟩ := hb'
      have h1 := ho.mem k hk
      have h2 := hbm _ (getD_memI (show k.toNat < bags.length by omega))
      exact h (by rw [hp.1]; omega)
    have hn := next_ord hbm hp he hc ho
    obtain ⟨out', h1, h2⟩ := sortGo_spec hq hm hb hbm (ps := ps) (W := W * q) (fun r hr => hg r (by simp [hr])) (fun y hy => code_step (hp.2 _ (getD_memI (by rw [hp.1]; exact hy))) (hc y hy)) hn
    exact ⟨out', by rw [sortGo, if_pos he, h1], h2⟩

theorem iota_ord (bags : List Int) : Ord bags (fun _ => 0) (iota bags.length) := by
  refine ⟨iota_length _, fun k hk => iota_mem hk, ?_⟩
  unfold iota
  rw [List.pairwise_map]
  refine List.Pairwise.imp ?_ List.pairwise_lt_range
  intro a b h
  exact .inr ⟨rfl, by omega⟩

/-- what Sort gives, when nothing is refused -/
theorem sortR_spec {bags : List Int} {ps : List (List Int)} {q : Int} {m : Nat} (hq : 2 ≤ q ∧ q ≤ 9) (hm : m ≤ 40) (hb : bags.length ≤ 40) (hpl : ps.length ≤ 40) (hbm : ∀ b ∈ bags, 0 ≤ b ∧ b < m) (hg : Good ps m q) :
    ∃ out, sortGo bags q ps (iota bags.length) = (0, out) ∧ sortR bags ps q = .tup [IS out, I 0] ∧ Ord bags (codeF q ps 1 fun _ => 0) out := by
  obtain ⟨out, h1, h2⟩ := sortGo_spec hq hm hb hbm hg (W := 1) (fun x _ => by omega) (iota_ord bags)
  exact ⟨out, h1, by rw [sortR, if_neg (by omega), h1], h2⟩

/-! the plan -/
theorem plan_code {F : Nat} {p : Nat} (hp : 0 < p) {x : Nat} (hx : x < F) : ∀ (k i : Nat) (c : Nat → Int), c x = ((x % p ^ i : Nat) : Int) → codeF p ((List.range' i k).map fun i => digs F p i) ((p ^ i : Nat) : Int) c x = ((x % p ^ (i + k) : Nat) : Int)
  | 0, i, c, hc => hc
  | k + 1, i, c, hc => by
    rw [List.range'_succ, List.map_cons, codeF]
    have e1 : ((p ^ i : Nat) : Int) * (p : Int) = ((p ^ (i + 1) : Nat) : Int) := by rw [Nat.pow_succ]; push_cast; rfl
    rw [e1, plan_code hp hx k (i + 1)]
    · rw [show i + 1 + k = i + (k + 1) by omega]
    · have e2 : (digs F p i).getD x 0 = ((x / p ^ i % p : Nat) : Int) := by simp [digs, hx]
      rw [e2, hc, Nat.mod_pow_succ]
      push_cast
      rw [Int.mul_comm ((p : Int) ^ i)]

theorem plan_good {F p k : Nat} (hp : 0 < p) : Good (planL F p k) F p := by
  intro r hr
  simp only [planL, List.mem_map] at hr
  obtain ⟨i, _, rfl⟩ := hr
  refine ⟨by simp [digs], fun d hd => ?_⟩
  simp only [digs, List.mem_map] at hd
  obtain ⟨x, _, rfl⟩ := hd
  have := Nat.mod_lt (x / p ^ i) hp
  omega

theorem plan_codeF {F p k : Nat} (hp : 0 < p) {x : Nat} (hx : x < F) (hk : F ≤ p ^ k) : codeF p (planL F p k) 1 (fun _ => 0) x = (x : Int) := by
  have := plan_code hp hx k 0 (fun _ => 0) (by simp [Nat.mod_one])
  rw [← List.range_eq_range', Nat.zero_add, Nat.mod_eq_of_lt (by omega)] at this
  exact this

theorem plan_sorts {n q : Nat} (hn : 1 ≤ n ∧ n ≤ 40) (hq : 2 ≤ q) : SortsP (planL n q (kOf n q)) n := by
  have hg : Good (planL n q (kOf n q)) n q := plan_good (by omega)
  have hk := (kOf_spec (f := n) hq hn.2).2
  refine ⟨by omega, fun p hp => by rw [(hg p hp).1]; omega, fun g hgn f hfg => ?_⟩
  rw [bef_iff (m := n) (by omega) (by omega) hg, plan_codeF (by omega) (by omega) hk, plan_codeF (by omega) (by omega) hk]
  exact decide_eq_true (by omega)
end Go.Proofs.Ytmjlnndnpdbagaa
