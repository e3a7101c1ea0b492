import Derived.Test.YtkhjenddapaejaaGreatDoorA6
import Derived.ProofKit
import Derived.Deep.Matrix
import Derived.Deep.Strs
import Derived.LaidMore
import Derived.OpenShut
import Derived.Stop.Joined
import Derived.Test.YtkhjenddapaejaaGreatDoorTie
import Derived.Test.YtkhjenddapaejaaGreatDoorCards
set_option linter.all false
set_option linter.unusedSimpArgs false
set_option linter.unusedVariables false
set_option linter.deprecated false
namespace Go.Proofs.YtkhjenddapaejaaGreatDoor
open Go Go.Sym
open Go.Plant
def ndOf (x : Ln) : Nd := ⟨x.nm, x.kd, x.ln, x.zn, x.ex⟩
def dvOf (x : Ln) : T3 := ⟨x.dk, x.dn, x.dw⟩
theorem nds_one {nm : ByteArray} {kd ln zn : Int} {ex : List Int} : [AV.agg [.lit (.string nm), .lit (.int .i64 kd), .lit (.int .i64 ln), .lit (.int .i64 zn), .sl (ints ex) false]] = nds [⟨nm, kd, ln, zn, ex⟩] := rfl
theorem t3s_one {a b c : Int} : [AV.agg [.lit (.int .i64 a), .lit (.int .i64 b), .lit (.int .i64 c)]] = t3s [⟨a, b, c⟩] := rfl
def fnd (ls : List Ln) (m : Nat) (nm : ByteArray) : Int := findN ((ls.take m).map ndOf) nm
def exN (ls : List Ln) (m : Nat) (x : Ln) (c : Nat) : Nd × Bool := if c = 0 then (ndOf x, false) else (⟨x.nm, x.kd, x.ln, x.zn, x.ex ++ (x.names.take c).map (fnd ls m)⟩, true)
def cnJ (ls : List Ln) (i k j : Nat) : Nat := if j < i then (ls.getD j default).names.length else if j = i then k else 0
def mixS (ls : List Ln) (m i k : Nat) : List (Nd × Bool) := (List.range m).map fun j => exN ls m (ls.getD j default) (cnJ ls i k j)
theorem mixS_len (ls : List Ln) (m i k : Nat) : (mixS ls m i k).length = m := by simp [mixS]
theorem mixS_getD {ls : List Ln} {m i k j : Nat} (h : j < m) : (mixS ls m i k).getD j default = exN ls m (ls.getD j default) (cnJ ls i k j) := by simp [mixS, h]
theorem mixes_getD {l : List (Nd × Bool)} {i : Nat} (h : i < l.length) : (mixes l).getD i .bad = mixN (l.getD i default) := by simp [mixes, h]
theorem exN_nm (ls : List Ln) (m : Nat) (x : Ln) (c : Nat) : (exN ls m x c).1.nm = x.nm := by unfold exN; split <;> rfl
theorem findN_map (xs : List Nd) (nm : ByteArray) : findN xs nm = match (xs.map (·.nm)).findIdx? (fun z => decide (z = nm)) with | some i => i | none => -1 := by
  rw [findN, List.findIdx?_map]; rfl
theorem mixS_fnd {ls : List Ln} {m i k : Nat} (hm : m ≤ ls.length) (nm : ByteArray) : findN ((mixS ls m i k).map (·.1)) nm = fnd ls m nm := by
  rw [fnd, findN_map, findN_map]
  have : ((mixS ls m i k).map (·.1)).map (·.nm) = ((ls.take m).map ndOf).map (·.nm) := by
    apply List.ext_getElem
    · simp [mixS_len]; omega
    · intro j h1 h2
      simp only [List.length_map, mixS_len] at h1
      simp only [List.getElem_map, List.getElem_take, mixS, List.getElem_range, exN_nm]
      simp [show j < ls.length by omega, ndOf]
  rw [this]
theorem mixS_next (ls : List Ln) (m i : Nat) : mixS ls m i (ls.getD i default).names.length = mixS ls m (i + 1) 0 := by
  unfold mixS
  refine List.map_congr_left fun j _ => ?_
  congr 1
  unfold cnJ
  by_cases h1 : j < i
  · rw [if_pos h1, if_pos (by omega)]
  · rw [if_neg h1]
    by_cases h2 : j = i
    · subst h2; rw [if_pos rfl, if_pos (by omega)]
    · rw [if_neg h2, if_neg (by omega)]; split <;> rfl
theorem mixS_ge {ls : List Ln} {m i k k' : Nat} (h : m ≤ i) : mixS ls m i k = mixS ls m i k' := by
  unfold mixS
  refine List.map_congr_left fun j hj => ?_
  have := List.mem_range.1 hj
  rw [cnJ, cnJ, if_pos (by omega), if_pos (by omega)]
theorem mixS_set {ls : List Ln} {m i k : Nat} (hi : i < m) : (mixS ls m i k).set i (exN ls m (ls.getD i default) (k + 1)) = mixS ls m i (k + 1) := by
  apply List.ext_getElem
  · simp [mixS_len]
  · intro j h1 h2
    simp only [List.length_set, mixS_len] at h1
    rw [List.getElem_set]
    by_cases hji : i = j
    · subst hji
      simp [mixS, cnJ]
    · rw [if_neg hji]
      simp [mixS, cnJ, show ¬ j = i from fun h => hji h.symm]
def dvS (ls : List Ln) (m d : Nat) : List T3 := (List.range (ls.length - m)).map fun j => if j < d then ⟨(ls.getD (m + j) default).dk, fnd ls m ((ls.getD (m + j) default).names.getD 0 .empty), (ls.getD (m + j) default).dw⟩ else dvOf (ls.getD (m + j) default)
theorem dvS_len (ls : List Ln) (m d : Nat) : (dvS ls m d).length = ls.length - m := by simp [dvS]
theorem dvS_getD {ls : List Ln} {m d j : Nat} (h : j < ls.length - m) : (dvS ls m d).getD j default = if j < d then ⟨(ls.getD (m + j) default).dk, fnd ls m ((ls.getD (m + j) default).names.getD 0 .empty), (ls.getD (m + j) default).dw⟩ else dvOf (ls.getD (m + j) default) := by simp only [dvS, List.getD_eq_getElem?_getD, List.getElem?_map, List.getElem?_range h, Option.map_some, Option.getD_some]
theorem dvS_set {ls : List Ln} {m d : Nat} (h : d < ls.length - m) : (dvS ls m d).set d ⟨(ls.getD (m + d) default).dk, fnd ls m ((ls.getD (m + d) default).names.getD 0 .empty), (ls.getD (m + d) default).dw⟩ = dvS ls m (d + 1) := by
  apply List.ext_getElem
  · simp [dvS_len]
  · intro j h1 h2
    simp only [List.length_set, dvS_len] at h1
    rw [List.getElem_set]
    by_cases hjd : d = j
    · subst hjd
      simp [dvS]
    · rw [if_neg hjd]
      by_cases hlt : j < d
      · simp [dvS, hlt, show j < d + 1 by omega]
      · simp [dvS, hlt, show ¬ j < d + 1 by omega]
def cD (m i k : Nat) : Nat := if i < m then 0 else i - m + k
theorem cD_next {m i k : Nat} (h : m ≤ i → k = 1) : cD m i k = cD m (i + 1) 0 := by
  unfold cD
  by_cases h1 : i < m
  · rw [if_pos h1]; split <;> omega
  · have := h (by omega); rw [if_neg h1, if_neg (by omega)]; omega
def prsY (ls : List Ln) (m : Nat) : Ly := ⟨(mixS ls m m 0).map (·.1), dvS ls m (ls.length - m)⟩
theorem dvS_zero {ls : List Ln} {m : Nat} : dvS ls m 0 = (ls.drop m).map dvOf := by
  apply List.ext_getElem
  · simp [dvS]
  · intro j h1 h2
    simp only [dvS_len] at h1
    simp [dvS, show m + j < ls.length by omega]
structure Prs (s : ByteArray) (T : List ByteArray) (ls : List Ln) (m : Nat) : Prop where
  len : s.data.toList.length ≤ 4096
  sp : splitR s 10 = T ++ [.empty]
  tl : T.length = ls.length
  ll : ls.length ≤ 100
  ml : m ≤ ls.length
  m0 : 0 < m
  nd : ∀ i, i < m → (ls.getD i default).kd ≠ 0
  dv : ∀ i, m ≤ i → i < ls.length → (ls.getD i default).kd = 0
  fn : ∀ i, i < ls.length → ∀ k, k < (ls.getD i default).names.length → 0 ≤ fnd ls m ((ls.getD i default).names.getD k .empty)
  x0 : ∀ i, i < ls.length → (ls.getD i default).ex = []
  d1 : ∀ i, m ≤ i → i < ls.length → (ls.getD i default).names.length = 1
  nl : ∀ i, i < ls.length → (ls.getD i default).names.length ≤ 100
  rd : ∀ i, i < ls.length → SatG Tryz.prog tab 73 [] [S (T.getD i .empty)] [] (.tup [(ls.getD i default).av, B true])
theorem parse_sat (s : ByteArray) (T : List ByteArray) (ls : List Ln) (m : Nat) (h : Prs s T ls m) (hs7 : Sml7 (prsY ls m)) (hval : validE (prsY ls m) = 0) : SatG Tryz.prog tab 40 [] [S s] [] (.tup [(prsY ls m).av, I 0, I 0]) := by
  obtain ⟨hlen, hsp, htl, hll, hml, hm0, hnd, hdv, hfn, hx0, hd1, hnl, hrd⟩ := h
  have hsz : s.size = s.data.toList.length := by rw [← bs_size, bs_len]
  have hspl := split_sat s 10 (by omega)
  rw [hsp] at hspl
  have hTl : (T ++ [ByteArray.empty]).length = ls.length + 1 := by rw [List.length_append, htl]; rfl
  have hTg : (T ++ [ByteArray.empty]).getD ls.length .empty = .empty := by rw [getD_snoc, htl]; simp
  have hTt : (T ++ [ByteArray.empty]).take ls.length = T := by rw [← htl, List.take_left]
  have hll1 : ls.length < (T ++ [ByteArray.empty]).length := by omega
  have hkt : ((ls.length : Int) + 1 - 1).toNat = ls.length := by omega
  have hkt2 : ((ls.length : Int) + 1 - 1) = ls.length := by omega
  refine uFN Tryz.func40 Tryz.ntmps40 ?_; intro w e X hC
  repeat refine uA1 @hsz ?_
  refine uW ?_; refine condP _ rfl (fun c0 => ?_) (fun c0 => ?_)
  · omega
  refine uR ?_; intro K hK
  refine callP uTS (hspl) uTS uTS uTS ?_; refine uS ?_
  refine hK _ ?_; clear hK K
  repeat refine uA1 (And.intro @hTl (And.intro @Int.natCast_add (And.intro @hkt2 (And.intro @Int.natCast_one (And.intro (strs_getD hll1) (And.intro @hTg (And.intro @strs_take @hTt))))))) ?_
  refine uW ?_
  refine awp_loopW (fun q : Nat × Nat × Nat × Nat × Nat × Nat × Nat => ⟨[(2, .ptO 102 1 0 0 0), (5, .sl (strs T) false), (6, S .empty), (7, .slO 107 q.2.2.1 0 q.2.1), (8, .ptO 108 24 0 0 0), (9, I q.2.1)],
    (108, some (24, .box [nilC q.2.2.2.2.2.1 (.slO 177 q.2.2.2.1 0 q.2.2.2.2.2.1), nilC q.2.2.2.2.2.2 (.slO 184 q.2.2.2.2.1 0 q.2.2.2.2.2.2)])) :: (177, nilH q.2.2.2.2.2.1 (q.2.2.2.1, .own 49 5 (nds ((ls.take q.2.2.2.2.2.1).map ndOf)))) :: (184, nilH q.2.2.2.2.2.2 (q.2.2.2.2.1, .own 104 3 (t3s (((ls.drop m).take q.2.2.2.2.2.2).map dvOf)))) :: (107, some (q.2.2.1, .own 106 9 (lns (ls.take q.2.1)))) :: (102, some (1, .box [.sl [] true, .sl [] true])) :: [], q.1⟩)
    (fun q => q.2.1 ≤ ls.length ∧ q.2.2.2.2.2.1 = min q.2.1 m ∧ q.2.2.2.2.2.2 = q.2.1 - m) (fun q => ls.length - q.2.1) (_, 0, 23, 0, 0, 0, 0) ⟨Nat.zero_le _, by simp, by simp⟩ (.of (Nat.le_refl _) (uHF1 @lns_nil) uWF) ?_
  rintro ⟨ck, i, g, g1, g2, na, nd⟩ ⟨hi, hna, hnd0⟩
  simp only at hi hna hnd0
  have hT2 : T.length = ls.length := htl
  repeat refine uA1 @hT2 ?_
  refine uW ?_; refine condP _ rfl (fun h1 => ?_) (fun h1 => ?_)
  · have hlt : i < ls.length := by omega
    have hltT : i < T.length := by omega
    have hrdi := hrd i hlt
    have hndi := hnd i
    have hdvi := hdv i
    have htk := take_getD (d := default) hlt
    have htkl : (ls.take i).length = i := by rw [List.length_take]; omega
    generalize e1 : ls.getD i default = x at *
    obtain ⟨xnm, xkd, xln, xzn, xex, xdk, xdn, xdw, xns⟩ := x
    simp only at hndi hdvi
    refine uR1 (strs_getD hltT) ?_; intro K hK
    refine ⟨by omega, ?_⟩
    refine callP uTS (hrdi) uTS uTS uTS ?_; refine uS ?_
    refine uH ?_
    refine hK _ ?_; clear hK K
    by_cases him : i < m
    · have hkd := hndi him
      have dk : decide (¬ xkd = 0) = true := decide_eq_true hkd
      obtain rfl : na = i := by omega
      obtain rfl : nd = 0 := by omega
      have htm : ∀ l : List Ln, (l ++ [(⟨xnm, xkd, xln, xzn, xex, xdk, xdn, xdw, xns⟩ : Ln)]).map ndOf = l.map ndOf ++ [⟨xnm, xkd, xln, xzn, xex⟩] := fun l => by rw [List.map_append]; rfl
      have htm1 : [(⟨xnm, xkd, xln, xzn, xex, xdk, xdn, xdw, xns⟩ : Ln)].map ndOf = [⟨xnm, xkd, xln, xzn, xex⟩] := rfl
      simp only [nilC_z, nilH_z]
      by_cases hi0' : na = 0
      · subst hi0'
        simp only [nilC_z, nilH_z]
        repeat first | refine uC ?_ | refine uA1 (And.intro @dk @htkl) ?_
        refine ⟨(_, 0 + 1, g, ck + 43, g2, 0 + 1, 0), ⟨by simp only; omega, by simp only; omega, by simp only; omega⟩, by simp only; omega, .of (Nat.le_refl _) (uHF1 (And.intro @htk (And.intro @htm (And.intro @htm1 (And.intro @nds_one (And.intro @nilC_s @nilH_s)))))) uWF⟩
      · simp only [nilC_p hi0', nilH_p hi0']
        repeat first | refine uC ?_ | refine uA1 (And.intro @dk @htkl) ?_
        refine ⟨(_, na + 1, g, g1, g2, na + 1, 0), ⟨by simp only; omega, by simp only; omega, by simp only; omega⟩, by simp only; omega, .of (Nat.le_refl _) (uHF1 (And.intro @htk (And.intro @htm (And.intro @nilC_s @nilH_s)))) uWF⟩
    · have hkd := hdvi (by omega) hlt
      have dk : decide (¬ xkd = 0) = false := decide_eq_false (fun h => h hkd)
      obtain ⟨na', rfl⟩ : ∃ k, na = k + 1 := ⟨na - 1, by omega⟩
      obtain rfl : m = na' + 1 := by omega
      have hdl : nd < (ls.drop (na' + 1)).length := by rw [List.length_drop]; omega
      have hdg : (ls.drop (na' + 1)).getD nd default = ⟨xnm, xkd, xln, xzn, xex, xdk, xdn, xdw, xns⟩ := by
        rw [← e1]
        simp only [List.getD_eq_getElem?_getD, List.getElem?_drop]
        congr 2
        omega
      have htm : ((ls.drop (na' + 1)).take (nd + 1)).map dvOf = ((ls.drop (na' + 1)).take nd).map dvOf ++ [⟨xdk, xdn, xdw⟩] := by rw [take_getD (d := default) hdl, List.map_append, hdg]; rfl
      have hdtl : ((ls.drop (na' + 1)).take nd).length = nd := by rw [List.length_take]; omega
      simp only [nilC_s, nilH_s]
      by_cases hi0' : nd = 0
      · subst hi0'
        simp only [nilC_z, nilH_z]
        repeat first | refine uC ?_ | refine uA1 (And.intro @dk @htkl) ?_
        refine ⟨(_, i + 1, g, g1, ck + 43, na' + 1, 0 + 1), ⟨by simp only; omega, by simp only; omega, by simp only; omega⟩, by simp only; omega, .of (Nat.le_refl _) (uHF1 (And.intro @htm (And.intro @htk (And.intro @t3s_one (And.intro @nilC_s @nilH_s))))) uWF⟩
      · simp only [nilC_p hi0', nilH_p hi0']
        repeat first | refine uC ?_ | refine uA1 (And.intro @dk (And.intro @htkl @hdtl)) ?_
        refine ⟨(_, i + 1, g, g1, g2, na' + 1, nd + 1), ⟨by simp only; omega, by simp only; omega, by simp only; omega⟩, by simp only; omega, .of (Nat.le_refl _) (uHF1 (And.intro @htm (And.intro @htk (And.intro @nilC_s @nilH_s)))) uWF⟩
  · refine awp_exit ?_
    obtain rfl : i = ls.length := by omega
    clear hrd hspl hTl hTg hTt hll1
    obtain rfl : na = m := by omega
    obtain ⟨na', rfl⟩ : ∃ k, na = k + 1 := ⟨na - 1, by omega⟩
    rw [List.take_length]
    have hdz : (ls.drop (na' + 1)).take nd = ls.drop (na' + 1) := List.take_of_length_le (by rw [List.length_drop]; omega)
    rw [hdz, ← dvS_zero]
    have hmz : nds ((ls.take (na' + 1)).map ndOf) = mixes (mixS ls (na' + 1) 0 0) := by
      rw [mixes_nds]
      congr 1
      apply List.ext_getElem
      · simp [mixS_len]; omega
      · intro j h1 h2
        simp only [List.length_map, mixS_len] at h2
        simp [mixS, cnJ, exN, show j < ls.length by omega]
    rw [hmz]
    simp only [nilC_s, nilH_s]
    repeat refine uA ?_
    refine uW ?_; refine condP _ rfl (fun hh => ?_) (fun hh => ?_)
    · exact absurd rfl hh
    iterate 3 (first | refine awp_skip ?_ | refine awp_seq ?_)
    refine awp_merge (fun q : Nat × Nat => ⟨[(2, .ptO 102 1 0 0 0), (7, .slO 107 g 0 ls.length), (8, .ptO 108 24 0 0 0), (12, I 0)],
      (108, some (24, .box [.slO 177 g1 0 (na' + 1), .slO 184 q.2 0 nd])) :: (177, some (g1, .own 49 5 (mixes (mixS ls (na' + 1) 0 0)))) :: (184, some (q.2, .own 104 3 (t3s (dvS ls (na' + 1) 0)))) :: (107, some (g, .own 106 9 (lns ls))) :: (102, some (1, .box [.sl [] true, .sl [] true])) :: [], q.1⟩) (fun _ => True) ?_ ?_
    · by_cases hnz : nd = 0
      · subst hnz
        have hdn : dvS ls (na' + 1) 0 = [] := List.length_eq_zero_iff.1 (by rw [dvS_len]; omega)
        simp only [nilC_z, nilH_z, hdn]
        refine awp_nil0 184 108 24 104 3 1 (by decide) rfl rfl rfl ?_
        first | refine uS ?_ | exact uX
        repeat refine uA ?_
        refine ⟨(_, ck+6), .of (Nat.le_refl _) (uHF1 @t3s_nil) uWF⟩
      · simp only [nilC_p hnz, nilH_p hnz]
        repeat refine uA ?_
        refine ⟨(_, g2), trivial, uKF⟩
    rintro ⟨ck0, g2⟩ -
    repeat refine uA ?_
    refine uW ?_
    refine awp_loopW (fun q : Nat × Nat => ⟨[(2, .ptO 102 1 0 0 0), (7, .slO 107 g 0 ls.length), (8, .ptO 108 24 0 0 0), (12, I q.2)],
      (108, some (24, .box [.slO 177 g1 0 (na' + 1), .slO 184 g2 0 nd])) :: (177, some (g1, .own 49 5 (mixes (mixS ls (na' + 1) q.2 0)))) :: (184, some (g2, .own 104 3 (t3s (dvS ls (na' + 1) (cD (na' + 1) q.2 0))))) :: (107, some (g, .own 106 9 (lns ls))) :: (102, some (1, .box [.sl [] true, .sl [] true])) :: [], q.1⟩)
      (fun q => q.2 ≤ ls.length) (fun q => ls.length - q.2) (_, 0) (Nat.zero_le _) (.of (Nat.le_refl _) (uHF1 (show cD (na' + 1) 0 0 = 0 from if_pos (by omega))) uWF) ?_
    rintro ⟨ck, i⟩ hi
    simp only at hi
    repeat refine uA ?_
    refine uW ?_; refine condP _ rfl (fun h3 => ?_) (fun h3 => ?_)
    · have hlt : i < ls.length := by omega
      have hfi := hfn i hlt
      have hdi := hd1 i
      have hni := hnl i hlt
      have hx0i := hx0 i hlt
      repeat refine uA ?_
      refine uW ?_
      refine awp_loopW (fun q : Nat × Nat => ⟨[(2, .ptO 102 1 0 0 0), (7, .slO 107 g 0 ls.length), (8, .ptO 108 24 0 0 0), (12, I i), (13, I q.2)],
        (108, some (24, .box [.slO 177 g1 0 (na' + 1), .slO 184 g2 0 nd])) :: (177, some (g1, .own 49 5 (mixes (mixS ls (na' + 1) i q.2)))) :: (184, some (g2, .own 104 3 (t3s (dvS ls (na' + 1) (cD (na' + 1) i q.2))))) :: (107, some (g, .own 106 9 (lns ls))) :: (102, some (1, .box [.sl [] true, .sl [] true])) :: [], q.1⟩)
        (fun q => q.2 ≤ (ls.getD i default).names.length) (fun q => (ls.getD i default).names.length - q.2) (_, 0) (Nat.zero_le _) (.of (Nat.le_refl _) uHF uWF) ?_
      rintro ⟨ck2, k⟩ hk
      simp only at hk
      have hml2 := mixS_len ls (na' + 1) i k
      have hfd := fun nm => mixS_fnd (i := i) (k := k) hml nm
      have hset := mixS_set (ls := ls) (m := na' + 1) (i := i) (k := k)
      have hget := mixS_getD (ls := ls) (m := na' + 1) (i := i) (k := k) (j := i)
      generalize e1 : ls.getD i default = x at *
      repeat refine uA1 (And.intro (lns_getD hlt) @e1) ?_
      refine uW ?_; refine condP _ rfl (fun h4 => ?_) (fun h4 => ?_)
      · have hkx : k < x.names.length := by omega
        have hfk := hfi k hkx
        have hsat := find_sat ⟨(mixS ls (na' + 1) i k).map (·.1), dvS ls (na' + 1) (cD (na' + 1) i k)⟩ (x.names.getD k .empty) (by simp only [List.length_map]; omega)
        simp only [hfd] at hsat
        have hfle : fnd ls (na' + 1) (x.names.getD k .empty) ≤ 1000 := by
          rw [fnd, findN]
          split
          · rename_i j hj
            rw [List.findIdx?_eq_some_iff_getElem] at hj
            obtain ⟨hj, _⟩ := hj
            simp only [List.length_map, List.length_take] at hj
            omega
          · omega
        have hexk : exN ls (na' + 1) x (k + 1) = (⟨x.nm, x.kd, x.ln, x.zn, (x.names.take k).map (fnd ls (na' + 1)) ++ [fnd ls (na' + 1) (x.names.getD k .empty)]⟩, true) := by
          rw [exN, if_neg (by omega), hx0i, take_getD (d := .empty) hkx, List.map_append]; rfl
        have hdsl : (dvS ls (na' + 1) (cD (na' + 1) i k)).length = nd := by rw [dvS_len]; omega
        generalize hms : mixS ls (na' + 1) i k = ms at *
        generalize hds : dvS ls (na' + 1) (cD (na' + 1) i k) = ds at *
        generalize hff : fnd ls (na' + 1) (x.names.getD k .empty) = f at *
        refine uE1 (And.intro (lns_getD hlt) (And.intro @e1 (And.intro (strs_getD hkx) (And.intro @mixes_length (And.intro @hml2 @hdsl))))) ?_; intro K hK
        refine uH ?_
        refine callF (rc := I f) ?_ ?_ ?_ ?_ ?_ ?_; (focus (first | exact trivial | (simp only [go_sem, Nat.reduceAdd, Nat.reduceSub, Nat.reduceMul, Nat.reduceLT, Nat.reduceEqDiff, Nat.reduceBEq, Nat.reduceLeDiff, Int.reduceToNat, ↓reduceIte, Int.reduceEq, Int.reduceLT, Int.reduceLE, Int.reduceAdd, Int.reduceSub, Int.reduceNeg, reduceCtorEq, mixes_fz, mixes_fzP, mixes_fzR, mixes_length, hml2, hdsl] <;> trivial))); (focus (simp only [go_sem, Nat.reduceAdd, Nat.reduceSub, Nat.reduceMul, Nat.reduceLT, Nat.reduceEqDiff, Nat.reduceBEq, Nat.reduceLeDiff, Int.reduceToNat, ↓reduceIte, Int.reduceEq, Int.reduceLT, Int.reduceLE, Int.reduceAdd, Int.reduceSub, Int.reduceNeg, reduceCtorEq, mixes_fz, mixes_fzP, mixes_fzR, mixes_length, hml2, hdsl]; exact hsat)); (focus (first | exact trivial | (simp only [go_sem, Nat.reduceAdd, Nat.reduceSub, Nat.reduceMul, Nat.reduceLT, Nat.reduceEqDiff, Nat.reduceBEq, Nat.reduceLeDiff, Int.reduceToNat, ↓reduceIte, Int.reduceEq, Int.reduceLT, Int.reduceLE, Int.reduceAdd, Int.reduceSub, Int.reduceNeg, reduceCtorEq, mixes_fz, mixes_fzP, mixes_fzR, mixes_length, hml2, hdsl] <;> trivial))); (focus (first | exact trivial | (simp only [go_sem, Nat.reduceAdd, Nat.reduceSub, Nat.reduceMul, Nat.reduceLT, Nat.reduceEqDiff, Nat.reduceBEq, Nat.reduceLeDiff, Int.reduceToNat, ↓reduceIte, Int.reduceEq, Int.reduceLT, Int.reduceLE, Int.reduceAdd, Int.reduceSub, Int.reduceNeg, reduceCtorEq, mixes_fz, mixes_fzP, mixes_fzR, mixes_length, hml2, hdsl] <;> trivial))); (focus (first | exact trivial | (simp only [go_sem, Nat.reduceAdd, Nat.reduceSub, Nat.reduceMul, Nat.reduceLT, Nat.reduceEqDiff, Nat.reduceBEq, Nat.reduceLeDiff, Int.reduceToNat, ↓reduceIte, Int.reduceEq, Int.reduceLT, Int.reduceLE, Int.reduceAdd, Int.reduceSub, Int.reduceNeg, reduceCtorEq, mixes_fz, mixes_fzP, mixes_fzR, mixes_length, hml2, hdsl] <;> trivial))); first | refine uS1 (And.intro @mixes_fz (And.intro @mixes_fzP (And.intro @mixes_fzR (And.intro @mixes_length (And.intro @hml2 @hdsl))))) ?_ | exact uX1 (And.intro @mixes_fz (And.intro @mixes_fzP (And.intro @mixes_fzR (And.intro @mixes_length (And.intro @hml2 @hdsl)))))
        refine uH ?_
        refine hK _ ?_; clear hK K
        repeat refine uA ?_
        refine uW ?_; refine condP _ rfl (fun h5 => ?_) (fun h5 => ?_)
        · omega
        repeat refine uA1 (And.intro @mixes_length (And.intro @hml2 @hdsl)) ?_
        refine uW ?_; refine condP _ rfl (fun him => ?_) (fun him => ?_)
        · have him' : i < na' + 1 := by omega
          have hims : i < ms.length := by omega
          have hgi := hget him'
          rw [show cnJ ls i k i = k by rw [cnJ, if_neg (Nat.lt_irrefl i), if_pos rfl]] at hgi
          have hgs : ∀ v, ((mixes ms).set i v).getD i .bad = v := fun v => by
            rw [getD_set2, if_pos ⟨rfl, by rw [mixes_length]; exact hims⟩]
          have hms2 : ∀ (nm : ByteArray) (kd ln zn : Int) (ex : List Int), (mixes ms).set i (.agg [.lit (.string nm), .lit (.int .i64 kd), .lit (.int .i64 ln), .lit (.int .i64 zn), .kid 3 1 (ints ex)]) = mixes (ms.set i (⟨nm, kd, ln, zn, ex⟩, true)) := fun _ _ _ _ _ => mixes_set
          have hcd : ∀ j, cD (na' + 1) i j = cD (na' + 1) i k := fun j => by rw [cD, cD, if_pos him', if_pos him']
          by_cases hk0 : k = 0
          · have hgi0 : ms.getD i default = (ndOf x, false) := by rw [hgi, exN, if_pos hk0]
            subst hk0
            (repeat first | refine awp_seq ?_ | refine awp_skip ?_ | refine awp_block ?_); refine awp_region_drawR hC (by kernel_rfl) (by kernel_rfl) rfl fun K hK => ?_; simp only [go_sem, Nat.reduceAdd, Nat.reduceSub, Nat.reduceMul, Nat.reduceLT, Nat.reduceEqDiff, Nat.reduceBEq, Nat.reduceLeDiff, Int.reduceToNat, ↓reduceIte, Int.reduceEq, Int.reduceLT, Int.reduceLE, Int.reduceAdd, Int.reduceSub, Int.reduceNeg, reduceCtorEq, mixes_length, hml2, mixes_getD hims, hgi0, mixN, ndOf, hx0i, List.length_nil]
            refine uH ?_
            refine hK _ ?_; clear hK K
            repeat refine uA ?_
            refine ⟨(_, 0 + 1), by simp only; omega, by simp only; omega, .of (Nat.le_refl _) (by repeat (first | exact HOk.nil | refine HOk.cons rfl ?_ | refine HOk.gone ?_ | refine HOk.opt rfl ?_ | (refine HOk.cons ?_ ?_; (focus (simp only [go_sem, Nat.reduceAdd, Nat.reduceSub, Nat.reduceMul, Nat.reduceLT, Nat.reduceEqDiff, Nat.reduceBEq, Nat.reduceLeDiff, Int.reduceToNat, ↓reduceIte, Int.reduceEq, Int.reduceLT, Int.reduceLE, Int.reduceAdd, Int.reduceSub, Int.reduceNeg, reduceCtorEq, ← hset him', hexk, hms2, hgs, hcd (_ + 1), hds, and_self, if_false, AV.cells, List.set_set, List.take_succ_cons, List.take_zero, List.drop_succ_cons, List.drop_zero, List.cons_append, List.nil_append, List.map_nil]; done))) | (refine HOk.less rfl (ObW.ofBW ?_) ?_; (focus ((repeat (first | exact BW.nil | refine BW.same ?_ | (refine BW.frz ?_ ?_ ?_ ?_; (focus (first | exact trivial | (simp only [go_sem, Nat.reduceAdd, Nat.reduceSub, Nat.reduceMul, Nat.reduceLT, Nat.reduceEqDiff, Nat.reduceBEq, Nat.reduceLeDiff, Int.reduceToNat, ↓reduceIte, Int.reduceEq, Int.reduceLT, Int.reduceLE, Int.reduceAdd, Int.reduceSub, Int.reduceNeg, reduceCtorEq, ← hset him', hexk, hms2, hgs, hcd (_ + 1), hds, and_self, if_false, AV.cells, List.set_set, List.take_succ_cons, List.take_zero, List.drop_succ_cons, List.drop_zero, List.cons_append, List.nil_append, List.map_nil] <;> trivial))); (focus (first | rfl | ((simp only [go_sem, Nat.reduceAdd, Nat.reduceSub, Nat.reduceMul, Nat.reduceLT, Nat.reduceEqDiff, Nat.reduceBEq, Nat.reduceLeDiff, Int.reduceToNat, ↓reduceIte, Int.reduceEq, Int.reduceLT, Int.reduceLE, Int.reduceAdd, Int.reduceSub, Int.reduceNeg, reduceCtorEq, ← hset him', hexk, hms2, hgs, hcd (_ + 1), hds, and_self, if_false, AV.cells, List.set_set, List.take_succ_cons, List.take_zero, List.drop_succ_cons, List.drop_zero, List.cons_append, List.nil_append, List.map_nil] <;> rfl); done))); (focus (first | (simp only [go_sem, Nat.reduceAdd, Nat.reduceSub, Nat.reduceMul, Nat.reduceLT, Nat.reduceEqDiff, Nat.reduceBEq, Nat.reduceLeDiff, Int.reduceToNat, ↓reduceIte, Int.reduceEq, Int.reduceLT, Int.reduceLE, Int.reduceAdd, Int.reduceSub, Int.reduceNeg, reduceCtorEq, ← hset him', hexk, hms2, hgs, hcd (_ + 1), hds, and_self, if_false, AV.cells, List.set_set, List.take_succ_cons, List.take_zero, List.drop_succ_cons, List.drop_zero, List.cons_append, List.nil_append, List.map_nil]; done) | ((simp only [go_sem, Nat.reduceAdd, Nat.reduceSub, Nat.reduceMul, Nat.reduceLT, Nat.reduceEqDiff, Nat.reduceBEq, Nat.reduceLeDiff, Int.reduceToNat, ↓reduceIte, Int.reduceEq, Int.reduceLT, Int.reduceLE, Int.reduceAdd, Int.reduceSub, Int.reduceNeg, reduceCtorEq, ← hset him', hexk, hms2, hgs, hcd (_ + 1), hds, and_self, if_false, AV.cells, List.set_set, List.take_succ_cons, List.take_zero, List.drop_succ_cons, List.drop_zero, List.cons_append, List.nil_append, List.map_nil] <;> simp); done) | (simp; done))))))); done)))) uWF⟩
          · have hgi0 : ms.getD i default = (⟨x.nm, x.kd, x.ln, x.zn, (x.names.take k).map (fnd ls (na' + 1))⟩, true) := by rw [hgi, exN, if_neg hk0, hx0i]; rfl
            have hmk : ((x.names.take k).map (fnd ls (na' + 1))).length ≤ 100 := by rw [List.length_map, List.length_take]; omega
            generalize (x.names.take k).map (fnd ls (na' + 1)) = exk at *
            (repeat first | refine awp_seq ?_ | refine awp_skip ?_ | refine awp_block ?_); refine awp_region_drawR hC (by kernel_rfl) (by kernel_rfl) rfl fun K hK => ?_; simp only [go_sem, Nat.reduceAdd, Nat.reduceSub, Nat.reduceMul, Nat.reduceLT, Nat.reduceEqDiff, Nat.reduceBEq, Nat.reduceLeDiff, Int.reduceToNat, ↓reduceIte, Int.reduceEq, Int.reduceLT, Int.reduceLE, Int.reduceAdd, Int.reduceSub, Int.reduceNeg, reduceCtorEq, mixes_length, hml2, mixes_getD hims, hgi0, mixN]
            refine uH ?_
            refine hK _ ?_; clear hK K
            repeat refine uA ?_
            refine ⟨(_, k + 1), by simp only; omega, by simp only; omega, .of (Nat.le_refl _) (by repeat (first | exact HOk.nil | refine HOk.cons rfl ?_ | refine HOk.gone ?_ | refine HOk.opt rfl ?_ | (refine HOk.cons ?_ ?_; (focus (simp only [go_sem, Nat.reduceAdd, Nat.reduceSub, Nat.reduceMul, Nat.reduceLT, Nat.reduceEqDiff, Nat.reduceBEq, Nat.reduceLeDiff, Int.reduceToNat, ↓reduceIte, Int.reduceEq, Int.reduceLT, Int.reduceLE, Int.reduceAdd, Int.reduceSub, Int.reduceNeg, reduceCtorEq, ← hset him', hexk, hms2, hgs, hcd (_ + 1), hds, and_self, if_false, AV.cells, List.set_set, List.take_succ_cons, List.take_zero, List.drop_succ_cons, List.drop_zero, List.cons_append, List.nil_append, List.map_nil]; done))) | (refine HOk.less rfl (ObW.ofBW ?_) ?_; (focus ((repeat (first | exact BW.nil | refine BW.same ?_ | (refine BW.frz ?_ ?_ ?_ ?_; (focus (first | exact trivial | (simp only [go_sem, Nat.reduceAdd, Nat.reduceSub, Nat.reduceMul, Nat.reduceLT, Nat.reduceEqDiff, Nat.reduceBEq, Nat.reduceLeDiff, Int.reduceToNat, ↓reduceIte, Int.reduceEq, Int.reduceLT, Int.reduceLE, Int.reduceAdd, Int.reduceSub, Int.reduceNeg, reduceCtorEq, ← hset him', hexk, hms2, hgs, hcd (_ + 1), hds, and_self, if_false, AV.cells, List.set_set, List.take_succ_cons, List.take_zero, List.drop_succ_cons, List.drop_zero, List.cons_append, List.nil_append, List.map_nil] <;> trivial))); (focus (first | rfl | ((simp only [go_sem, Nat.reduceAdd, Nat.reduceSub, Nat.reduceMul, Nat.reduceLT, Nat.reduceEqDiff, Nat.reduceBEq, Nat.reduceLeDiff, Int.reduceToNat, ↓reduceIte, Int.reduceEq, Int.reduceLT, Int.reduceLE, Int.reduceAdd, Int.reduceSub, Int.reduceNeg, reduceCtorEq, ← hset him', hexk, hms2, hgs, hcd (_ + 1), hds, and_self, if_false, AV.cells, List.set_set, List.take_succ_cons, List.take_zero, List.drop_succ_cons, List.drop_zero, List.cons_append, List.nil_append, List.map_nil] <;> rfl); done))); (focus (first | (simp only [go_sem, Nat.reduceAdd, Nat.reduceSub, Nat.reduceMul, Nat.reduceLT, Nat.reduceEqDiff, Nat.reduceBEq, Nat.reduceLeDiff, Int.reduceToNat, ↓reduceIte, Int.reduceEq, Int.reduceLT, Int.reduceLE, Int.reduceAdd, Int.reduceSub, Int.reduceNeg, reduceCtorEq, ← hset him', hexk, hms2, hgs, hcd (_ + 1), hds, and_self, if_false, AV.cells, List.set_set, List.take_succ_cons, List.take_zero, List.drop_succ_cons, List.drop_zero, List.cons_append, List.nil_append, List.map_nil]; done) | ((simp only [go_sem, Nat.reduceAdd, Nat.reduceSub, Nat.reduceMul, Nat.reduceLT, Nat.reduceEqDiff, Nat.reduceBEq, Nat.reduceLeDiff, Int.reduceToNat, ↓reduceIte, Int.reduceEq, Int.reduceLT, Int.reduceLE, Int.reduceAdd, Int.reduceSub, Int.reduceNeg, reduceCtorEq, ← hset him', hexk, hms2, hgs, hcd (_ + 1), hds, and_self, if_false, AV.cells, List.set_set, List.take_succ_cons, List.take_zero, List.drop_succ_cons, List.drop_zero, List.cons_append, List.nil_append, List.map_nil] <;> simp); done) | (simp; done))))))); done)))) uWF⟩
        · have hdi' := hdi (by omega) hlt
          obtain rfl : k = 0 := by omega
          obtain ⟨d, hd⟩ : ∃ d, i = na' + 1 + d := ⟨i - (na' + 1), by omega⟩
          have hc0 : cD (na' + 1) i 0 = d := by rw [cD, if_neg (by omega)]; omega
          have hc1 : cD (na' + 1) i (0 + 1) = d + 1 := by rw [cD, if_neg (by omega)]; omega
          have hdn : d < ls.length - (na' + 1) := by omega
          have hg3 := dvS_getD (ls := ls) (m := na' + 1) (d := d) hdn
          have hs3 := dvS_set (ls := ls) (m := na' + 1) (d := d) hdn
          rw [if_neg (Nat.lt_irrefl d)] at hg3
          rw [← hd, e1] at hg3 hs3
          rw [hc0] at hds
          rw [hds] at hg3 hs3
          rw [hff] at hs3
          have hdl : d < ds.length := by omega
          have hkt3 : (i : Int) - ((na' : Int) + 1) = d := by omega
          have hkt4 : (i : Int) - ((na' + 1 : Nat) : Int) = d := by omega
          have hmg : mixS ls (na' + 1) i (0 + 1) = ms := by rw [← hms]; exact mixS_ge (by omega)
          (repeat first | refine awp_seq ?_ | refine awp_skip ?_ | refine awp_block ?_); refine awp_region hC rfl fun K hK => ?_; simp only [go_sem, Nat.reduceAdd, Nat.reduceSub, Nat.reduceMul, Nat.reduceLT, Nat.reduceEqDiff, Nat.reduceBEq, Nat.reduceLeDiff, Int.reduceToNat, ↓reduceIte, Int.reduceEq, Int.reduceLT, Int.reduceLE, Int.reduceAdd, Int.reduceSub, Int.reduceNeg, reduceCtorEq, mixes_length, hml2, hkt3, hkt4, t3s_getD hdl, hg3, dvOf]
          refine uH ?_
          refine hK _ ?_; clear hK K
          repeat refine uA ?_
          refine ⟨(_, 0 + 1), by simp only; omega, by simp only; omega, .of (Nat.le_refl _) (by repeat (first | exact HOk.nil | refine HOk.cons rfl ?_ | refine HOk.gone ?_ | refine HOk.opt rfl ?_ | (refine HOk.cons ?_ ?_; (focus (simp only [go_sem, Nat.reduceAdd, Nat.reduceSub, Nat.reduceMul, Nat.reduceLT, Nat.reduceEqDiff, Nat.reduceBEq, Nat.reduceLeDiff, Int.reduceToNat, ↓reduceIte, Int.reduceEq, Int.reduceLT, Int.reduceLE, Int.reduceAdd, Int.reduceSub, Int.reduceNeg, reduceCtorEq, hmg, hc1, ← hs3, and_self, if_false]; done))) | (refine HOk.less rfl (ObW.ofBW ?_) ?_; (focus ((repeat (first | exact BW.nil | refine BW.same ?_ | (refine BW.frz ?_ ?_ ?_ ?_; (focus (first | exact trivial | (simp only [go_sem, Nat.reduceAdd, Nat.reduceSub, Nat.reduceMul, Nat.reduceLT, Nat.reduceEqDiff, Nat.reduceBEq, Nat.reduceLeDiff, Int.reduceToNat, ↓reduceIte, Int.reduceEq, Int.reduceLT, Int.reduceLE, Int.reduceAdd, Int.reduceSub, Int.reduceNeg, reduceCtorEq, hmg, hc1, ← hs3, and_self, if_false] <;> trivial))); (focus (first | rfl | ((simp only [go_sem, Nat.reduceAdd, Nat.reduceSub, Nat.reduceMul, Nat.reduceLT, Nat.reduceEqDiff, Nat.reduceBEq, Nat.reduceLeDiff, Int.reduceToNat, ↓reduceIte, Int.reduceEq, Int.reduceLT, Int.reduceLE, Int.reduceAdd, Int.reduceSub, Int.reduceNeg, reduceCtorEq, hmg, hc1, ← hs3, and_self, if_false] <;> rfl); done))); (focus (first | (simp only [go_sem, Nat.reduceAdd, Nat.reduceSub, Nat.reduceMul, Nat.reduceLT, Nat.reduceEqDiff, Nat.reduceBEq, Nat.reduceLeDiff, Int.reduceToNat, ↓reduceIte, Int.reduceEq, Int.reduceLT, Int.reduceLE, Int.reduceAdd, Int.reduceSub, Int.reduceNeg, reduceCtorEq, hmg, hc1, ← hs3, and_self, if_false]; done) | ((simp only [go_sem, Nat.reduceAdd, Nat.reduceSub, Nat.reduceMul, Nat.reduceLT, Nat.reduceEqDiff, Nat.reduceBEq, Nat.reduceLeDiff, Int.reduceToNat, ↓reduceIte, Int.reduceEq, Int.reduceLT, Int.reduceLE, Int.reduceAdd, Int.reduceSub, Int.reduceNeg, reduceCtorEq, hmg, hc1, ← hs3, and_self, if_false] <;> simp); done) | (simp; done))))))); done)))) uWF⟩
      · refine awp_exit ?_
        obtain rfl : k = x.names.length := by omega
        have hmn2 : mixS ls (na' + 1) i x.names.length = mixS ls (na' + 1) (i + 1) 0 := by rw [← e1]; exact mixS_next ls (na' + 1) i
        have hcn2 : cD (na' + 1) i x.names.length = cD (na' + 1) (i + 1) 0 := cD_next (fun h => hdi h hlt)
        repeat refine uA ?_
        refine ⟨(_, i + 1), by simp only; omega, by simp only; omega, .of (Nat.le_refl _) (uHF1 (And.intro @hmn2 @hcn2)) uWF⟩
    · refine awp_exit ?_
      obtain rfl : i = ls.length := by omega
      have hmf : mixS ls (na' + 1) ls.length 0 = mixS ls (na' + 1) (na' + 1) 0 := by
        unfold mixS
        refine List.map_congr_left fun j hj => ?_
        have := List.mem_range.1 hj
        rw [cnJ, cnJ, if_pos (by omega), if_pos (by omega)]
      have hcf : cD (na' + 1) ls.length 0 = ls.length - (na' + 1) := by rw [cD, if_neg (by omega)]; rfl
      rw [hmf, hcf]
      have hv := rvalidate_sat (prsY ls (na' + 1)) hs7
      rw [hval] at hv
      have hY : prsY ls (na' + 1) = ⟨(mixS ls (na' + 1) (na' + 1) 0).map (·.1), dvS ls (na' + 1) (ls.length - (na' + 1))⟩ := rfl
      rw [hY] at hv ⊢
      have hml2 := mixS_len ls (na' + 1) (na' + 1) 0
      have hdsl : (dvS ls (na' + 1) (ls.length - (na' + 1))).length = nd := by rw [dvS_len]; omega
      generalize mixS ls (na' + 1) (na' + 1) 0 = ms at *
      generalize dvS ls (na' + 1) (ls.length - (na' + 1)) = ds at *
      refine uR ?_; intro K hK
      refine callF (rc := I 0) ?_ ?_ ?_ ?_ ?_ ?_; (focus (first | exact trivial | (simp only [go_sem, Nat.reduceAdd, Nat.reduceSub, Nat.reduceMul, Nat.reduceLT, Nat.reduceEqDiff, Nat.reduceBEq, Nat.reduceLeDiff, Int.reduceToNat, ↓reduceIte, Int.reduceEq, Int.reduceLT, Int.reduceLE, Int.reduceAdd, Int.reduceSub, Int.reduceNeg, reduceCtorEq, mixes_fz, mixes_fzP, mixes_fzR, mixes_length, hml2, hdsl] <;> trivial))); (focus (simp only [go_sem, Nat.reduceAdd, Nat.reduceSub, Nat.reduceMul, Nat.reduceLT, Nat.reduceEqDiff, Nat.reduceBEq, Nat.reduceLeDiff, Int.reduceToNat, ↓reduceIte, Int.reduceEq, Int.reduceLT, Int.reduceLE, Int.reduceAdd, Int.reduceSub, Int.reduceNeg, reduceCtorEq, mixes_fz, mixes_fzP, mixes_fzR, mixes_length, hml2, hdsl]; exact hv)); (focus (first | exact trivial | (simp only [go_sem, Nat.reduceAdd, Nat.reduceSub, Nat.reduceMul, Nat.reduceLT, Nat.reduceEqDiff, Nat.reduceBEq, Nat.reduceLeDiff, Int.reduceToNat, ↓reduceIte, Int.reduceEq, Int.reduceLT, Int.reduceLE, Int.reduceAdd, Int.reduceSub, Int.reduceNeg, reduceCtorEq, mixes_fz, mixes_fzP, mixes_fzR, mixes_length, hml2, hdsl] <;> trivial))); (focus (first | exact trivial | (simp only [go_sem, Nat.reduceAdd, Nat.reduceSub, Nat.reduceMul, Nat.reduceLT, Nat.reduceEqDiff, Nat.reduceBEq, Nat.reduceLeDiff, Int.reduceToNat, ↓reduceIte, Int.reduceEq, Int.reduceLT, Int.reduceLE, Int.reduceAdd, Int.reduceSub, Int.reduceNeg, reduceCtorEq, mixes_fz, mixes_fzP, mixes_fzR, mixes_length, hml2, hdsl] <;> trivial))); (focus (first | exact trivial | (simp only [go_sem, Nat.reduceAdd, Nat.reduceSub, Nat.reduceMul, Nat.reduceLT, Nat.reduceEqDiff, Nat.reduceBEq, Nat.reduceLeDiff, Int.reduceToNat, ↓reduceIte, Int.reduceEq, Int.reduceLT, Int.reduceLE, Int.reduceAdd, Int.reduceSub, Int.reduceNeg, reduceCtorEq, mixes_fz, mixes_fzP, mixes_fzR, mixes_length, hml2, hdsl] <;> trivial))); first | refine uS1 (And.intro @mixes_fz (And.intro @mixes_fzP (And.intro @mixes_fzR (And.intro @mixes_length (And.intro @hml2 @hdsl))))) ?_ | exact uX1 (And.intro @mixes_fz (And.intro @mixes_fzP (And.intro @mixes_fzR (And.intro @mixes_length (And.intro @hml2 @hdsl)))))
      refine uH ?_
      refine hK _ ?_; clear hK K
      repeat refine uA ?_
      refine uF ?_
      repeat refine uA ?_
      refine awp_ret ?_; rw [show Tryz.f40.results.toList = [.cell 2 30, .tmp 3, .tmp 4] from rfl]; (refine (retN (by simp only [go_sem, Nat.reduceAdd, Nat.reduceSub, Nat.reduceMul, Nat.reduceLT, Nat.reduceEqDiff, Nat.reduceBEq, Nat.reduceLeDiff, Int.reduceToNat, ↓reduceIte, Int.reduceEq, Int.reduceLT, Int.reduceLE, Int.reduceAdd, Int.reduceSub, Int.reduceNeg, reduceCtorEq, retAV, resV, mixes_fz, mixes_fzP, mixes_fzR, mixes_length, hml2, hdsl] <;> simp) (by simp only [go_sem, Nat.reduceAdd, Nat.reduceSub, Nat.reduceMul, Nat.reduceLT, Nat.reduceEqDiff, Nat.reduceBEq, Nat.reduceLeDiff, Int.reduceToNat, ↓reduceIte, Int.reduceEq, Int.reduceLT, Int.reduceLE, Int.reduceAdd, Int.reduceSub, Int.reduceNeg, reduceCtorEq, retAV, resV, mixes_fz, mixes_fzP, mixes_fzR, mixes_length, hml2, hdsl] <;> trivial) ?_); simp only [go_sem, Nat.reduceAdd, Nat.reduceSub, Nat.reduceMul, Nat.reduceLT, Nat.reduceEqDiff, Nat.reduceBEq, Nat.reduceLeDiff, Int.reduceToNat, ↓reduceIte, Int.reduceEq, Int.reduceLT, Int.reduceLE, Int.reduceAdd, Int.reduceSub, Int.reduceNeg, reduceCtorEq, retAV, resV, mixes_fz, mixes_fzP, mixes_fzR, mixes_length, hml2, hdsl])
end Go.Proofs.YtkhjenddapaejaaGreatDoor
namespace Go.Proofs.YtkhjenddapaejaaGreatDoor
open Go Go.Sym
open Go.Plant
def aS : ByteArray := ⟨#[101, 110, 116, 114, 121, 32, 65, 32, 50, 32, 48, 32, 62, 32, 71, 10, 103, 97, 116, 101, 32, 71, 32, 49, 32, 48, 32, 62, 32, 77, 32, 67, 10, 99, 104, 117, 116, 101, 32, 67, 32, 49, 10, 109, 97, 110, 117, 97, 108, 32, 77, 32, 48, 10, 115, 99, 97, 110, 110, 101, 114, 32, 71, 32, 48, 10]⟩
def aT0 : ByteArray := ⟨#[101, 110, 116, 114, 121, 32, 65, 32, 50, 32, 48, 32, 62, 32, 71]⟩
def aW0 : List ByteArray := [⟨#[101, 110, 116, 114, 121]⟩, ⟨#[65]⟩, ⟨#[50]⟩, ⟨#[48]⟩, ⟨#[62]⟩, ⟨#[71]⟩]
def aT1 : ByteArray := ⟨#[103, 97, 116, 101, 32, 71, 32, 49, 32, 48, 32, 62, 32, 77, 32, 67]⟩
def aW1 : List ByteArray := [⟨#[103, 97, 116, 101]⟩, ⟨#[71]⟩, ⟨#[49]⟩, ⟨#[48]⟩, ⟨#[62]⟩, ⟨#[77]⟩, ⟨#[67]⟩]
def aT2 : ByteArray := ⟨#[99, 104, 117, 116, 101, 32, 67, 32, 49]⟩
def aW2 : List ByteArray := [⟨#[99, 104, 117, 116, 101]⟩, ⟨#[67]⟩, ⟨#[49]⟩]
def aT3 : ByteArray := ⟨#[109, 97, 110, 117, 97, 108, 32, 77, 32, 48]⟩
def aW3 : List ByteArray := [⟨#[109, 97, 110, 117, 97, 108]⟩, ⟨#[77]⟩, ⟨#[48]⟩]
def aT4 : ByteArray := ⟨#[115, 99, 97, 110, 110, 101, 114, 32, 71, 32, 48]⟩
def aW4 : List ByteArray := [⟨#[115, 99, 97, 110, 110, 101, 114]⟩, ⟨#[71]⟩, ⟨#[48]⟩]
def aT : List ByteArray := [aT0, aT1, aT2, aT3, aT4]
def aL : List Ln := [rdN aW0 1, rdN aW1 6, rdN aW2 8, rdN aW3 9, rdS aW4]
theorem aN0 : RdN aW0 1 where
  kr := by decide
  len := by decide +kernel
  w0 := fun j h1 h2 => (by decide +kernel : ∀ j, j < 10 → 1 ≤ j → eqB (wordsB.getD j .empty) (aW0.getD 0 .empty) = decide ((j : Int) = 1)) j (by omega) h1
  ph := by decide +kernel
  nm := by decide +kernel
  n2 := by decide +kernel
  zn := by decide +kernel
  ar := by decide +kernel
  ex := by decide +kernel
theorem aN1 : RdN aW1 6 where
  kr := by decide
  len := by decide +kernel
  w0 := fun j h1 h2 => (by decide +kernel : ∀ j, j < 10 → 1 ≤ j → eqB (wordsB.getD j .empty) (aW1.getD 0 .empty) = decide ((j : Int) = 6)) j (by omega) h1
  ph := by decide +kernel
  nm := by decide +kernel
  n2 := by decide +kernel
  zn := by decide +kernel
  ar := by decide +kernel
  ex := by decide +kernel
theorem aN2 : RdN aW2 8 where
  kr := by decide
  len := by decide +kernel
  w0 := fun j h1 h2 => (by decide +kernel : ∀ j, j < 10 → 1 ≤ j → eqB (wordsB.getD j .empty) (aW2.getD 0 .empty) = decide ((j : Int) = 8)) j (by omega) h1
  ph := by decide +kernel
  nm := by decide +kernel
  n2 := by decide +kernel
  zn := by decide +kernel
  ar := by decide +kernel
  ex := by decide +kernel
theorem aN3 : RdN aW3 9 where
  kr := by decide
  len := by decide +kernel
  w0 := fun j h1 h2 => (by decide +kernel : ∀ j, j < 10 → 1 ≤ j → eqB (wordsB.getD j .empty) (aW3.getD 0 .empty) = decide ((j : Int) = 9)) j (by omega) h1
  ph := by decide +kernel
  nm := by decide +kernel
  n2 := by decide +kernel
  zn := by decide +kernel
  ar := by decide +kernel
  ex := by decide +kernel
theorem aPrs : Prs aS aT aL 4 where
  len := by decide +kernel
  sp := by decide +kernel
  tl := by decide +kernel
  ll := by decide +kernel
  ml := by decide +kernel
  m0 := by decide
  nd := by decide +kernel
  dv := fun i h1 h2 => by
    have h3 : i < 5 := h2
    obtain rfl : i = 4 := by omega
    decide +kernel
  fn := by decide +kernel
  x0 := by decide +kernel
  d1 := fun i h1 h2 => by
    have h3 : i < 5 := h2
    obtain rfl : i = 4 := by omega
    decide +kernel
  nl := by decide +kernel
  rd := fun i h => by
    have h3 : i < 5 := h
    have h4 : i = 0 ∨ i = 1 ∨ i = 2 ∨ i = 3 ∨ i = 4 := by omega
    rcases h4 with rfl | rfl | rfl | rfl | rfl
    · exact read_node aT0 aW0 1 (by decide +kernel) (by decide +kernel) aN0
    · exact read_node aT1 aW1 6 (by decide +kernel) (by decide +kernel) aN1
    · exact read_node aT2 aW2 8 (by decide +kernel) (by decide +kernel) aN2
    · exact read_node aT3 aW3 9 (by decide +kernel) (by decide +kernel) aN3
    · exact read_scan aT4 aW4 (by decide +kernel) (by decide +kernel) (by decide +kernel) (by decide +kernel) (by decide +kernel) (by decide +kernel)
def aY : Ly := ⟨[⟨⟨#[65]⟩, 1, 2, 0, [1]⟩, ⟨⟨#[71]⟩, 6, 1, 0, [3, 2]⟩, ⟨⟨#[67]⟩, 8, 0, 1, []⟩, ⟨⟨#[77]⟩, 9, 0, 0, []⟩], [⟨2, 1, 0⟩]⟩
theorem map_inj' {α β : Type} {f : α → β} (hf : ∀ x y, f x = f y → x = y) : ∀ (a b : List α), a.map f = b.map f → a = b
  | [], [], _ => rfl
  | [], _ :: _, h => by cases h
  | _ :: _, [], h => by cases h
  | x :: a, y :: b, h => by
    simp only [List.map_cons, List.cons.injEq] at h
    rw [hf _ _ h.1, map_inj' hf a b h.2]
theorem aY_eq : prsY aL 4 = aY := by
  have h1 : (prsY aL 4).nodes.map (fun x => (x.nm, x.kd, x.ln, x.zn, x.ex)) = aY.nodes.map (fun x => (x.nm, x.kd, x.ln, x.zn, x.ex)) := by decide +kernel
  have h2 : (prsY aL 4).devs.map (fun x => (x.a, x.b, x.c)) = aY.devs.map (fun x => (x.a, x.b, x.c)) := by decide +kernel
  have inj1 := map_inj' (f := fun x : Nd => (x.nm, x.kd, x.ln, x.zn, x.ex)) fun x y hxy => by
    cases x; cases y; simp only [Prod.mk.injEq] at hxy; obtain ⟨rfl, rfl, rfl, rfl, rfl⟩ := hxy; rfl
  have inj2 := map_inj' (f := fun x : T3 => (x.a, x.b, x.c)) fun x y hxy => by
    cases x; cases y; simp only [Prod.mk.injEq] at hxy; obtain ⟨rfl, rfl, rfl⟩ := hxy; rfl
  have e1 := inj1 _ _ h1
  have e2 := inj2 _ _ h2
  generalize prsY aL 4 = y at *
  cases y
  simp only at e1 e2
  rw [e1, e2]
theorem aSml : Sml7 aY := ⟨by decide +kernel, by decide +kernel, by decide +kernel, by decide +kernel⟩
theorem aVal : validE aY = 0 := by decide +kernel
end Go.Proofs.YtkhjenddapaejaaGreatDoor
namespace Go.Proofs.YtkhjenddapaejaaGreatDoor
open Go Go.Sym
open Go.Plant
def aP0 : Pl := ⟨[[0, 0], [0], [], []], [[], [], [], []]⟩
def aP1 : Pl := ⟨[[7, 0], [0], [], []], [[], [], [], []]⟩
def aP2 : Pl := ⟨[[0, 7], [0], [], []], [[], [], [], []]⟩
def aP3 : Pl := ⟨[[0, 0], [7], [], []], [[], [], [], []]⟩
def aP4 : Pl := ⟨[[0, 0], [0], [], []], [[], [], [7], []]⟩
def aC : List Int := [0, 1, 0, 0]
theorem pl_ext {p q : Pl} (h1 : p.slots = q.slots) (h2 : p.bins = q.bins) : p = q := by cases p; cases q; simp only at h1 h2; rw [h1, h2]
theorem t3_ext {a b : List T3} (h : a.map (fun x => (x.a, x.b, x.c)) = b.map (fun x => (x.a, x.b, x.c))) : a = b :=
  map_inj' (f := fun x : T3 => (x.a, x.b, x.c)) (fun x y hxy => by
    cases x; cases y; simp only [Prod.mk.injEq] at hxy; obtain ⟨rfl, rfl, rfl⟩ := hxy; rfl) _ _ h
theorem aNew : newP aY = aP0 := pl_ext (by decide +kernel) (by decide +kernel)
theorem aFit0 : FitP aY.nodes aP0 := ⟨by decide +kernel, by decide +kernel, by decide +kernel, by decide +kernel, by decide +kernel, by decide +kernel, by decide +kernel, by decide +kernel⟩
theorem aFit1 : FitP aY.nodes aP1 := ⟨by decide +kernel, by decide +kernel, by decide +kernel, by decide +kernel, by decide +kernel, by decide +kernel, by decide +kernel, by decide +kernel⟩
theorem aFit2 : FitP aY.nodes aP2 := ⟨by decide +kernel, by decide +kernel, by decide +kernel, by decide +kernel, by decide +kernel, by decide +kernel, by decide +kernel, by decide +kernel⟩
theorem aFit3 : FitP aY.nodes aP3 := ⟨by decide +kernel, by decide +kernel, by decide +kernel, by decide +kernel, by decide +kernel, by decide +kernel, by decide +kernel, by decide +kernel⟩
theorem aEx : ExOk aY.nodes := by unfold ExOk; decide +kernel
theorem aEnter : (enterR aY aP0 0 7).1 = aP1 ∧ (enterR aY aP0 0 7).2 = 0 := ⟨pl_ext (by decide +kernel) (by decide +kernel), by decide +kernel⟩
theorem aFF : FitF aY.nodes [] := ⟨by simp, fun i hi => by simp at hi⟩
def aLV (p : Pl) : List Int × List Int := flows aY.nodes p (wnts aY.nodes p aC [] aY.nodes.length) (order aY.nodes)
theorem aStep1 : SatG Tryz.prog tab 16 [] [aY.av, aP1.av, IS aC, .sl (t3s []) false] [] (.tup [aP2.av, .sl (t3s []) false, I 0]) := by
  have h := pstep_ok aY aP1 aC [] aSml aVal aEx aFit1 (by decide +kernel) (by decide +kernel) (by decide +kernel) aFF (by decide +kernel) (by decide +kernel) (by decide +kernel) (aLV aP1).1 (aLV aP1).2 (by decide +kernel) (by unfold LvOk; decide +kernel) (by decide +kernel) rfl
  have e1 : (stepP aY.nodes aP1 aC [] (aLV aP1).1).1 = aP2 := pl_ext (by decide +kernel) (by decide +kernel)
  have e2 : (stepP aY.nodes aP1 aC [] (aLV aP1).1).2 = [] := t3_ext (by decide +kernel)
  rw [e1, e2] at h
  exact h
theorem aStep2 : SatG Tryz.prog tab 16 [] [aY.av, aP2.av, IS aC, .sl (t3s []) false] [] (.tup [aP3.av, .sl (t3s [⟨7, 0, 1⟩]) false, I 0]) := by
  have h := pstep_ok aY aP2 aC [] aSml aVal aEx aFit2 (by decide +kernel) (by decide +kernel) (by decide +kernel) aFF (by decide +kernel) (by decide +kernel) (by decide +kernel) (aLV aP2).1 (aLV aP2).2 (by decide +kernel) (by unfold LvOk; decide +kernel) (by decide +kernel) rfl
  have e1 : (stepP aY.nodes aP2 aC [] (aLV aP2).1).1 = aP3 := pl_ext (by decide +kernel) (by decide +kernel)
  have e2 : (stepP aY.nodes aP2 aC [] (aLV aP2).1).2 = [⟨7, 0, 1⟩] := t3_ext (by decide +kernel)
  rw [e1, e2] at h
  exact h
theorem aStep3 : SatG Tryz.prog tab 16 [] [aY.av, aP3.av, IS aC, .sl (t3s []) false] [] (.tup [aP4.av, .sl (t3s [⟨7, 1, 2⟩]) false, I 0]) := by
  have h := pstep_ok aY aP3 aC [] aSml aVal aEx aFit3 (by decide +kernel) (by decide +kernel) (by decide +kernel) aFF (by decide +kernel) (by decide +kernel) (by decide +kernel) (aLV aP3).1 (aLV aP3).2 (by decide +kernel) (by unfold LvOk; decide +kernel) (by decide +kernel) rfl
  have e1 : (stepP aY.nodes aP3 aC [] (aLV aP3).1).1 = aP4 := pl_ext (by decide +kernel) (by decide +kernel)
  have e2 : (stepP aY.nodes aP3 aC [] (aLV aP3).1).2 = [⟨7, 1, 2⟩] := t3_ext (by decide +kernel)
  rw [e1, e2] at h
  exact h
theorem awake_sat : SatG Tryz.prog tab 10 [] [] [] (B true) := by
  have hpa := parse_sat aS aT aL 4 aPrs (by rw [aY_eq]; exact aSml) (by rw [aY_eq]; exact aVal)
  rw [aY_eq] at hpa
  have hnw := pnew_sat aY aSml (fun _ => by decide +kernel)
  rw [aNew, aVal] at hnw
  have hen := penter_sat aY aP0 0 7 aFit0
  rw [aEnter.1, aEnter.2] at hen
  have hs1 := aStep1
  have hs2 := aStep2
  have hs3 := aStep3
  have hwh := pwhere_sat aP4 7 (by decide +kernel) (by decide +kernel) (by decide +kernel) (by decide +kernel)
  have hwe : whereQ aP4 7 = (2, -1, true) := by decide +kernel
  rw [hwe] at hwh
  have hbo := pbound_sat aY 2 aSml
  have hbe : clampN 2 * winR aY = 6 := by decide +kernel
  rw [hbe] at hbo
  obtain ⟨y, hy⟩ : ∃ y, y = aY := ⟨_, rfl⟩
  rw [← hy] at hpa hnw hen hs1 hs2 hs3 hbo
  generalize aP0 = p0 at *
  generalize aP1 = p1 at *
  generalize aP2 = p2 at *
  generalize aP3 = p3 at *
  generalize aP4 = p4 at *
  unfold aS at hpa
  unfold aC at hs1 hs2 hs3
  refine uFN Tryz.func10 Tryz.ntmps10 ?_; intro w e X hC
  refine uA ?_
  refine uR ?_; intro K hK
  refine callP uTS (hpa) uTS uTS uTS ?_; refine uS ?_
  refine hK _ ?_; clear hK K
  refine uR ?_; intro K hK
  refine callP uTS (hnw) uTS uTS uTS ?_; refine uS ?_
  refine hK _ ?_; clear hK K
  refine uR ?_; intro K hK
  refine callP uTS (hen) uTS uTS uTS ?_; refine uS ?_
  refine hK _ ?_; clear hK K
  refine uA ?_
  refine awp_weak (s' := ⟨[(1, .ptO 101 7 0 0 0), (4, .ptO 104 16 0 0 0), (5, I 0), (6, I 0), (7, IS [0, 1, 0, 0])], (104, some (16, .box [RS p1.slots, RS p1.bins])) :: (101, some (7, .box [.sl (nds y.nodes) false, .sl (t3s y.devs) false])) :: [], _⟩) (.of (Nat.le_refl _) (by repeat first | exact HOk.nil | refine uHN ?_ | (refine HOk.cons ?_ ?_; (focus (simp only [go_sem, Nat.reduceAdd, Nat.reduceSub, Nat.reduceMul, Nat.reduceLT, Nat.reduceEqDiff, Nat.reduceBEq, Nat.reduceLeDiff, Int.reduceToNat, ↓reduceIte, Int.reduceEq, Int.reduceLT, Int.reduceLE, Int.reduceAdd, Int.reduceSub, Int.reduceNeg, reduceCtorEq]; done)))) (by repeat first | exact WOk.nil | refine uWN ?_ | (refine WOk.cons ?_ ?_; (focus (simp only [go_sem, Nat.reduceAdd, Nat.reduceSub, Nat.reduceMul, Nat.reduceLT, Nat.reduceEqDiff, Nat.reduceBEq, Nat.reduceLeDiff, Int.reduceToNat, ↓reduceIte, Int.reduceEq, Int.reduceLT, Int.reduceLE, Int.reduceAdd, Int.reduceSub, Int.reduceNeg, reduceCtorEq, ints, List.map_cons, List.map_nil]; done))))) ?_
  refine uR ?_; intro K hK
  refine callP uTS (hs1) uTS uTS uTS ?_; refine uS ?_
  refine hK _ ?_; clear hK K
  refine uR ?_; intro K hK
  refine callP uTS (hs2) uTS uTS uTS ?_; refine uS ?_
  refine hK _ ?_; clear hK K
  refine uR ?_; intro K hK
  refine callP uTS (hs3) uTS uTS uTS ?_; refine uS ?_
  refine hK _ ?_; clear hK K
  refine uR ?_; intro K hK
  refine callP uTS (hwh) uTS uTS uTS ?_; refine uS ?_
  refine hK _ ?_; clear hK K
  have hl1 : 0 < [(⟨7, 0, 1⟩ : T3)].length := by decide
  have hl2 : 0 < [(⟨7, 1, 2⟩ : T3)].length := by decide
  have hone : decide (((1 : Nat) : Int) = 1) = true := rfl
  refine uR1 (And.intro @hone (And.intro @t3s_length (And.intro (t3s_getD hl1) (And.intro (t3s_getD hl2) (And.intro @Int.toNat_zero (And.intro @List.length_singleton.{0} @Bool.and_self)))))) ?_; intro K hK
  refine uH ?_
  refine callF uTS (hbo) uTS uTS uTS ?_; refine uS ?_
  refine uH ?_
  refine hK _ ?_; clear hK K
  (refine awp_ret (ret1 uRT ?_); try rfl)
end Go.Proofs.YtkhjenddapaejaaGreatDoor
namespace Go.Sym
open Go Go.Deep Go.ChangeShapes Go.WideShapes Go.ChangeAt Go.RowKit
section
variable {H : Type} {enc : TypeId × Value → H} {P : Program} {W W' : World}
theorem trodAll_below (hl : laidOutB P = true) (hb : Below W.heap.size W W') : ∀ {ts : List TypeId} {vs : List Value} {ds : List (DataW H)} {ps : List MemPlace}, (∀ t ∈ ts, P.readableRec t = true ∧ t < P.types.size) →
    DataW.TrodAll enc P W 0 (fun _ => true) true ts vs ds ps → (∀ x ∈ ps, x.block < W.heap.size) → DataW.TrodAll enc P W' 0 (fun b => decide (b < W.heap.size)) true ts vs ds ps
  | [], vs, ds, ps, _, h, _ => by obtain ⟨rfl, rfl, rfl⟩ := trodAll_nil h; exact trodAll_mk0
  | t :: ts, vs, ds, ps, ht, h, hlt => by
    obtain ⟨v, vs', d, ds', p, q, rfl, rfl, rfl, h1, h2⟩ := trodAll_cons h
    have := ht t (by simp)
    exact ⟨p, q, Below.trod hl this.1 this.2 h1 hb fun x hx => hlt x (by simp [hx]), trodAll_below hl hb (fun t' h' => ht t' (by simp [h'])) h2 fun x hx => hlt x (by simp [hx]), rfl⟩
theorem wf_i64 {a : Int} (h : (Lit.int .i64 a).wf = true) : -9223372036854775808 ≤ a ∧ a ≤ 9223372036854775807 := by
  have h1 : (decide (IntKind.min .i64 ≤ a) && decide (a ≤ IntKind.max .i64)) = true := h
  have e1 : IntKind.min .i64 = -9223372036854775808 := by decide
  have e2 : IntKind.max .i64 = 9223372036854775807 := by decide
  rw [e1, e2] at h1
  simpa using h1
variable {U : Nat → Prop} {t e q : TypeId} {v : Value} {d : DataW H} {ps : List MemPlace}
theorem cell_spot {w : World} {a : Addr} {x : Value} (h : w.cell? a = some x) : a = ⟨a.block, a.off, none⟩ ∧ a.block < w.heap.size := by
  unfold World.cell? at h
  split at h
  · rename_i c _ _ hb
    split at h
    · cases h
    · rename_i hs
      refine ⟨?_, (Array.getElem?_eq_some_iff.1 hb).1⟩
      cases a with
      | mk b o s => cases s <;> simp_all
  · cases h
theorem VD.ints_mk (hU : ∀ b, U b) {a : Addr} {len cap : Nat} {zs : List Int} (hl : len ≤ cap) (hm : cap ≤ maxLen) (hz : zs.length = cap) (hc : ∀ i, i < cap → W.cell? (a.add i) = some (.int .i64 (zs.getD i 0))) :
    VD W U (IS (zs.take len)) (.slice (some a) len cap) := by
  by_cases h0 : cap = 0
  · obtain rfl : len = 0 := by omega
    subst h0
    rw [List.take_zero]
    exact .nil _ _
  · have h1 := cell_spot (hc 0 (by omega))
    have e : a = ⟨a.block, a.off, none⟩ := h1.1
    have hlen : (zs.take len).length = len := by simp; omega
    have := VD.sl (w := W) (U := U) (ints (zs.take len)) false a.block a.off cap 1 (fun i => .int .i64 (zs.getD i 0)) (hU _) h1.2 (by rw [ints_length, hlen]; exact hl) hm (by simp) (by omega)
      (by intro i hi; simp [ints, AV.cells, I]) (by
        intro j hj
        rw [ints_length, hlen, Nat.mul_one] at hj
        have h2 := hc j (by omega)
        rw [e, add_plain] at h2
        exact h2) (by
        intro i hi j hj
        simp only [ints, List.getElem_map, I, AV.cells] at hj ⊢
        simp at hj; subst hj; rfl) (by
        intro i hi j hj
        rw [ints_length, hlen] at hi
        simp only [ints, List.getElem_map, I, AV.cells, List.getElem_take] at hj ⊢
        simp at hj; subst hj
        simp only [List.getElem_cons_zero, Nat.mul_one, Nat.add_zero]
        have : zs.getD i 0 = zs[i]'(by omega) := by simp [show i < zs.length by omega]
        rw [this]
        exact .lit _ rfl)
    rw [ints_length, hlen] at this
    rw [← e] at this
    exact this
theorem arg_ints (hU : ∀ b, U b) (ht : P.underlying t = some (.slice e)) (he : P.underlying e = some (.int .i64)) (hc : P.cellsOf e = 1) (hval : Value.okWide P W .any 0 t v)
    (hd : DataW.Trod enc P W 0 (fun _ => true) true t v d ps) : ∃ zs : List Int, zs.length ≤ 9223372036854775807 ∧ (∀ x ∈ zs, -9223372036854775808 ≤ x ∧ x ≤ 9223372036854775807) ∧ VD W U (IS zs) v := by
  obtain ⟨a, len, cap, rfl⟩ := okWide_slice ht hval
  obtain ⟨fuel, hf⟩ := hd
  rcases open_ints ht he hc hf with ⟨h1, _⟩ | ⟨a', len', cap', zs, h1, _, hl, hm, hz, _, hcell, hw⟩
  · simp [Value.cells] at h1
    obtain ⟨rfl, rfl, rfl⟩ := h1
    exact ⟨[], by simp, by simp, .nil _ _⟩
  · simp [Value.cells] at h1
    obtain ⟨rfl, rfl, rfl⟩ := h1
    simp only [if_true] at hz
    have hm' : cap ≤ 9223372036854775807 := by unfold maxLen at hm; omega
    exact ⟨zs.take len, by simp; omega, fun x hx => wf_i64 (hw x (List.mem_of_mem_take hx)), VD.ints_mk hU hl hm hz fun i hi => hcell i (by omega)⟩
def env0 : Env := ⟨fun _ => none, fun _ => False, fun _ => none⟩
theorem own0 (b : Nat) : ¬ OwnB env0 b := by
  rintro (⟨id, ee, c, h, _⟩ | ⟨B, c, h, _⟩) <;> cases h
theorem UE_all (b : Nat) : UE env0 b := ⟨fun h => h, own0 b⟩
theorem HRel0 (w : World) : HRel w env0 (Glt 1) [] where
  dead := fun _ _ => rfl
  live := fun id g ob h => by simp [Hp.get] at h
  inj := fun id id' ee ee' b c c' h => by cases h
  lt := fun id ee b c h => by cases h
  nz := fun id ee b c h => by cases h
  kl := fun b B c h => by cases h
  ko := fun b h => rfl
  kk := fun b B c h => by cases h
theorem law_any {T : Tab} {f : FuncId} {as : List AV} {vals : Array Value} (h : SatG P T f [] as [] (B true)) (hg : GOk T W (UE env0)) (hsz : as.length = vals.size) (hv : ∀ i (hi : i < as.length), VD W (UE env0) as[i] (vals.getD i undef)) :
    Calls P f vals W fun e W' => e = .returned (.bool true) ∧ Below W.heap.size W W' := by
  have h := h.2 W env0 vals (HRel0 W) (fun b hb => hb.elim) hg hsz (fun i hi => .dat _ _ (hv i hi))
  refine h.mono ?_
  rintro e W' ⟨v, e', rfl, _, hv, _, _, _, hf⟩
  cases hv with
  | dat _ _ hv =>
    cases hv with
    | lit _ _ => exact ⟨rfl, hf.os, hf.tape, hf.output, hf.size, fun k hk => hf.same k hk (own0 k)⟩
theorem laid_bytes {g fuel n : Nat} {nm : String} {zs : List Int} {cs : Array Value} {p : List MemPlace} {enc : TypeId × Value → Unit} {spare : Nat → Bool} {held : Bool} (hg : P.globalNamed nm = some g) (hU : ∀ b, U b) (ht : P.underlying t = some (.array n e)) (he : P.underlying e = some (.int .u8)) (hc : P.cellsOf e = 1)
    (hv : W.var? P nm = some cs) (hd : DataW.trod enc P W 0 spare held fuel t cs.toList = some (.agg (zs.map fun z => .lit (.int .u8 z)), p)) (hn : zs.length = n) (h0 : 0 < n) : VD W U (.ptI (zs.map fun z => .lit (.int .u8 z))) (.pointer (some ⟨g, 0, none⟩)) := by
  obtain ⟨xs, m, _, ex, _, hl, hel⟩ := DataW.trod_array ht hd
  have cell : ∀ r, r < n → W.cell? ⟨g, r, none⟩ = some (.int .u8 (zs.getD r 0)) := by
    intro r hr
    have hE := hel r hr
    rw [hc, Nat.mul_one, List.getElem?_eq_getElem (by omega)] at hE
    obtain ⟨z, e1, e2, _⟩ := DataW.trod_int he hE
    have e3 : (xs.map (·.1)) = zs.map fun n => .lit (.int .u8 n) := (DataW.agg.inj (Prod.mk.inj ex).1).symm
    have e4 : (xs.map (·.1))[r]? = (zs.map fun n => (DataW.lit (.int .u8 n) : DataW Unit))[r]? := by rw [e3]
    rw [List.getElem?_map, List.getElem?_map, List.getElem?_eq_getElem (by omega : r < xs.length), List.getElem?_eq_getElem (by omega : r < zs.length), e2] at e4
    have hz : z = zs.getD r 0 := by
      simp only [Option.map_some, Option.some.injEq, DataW.lit.injEq, Lit.int.injEq, true_and] at e4
      rw [e4, List.getD, List.getElem?_eq_getElem (by omega : r < zs.length)]; rfl
    rw [World.var?_cell hg hv r, ← hz]
    have : cs.toList[r]? = some (.int .u8 z) := by
      have h0 : ((cs.toList.drop r).take 1)[0]? = some (.int .u8 z) := by rw [e1]; rfl
      simpa using h0
    simpa using this
  refine .ptI _ g 0 (fun i => .int .u8 (zs.getD i 0)) (hU _) (cell_spot (cell 0 h0)).2 ?_ ?_ ?_
  · intro j hj
    rw [Nat.zero_add]
    exact cell j (by simpa [hn] using hj)
  · intro j hj
    simp [AV.one]
  · intro j hj
    rw [List.length_map] at hj
    simp only [List.getElem_map]
    have : zs.getD j 0 = zs[j]'(by omega) := by simp [show j < zs.length by omega]
    rw [this]
    exact .lit _ rfl
theorem laid_strs {g fuel : Nat} {nm : String} {ss : List ByteArray} {cs : Array Value} {p : List MemPlace} {enc : TypeId × Value → Unit} {spare : Nat → Bool} {held : Bool} (hg : P.globalNamed nm = some g) (hU : ∀ b, U b) (ht : P.underlying t = some (.slice e)) (he : P.underlying e = some .string) (hc : P.cellsOf e = 1)
    (hv : W.var? P nm = some cs) (hd : DataW.trod enc P W 0 spare held fuel t cs.toList = some (.slice (ss.map fun z => .lit (.string z.data.toList)) [], p)) (h0 : 0 < ss.length) : VD W U (.ptI [.sl (ss.map S) false]) (.pointer (some ⟨g, 0, none⟩)) := by
  rcases open_strs ht he hc hd with ⟨_, hx⟩ | ⟨a, len, cap, m, Sx, hcs, _, hlc, hm, hmm, hx, hcell⟩
  · simp at hx
  · simp only [Prod.mk.injEq, DataW.slice.injEq] at hx
    obtain ⟨⟨hx, hsp⟩, _⟩ := hx
    have hlen : ss.length = len := by simpa using congrArg List.length hx
    have hlm : len ≤ m := by rw [hmm]; split <;> omega
    have hS : ∀ i (hi : i < ss.length), Sx i = ss[i] := by
      intro i hi
      have h1 : (ss.map fun z => (DataW.lit (.string z.data.toList) : DataW Unit))[i]? = ((List.range len).map fun i => (DataW.lit (.string (Sx i).data.toList) : DataW Unit))[i]? := by rw [hx]
      rw [List.getElem?_map, List.getElem?_map, List.getElem?_eq_getElem hi, List.getElem?_eq_getElem (by simpa [hlen] using hi)] at h1
      simp only [Option.map_some, Option.some.injEq, DataW.lit.injEq, Lit.string.injEq, List.getElem_range] at h1
      have h2 := Array.toList_inj.1 h1
      cases h3 : ss[i] with | mk d1 => cases h4 : Sx i with | mk d2 => rw [h3, h4] at h2; simp only at h2; rw [h2]
    have hv0 := World.var?_cell hg hv 0
    rw [Array.eq_one_of_toList hcs] at hv0
    have hv0 : W.cell? ⟨g, 0, none⟩ = some (.slice (some a) len cap) := by simpa using hv0
    have ha := cell_spot (hcell 0 (by omega)).1
    have ea : a = ⟨a.block, a.off, none⟩ := ha.1
    refine .ptI _ g 0 (fun _ => .slice (some a) len cap) (hU _) (cell_spot hv0).2 ?_ (by intro j hj; simp at hj; subst hj; rfl) ?_
    · intro j hj
      simp at hj; subst hj; exact hv0
    · intro j hj
      simp at hj; subst hj
      have := VD.sl (w := W) (U := U) (ss.map S) false a.block a.off cap 1 (fun i => .string (Sx i)) (hU _) ha.2 (by simp [hlen, hlc]) hm (by simp) (by omega)
        (by intro i hi; simp [AV.cells, S]) (by
          intro j hj
          rw [List.length_map, hlen, Nat.mul_one] at hj
          have h2 := (hcell j (by omega)).1
          rw [ea, add_plain] at h2
          exact h2) (by
          intro i hi j hj
          simp only [List.getElem_map, S, AV.cells] at hj ⊢
          simp at hj; subst hj; rfl) (by
          intro i hi j hj
          simp only [List.getElem_map, S, AV.cells] at hj ⊢
          simp at hj; subst hj
          simp only [List.getElem_cons_zero, Nat.mul_one, Nat.add_zero]
          rw [hS i (by simpa using hi)]
          exact .lit _ rfl)
      rw [List.length_map, hlen] at this
      rw [← ea] at this
      exact this
end
end Go.Sym
namespace Go.Proofs.YtkhjenddapaejaaGreatDoor
open Go Go.Sym Go.Deep Go.ChangeShapes Go.WideShapes Go.ChangeAt Go.RowKit
theorem Tryz.own : ownKnob Tryz.prog.godebug = none := by kernel_rfl
theorem Tryz.laidOut : laidOutB Tryz.prog = true := by kernel_rfl
theorem g0 : Tryz.prog.globalNamed "baggage/baggageref07.words" = some 0 := by kernel_rfl
theorem g1 : Tryz.prog.globalNamed "math/bits.deBruijn32tab" = some 1 := by kernel_rfl
theorem g2 : Tryz.prog.globalNamed "math/bits.deBruijn64tab" = some 2 := by kernel_rfl
theorem gt0 : (Tryz.prog.globals[0]?).map (·.type) = some 101 := by kernel_rfl
theorem gt1 : (Tryz.prog.globals[1]?).map (·.type) = some 189 := by kernel_rfl
theorem gt2 : (Tryz.prog.globals[2]?).map (·.type) = some 190 := by kernel_rfl
theorem words_eq : (Rows.laid_baggage_baggageref07_words : DataW Unit) = .slice (wordsB.map fun z => .lit (.string z.data.toList)) [] := by kernel_rfl
theorem d32_eq : (Rows.laid_math_bits_deBruijn32tab : DataW Unit) = .agg (d32.map fun z => .lit (.int .u8 z)) := by kernel_rfl
theorem d64_eq : (Rows.laid_math_bits_deBruijn64tab : DataW Unit) = .agg (d64.map fun z => .lit (.int .u8 z)) := by kernel_rfl
theorem gl_words {W : World} {enc : TypeId × Value → Unit} {fuel g t : Nat} {spare : Nat → Bool} {held : Bool} {cs : Array Value} {p : List MemPlace} (hg : Tryz.prog.globalNamed "baggage/baggageref07.words" = some g) (ht : (Tryz.prog.globals[g]?).map (·.type) = some t)
    (hv : W.var? Tryz.prog "baggage/baggageref07.words" = some cs) (hd : DataW.trod enc Tryz.prog W 0 spare held fuel t cs.toList = some (Rows.laid_baggage_baggageref07_words, p)) : VD W (UE env0) (.ptI [.sl (wordsB.map S) false]) (.pointer (some ⟨0, 0, none⟩)) := by
  obtain rfl := Option.some.inj (g0.symm.trans hg)
  obtain rfl := Option.some.inj (gt0.symm.trans ht)
  rw [words_eq] at hd
  exact laid_strs hg UE_all Tryz.underlying101 Tryz.underlying9 (by kernel_rfl) hv hd (by decide)
theorem gl_32 {W : World} {enc : TypeId × Value → Unit} {fuel g t : Nat} {spare : Nat → Bool} {held : Bool} {cs : Array Value} {p : List MemPlace} (hg : Tryz.prog.globalNamed "math/bits.deBruijn32tab" = some g) (ht : (Tryz.prog.globals[g]?).map (·.type) = some t)
    (hv : W.var? Tryz.prog "math/bits.deBruijn32tab" = some cs) (hd : DataW.trod enc Tryz.prog W 0 spare held fuel t cs.toList = some (Rows.laid_math_bits_deBruijn32tab, p)) : VD W (UE env0) (.ptI (d32.map fun z => .lit (.int .u8 z))) (.pointer (some ⟨1, 0, none⟩)) := by
  obtain rfl := Option.some.inj (g1.symm.trans hg)
  obtain rfl := Option.some.inj (gt1.symm.trans ht)
  rw [d32_eq] at hd
  exact laid_bytes hg UE_all Tryz.underlying189 Tryz.underlying5 (by kernel_rfl) hv hd (by decide) (by decide)
theorem gl_64 {W : World} {enc : TypeId × Value → Unit} {fuel g t : Nat} {spare : Nat → Bool} {held : Bool} {cs : Array Value} {p : List MemPlace} (hg : Tryz.prog.globalNamed "math/bits.deBruijn64tab" = some g) (ht : (Tryz.prog.globals[g]?).map (·.type) = some t)
    (hv : W.var? Tryz.prog "math/bits.deBruijn64tab" = some cs) (hd : DataW.trod enc Tryz.prog W 0 spare held fuel t cs.toList = some (Rows.laid_math_bits_deBruijn64tab, p)) : VD W (UE env0) (.ptI (d64.map fun z => .lit (.int .u8 z))) (.pointer (some ⟨2, 0, none⟩)) := by
  obtain rfl := Option.some.inj (g2.symm.trans hg)
  obtain rfl := Option.some.inj (gt2.symm.trans ht)
  rw [d64_eq] at hd
  exact laid_bytes hg UE_all Tryz.underlying190 Tryz.underlying5 (by kernel_rfl) hv hd (by decide) (by decide)
def laidB : List (String × DataW Unit) := [("baggage/baggageref07.words", Rows.laid_baggage_baggageref07_words), ("math/bits.deBruijn32tab", Rows.laid_math_bits_deBruijn32tab), ("math/bits.deBruijn64tab", Rows.laid_math_bits_deBruijn64tab)]
theorem gok_of {W : World} (h0 : VD W (UE env0) (.ptI [.sl (wordsB.map S) false]) (.pointer (some ⟨0, 0, none⟩))) (h1 : VD W (UE env0) (.ptI (d32.map fun z => .lit (.int .u8 z))) (.pointer (some ⟨1, 0, none⟩)))
    (h2 : VD W (UE env0) (.ptI (d64.map fun z => .lit (.int .u8 z))) (.pointer (some ⟨2, 0, none⟩))) : GOk tab W (UE env0) := by
  intro g cs hg
  simp only [tab, tabGl, glu] at hg
  split at hg
  · rename_i e; subst e; cases hg; exact h0
  · split at hg
    · rename_i e; subst e; cases hg; exact h1
    · split at hg
      · rename_i e; subst e; cases hg; exact h2
      · cases hg
theorem gok_B {W : World} (h : laidMetH Tryz.prog laidB W) : GOk tab W (UE env0) := by
  rw [MakeChecks.laidMetH_plain _ _ _ (by kernel_rfl)] at h
  obtain ⟨ps, ⟨a0, t0, c0, f0, p0, q0, hg0, ht0, hv0, hd0, ⟨a1, t1, c1, f1, p1, q1, hg1, ht1, hv1, hd1, ⟨a2, t2, c2, f2, p2, q2, hg2, ht2, hv2, hd2, _, _⟩, _⟩, _⟩, _, _⟩ := h
  exact gok_of (gl_words hg0 ht0 hv0 hd0) (gl_32 hg1 ht1 hv1 hd1) (gl_64 hg2 ht2 hv2 hd2)
set_option maxRecDepth 100000 in
theorem door_B (os : Os) (args : Array Value) : laidMetH Tryz.prog laidB ((World.doorLaid Tryz.prog 24 os).forCall (fun _ _ => 0) ⟨#[], args, []⟩).memory :=
  laidMetH_of_parts3 (fuel := 8) (laidMet_of_run' 8 (by kernel_rfl) (by kernel_rfl)) (by kernel_rfl) (by kernel_rfl)
end Go.Proofs.YtkhjenddapaejaaGreatDoor
namespace Go.Proofs.YtkhjenddapaejaaGreatDoor
open Go Go.Sym Go.Deep Go.ChangeShapes Go.WideShapes Go.ChangeAt Go.RowKit
set_option maxRecDepth 100000 in
theorem plantLoops_lifted (os : Os) (started : os.Started) (H : Type) (enc : TypeId × Value → H) :
    ReturnsInHanded {} Tryz.checked os 5 .any (fun w args => (Rows.plantLoopsSpec.pre enc Tryz.prog Tryz.f5 [] false w args ∧ laidMetH Tryz.prog laidB w) ∧ sizedMet enc Tryz.prog Tryz.f5 (OpenSpec.ofChange Rows.plantLoopsSpec) false w args)
      (Rows.plantLoopsSpec.post enc Tryz.prog Tryz.f5 false true false false) := by
  refine returnsInHanded_of_change_and (C := Tryz.checked) (X := fun w _ => laidMetH Tryz.prog laidB w) (fun _ _ _ hh h => h.of_heap hh) Tryz.own started (by kernel_rfl) Tryz.func5
    (ChangeSpec.witness_shaped (enc := enc) (C := Tryz.checked) (os := os) (X := fun w _ => laidMetH Tryz.prog laidB w) false (World.doorLaid Tryz.prog 24 os) #[.slice none 0 0] 8 rfl (World.shaped_of_RefB (by kernel_rfl) (by kernel_rfl)) (by kernel_rfl) (by kernel_rfl) (by kernel_rfl) (door_B os _)) ?_
  intro W base args ds gs before hval0 hW _ _ hL _
  have hval : ∀ (j : Nat) t v, Tryz.f5.params[j]? = some t → args[j]? = some v → Value.okWide Tryz.prog W .any base t v := hval0
  have hW' := hW
  obtain ⟨p, q, hA0, hV, rfl, hfz, hnd⟩ := hW
  have hA : DataW.TrodAll enc Tryz.prog W 0 (fun _ => true) true Tryz.f5.params.toList args.toList ds p := hA0
  have hlt : ∀ x ∈ p, x.block < W.heap.size := fun x hx => by simpa using hW'.lt x (by simp [hx])
  rw [Tryz.params5] at hA hval
  have hk := hA
  obtain ⟨v0, vs0, d0, ds0, p0, q0, ha0, hd0, hp0, h0, hA⟩ := trodAll_cons hA
  obtain ⟨hv1, hd1, _⟩ := trodAll_nil hA
  subst hv1 hd1
  subst hd0
  obtain rfl : args = #[v0] := by cases args; simp_all
  obtain ⟨rfl, rfl⟩ := trodVars_none hV
  obtain ⟨n0, f0, g0, r0⟩ := arg_ints UE_all Tryz.underlying22 Tryz.underlying3 (by kernel_rfl) (hval 0 22 v0 rfl rfl) h0
  simp only [List.append_nil] at hW'
  refine (law_any (W := W) (vals := #[v0]) (loops_law n0 f0 g0 awake_sat) (gok_B hL) rfl ?_).mono fun e W' ⟨he, hbelow⟩ => ?_
  · intro i hi
    match i, hi with
    | 0, _ => exact r0
  subst he
  have hargs := trodAll_below Tryz.laidOut hbelow (by
    intro t ht
    simp only [Array.toList, List.mem_cons, List.not_mem_nil, or_false] at ht
    subst ht; exact ⟨by kernel_rfl, of_decide_eq_true (by kernel_rfl)⟩) hk hlt
  exact ⟨_, rfl, _, _, _, [], _, [], hW', trodAll_mk1 (shut_bool Tryz.underlying4 true), hargs, rfl, hbelow.frame _, fun h => by cases h⟩
theorem plantLoops_holds : Rows.PlantLoopsSaid :=
  OpenClaim.holds_of_wide 5 Tryz.f5 rfl rfl rfl rfl rfl rfl rfl ⟨rfl, rfl, rfl, rfl, rfl⟩ rfl rfl rfl rfl rfl (by kernel_rfl) Tryz.func5 (by kernel_rfl)
    (of_decide_eq_true (by kernel_rfl)) (by unfold Func.isWrapper; first | (rw [if_pos (by decide +kernel)]; kernel_rfl) | (rw [if_neg (by decide +kernel)]; exact ⟨rfl, rfl⟩))
    (fun os started H enc _ => plantLoops_lifted os started H enc)
theorem plantLoops_card : Rows.PlantLoopsCardSaid :=
  Claim7.holds_tied_plain_at .later [] [.data, .data, .data] true (true, "261926b1cc7e105bd5f690b8e52d7453fbbe05af0b5f8aad728093eb60b1c156") false
    plantLoops_holds (fun _ h => by cases h) (by kernel_rfl) (fun _ h => by cases h) plantLoops_row_tie rfl ⟨rfl, rfl⟩ (by kernel_rfl) rfl
    (fun f fn hf hfn => by
      obtain rfl : f = 5 := Option.some.inj ((show Tryz.prog.funcNamed "baggage/baggagelaw11.PlantLoops" = some 5 by kernel_rfl).symm.trans hf) |>.symm
      obtain rfl : fn = Tryz.f5 := (Option.some.inj (Tryz.func5.symm.trans hfn)).symm
      exact ⟨by kernel_rfl, fun j t ht => by
        rw [Tryz.params5] at ht
        have hm : t ∈ [22] := by simpa using Array.mem_of_getElem? ht
        have hall : ([22].all fun u => !Tryz.prog.wantsStandIn u) = true := by kernel_rfl
        exact (show Tryz.prog.wantsStandIn t = false by simpa using List.all_eq_true.1 hall t hm)⟩)
    (by kernel_rfl)
end Go.Proofs.YtkhjenddapaejaaGreatDoor
