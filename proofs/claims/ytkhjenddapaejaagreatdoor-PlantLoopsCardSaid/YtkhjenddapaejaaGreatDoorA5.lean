import Derived.Test.YtkhjenddapaejaaGreatDoorA4
import Derived.Shelf.Spec.SlicesInsertGrow
import Derived.Ground.Names2Prog
set_option linter.all false
set_option linter.unusedSimpArgs false
set_option linter.unusedVariables false
set_option linter.deprecated false
namespace Go.Proofs.YtkhjenddapaejaaGreatDoor
open Go Go.Sym
def wnts (xs : List Nd) (p : Pl) (cs : List Int) (fs : List T3) (n : Nat) : List Int := (List.range n).map fun i => wntP (xs.getD i default) (p.slots.getD i []) (p.bins.getD i []) (cs.getD i 0) fs i
theorem wnts_len (xs : List Nd) (p : Pl) (cs : List Int) (fs : List T3) (n : Nat) : (wnts xs p cs fs n).length = n := by simp [wnts]
theorem wnts_succ (xs : List Nd) (p : Pl) (cs : List Int) (fs : List T3) (n : Nat) : wnts xs p cs fs (n + 1) = wnts xs p cs fs n ++ [wntP (xs.getD n default) (p.slots.getD n []) (p.bins.getD n []) (cs.getD n 0) fs n] := by
  simp [wnts, List.range_succ]
theorem wnts_getD {xs : List Nd} {p : Pl} {cs : List Int} {fs : List T3} {n m : Nat} (h : m < n) : (wnts xs p cs fs n).getD m 0 = wntP (xs.getD m default) (p.slots.getD m []) (p.bins.getD m []) (cs.getD m 0) fs m := by
  simp [wnts, List.getD_eq_getElem?_getD, h]
def negs (n : Nat) : List Int := List.replicate n (-1)
theorem negs_succ (n : Nat) : negs (n + 1) = negs n ++ [-1] := by simp [negs, List.replicate_succ']
theorem negs_len (n : Nat) : (negs n).length = n := by simp [negs]
def tzR (W : List Int) : Nat → Nat → List Int → List Int
  | 0, _, lv => lv
  | f + 1, S, lv => if S = 0 then lv else tzR W f (S &&& (S - 1)) (lv.set (tz 11 S) (W.getD (tz 11 S) 0))
def arnd (x : Nd) (sl : List Int) (w l : Int) : Bool := decide (x.kd = 5) && (decide (0 ≤ w) && (decide (l < 0) && decide (sl.getD 0 0 = 0)))
def flS (xs : List Nd) (p : Pl) (W : List Int) (n : Nat) (s : List Int × List Int) : List Int × List Int :=
  let x := xs.getD n default
  let sl := p.slots.getD n []
  let ar := arnd x sl (W.getD n 0) (s.1.getD n 0)
  let lv := if ar = true then s.1.set n 0 else s.1
  let S := comN xs W n W.length
  if isStrip x.kd = false then (tzR W S S lv, s.2)
  else if S ≠ 0 ∧ openR x sl = true ∧ ar = false then (lv.set (tz 11 S) (W.getD (tz 11 S) 0), s.2.set n (tz 11 S))
  else (lv, s.2)
def flF (xs : List Nd) (p : Pl) (W ord : List Int) : Nat → List Int × List Int
  | 0 => (negs xs.length, negs xs.length)
  | c + 1 => flS xs p W (ord.getD (ord.length - 1 - c) 0).toNat (flF xs p W ord c)
def flows (xs : List Nd) (p : Pl) (W ord : List Int) : List Int × List Int := flF xs p W ord ord.length
theorem tzR_len (W : List Int) : ∀ f S lv, (tzR W f S lv).length = lv.length
  | 0, _, _ => rfl
  | f + 1, S, lv => by
    rw [tzR]
    split
    · rfl
    · rw [tzR_len W f]; simp
theorem flS_len {xs : List Nd} {p : Pl} {W : List Int} {n : Nat} {s : List Int × List Int} : (flS xs p W n s).1.length = s.1.length ∧ (flS xs p W n s).2.length = s.2.length := by
  unfold flS
  simp only
  have : (if arnd (xs.getD n default) (p.slots.getD n []) (W.getD n 0) (s.1.getD n 0) = true then s.1.set n 0 else s.1).length = s.1.length := by split <;> simp
  split
  · exact ⟨(tzR_len _ _ _ _).trans this, rfl⟩
  · split
    · exact ⟨by simpa using this, by simp⟩
    · exact ⟨this, rfl⟩
theorem flF_len {xs : List Nd} {p : Pl} {W ord : List Int} : ∀ c, (flF xs p W ord c).1.length = xs.length ∧ (flF xs p W ord c).2.length = xs.length
  | 0 => ⟨negs_len _, negs_len _⟩
  | c + 1 => by
    have := flF_len (xs := xs) (p := p) (W := W) (ord := ord) c
    rw [flF]
    exact ⟨flS_len.1.trans this.1, flS_len.2.trans this.2⟩
theorem tz_lt : ∀ {f S k : Nat}, S ≠ 0 → S < 2 ^ k → k ≤ f → tz f S < k
  | 0, S, k, h0, h, hk => by
    have : k = 0 := by omega
    subst this
    simp at h
    omega
  | f + 1, S, k, h0, h, hk => by
    have hk0 : k ≠ 0 := by rintro rfl; simp at h; omega
    obtain ⟨k', rfl⟩ : ∃ k', k = k' + 1 := ⟨k - 1, by omega⟩
    rw [tz]
    split
    · omega
    · have := tz_lt (f := f) (S := S / 2) (k := k') (by omega) (by rw [Nat.pow_succ] at h; omega) (by omega)
      omega
theorem u64_and {a b : Nat} (ha : a < 2 ^ 24) (hb : b < 2 ^ 24) : andK .u64 a b = ((a &&& b : Nat) : Int) := by
  show IntKind.u64.wrap ((BitVec.ofInt 64 (a : Int) &&& BitVec.ofInt 64 (b : Int)).toNat : Nat) = _
  rw [BitVec.toNat_and, BitVec.ofInt_natCast, BitVec.ofInt_natCast, BitVec.toNat_ofNat, BitVec.toNat_ofNat, Nat.mod_eq_of_lt (by omega), Nat.mod_eq_of_lt (by omega)]
  have : a &&& b ≤ a := Nat.and_le_left
  exact u64_nat (by omega)
theorem flows_sat (y : Ly) (p : Pl) (ord cs : List Int) (fs : List T3) (hp : FitP y.nodes p) (hN : y.nodes.length ≤ 11) (hc : cs.length = y.nodes.length) (hf : fs.length ≤ 1000)
    (hx : ∀ m, m < y.nodes.length → 0 ≤ (wnts y.nodes p cs fs y.nodes.length).getD m 0 → (wnts y.nodes p cs fs y.nodes.length).getD m 0 < (y.nodes.getD m default).ex.length)
    (hol : ord.length ≤ 1000) (hord : ∀ i, i < ord.length → 0 ≤ ord.getD i 0 ∧ ord.getD i 0 < y.nodes.length) :
    SatG Tryz.prog tab 80 [] [.ptI (plB y ord), p.av, IS cs, .sl (t3s fs) false] [] (.agg [IS (flows y.nodes p (wnts y.nodes p cs fs y.nodes.length) ord).1, IS (flows y.nodes p (wnts y.nodes p cs fs y.nodes.length) ord).2]) := by
  have hxl := hp.xl
  refine SatG_of_awp (T := tab) tab_ok Tryz.func80 rfl (by rfl) (by simp [Tryz.ntmps80]) ?_
  intro w e X hX hC
  rw [Tryz.ntmps80]
  simp only [tm0, List.zipIdx, List.map]
  iterate 3 refine uA ?_
  refine awp_nil0 301 109 4 3 1 0 (by decide) rfl rfl rfl ?_
  first | refine uS ?_ | exact uX
  refine awp_nil0 302 109 4 3 1 1 (by decide) rfl rfl rfl ?_
  first | refine uS ?_ | exact uX
  refine awp_nil0 303 110 5 3 1 0 (by decide) rfl rfl rfl ?_
  first | refine uS ?_ | exact uX
  repeat refine uA ?_
  refine uW ?_
  refine awp_loopW (fun i : Nat × Nat => ⟨[(2, IS cs), (3, .sl (t3s fs) false), (4, .ptO 104 1 0 0 0), (5, .ptO 105 2 0 0 0), (8, .ptO 108 3 0 0 0), (9, .ptO 109 4 0 0 0), (10, .ptO 110 5 0 0 0), (23, I y.nodes.length), (24, I i.2)],
    (109, some (4, .box [.slO 301 6 0 i.2, .slO 302 7 0 i.2])) :: (110, some (5, .box [.slO 303 8 0 i.2])) :: (301, some (6, .own 3 1 (ints (negs i.2)))) :: (302, some (7, .own 3 1 (ints (negs i.2)))) :: (303, some (8, .own 3 1 (ints (wnts y.nodes p cs fs i.2)))) ::
    (108, some (3, .box [.sl [] true, .sl [] true])) :: (105, some (2, .box [RS p.slots, RS p.bins])) :: (104, some (1, .box [.ptI (plB y ord)])) :: [], i.1⟩) (fun i => i.2 ≤ y.nodes.length) (fun i => y.nodes.length - i.2) (_, 0) (Nat.zero_le _) (uKF) ?_
  rintro ⟨ck, i⟩ hi
  simp only at hi
  have hnl := negs_len i
  have hwl := wnts_len y.nodes p cs fs i
  have e1 := negs_succ i
  have e2 := wnts_succ y.nodes p cs fs i
  have efi : i = y.nodes.length → wnts y.nodes p cs fs i = wnts y.nodes p cs fs y.nodes.length ∧ negs i = negs y.nodes.length := fun h => by rw [h]; exact ⟨rfl, rfl⟩
  generalize e8 : negs i = ng at *
  generalize e9 : wnts y.nodes p cs fs i = wn at *
  repeat refine uA ?_
  refine uW ?_; refine condP _ rfl (fun h => ?_) (fun h => ?_)
  · have hlt : i < y.nodes.length := by omega
    have hlc : i < cs.length := by omega
    refine uA ?_
    refine uD1 @hnl ?_; intro K hK
    refine uH ?_
    refine hK _ ?_; clear hK K
    refine uD1 (And.intro @hwl (ints_getD hlc)) ?_; intro K hK
    refine uH ?_
    refine callF uTS ((wanted_sat y p ord (cs.getD i 0) fs i hp hf hlt)) uTS uTS uTS ?_; refine uS ?_
    first | refine uS1 @hwl ?_ | exact uX1 @hwl
    refine uH ?_
    refine hK _ ?_; clear hK K
    repeat refine uA ?_
    refine ⟨(_, i + 1), by simp only; omega, by simp only; omega, .of (Nat.le_refl _) (uHF1 (And.intro @e1 @e2)) uWF⟩
  · refine awp_exit ?_
    have hi' : i = y.nodes.length := by omega
    obtain ⟨rfl, rfl⟩ := efi hi'
    subst hi'
    clear hi h e1 e2 efi hnl
    generalize e9 : wnts y.nodes p cs fs y.nodes.length = W at *
    refine awp_weak (s' := ⟨[(4, .ptO 104 1 0 0 0), (5, .ptO 105 2 0 0 0), (8, .ptO 108 3 0 0 0), (9, .ptO 109 4 0 0 0), (10, .ptO 110 5 0 0 0)],
      (109, some (4, .box [.slO 301 6 0 y.nodes.length, .slO 302 7 0 y.nodes.length])) :: (110, some (5, .box [IS W])) :: (301, some (6, .own 3 1 (ints (negs y.nodes.length)))) :: (302, some (7, .own 3 1 (ints (negs y.nodes.length)))) ::
      (108, some (3, .box [.sl [] false, .sl [] false])) :: (105, some (2, .box [RS p.slots, RS p.bins])) :: (104, some (1, .box [.ptI (plB y ord)])) :: [], _⟩) (uKF) ?_
    refine awp_seq3 ?_
    refine uR ?_; intro K hK
    refine callP uTS ((backward_sat ord)) uTS uTS uTS ?_; refine uS ?_
    refine hK _ ?_; clear hK K
    first | refine uS ?_ | exact uX
    refine awp2_backL [(109, 0, 109, 4), (301, 0, 301, 6), (302, 0, 302, 7), (110, 0, 110, 5), (105, 0, 105, 2), (104, 0, 104, 1), (108, 0, 108, 3)] (fun i => [(109, some (0, .box [.slO 301 0 0 y.nodes.length, .slO 302 0 0 y.nodes.length])), (301, some (0, .own 3 1 (ints (flF y.nodes p W ord i).1))), (302, some (0, .own 3 1 (ints (flF y.nodes p W ord i).2))), (110, some (0, .box [IS W])), (105, some (0, .box [RS p.slots, RS p.bins])), (104, some (0, .box [.ptI (plB y ord)])), (108, some (0, .box [.sl [] false, .sl [] false]))]) [(4, .ptO 104 0 0 0 0), (5, .ptO 105 0 0 0 0), (9, .ptO 109 0 0 0 0), (10, .ptO 110 0 0 0 0)] Tryz.f80 hC rfl rfl back_ok ?_ rfl (by dsimp only; decide) (fun l tm w K h => assign_one l tm w K h) ?_ ?_ ?_ ?_ ?_ ?_ ?_ ?_ ?_ rfl hX ?_ ?_; (iterate 6 (focus (first | exact trivial | rfl | omega | (simp only [go_sem, Nat.reduceAdd, Nat.reduceSub, Nat.reduceMul, Nat.reduceLT, Nat.reduceEqDiff, Nat.reduceBEq, Nat.reduceLeDiff, Int.reduceToNat, ↓reduceIte, Int.reduceEq, Int.reduceLT, Int.reduceLE, Int.reduceAdd, Int.reduceSub, Int.reduceNeg, reduceCtorEq, rnHP, rnHR, rnOP, rnOR, rnH, rnO, List.map_cons, List.map_nil, List.mem_cons, List.not_mem_nil, forall_eq_or_imp, forall_eq, and_true, List.append_nil, List.append_assoc] <;> first | trivial | rfl | (simp; done) | omega) | (simp; done)))); (focus (first | exact trivial | rfl | omega | (simp only [go_sem, Nat.reduceAdd, Nat.reduceSub, Nat.reduceMul, Nat.reduceLT, Nat.reduceEqDiff, Nat.reduceBEq, Nat.reduceLeDiff, Int.reduceToNat, ↓reduceIte, Int.reduceEq, Int.reduceLT, Int.reduceLE, Int.reduceAdd, Int.reduceSub, Int.reduceNeg, reduceCtorEq, rnHP, rnHR, rnOP, rnOR, rnH, rnO, List.map_cons, List.map_nil, List.mem_cons, List.not_mem_nil, forall_eq_or_imp, forall_eq, and_true, List.append_nil, List.append_assoc, flF] <;> first | trivial | rfl | (simp; done) | omega) | (simp; done))); (iterate 3 (focus (first | exact trivial | rfl | omega | (simp only [go_sem, Nat.reduceAdd, Nat.reduceSub, Nat.reduceMul, Nat.reduceLT, Nat.reduceEqDiff, Nat.reduceBEq, Nat.reduceLeDiff, Int.reduceToNat, ↓reduceIte, Int.reduceEq, Int.reduceLT, Int.reduceLE, Int.reduceAdd, Int.reduceSub, Int.reduceNeg, reduceCtorEq, rnHP, rnHR, rnOP, rnOR, rnH, rnO, List.map_cons, List.map_nil, List.mem_cons, List.not_mem_nil, forall_eq_or_imp, forall_eq, and_true, List.append_nil, List.append_assoc] <;> first | trivial | rfl | (simp; done) | omega) | (simp; done))))
    · clear hX hC
      intro i hi w e rd X hC
      have ho := hord (ord.length - 1 - i) (by omega)
      have e1 : flF y.nodes p W ord (i + 1) = flS y.nodes p W (ord.getD (ord.length - 1 - i) 0).toNat (flF y.nodes p W ord i) := rfl
      have hl := flF_len (xs := y.nodes) (p := p) (W := W) (ord := ord) i
      obtain ⟨n, hn⟩ : ∃ n : Nat, n = (ord.getD (ord.length - 1 - i) 0).toNat := ⟨_, rfl⟩
      have hnn : ord.getD (ord.length - 1 - i) 0 = (n : Int) := by omega
      have hnl : n < y.nodes.length := by omega
      rw [← hn] at e1
      simp only [hnn]
      clear hnn hn ho
      generalize flF y.nodes p W ord i = st at *
      generalize flF y.nodes p W ord (i + 1) = st2 at *
      obtain ⟨lv, en⟩ := st
      obtain ⟨hl1, hl2⟩ := hl
      simp only at hl1 hl2
      have hns : n < p.slots.length := by rw [hp.sl]; exact hnl
      have hnw : n < W.length := by omega
      have hnv : n < lv.length := by omega
      have hrl := hp.row n hnl
      have hln := hp.ln n hnl
      have hst := hp.st n hnl
      have hopen := open_sat y p ord n hp hnl
      have hcom := comers_sat y ord W n (by omega) hwl (fun m hm h0 => hx m hm h0)
      have hSlt := comN_lt y.nodes W n W.length
      rw [hwl] at hSlt hcom
      unfold flS at e1
      simp only [hwl] at e1
      generalize e2 : y.nodes.getD n default = x at *
      generalize e3 : p.slots.getD n [] = sl at *
      generalize e4 : W.getD n 0 = wn at *
      generalize e5 : lv.getD n 0 = ln at *
      generalize e6 : comN y.nodes W n y.nodes.length = S at *
      have hS11 : S < 2 ^ 11 := Nat.lt_of_lt_of_le hSlt (Nat.pow_le_pow_right (by omega) (by omega))
      refine uW ?_
      refine awp_merge (fun q : Nat => ⟨[(4, .ptO 104 0 0 0 0), (5, .ptO 105 0 0 0 0), (9, .ptO 109 0 0 0 0), (10, .ptO 110 0 0 0 0), (13, I n), (14, B (arnd x sl wn ln))], (109, some (0, .box [.slO 301 0 0 y.nodes.length, .slO 302 0 0 y.nodes.length])) :: (301, some (0, .own 3 1 (ints lv))) :: (302, some (0, .own 3 1 (ints en))) :: (110, some (0, .box [IS W])) :: (105, some (0, .box [RS p.slots, RS p.bins])) :: (104, some (0, .box [.ptI (plB y ord)])) :: (108, some (0, .box [.sl [] false, .sl [] false])) :: [], q⟩) (fun _ => True) ?_ ?_
      · unfold arnd
        by_cases a1 : x.kd = 5
        · have d1 : decide (x.kd = 5) = true := decide_eq_true a1
          have hl0 : 0 < sl.length := by have := hst (by rw [isStrip, a1]; rfl); omega
          by_cases a2 : 0 ≤ wn
          · have d2 : decide (0 ≤ wn) = true := decide_eq_true a2
            by_cases a3 : ln < 0
            · have d3 : decide (ln < 0) = true := decide_eq_true a3
              refine uR1 (And.intro (nds_getD hnl) (And.intro @e2 (And.intro @d1 (And.intro (ints_getD hnw) (And.intro @e4 (And.intro @d2 (And.intro (ints_getD hnv) (And.intro @e5 (And.intro @hl1 (And.intro @d3 (And.intro (rows_getD hns) (And.intro @e3 (And.intro (ints_getD hl0) @Int.toNat_zero))))))))))))) ?_; intro K hK
              refine uH ?_
              refine hK _ ?_; clear hK K
              refine ⟨_, trivial, .of (Nat.le_refl _) uHF (uWF1 (And.intro @d1 (And.intro @d2 (And.intro @d3 @Bool.true_and))))⟩
            · have d3 : decide (ln < 0) = false := decide_eq_false a3
              refine uR1 (And.intro (nds_getD hnl) (And.intro @e2 (And.intro @d1 (And.intro (ints_getD hnw) (And.intro @e4 (And.intro @d2 (And.intro (ints_getD hnv) (And.intro @e5 (And.intro @hl1 @d3))))))))) ?_; intro K hK
              refine uH ?_
              refine hK _ ?_; clear hK K
              refine ⟨_, trivial, .of (Nat.le_refl _) uHF (uWF1 (And.intro @d1 (And.intro @d2 (And.intro @d3 (And.intro @Bool.true_and @Bool.false_and)))))⟩
          · have d2 : decide (0 ≤ wn) = false := decide_eq_false a2
            refine uR1 (And.intro (nds_getD hnl) (And.intro @e2 (And.intro @d1 (And.intro (ints_getD hnw) (And.intro @e4 @d2))))) ?_; intro K hK
            refine uH ?_
            refine hK _ ?_; clear hK K
            refine ⟨_, trivial, .of (Nat.le_refl _) uHF (uWF1 (And.intro @d1 (And.intro @d2 (And.intro @Bool.true_and @Bool.false_and))))⟩
        · have d1 : decide (x.kd = 5) = false := decide_eq_false a1
          refine uR1 (And.intro (nds_getD hnl) (And.intro @e2 @d1)) ?_; intro K hK
          refine uH ?_
          refine hK _ ?_; clear hK K
          refine ⟨_, trivial, .of (Nat.le_refl _) uHF (uWF1 (And.intro @d1 @Bool.false_and))⟩
      · intro ck _
        generalize arnd x sl wn ln = ar at *
        generalize e7 : (if ar = true then lv.set n 0 else lv) = lv1 at *
        have hl3 : lv1.length = y.nodes.length := by rw [← e7]; split <;> simp [hl1]
        refine awp_seq ?_
        refine awp_merge (fun q : Nat => ⟨[(4, .ptO 104 0 0 0 0), (5, .ptO 105 0 0 0 0), (9, .ptO 109 0 0 0 0), (10, .ptO 110 0 0 0 0), (13, I n), (14, B ar)], (109, some (0, .box [.slO 301 0 0 y.nodes.length, .slO 302 0 0 y.nodes.length])) :: (301, some (0, .own 3 1 (ints lv1))) :: (302, some (0, .own 3 1 (ints en))) :: (110, some (0, .box [IS W])) :: (105, some (0, .box [RS p.slots, RS p.bins])) :: (104, some (0, .box [.ptI (plB y ord)])) :: (108, some (0, .box [.sl [] false, .sl [] false])) :: [], q⟩) (fun _ => True) ?_ ?_
        · cases ar with
          | true =>
            rw [if_pos rfl] at e7
            repeat first | refine uC ?_ | refine uA1 @hl1 ?_
            refine ⟨_, trivial, .of (Nat.le_refl _) (uHF1 @e7) uWF⟩
          | false =>
            rw [if_neg (by simp)] at e7
            repeat first | refine uC ?_ | refine uA ?_
            refine uW ?_
            refine ⟨_, trivial, .of (Nat.le_refl _) (uHF1 @e7) uWF⟩
        · intro ck _
          refine uR ?_; intro K hK
          refine callF uTS (hcom) uTS uTS uTS ?_; refine uS ?_
          refine hK _ ?_; clear hK K
          cases c1 : isStrip x.kd with
          | false =>
            rw [if_pos c1] at e1
            refine uR1 (And.intro (nds_getD hnl) @e2) ?_; intro K hK
            refine uH ?_
            refine callF uTS ((fstrip_sat x.kd)) uTS uTS uTS ?_; refine uS ?_
            first | refine uS1 @c1 ?_ | exact uX1 @c1
            refine hK _ ?_; clear hK K
            refine uT ?_
            refine uW ?_
            refine awp_loopW (fun q : Nat × Nat × List Int × Nat => ⟨[(4, .ptO 104 0 0 0 0), (5, .ptO 105 0 0 0 0), (9, .ptO 109 0 0 0 0), (10, .ptO 110 0 0 0 0), (13, I n), (15, U q.2.1)], (109, some (0, .box [.slO 301 0 0 y.nodes.length, .slO 302 0 0 y.nodes.length])) :: (301, some (0, .own 3 1 (ints q.2.2.1))) :: (302, some (0, .own 3 1 (ints en))) :: (110, some (0, .box [IS W])) :: (105, some (0, .box [RS p.slots, RS p.bins])) :: (104, some (0, .box [.ptI (plB y ord)])) :: (108, some (0, .box [.sl [] false, .sl [] false])) :: [], q.1⟩)
              (fun q => q.2.1 < 2 ^ y.nodes.length ∧ q.2.1 ≤ q.2.2.2 ∧ tzR W q.2.2.2 q.2.1 q.2.2.1 = tzR W S S lv1 ∧ q.2.2.1.length = y.nodes.length) (fun q => q.2.1) (_, S, lv1, S) ⟨hSlt, Nat.le_refl _, rfl, hl3⟩ (uKF) ?_
            rintro ⟨ck, S', lv', f⟩ ⟨g1, g2, g3, g4⟩
            simp only at g1 g2 g3 g4
            have hS' : S' < 2 ^ 11 := Nat.lt_of_lt_of_le g1 (Nat.pow_le_pow_right (by omega) (by omega))
            repeat refine uA ?_
            refine uW ?_; refine condP _ rfl (fun h => ?_) (fun h => ?_)
            · have h0 : S' ≠ 0 := by omega
              have hm := tz_lt (f := 11) h0 g1 hN
              have htz := tz_sat S' hS' h0
              obtain ⟨f', rfl⟩ : ∃ f', f = f' + 1 := ⟨f - 1, by omega⟩
              rw [tzR, if_neg h0] at g3
              generalize tz 11 S' = m at *
              have hmw : m < W.length := by omega
              have hml : m < lv'.length := by omega
              have hsub : IntKind.u64.wrap ((S' : Int) - 1) = ((S' - 1 : Nat) : Int) := by
                have := u64_nat (a := S' - 1) (by omega)
                rw [← this]; congr 1; omega
              have hand := u64_and (a := S') (b := S' - 1) (by omega) (by omega)
              refine uR ?_; intro K hK
              refine callF uTS (htz) uTS uTS uTS ?_; refine uS ?_
              refine hK _ ?_; clear hK K
              refine uD1 (And.intro (ints_getD hmw) (And.intro (ints_getD hml) @g4)) ?_; intro K hK
              refine uH ?_
              refine hK _ ?_; clear hK K
              repeat refine uA1 (And.intro @hsub @hand) ?_
              have hle : S' &&& (S' - 1) ≤ S' - 1 := Nat.and_le_right
              refine ⟨(_, S' &&& (S' - 1), lv'.set m (W.getD m 0), f'), ⟨by simp only; omega, by simp only; omega, g3, by simp only [List.length_set]; exact g4⟩, by simp only; omega, uKF⟩
            · refine awp_exit ?_
              have h0 : S' = 0 := by omega
              subst h0
              have e8 : lv' = tzR W S S lv1 := by
                rw [← g3]
                cases f with
                | zero => rfl
                | succ f => rw [tzR, if_pos rfl]
              rw [← e8] at e1
              refine qrnd_of [(109, 0, 109, 0), (301, 0, 301, 0), (302, 0, 302, 0), (110, 0, 110, 0), (105, 0, 105, 0), (104, 0, 104, 0), (108, 0, 108, 0)] ?_ ?_ ?_ ?_ ?_ ?_; (iterate 5 (focus (first | exact trivial | rfl | exact fun _ _ => rfl | (simp only [go_sem, Nat.reduceAdd, Nat.reduceSub, Nat.reduceMul, Nat.reduceLT, Nat.reduceEqDiff, Nat.reduceBEq, Nat.reduceLeDiff, Int.reduceToNat, ↓reduceIte, Int.reduceEq, Int.reduceLT, Int.reduceLE, Int.reduceAdd, Int.reduceSub, Int.reduceNeg, reduceCtorEq, rnHP, rnHR, rnOP, rnOR, rnH, rnO, List.map_cons, List.map_nil, List.mem_cons, List.not_mem_nil, forall_eq_or_imp, forall_eq, and_true, List.append_nil, List.append_assoc, e1] <;> first | trivial | rfl | (simp; done) | omega) | (simp; done)))); (simp only [go_sem, Nat.reduceAdd, Nat.reduceSub, Nat.reduceMul, Nat.reduceLT, Nat.reduceEqDiff, Nat.reduceBEq, Nat.reduceLeDiff, Int.reduceToNat, ↓reduceIte, Int.reduceEq, Int.reduceLT, Int.reduceLE, Int.reduceAdd, Int.reduceSub, Int.reduceNeg, reduceCtorEq, rnHP, rnHR, rnOP, rnOR, rnH, rnO, List.map_cons, List.map_nil, List.mem_cons, List.not_mem_nil, forall_eq_or_imp, forall_eq, and_true, List.append_nil, List.append_assoc, e1])
          | true =>
            rw [if_neg (by simp [c1])] at e1
            refine uR1 (And.intro (nds_getD hnl) @e2) ?_; intro K hK
            refine uH ?_
            refine callF uTS ((fstrip_sat x.kd)) uTS uTS uTS ?_; refine uS ?_
            first | refine uS1 @c1 ?_ | exact uX1 @c1
            refine hK _ ?_; clear hK K
            refine uF ?_
            by_cases s1 : S = 0
            · have d1 : decide (¬ (S : Int) = 0) = false := decide_eq_false (by omega)
              rw [if_neg (fun h => h.1 s1)] at e1
              refine uR1 @d1 ?_; intro K hK
              refine uH ?_
              refine hK _ ?_; clear hK K
              refine uF ?_
              refine uW ?_
              refine qrnd_of [(109, 0, 109, 0), (301, 0, 301, 0), (302, 0, 302, 0), (110, 0, 110, 0), (105, 0, 105, 0), (104, 0, 104, 0), (108, 0, 108, 0)] ?_ ?_ ?_ ?_ ?_ ?_; (iterate 5 (focus (first | exact trivial | rfl | exact fun _ _ => rfl | (simp only [go_sem, Nat.reduceAdd, Nat.reduceSub, Nat.reduceMul, Nat.reduceLT, Nat.reduceEqDiff, Nat.reduceBEq, Nat.reduceLeDiff, Int.reduceToNat, ↓reduceIte, Int.reduceEq, Int.reduceLT, Int.reduceLE, Int.reduceAdd, Int.reduceSub, Int.reduceNeg, reduceCtorEq, rnHP, rnHR, rnOP, rnOR, rnH, rnO, List.map_cons, List.map_nil, List.mem_cons, List.not_mem_nil, forall_eq_or_imp, forall_eq, and_true, List.append_nil, List.append_assoc, e1] <;> first | trivial | rfl | (simp; done) | omega) | (simp; done)))); (simp only [go_sem, Nat.reduceAdd, Nat.reduceSub, Nat.reduceMul, Nat.reduceLT, Nat.reduceEqDiff, Nat.reduceBEq, Nat.reduceLeDiff, Int.reduceToNat, ↓reduceIte, Int.reduceEq, Int.reduceLT, Int.reduceLE, Int.reduceAdd, Int.reduceSub, Int.reduceNeg, reduceCtorEq, rnHP, rnHR, rnOP, rnOR, rnH, rnO, List.map_cons, List.map_nil, List.mem_cons, List.not_mem_nil, forall_eq_or_imp, forall_eq, and_true, List.append_nil, List.append_assoc, e1])
            · have d1 : decide (¬ (S : Int) = 0) = true := decide_eq_true (by omega)
              cases s2 : openR x sl with
              | false =>
                rw [if_neg (fun h => by rw [s2] at h; cases h.2.1)] at e1
                rw [s2] at hopen
                refine uR1 @d1 ?_; intro K hK
                refine uH ?_
                refine callF uTS (hopen) uTS uTS uTS ?_; refine uS ?_
                refine uH ?_
                refine hK _ ?_; clear hK K
                refine uF ?_
                refine uW ?_
                refine qrnd_of [(109, 0, 109, 0), (301, 0, 301, 0), (302, 0, 302, 0), (110, 0, 110, 0), (105, 0, 105, 0), (104, 0, 104, 0), (108, 0, 108, 0)] ?_ ?_ ?_ ?_ ?_ ?_; (iterate 5 (focus (first | exact trivial | rfl | exact fun _ _ => rfl | (simp only [go_sem, Nat.reduceAdd, Nat.reduceSub, Nat.reduceMul, Nat.reduceLT, Nat.reduceEqDiff, Nat.reduceBEq, Nat.reduceLeDiff, Int.reduceToNat, ↓reduceIte, Int.reduceEq, Int.reduceLT, Int.reduceLE, Int.reduceAdd, Int.reduceSub, Int.reduceNeg, reduceCtorEq, rnHP, rnHR, rnOP, rnOR, rnH, rnO, List.map_cons, List.map_nil, List.mem_cons, List.not_mem_nil, forall_eq_or_imp, forall_eq, and_true, List.append_nil, List.append_assoc, e1] <;> first | trivial | rfl | (simp; done) | omega) | (simp; done)))); (simp only [go_sem, Nat.reduceAdd, Nat.reduceSub, Nat.reduceMul, Nat.reduceLT, Nat.reduceEqDiff, Nat.reduceBEq, Nat.reduceLeDiff, Int.reduceToNat, ↓reduceIte, Int.reduceEq, Int.reduceLT, Int.reduceLE, Int.reduceAdd, Int.reduceSub, Int.reduceNeg, reduceCtorEq, rnHP, rnHR, rnOP, rnOR, rnH, rnO, List.map_cons, List.map_nil, List.mem_cons, List.not_mem_nil, forall_eq_or_imp, forall_eq, and_true, List.append_nil, List.append_assoc, e1])
              | true =>
                rw [s2] at hopen
                cases ar with
                | true =>
                  rw [if_neg (fun h => by cases h.2.2)] at e1
                  refine uR1 @d1 ?_; intro K hK
                  refine uH ?_
                  refine callF uTS (hopen) uTS uTS uTS ?_; refine uS ?_
                  refine uH ?_
                  refine hK _ ?_; clear hK K
                  refine uF ?_
                  refine uW ?_
                  refine qrnd_of [(109, 0, 109, 0), (301, 0, 301, 0), (302, 0, 302, 0), (110, 0, 110, 0), (105, 0, 105, 0), (104, 0, 104, 0), (108, 0, 108, 0)] ?_ ?_ ?_ ?_ ?_ ?_; (iterate 5 (focus (first | exact trivial | rfl | exact fun _ _ => rfl | (simp only [go_sem, Nat.reduceAdd, Nat.reduceSub, Nat.reduceMul, Nat.reduceLT, Nat.reduceEqDiff, Nat.reduceBEq, Nat.reduceLeDiff, Int.reduceToNat, ↓reduceIte, Int.reduceEq, Int.reduceLT, Int.reduceLE, Int.reduceAdd, Int.reduceSub, Int.reduceNeg, reduceCtorEq, rnHP, rnHR, rnOP, rnOR, rnH, rnO, List.map_cons, List.map_nil, List.mem_cons, List.not_mem_nil, forall_eq_or_imp, forall_eq, and_true, List.append_nil, List.append_assoc, e1] <;> first | trivial | rfl | (simp; done) | omega) | (simp; done)))); (simp only [go_sem, Nat.reduceAdd, Nat.reduceSub, Nat.reduceMul, Nat.reduceLT, Nat.reduceEqDiff, Nat.reduceBEq, Nat.reduceLeDiff, Int.reduceToNat, ↓reduceIte, Int.reduceEq, Int.reduceLT, Int.reduceLE, Int.reduceAdd, Int.reduceSub, Int.reduceNeg, reduceCtorEq, rnHP, rnHR, rnOP, rnOR, rnH, rnO, List.map_cons, List.map_nil, List.mem_cons, List.not_mem_nil, forall_eq_or_imp, forall_eq, and_true, List.append_nil, List.append_assoc, e1])
                | false =>
                  rw [if_pos ⟨s1, s2, rfl⟩] at e1
                  have hm := tz_lt (f := 11) s1 hSlt hN
                  have htz := tz_sat S hS11 s1
                  generalize tz 11 S = m at *
                  have hmw : m < W.length := by omega
                  have hml : m < lv1.length := by omega
                  refine uR1 @d1 ?_; intro K hK
                  refine uH ?_
                  refine callF uTS (hopen) uTS uTS uTS ?_; refine uS ?_
                  refine uH ?_
                  refine hK _ ?_; clear hK K
                  refine uT ?_
                  refine uR ?_; intro K hK
                  refine callF uTS (htz) uTS uTS uTS ?_; refine uS ?_
                  refine hK _ ?_; clear hK K
                  refine uD1 (And.intro (ints_getD hmw) (And.intro (ints_getD hml) (And.intro @hl3 @hl2))) ?_; intro K hK
                  refine uH ?_
                  refine hK _ ?_; clear hK K
                  refine uW ?_
                  refine qrnd_of [(109, 0, 109, 0), (301, 0, 301, 0), (302, 0, 302, 0), (110, 0, 110, 0), (105, 0, 105, 0), (104, 0, 104, 0), (108, 0, 108, 0)] ?_ ?_ ?_ ?_ ?_ ?_; (iterate 5 (focus (first | exact trivial | rfl | exact fun _ _ => rfl | (simp only [go_sem, Nat.reduceAdd, Nat.reduceSub, Nat.reduceMul, Nat.reduceLT, Nat.reduceEqDiff, Nat.reduceBEq, Nat.reduceLeDiff, Int.reduceToNat, ↓reduceIte, Int.reduceEq, Int.reduceLT, Int.reduceLE, Int.reduceAdd, Int.reduceSub, Int.reduceNeg, reduceCtorEq, rnHP, rnHR, rnOP, rnOR, rnH, rnO, List.map_cons, List.map_nil, List.mem_cons, List.not_mem_nil, forall_eq_or_imp, forall_eq, and_true, List.append_nil, List.append_assoc, e1] <;> first | trivial | rfl | (simp; done) | omega) | (simp; done)))); (simp only [go_sem, Nat.reduceAdd, Nat.reduceSub, Nat.reduceMul, Nat.reduceLT, Nat.reduceEqDiff, Nat.reduceBEq, Nat.reduceLeDiff, Int.reduceToNat, ↓reduceIte, Int.reduceEq, Int.reduceLT, Int.reduceLE, Int.reduceAdd, Int.reduceSub, Int.reduceNeg, reduceCtorEq, rnHP, rnHR, rnOP, rnOR, rnH, rnO, List.map_cons, List.map_nil, List.mem_cons, List.not_mem_nil, forall_eq_or_imp, forall_eq, and_true, List.append_nil, List.append_assoc, e1])
    · clear hX hC
      intro w e df X hC
      have hfl := flF_len (xs := y.nodes) (p := p) (W := W) (ord := ord) ord.length
      simp only [go_sem, Nat.reduceAdd, Nat.reduceSub, Nat.reduceMul, Nat.reduceLT, Nat.reduceEqDiff, Nat.reduceBEq, Nat.reduceLeDiff, Int.reduceToNat, ↓reduceIte, Int.reduceEq, Int.reduceLT, Int.reduceLE, Int.reduceAdd, Int.reduceSub, Int.reduceNeg, reduceCtorEq, rnHP, rnHR, rnOP, rnOR, rnH, rnO, List.map_cons, List.map_nil, List.mem_cons, List.not_mem_nil, forall_eq_or_imp, forall_eq, and_true, List.append_nil, List.append_assoc]
      repeat refine uA ?_
      refine awp_ret ?_; rw [show Tryz.f80.results.toList = [.cell 8 87] from rfl]; first | refine uRN1 (And.intro @hfl.1 @hfl.2) ?_ | exact uRM1 (And.intro @hfl.1 @hfl.2)
      rfl
end Go.Proofs.YtkhjenddapaejaaGreatDoor
namespace Go.Proofs.YtkhjenddapaejaaGreatDoor
open Go Go.Sym
theorem deep_sat (l : List (List Int)) (hl : l.length ≤ 1000) (h3 : ∀ i, i < l.length → (l.getD i []).length ≤ 1000) : SatG Tryz.prog tab 112 [] [RS l] [(100, some (1, .own 22 1 (krows 3 l)))] (.slO 100 1 0 l.length) := by
  refine uFN Tryz.func112 Tryz.ntmps112 ?_; intro w e X hC
  repeat refine uA ?_
  refine uW ?_
  refine awp_loopW (fun i : Nat × Nat × Nat => ⟨[(3, .slO 103 i.2.2 0 i.2.1), (6, RS l), (7, I l.length), (8, I i.2.1)], (103, some (i.2.2, .own 22 1 (krows 3 (l.take i.2.1)))) :: [], i.1⟩) (fun i => i.2.1 ≤ l.length) (fun i => l.length - i.2.1) (_, 0, _) (Nat.zero_le _) (.of (Nat.le_refl _) uHF uWF) ?_
  rintro ⟨ck, i, g⟩ hi
  simp only at hi
  repeat refine uA ?_
  refine uW ?_; refine condP _ rfl (fun h => ?_) (fun h => ?_)
  · have hlt : i < l.length := by omega
    have e1 := take_getD (d := []) hlt
    have hrl := h3 i hlt
    have htl : (l.take i).length = i := by simp; omega
    generalize e2 : l.getD i [] = r at *
    generalize l.take i = o at *
    repeat refine uA1 (And.intro (rows_getD hlt) (And.intro @e2 @htl)) ?_
    refine ⟨(_, i + 1, g), by simp only; omega, by simp only; omega, .of (Nat.le_refl _) (uHF1 @e1) uWF⟩
  · refine awp_exit ?_
    have hi' : i = l.length := by omega
    subst hi'
    simp only [List.take_length]
    repeat refine uA ?_
    refine awp_ret ?_; rw [show Tryz.f112.results.toList = [.tmp 2] from rfl]; (refine retG [(100, 1, 103, g)] (by simp only [go_sem, Nat.reduceAdd, Nat.reduceSub, Nat.reduceMul, Nat.reduceLT, Nat.reduceEqDiff, Nat.reduceBEq, Nat.reduceLeDiff, Int.reduceToNat, ↓reduceIte, Int.reduceEq, Int.reduceLT, Int.reduceLE, Int.reduceAdd, Int.reduceSub, Int.reduceNeg, reduceCtorEq, retAV, resV] <;> trivial) (by simp) (by simp) (by simp) uTG uTG uTG ?_ ?_; all_goals (first | refine uSG ?_ | exact uXG | skip))
theorem clone69_sat (p : Pl) (h1 : p.slots.length ≤ 1000) (h2 : p.bins.length ≤ 1000) (h3 : ∀ i, i < p.slots.length → (p.slots.getD i []).length ≤ 1000) (h4 : ∀ i, i < p.bins.length → (p.bins.getD i []).length ≤ 1000) :
    SatG Tryz.prog tab 69 [] [p.av] (plH p) (plO p) := by
  refine uFN Tryz.func69 Tryz.ntmps69 ?_; intro w e X hC
  repeat refine uA ?_
  refine uD ?_; intro K hK
  refine callE [] [(105, 5, 100, 1)] false ((deep_sat p.slots h1 h3)) uTR uTR uTE uTE uTE uTE uTE uTE uTE uTE uTE uTE uTE uTE uTE uTE uTE ?_; refine uQS ?_
  refine callE [] [(108, 8, 100, 1)] false ((deep_sat p.bins h2 h4)) uTR uTR uTE uTE uTE uTE uTE uTE uTE uTE uTE uTE uTE uTE uTE uTE uTE ?_; refine uQS ?_
  refine uH ?_
  refine hK _ ?_; clear hK K
  refine awp_ret ?_; rw [show Tryz.f69.results.toList = [.cell 2 34] from rfl]; (refine retG [(100, 1, 105, 5), (101, 1, 108, 8)] (by simp only [go_sem, Nat.reduceAdd, Nat.reduceSub, Nat.reduceMul, Nat.reduceLT, Nat.reduceEqDiff, Nat.reduceBEq, Nat.reduceLeDiff, Int.reduceToNat, ↓reduceIte, Int.reduceEq, Int.reduceLT, Int.reduceLE, Int.reduceAdd, Int.reduceSub, Int.reduceNeg, reduceCtorEq, retAV, resV] <;> trivial) (by simp) (by simp) (by simp) uTG uTG uTG ?_ ?_; all_goals (first | refine uSG ?_ | exact uXG | skip))
theorem step1_sat (b y : Int) : SatG Tryz.prog tab 84 [] [I y, .ptI [I b]] [] (B (decide (y = b))) := by
  refine uFN Tryz.func84 Tryz.ntmps84 ?_; intro w e X hC
  repeat refine uA ?_
  (refine awp_ret (ret1 uRT ?_); try rfl)
theorem step2_sat (m : T3) : SatG Tryz.prog tab 87 [] [m.av] [] (B (decide (m.b = m.c))) := by
  refine uFN Tryz.func87 Tryz.ntmps87 ?_; intro w e X hC
  repeat refine uA ?_
  (refine awp_ret (ret1 uRT ?_); try rfl)
end Go.Proofs.YtkhjenddapaejaaGreatDoor
namespace Go.Proofs.YtkhjenddapaejaaGreatDoor
open Go Go.Sym
open Go.Plant
theorem eadvance_sat (y : Ly) (p : Pl) (ord : List Int) (fs : List T3) (n : Nat) (op : Bool) (hp : FitP y.nodes p) (hf : FitF y.nodes fs) (hn : n < y.nodes.length) (h0 : 0 < (p.slots.getD n []).length) :
    SatG Tryz.prog tab 82 [] [.ptI (plB y ord), p.av, I n, .sl (t3s fs) false, B op] [(100, some (1, .own 3 1 (ints (advL (p.slots.getD n []) (atF fs n (y.nodes.getD n default).ln.toNat) op).1)))]
      (.tup [.slO 100 1 0 (p.slots.getD n []).length, I (advL (p.slots.getD n []) (atF fs n (y.nodes.getD n default).ln.toNat) op).2]) := by
  have hxl := hp.xl
  have hns : n < p.slots.length := by rw [hp.sl]; exact hn
  have hrl := hp.row n hn
  have hln := hp.ln n hn
  have hfl := hf.len
  have hfo := fun i hi => hf.ok i hi n hn
  generalize e2 : y.nodes.getD n default = x at *
  generalize e3 : p.slots.getD n [] = sl at *
  obtain ⟨q, hq⟩ : ∃ q : Nat, q = x.ln.toNat := ⟨_, rfl⟩
  have hqq : x.ln = (q : Int) := by omega
  rw [← hq]
  refine uFN Tryz.func82 Tryz.ntmps82 ?_; intro w e X hC
  repeat refine uA1 (And.intro (nds_getD hn) (And.intro @e2 @hqq)) ?_
  refine uW ?_
  refine awp_loopW (fun i : Nat × Nat × Nat => ⟨[(0, .ptI (plB y ord)), (2, I n), (4, B op), (6, .ptO 106 1 0 0 0), (12, .slO 124 i.2.2 0 q), (25, .sl (t3s fs) false), (26, I fs.length), (27, I i.2.1)], (124, some (i.2.2, .own 3 1 (ints (atL fs n q i.2.1)))) :: (106, some (1, .box [RS p.slots, RS p.bins])) :: [], i.1⟩) (fun i => i.2.1 ≤ fs.length) (fun i => fs.length - i.2.1) (_, 0, _) (Nat.zero_le _) (.of (Nat.le_refl _) (by repeat first | exact HOk.nil | refine uHN ?_ | (refine HOk.cons ?_ ?_; (focus (simp only [go_sem, Nat.reduceAdd, Nat.reduceSub, Nat.reduceMul, Nat.reduceLT, Nat.reduceEqDiff, Nat.reduceBEq, Nat.reduceLeDiff, Int.reduceToNat, ↓reduceIte, Int.reduceEq, Int.reduceLT, Int.reduceLE, Int.reduceAdd, Int.reduceSub, Int.reduceNeg, reduceCtorEq, atL, Int.toNat_natCast]; done)))) (by repeat first | exact WOk.nil | refine uWN ?_ | (refine WOk.cons ?_ ?_; (focus (simp only [go_sem, Nat.reduceAdd, Nat.reduceSub, Nat.reduceMul, Nat.reduceLT, Nat.reduceEqDiff, Nat.reduceBEq, Nat.reduceLeDiff, Int.reduceToNat, ↓reduceIte, Int.reduceEq, Int.reduceLT, Int.reduceLE, Int.reduceAdd, Int.reduceSub, Int.reduceNeg, reduceCtorEq, Int.toNat_natCast]; done))))) ?_
  rintro ⟨ck, i, g⟩ hi
  simp only at hi
  have hal := atL_length fs n q i
  have e1 : atL fs n q (i + 1) = atS fs n i (atL fs n q i) := rfl
  have e9 : atF fs n q = atL fs n q fs.length := rfl
  have efin : i = fs.length → atL fs n q i = atF fs n q := fun h => by subst h; rfl
  generalize atL fs n q i = o at *
  repeat refine uA ?_
  refine uW ?_; refine condP _ rfl (fun h => ?_) (fun h => ?_)
  · have hlt : i < fs.length := by omega
    have hfi := hfo i hlt
    unfold atS at e1
    generalize e5 : fs.getD i default = f at *
    refine uA1 (And.intro (t3s_getD hlt) @e5) ?_
    by_cases c1 : f.b = n
    · have d1 : decide (f.b = (n : Int)) = true := decide_eq_true c1
      obtain ⟨c2, c3⟩ := hfi c1
      rw [if_pos c1] at e1
      obtain ⟨k, hk⟩ : ∃ k : Nat, k = f.c.toNat := ⟨_, rfl⟩
      have hkk : f.c = (k : Int) := by omega
      rw [← hk] at e1
      have hkl : k < o.length := by omega
      repeat first | refine uC ?_ | refine uA1 (And.intro @d1 (And.intro @hkk @hal)) ?_
      refine ⟨(_, i + 1, g), by simp only; omega, by simp only; omega, .of (Nat.le_refl _) (uHF1 @e1) uWF⟩
    · have d1 : decide (f.b = (n : Int)) = false := decide_eq_false c1
      rw [if_neg c1] at e1
      repeat first | refine uC ?_ | refine uA1 @d1 ?_
      refine ⟨(_, i + 1, g), by simp only; omega, by simp only; omega, .of (Nat.le_refl _) (uHF1 @e1) uWF⟩
  · refine awp_exit ?_
    have e6 := efin (by omega)
    subst e6
    refine uR1 (And.intro (rows_getD hns) @e3) ?_; intro K hK
    refine ⟨by omega, ?_⟩
    refine callE [] [(149, ck+8, 100, 1)] true ((sadvance_sat sl (atF fs n q) op h0 (by omega) (by omega))) uTR uTR uTE uTE uTE uTE uTE uTE uTE uTE uTE uTE uTE uTE uTE uTE uTE ?_; refine uQS ?_
    refine hK _ ?_; clear hK K
    refine awp_ret ?_; rw [show Tryz.f82.results.toList = [.tmp 10, .tmp 11] from rfl]; (refine retG [(100, 1, 149, ck+8)] (by simp only [go_sem, Nat.reduceAdd, Nat.reduceSub, Nat.reduceMul, Nat.reduceLT, Nat.reduceEqDiff, Nat.reduceBEq, Nat.reduceLeDiff, Int.reduceToNat, ↓reduceIte, Int.reduceEq, Int.reduceLT, Int.reduceLE, Int.reduceAdd, Int.reduceSub, Int.reduceNeg, reduceCtorEq, retAV, resV] <;> trivial) (by simp) (by simp) (by simp) uTG uTG uTG ?_ ?_; all_goals (first | refine uSG ?_ | exact uXG | skip))
end Go.Proofs.YtkhjenddapaejaaGreatDoor
namespace Go.Proofs.YtkhjenddapaejaaGreatDoor
open Go Go.Sym
theorem idxR_cases {α : Type} (p : α → Bool) (l : List α) (d : α) : (idxR p l = -1 ∧ l.filter (fun y => !p y) = l) ∨
    ∃ i : Nat, idxR p l = i ∧ i < l.length ∧ (l.take (i + 1)).filter (fun y => !p y) = l.take i := by
  unfold idxR
  cases h : l.findIdx? p with
  | none =>
    refine .inl ⟨rfl, ?_⟩
    rw [List.findIdx?_eq_none_iff] at h
    rw [List.filter_eq_self]
    intro a ha
    simp [h a ha]
  | some i =>
    rw [List.findIdx?_eq_some_iff_getElem] at h
    obtain ⟨hi, h1, h2⟩ := h
    refine .inr ⟨i, rfl, hi, ?_⟩
    rw [List.take_add_one, List.filter_append, List.getElem?_eq_getElem hi]
    simp only [Option.toList_some, List.filter_cons, h1, Bool.not_true, Bool.false_eq_true, if_false, List.filter_nil, List.append_nil]
    rw [List.filter_eq_self]
    intro a ha
    obtain ⟨j, hj, rfl⟩ := List.getElem_of_mem ha
    simp only [List.length_take] at hj
    have := h2 j (by omega)
    simpa using this
theorem filter_take1 {α : Type} {q : α → Bool} {l : List α} {j : Nat} {d : α} (h : j < l.length) : (l.take (j + 1)).filter q = (l.take j).filter q ++ if q (l.getD j d) = true then [l.getD j d] else [] := by
  rw [List.take_add_one, List.filter_append, List.getElem?_eq_getElem h]
  have : l.getD j d = l[j] := by simp [h]
  rw [this]
  simp only [Option.toList_some, List.filter_cons, List.filter_nil]
theorem set_take1 {α : Type} {o : List α} {i : Nat} {x : α} (h : i < o.length) : (o.set i x).take (i + 1) = o.take i ++ [x] := by
  rw [List.take_add_one, List.take_set_of_le (Nat.le_refl _)]
  simp [h]
theorem getD_set_ne' {α : Type} {o : List α} {i k : Nat} {x d : α} (h : i ≠ k) : (o.set i x).getD k d = o.getD k d := by
  simp only [List.getD_eq_getElem?_getD]
  rw [List.getElem?_set_ne h]
theorem delI_sat (l : List Int) (k : Nat) (cs : List AV) (p : Int → Bool) (hl : l.length ≤ 1000) (hk : ∀ y ∈ l, SatG Tryz.prog tab k [] [I y, .ptI cs] [] (B (p y))) :
    SatG Tryz.prog tab 83 [(0, some (0, .own 3 1 (ints l)))] [.slO 0 0 0 l.length, .fn k [.ptI cs]] [(100, some (1, .own 3 1 (ints (l.filter fun y => !p y))))] (.slO 100 1 0 (l.filter fun y => !p y).length) := by
  refine uFN Tryz.func83 Tryz.ntmps83 ?_; intro w e X hC
  refine uA ?_
  refine uR ?_; intro K hK
  refine callF (rc := I (idxR p l)) ?_ ?_ ?_ ?_ ?_ ?_; (focus (first | exact trivial | (simp only [go_sem, Nat.reduceAdd, Nat.reduceSub, Nat.reduceMul, Nat.reduceLT, Nat.reduceEqDiff, Nat.reduceBEq, Nat.reduceLeDiff, Int.reduceToNat, ↓reduceIte, Int.reduceEq, Int.reduceLT, Int.reduceLE, Int.reduceAdd, Int.reduceSub, Int.reduceNeg, reduceCtorEq, ] <;> trivial))); (focus (simp only [go_sem, Nat.reduceAdd, Nat.reduceSub, Nat.reduceMul, Nat.reduceLT, Nat.reduceEqDiff, Nat.reduceBEq, Nat.reduceLeDiff, Int.reduceToNat, ↓reduceIte, Int.reduceEq, Int.reduceLT, Int.reduceLE, Int.reduceAdd, Int.reduceSub, Int.reduceNeg, reduceCtorEq, ]; exact (ixfI_sat l k cs p hl hk))); (focus (first | exact trivial | (simp only [go_sem, Nat.reduceAdd, Nat.reduceSub, Nat.reduceMul, Nat.reduceLT, Nat.reduceEqDiff, Nat.reduceBEq, Nat.reduceLeDiff, Int.reduceToNat, ↓reduceIte, Int.reduceEq, Int.reduceLT, Int.reduceLE, Int.reduceAdd, Int.reduceSub, Int.reduceNeg, reduceCtorEq, ] <;> trivial))); (focus (first | exact trivial | (simp only [go_sem, Nat.reduceAdd, Nat.reduceSub, Nat.reduceMul, Nat.reduceLT, Nat.reduceEqDiff, Nat.reduceBEq, Nat.reduceLeDiff, Int.reduceToNat, ↓reduceIte, Int.reduceEq, Int.reduceLT, Int.reduceLE, Int.reduceAdd, Int.reduceSub, Int.reduceNeg, reduceCtorEq, ] <;> trivial))); (focus (first | exact trivial | (simp only [go_sem, Nat.reduceAdd, Nat.reduceSub, Nat.reduceMul, Nat.reduceLT, Nat.reduceEqDiff, Nat.reduceBEq, Nat.reduceLeDiff, Int.reduceToNat, ↓reduceIte, Int.reduceEq, Int.reduceLT, Int.reduceLE, Int.reduceAdd, Int.reduceSub, Int.reduceNeg, reduceCtorEq, ] <;> trivial))); first | refine uS ?_ | exact uX
  refine hK _ ?_; clear hK K
  rcases idxR_cases p l 0 with ⟨e1, e2⟩ | ⟨i0, e1, h1, e2⟩
  · rw [e1, e2]
    repeat first | refine uC ?_ | refine uA ?_
    refine awp_ret ?_; rw [show Tryz.f83.results.toList = [.tmp 4] from rfl]; (refine retG [(100, 1, 0, 0)] (by simp only [go_sem, Nat.reduceAdd, Nat.reduceSub, Nat.reduceMul, Nat.reduceLT, Nat.reduceEqDiff, Nat.reduceBEq, Nat.reduceLeDiff, Int.reduceToNat, ↓reduceIte, Int.reduceEq, Int.reduceLT, Int.reduceLE, Int.reduceAdd, Int.reduceSub, Int.reduceNeg, reduceCtorEq, retAV, resV] <;> trivial) (by simp) (by simp) (by simp) uTG uTG uTG ?_ ?_; all_goals (first | refine uSG ?_ | exact uXG | skip))
  rw [e1]
  repeat first | refine uC ?_ | refine uA ?_
  refine uW ?_
  refine awp_loopW (fun i : Nat × Nat × Nat × List Int => ⟨[(0, .slO 0 0 0 l.length), (1, .fn k [.ptI cs]), (5, I i.2.2.1), (6, I i.2.1)], (0, some (0, .own 3 1 (ints i.2.2.2))) :: [], i.1⟩) (fun i => i.2.1 ≤ l.length ∧ i.2.2.1 < i.2.1 ∧ i.2.2.2.length = l.length ∧ i.2.2.2.take i.2.2.1 = (l.take i.2.1).filter (fun y => !p y) ∧ ∀ k, i.2.1 ≤ k → i.2.2.2.getD k 0 = l.getD k 0) (fun i => l.length - i.2.1) (_, i0 + 1, i0, l) ⟨by simp only; omega, by simp only; omega, rfl, e2.symm, fun _ _ => rfl⟩ (uKF) ?_
  rintro ⟨ck, j, i, o⟩ ⟨hi, hij, hol, he, ho⟩
  simp only at hi hij hol he ho
  repeat refine uA ?_
  refine uW ?_; refine condP _ rfl (fun h => ?_) (fun h => ?_)
  · have hlt : j < l.length := by omega
    have e3 := filter_take1 (q := fun y => !p y) (d := 0) hlt
    have hj := ho j (Nat.le_refl _)
    have hsat := hk (l.getD j 0) (mem_getD hlt)
    generalize e4 : l.getD j 0 = x at *
    have hjo : j < o.length := by omega
    cases c1 : p x with
    | true =>
      rw [c1] at hsat
      simp only [c1, Bool.not_true, Bool.false_eq_true, if_false, List.append_nil] at e3
      repeat first | refine uC ?_ | refine uA1 (And.intro (ints_getD hjo) (And.intro @hj @hol)) ?_
      refine uR ?_; intro K hK
      refine callF uTS (hsat) uTS uTS uTS ?_; refine uS ?_
      refine hK _ ?_; clear hK K
      refine uF ?_
      repeat refine uA ?_
      refine ⟨(_, j + 1, i, o), ⟨by simp only; omega, by simp only; omega, hol, by simp only [e3]; exact he, fun k h => ho k (by simp only at h; omega)⟩, by simp only; omega, uKF⟩
    | false =>
      rw [c1] at hsat
      simp only [c1, Bool.not_false, if_true] at e3
      repeat first | refine uC ?_ | refine uA1 (And.intro (ints_getD hjo) (And.intro @hj @hol)) ?_
      refine uR ?_; intro K hK
      refine callF uTS (hsat) uTS uTS uTS ?_; refine uS ?_
      refine hK _ ?_; clear hK K
      refine uT ?_
      repeat refine uA1 @hol ?_
      refine ⟨(_, j + 1, i + 1, o.set i x), ⟨by simp only; omega, by simp only; omega, by simp only [List.length_set]; exact hol, by simp only; rw [e3, set_take1 (by omega), he], fun k h => by simp only at h ⊢; rw [getD_set_ne' (by omega)]; exact ho k (by omega)⟩, by simp only; omega, uKF⟩
  · refine awp_exit ?_
    have e5 : o.take i = l.filter (fun y => !p y) := by rw [he, List.take_of_length_le (by omega)]
    have e6 : (l.filter (fun y => !p y)).length = i := by rw [← e5, List.length_take]; omega
    have e7 : (o.take i).length + (l.length - i) = l.length := by rw [List.length_take]; omega
    have e8 : (o.take i).take i = o.take i := by rw [List.take_take, Nat.min_self]
    have e9 : (o.take i ++ List.replicate (l.length - i) 0).take i = l.filter (fun y => !p y) := by
      rw [List.take_append_of_le_length (by rw [List.length_take]; omega), e8, e5]
    repeat refine uA1 (And.intro @ints_take @e7) ?_
    rw [ints_append, ints_take, e9]
    rw [e6]
    refine awp_ret ?_; rw [show Tryz.f83.results.toList = [.tmp 4] from rfl]; (refine retG [(100, 1, 0, ck+10)] (by simp only [go_sem, Nat.reduceAdd, Nat.reduceSub, Nat.reduceMul, Nat.reduceLT, Nat.reduceEqDiff, Nat.reduceBEq, Nat.reduceLeDiff, Int.reduceToNat, ↓reduceIte, Int.reduceEq, Int.reduceLT, Int.reduceLE, Int.reduceAdd, Int.reduceSub, Int.reduceNeg, reduceCtorEq, retAV, resV] <;> trivial) (by simp) (by simp) (by simp) uTG uTG uTG ?_ ?_; all_goals (first | refine uSG ?_ | exact uXG | skip))
theorem delP_sat (l : List T3) (k : Nat) (p : T3 → Bool) (hl : l.length ≤ 1000) (hk : ∀ y ∈ l, SatG Tryz.prog tab k [] [y.av] [] (B (p y))) :
    SatG Tryz.prog tab 86 [(0, some (0, .own 44 3 (t3s l)))] [.slO 0 0 0 l.length, .fn k []] [(100, some (1, .own 44 3 (t3s (l.filter fun y => !p y))))] (.slO 100 1 0 (l.filter fun y => !p y).length) := by
  refine uFN Tryz.func86 Tryz.ntmps86 ?_; intro w e X hC
  refine uA ?_
  refine uR ?_; intro K hK
  refine callF (rc := I (idxR p l)) ?_ ?_ ?_ ?_ ?_ ?_; (focus (first | exact trivial | (simp only [go_sem, Nat.reduceAdd, Nat.reduceSub, Nat.reduceMul, Nat.reduceLT, Nat.reduceEqDiff, Nat.reduceBEq, Nat.reduceLeDiff, Int.reduceToNat, ↓reduceIte, Int.reduceEq, Int.reduceLT, Int.reduceLE, Int.reduceAdd, Int.reduceSub, Int.reduceNeg, reduceCtorEq, ] <;> trivial))); (focus (simp only [go_sem, Nat.reduceAdd, Nat.reduceSub, Nat.reduceMul, Nat.reduceLT, Nat.reduceEqDiff, Nat.reduceBEq, Nat.reduceLeDiff, Int.reduceToNat, ↓reduceIte, Int.reduceEq, Int.reduceLT, Int.reduceLE, Int.reduceAdd, Int.reduceSub, Int.reduceNeg, reduceCtorEq, ]; exact (ixfP_sat l k p hl hk))); (focus (first | exact trivial | (simp only [go_sem, Nat.reduceAdd, Nat.reduceSub, Nat.reduceMul, Nat.reduceLT, Nat.reduceEqDiff, Nat.reduceBEq, Nat.reduceLeDiff, Int.reduceToNat, ↓reduceIte, Int.reduceEq, Int.reduceLT, Int.reduceLE, Int.reduceAdd, Int.reduceSub, Int.reduceNeg, reduceCtorEq, ] <;> trivial))); (focus (first | exact trivial | (simp only [go_sem, Nat.reduceAdd, Nat.reduceSub, Nat.reduceMul, Nat.reduceLT, Nat.reduceEqDiff, Nat.reduceBEq, Nat.reduceLeDiff, Int.reduceToNat, ↓reduceIte, Int.reduceEq, Int.reduceLT, Int.reduceLE, Int.reduceAdd, Int.reduceSub, Int.reduceNeg, reduceCtorEq, ] <;> trivial))); (focus (first | exact trivial | (simp only [go_sem, Nat.reduceAdd, Nat.reduceSub, Nat.reduceMul, Nat.reduceLT, Nat.reduceEqDiff, Nat.reduceBEq, Nat.reduceLeDiff, Int.reduceToNat, ↓reduceIte, Int.reduceEq, Int.reduceLT, Int.reduceLE, Int.reduceAdd, Int.reduceSub, Int.reduceNeg, reduceCtorEq, ] <;> trivial))); first | refine uS ?_ | exact uX
  refine hK _ ?_; clear hK K
  rcases idxR_cases p l default with ⟨e1, e2⟩ | ⟨i0, e1, h1, e2⟩
  · rw [e1, e2]
    repeat first | refine uC ?_ | refine uA ?_
    refine awp_ret ?_; rw [show Tryz.f86.results.toList = [.tmp 4] from rfl]; (refine retG [(100, 1, 0, 0)] (by simp only [go_sem, Nat.reduceAdd, Nat.reduceSub, Nat.reduceMul, Nat.reduceLT, Nat.reduceEqDiff, Nat.reduceBEq, Nat.reduceLeDiff, Int.reduceToNat, ↓reduceIte, Int.reduceEq, Int.reduceLT, Int.reduceLE, Int.reduceAdd, Int.reduceSub, Int.reduceNeg, reduceCtorEq, retAV, resV] <;> trivial) (by simp) (by simp) (by simp) uTG uTG uTG ?_ ?_; all_goals (first | refine uSG ?_ | exact uXG | skip))
  rw [e1]
  repeat first | refine uC ?_ | refine uA ?_
  refine uW ?_
  refine awp_loopW (fun i : Nat × Nat × Nat × List T3 => ⟨[(0, .slO 0 0 0 l.length), (1, .fn k []), (5, I i.2.2.1), (6, I i.2.1)], (0, some (0, .own 44 3 (t3s i.2.2.2))) :: [], i.1⟩) (fun i => i.2.1 ≤ l.length ∧ i.2.2.1 < i.2.1 ∧ i.2.2.2.length = l.length ∧ i.2.2.2.take i.2.2.1 = (l.take i.2.1).filter (fun y => !p y) ∧ ∀ k, i.2.1 ≤ k → i.2.2.2.getD k default = l.getD k default) (fun i => l.length - i.2.1) (_, i0 + 1, i0, l) ⟨by simp only; omega, by simp only; omega, rfl, e2.symm, fun _ _ => rfl⟩ (uKF) ?_
  rintro ⟨ck, j, i, o⟩ ⟨hi, hij, hol, he, ho⟩
  simp only at hi hij hol he ho
  repeat refine uA ?_
  refine uW ?_; refine condP _ rfl (fun h => ?_) (fun h => ?_)
  · have hlt : j < l.length := by omega
    have e3 := filter_take1 (q := fun y => !p y) (d := default) hlt
    have hj := ho j (Nat.le_refl _)
    have hsat := hk (l.getD j default) (mem_getD hlt)
    generalize e4 : l.getD j default = x at *
    have hjo : j < o.length := by omega
    cases c1 : p x with
    | true =>
      rw [c1] at hsat
      simp only [c1, Bool.not_true, Bool.false_eq_true, if_false, List.append_nil] at e3
      repeat first | refine uC ?_ | refine uA1 (And.intro (t3s_getD hjo) (And.intro @hj @hol)) ?_
      refine uR ?_; intro K hK
      refine callF uTS (hsat) uTS uTS uTS ?_; refine uS ?_
      refine hK _ ?_; clear hK K
      refine uF ?_
      repeat refine uA ?_
      refine ⟨(_, j + 1, i, o), ⟨by simp only; omega, by simp only; omega, hol, by simp only [e3]; exact he, fun k h => ho k (by simp only at h; omega)⟩, by simp only; omega, uKF⟩
    | false =>
      rw [c1] at hsat
      simp only [c1, Bool.not_false, if_true] at e3
      repeat first | refine uC ?_ | refine uA1 (And.intro (t3s_getD hjo) (And.intro @hj @hol)) ?_
      refine uR ?_; intro K hK
      refine callF uTS (hsat) uTS uTS uTS ?_; refine uS ?_
      refine hK _ ?_; clear hK K
      refine uT ?_
      repeat refine uA1 @hol ?_
      refine ⟨(_, j + 1, i + 1, o.set i x), ⟨by simp only; omega, by simp only; omega, by simp only [List.length_set]; exact hol, by simp only; rw [e3, set_take1 (by omega), he], fun k h => by simp only at h ⊢; rw [getD_set_ne' (by omega)]; exact ho k (by omega)⟩, by simp only; omega, uKF⟩
  · refine awp_exit ?_
    have e5 : o.take i = l.filter (fun y => !p y) := by rw [he, List.take_of_length_le (by omega)]
    have e6 : (l.filter (fun y => !p y)).length = i := by rw [← e5, List.length_take]; omega
    have e7 : (o.take i).length + (l.length - i) = l.length := by rw [List.length_take]; omega
    have e8 : (o.take i).take i = o.take i := by rw [List.take_take, Nat.min_self]
    have e9 : ∀ r : List AV, (t3s (o.take i) ++ r).take i = t3s (l.filter (fun y => !p y)) := fun r => by
      rw [List.take_append_of_le_length (by rw [t3s_length, List.length_take]; omega), t3s_take, e8, e5]
    repeat refine uA1 (And.intro @t3s_take @e7) ?_
    rw [e9]
    rw [e6]
    refine awp_ret ?_; rw [show Tryz.f86.results.toList = [.tmp 4] from rfl]; (refine retG [(100, 1, 0, ck+10)] (by simp only [go_sem, Nat.reduceAdd, Nat.reduceSub, Nat.reduceMul, Nat.reduceLT, Nat.reduceEqDiff, Nat.reduceBEq, Nat.reduceLeDiff, Int.reduceToNat, ↓reduceIte, Int.reduceEq, Int.reduceLT, Int.reduceLE, Int.reduceAdd, Int.reduceSub, Int.reduceNeg, reduceCtorEq, retAV, resV] <;> trivial) (by simp) (by simp) (by simp) uTG uTG uTG ?_ ?_; all_goals (first | refine uSG ?_ | exact uXG | skip))
end Go.Proofs.YtkhjenddapaejaaGreatDoor
namespace Go.Proofs.YtkhjenddapaejaaGreatDoor
open Go Go.Sym
theorem nan1_sat (x : Int) : SatG Tryz.prog tab 182 [] [I x] [] (B false) := by
  refine uFN Tryz.func182 Tryz.ntmps182 ?_; intro w e X hC
  repeat refine uA ?_
  (refine awp_ret (ret1 uRT ?_); try rfl)
  try simp
theorem nan2_sat (x : Int) : SatG Tryz.prog tab 164 [] [I x] [] (B false) := by
  refine uFN Tryz.func164 Tryz.ntmps164 ?_; intro w e X hC
  repeat refine uA ?_
  (refine awp_ret (ret1 uRT ?_); try rfl)
  try simp
theorem less_sat (x y : Int) : SatG Tryz.prog tab 151 [] [I x, I y] [] (B (decide (x < y))) := by
  refine uFN Tryz.func151 Tryz.ntmps151 ?_; intro w e X hC
  refine uA ?_
  refine uR ?_; intro K hK
  refine callF uTS ((nan1_sat x)) uTS uTS uTS ?_; refine uS ?_
  refine hK _ ?_; clear hK K
  (refine awp_ret (ret1 uRT ?_); try rfl)
theorem shr1 (s : Nat) : shrK .u64 (s : Int) 1 = ((s / 2 : Nat) : Int) := by
  show (s : Int).fdiv (2 ^ (min 1 64)) = _
  rw [Int.fdiv_eq_ediv_of_nonneg _ (by decide)]
  show (s : Int) / 2 = _
  omega
def cutN (l : List Int) (x : Int) : Nat := (l.takeWhile (fun y => decide (y < x))).length
theorem cutN_le (l : List Int) (x : Int) : cutN l x ≤ l.length := by
  have h : (l.takeWhile (fun y => decide (y < x))).length + (l.dropWhile (fun y => decide (y < x))).length = l.length := by rw [← List.length_append, List.takeWhile_append_dropWhile]
  unfold cutN; omega
theorem cutN_of : ∀ {l : List Int} {x : Int} {k : Nat}, k ≤ l.length → (∀ j, j < k → l.getD j 0 < x) → (∀ j, k ≤ j → j < l.length → x ≤ l.getD j 0) → cutN l x = k
  | [], x, k, h, _, _ => by
    have : k = 0 := by simpa using h
    subst this; rfl
  | y :: l, x, 0, _, _, h => by
    have : ¬ y < x := by have := h 0 (Nat.le_refl _) (by simp); simp at this; omega
    simp [cutN, this]
  | y :: l, x, k + 1, h, h1, h2 => by
    have hy : y < x := by simpa using h1 0 (by omega)
    have ih := cutN_of (l := l) (x := x) (k := k) (by simpa using h) (fun j hj => by simpa using h1 (j + 1) (by omega)) (fun j hj hl => by simpa using h2 (j + 1) (by omega) (by simpa using hl))
    simp only [cutN] at ih
    simp only [cutN, List.takeWhile_cons, hy, decide_true, if_true, List.length_cons, ih]
theorem sorted_le {l : List Int} (h : l.Pairwise (· ≤ ·)) {i j : Nat} (hij : i ≤ j) (hj : j < l.length) : l.getD i 0 ≤ l.getD j 0 := by
  rcases Nat.lt_or_eq_of_le hij with h1 | h1
  · have := List.pairwise_iff_getElem.1 h i j (by omega) hj h1
    simpa [show i < l.length by omega, hj] using this
  · subst h1; exact Int.le_refl _
theorem search_sat (l : List Int) (x : Int) (hl : l.length ≤ 1000) (hs : l.Pairwise (· ≤ ·)) :
    SatG Tryz.prog tab 123 [] [IS l, I x] [] (.tup [I (cutN l x), B (decide (cutN l x < l.length) && decide (l.getD (cutN l x) 0 = x))]) := by
  refine uFN Tryz.func123 Tryz.ntmps123 ?_; intro w e X hC
  repeat refine uA ?_
  refine uW ?_
  refine awp_loopW (fun i : Nat × Nat × Nat => ⟨[(0, IS l), (1, I x), (6, I l.length), (7, I i.2.1), (8, I i.2.2)], [], i.1⟩) (fun i => i.2.1 ≤ i.2.2 ∧ i.2.2 ≤ l.length ∧ (∀ j, j < i.2.1 → l.getD j 0 < x) ∧ ∀ j, i.2.2 ≤ j → j < l.length → x ≤ l.getD j 0) (fun i => i.2.2 - i.2.1) (_, 0, l.length) ⟨Nat.zero_le _, Nat.le_refl _, fun j hj => absurd hj (Nat.not_lt_zero _), fun j h1 h2 => by simp only at h1; omega⟩ (uKF) ?_
  rintro ⟨ck, a, b⟩ ⟨hab, hbl, h1, h2⟩
  simp only at hab hbl h1 h2
  repeat refine uA ?_
  refine uW ?_; refine condP _ rfl (fun h => ?_) (fun h => ?_)
  · obtain ⟨m, hm⟩ : ∃ m, m = (a + b) / 2 := ⟨_, rfl⟩
    have hlt : m < l.length := by omega
    have e1 : IntKind.u64.wrap ((a : Int) + b) = ((a + b : Nat) : Int) := by
      rw [show (a : Int) + b = ((a + b : Nat) : Int) by omega]; exact u64_nat (by omega)
    have e2 := shr1 (a + b)
    rw [← hm] at e2
    have e3 : IntKind.i64.wrap (m : Int) = m := by rw [IntKind.wrap_i64]; omega
    refine uA1 (And.intro @e1 (And.intro @e2 @e3)) ?_
    refine uR1 (ints_getD hlt) ?_; intro K hK
    refine uH ?_
    refine callF uTS ((less_sat (l.getD m 0) x)) uTS uTS uTS ?_; refine uS ?_
    refine hK _ ?_; clear hK K
    refine uW ?_; refine condP _ rfl (fun c1 => ?_) (fun c1 => ?_)
    · repeat refine uA ?_
      refine ⟨(_, m + 1, b), ⟨by simp only; omega, by simp only; omega, fun j hj => ?_, h2⟩, by simp only; omega, uKF⟩
      have := sorted_le hs (show j ≤ m by simp only at hj; omega) hlt
      omega
    · repeat refine uA ?_
      refine ⟨(_, a, m), ⟨by simp only; omega, by simp only; omega, h1, fun j hj hl => ?_⟩, by simp only; omega, uKF⟩
      have := sorted_le hs (show m ≤ j from hj) hl
      omega
  · refine awp_exit ?_
    have hba : b = a := by omega
    subst hba
    have e1 := cutN_of hbl h1 h2
    rw [e1]
    by_cases c1 : b < l.length
    · have d1 : decide ((b : Int) < l.length) = true := decide_eq_true (by omega)
      have d2 : decide (b < l.length) = true := decide_eq_true c1
      rw [d2]
      cases c2 : decide (l.getD b 0 = x) with
      | true =>
        refine uR1 (And.intro @d1 (And.intro @c2 (ints_getD c1))) ?_; intro K hK
        refine uH ?_
        refine hK _ ?_; clear hK K
        refine uW ?_
        refine awp_ret ?_; rw [show Tryz.f123.results.toList = [.tmp 4, .tmp 5] from rfl]; first | refine uRN ?_ | exact uRM
        rfl
      | false =>
        refine uR1 (And.intro @d1 (And.intro @c2 (ints_getD c1))) ?_; intro K hK
        refine uH ?_
        refine callF uTS ((nan2_sat (l.getD b 0))) uTS uTS uTS ?_; refine uS ?_
        refine hK _ ?_; clear hK K
        refine uW ?_
        refine awp_ret ?_; rw [show Tryz.f123.results.toList = [.tmp 4, .tmp 5] from rfl]; first | refine uRN ?_ | exact uRM
        rfl
    · have d1 : decide ((b : Int) < l.length) = false := decide_eq_false (by omega)
      have d2 : decide (b < l.length) = false := decide_eq_false c1
      rw [d2, Bool.false_and]
      repeat refine uA1 @d1 ?_
      refine awp_ret ?_; rw [show Tryz.f123.results.toList = [.tmp 4, .tmp 5] from rfl]; (refine (retN (by simp only [go_sem, Nat.reduceAdd, Nat.reduceSub, Nat.reduceMul, Nat.reduceLT, Nat.reduceEqDiff, Nat.reduceBEq, Nat.reduceLeDiff, Int.reduceToNat, ↓reduceIte, Int.reduceEq, Int.reduceLT, Int.reduceLE, Int.reduceAdd, Int.reduceSub, Int.reduceNeg, reduceCtorEq, retAV, resV] <;> simp) (by simp only [go_sem, Nat.reduceAdd, Nat.reduceSub, Nat.reduceMul, Nat.reduceLT, Nat.reduceEqDiff, Nat.reduceBEq, Nat.reduceLeDiff, Int.reduceToNat, ↓reduceIte, Int.reduceEq, Int.reduceLT, Int.reduceLE, Int.reduceAdd, Int.reduceSub, Int.reduceNeg, reduceCtorEq, retAV, resV] <;> trivial) ?_); simp only [go_sem, Nat.reduceAdd, Nat.reduceSub, Nat.reduceMul, Nat.reduceLT, Nat.reduceEqDiff, Nat.reduceBEq, Nat.reduceLeDiff, Int.reduceToNat, ↓reduceIte, Int.reduceEq, Int.reduceLT, Int.reduceLE, Int.reduceAdd, Int.reduceSub, Int.reduceNeg, reduceCtorEq, retAV, resV])
end Go.Proofs.YtkhjenddapaejaaGreatDoor
namespace Go.Proofs.YtkhjenddapaejaaGreatDoor
open Go Go.Sym
open Go.Shelf Go.Lib
def Tryz.lays21_ren : Go.Shelf.Ren := ⟨fun | 21 => 124 | 27 => 165 | 28 => 166 | 35 => 184 | 39 => 187 | n => n, fun | 22 => 22 | 3 => 3 | 4 => 4 | 0 => 0 | n => n, fun | n => n⟩
theorem Tryz.lays21 : Go.Proofs.Lays2.n21 Tryz.prog Tryz.lays21_ren := {
  mixed := by kernel_rfl
  f21 := Tryz.func124.trans (congrArg some (by kernel_rfl))
  f27 := Tryz.func165.trans (congrArg some (by kernel_rfl))
  f28 := Tryz.func166.trans (congrArg some (by kernel_rfl))
  f35 := Tryz.func184.trans (congrArg some (by kernel_rfl))
  f39 := Tryz.func187.trans (congrArg some (by kernel_rfl))
  t0 := Tryz.underlying0
  a0 := Tryz.isAgg0
  z0 := Tryz.sizeOf0
  v0 := Tryz.zeroValue0
  t3 := Tryz.underlying3
  a3 := Tryz.isAgg3
  z3 := Tryz.sizeOf3
  v3 := Tryz.zeroValue3
  t4 := Tryz.underlying4
  a4 := Tryz.isAgg4
  z4 := Tryz.sizeOf4
  v4 := Tryz.zeroValue4
  t22 := Tryz.underlying22
  a22 := Tryz.isAgg22
  z22 := Tryz.sizeOf22
  v22 := Tryz.zeroValue22
  i3 := by kernel_rfl }
structure SetW (b : Nat) (w w' : World) : Prop where
  size : w'.heap.size = w.heap.size
  os : w'.os = w.os
  tape : w'.tape = w.tape
  output : w'.output = w.output
  other : ∀ i, i ≠ b → w'.heap[i]? = w.heap[i]?
  here : ∀ cs t f, w.heap[b]? = some (.cells cs t f) → ∃ cs', w'.heap[b]? = some (.cells cs' t f) ∧ cs'.size = cs.size
theorem SetW.refl (b : Nat) (w : World) : SetW b w w := ⟨rfl, rfl, rfl, rfl, fun _ _ => rfl, fun cs _ _ h => ⟨cs, h, rfl⟩⟩
theorem SetW.trans {b : Nat} {w w' w'' : World} (h : SetW b w w') (h2 : SetW b w' w'') : SetW b w w'' :=
  ⟨h2.size.trans h.size, h2.os.trans h.os, h2.tape.trans h.tape, h2.output.trans h.output, fun i hi => (h2.other i hi).trans (h.other i hi), fun cs t f hc => by
    obtain ⟨c1, e1, e2⟩ := h.here cs t f hc
    obtain ⟨c2, e3, e4⟩ := h2.here c1 t f e1
    exact ⟨c2, e3, e4.trans e2⟩⟩
theorem SetW.drew (b : Nat) (w : World) : SetW b w w.drew := ⟨rfl, rfl, rfl, rfl, fun _ _ => rfl, fun cs _ _ h => ⟨cs, h, rfl⟩⟩
theorem SetW.set (b o : Nat) (v : Value) (w : World) : SetW b w (w.setCell ⟨b, o, none⟩ v) := by
  refine ⟨?_, rfl, rfl, rfl, ?_, ?_⟩
  · simp [World.setCell]
  · intro i hi
    simp only [World.setCell, Array.getElem?_modify]
    rw [if_neg (fun h => hi h.symm)]
  · intro cs t f h
    refine ⟨cs.setIfInBounds o v, ?_, by simp⟩
    simp only [World.setCell, Array.getElem?_modify, if_true, h, Option.map_some]
    rfl
theorem SetW.cells (b : Nat) : ∀ (vs : List Value) (o : Nat) (w : World), SetW b w (w.setCells b o vs)
  | [], _, w => .refl b w
  | v :: r, o, w => (SetW.set b o v w).trans (SetW.cells b r (o + 1) _)
theorem own_ret {w w' : World} {e : Env} {hp : Hp} (hr : HRel w e (Glt 1) hp) (hz : ∀ b, e.z b → b < w.heap.size) {B cap t : Nat} {l : List Int} {cs : Array Value}
    (hB : w.heap.size ≤ B ∨ ObjB e B) (hlt : B < w'.heap.size) (hw : w'.heap[B]? = some (.cells cs t (0, 0))) (hcs : cs.size = cap) (hcap : cap ≤ maxLen) (hn : l.length ≤ cap)
    (hval : ∀ j, j < l.length → cs[j]? = some (.int .i64 (l.getD j 0))) (hos : w'.os = w.os) (ht : w'.tape = w.tape) (ho : w'.output = w.output) (hsz : w.heap.size ≤ w'.heap.size)
    (hsame : ∀ b, b < w.heap.size → b ≠ B → w'.heap[b]? = w.heap[b]?) :
    ∃ e', HRel w' e' (Glt 2) [(100, some (1, .own t 1 (ints l)))] ∧ VR w' (UE e') e' (Glt 2) (.slO 100 1 0 l.length) (.slice (some ⟨B, 0, none⟩) l.length cap) ∧ Ext w e (Glt 1) w' e' (Glt 2) ∧ e'.z = e.z ∧
      (∀ b, OwnB e' b → w.heap.size ≤ b ∨ OwnB e b) ∧ FrameE e w w' := by
  obtain ⟨e', he'⟩ : ∃ e' : Env, e' = ⟨fun i => if i = 100 then some ⟨1, some (B, cap), 1, l.length⟩ else none, e.z, fun _ => none⟩ := ⟨_, rfl⟩
  have hm : ∀ i ee, e' i = some ee → i = 100 ∧ ee = ⟨1, some (B, cap), 1, l.length⟩ := by
    intro i ee h
    subst he'
    by_cases hi : i = 100
    · subst hi; simp at h; exact ⟨rfl, h.symm⟩
    · simp [hi] at h
  have h100 : e' 100 = some ⟨1, some (B, cap), 1, l.length⟩ := by subst he'; simp
  have hzz : e'.z = e.z := by subst he'; rfl
  have hkid : ∀ b, e'.kid b = none := by subst he'; intro b; rfl
  have hnzB : ¬ e.z B := by
    rcases hB with h | h
    · intro h2; have := hz B h2; omega
    · exact hr.obj_nz h
  have hown : ∀ b, OwnB e' b → b = B := by
    intro b hb
    rcases hb with ⟨id, ee, c, h1, h2⟩ | ⟨_, _, h, _⟩
    · obtain ⟨_, rfl⟩ := hm _ _ h1
      cases h2; rfl
    · rw [hkid] at h; cases h
  have hownB : w.heap.size ≤ B ∨ OwnB e B := hB.imp id .inl
  refine ⟨e', ⟨?_, ?_, ?_, ?_, ?_, ?_, ?_, ?_⟩, ?_, ⟨hsz, ?_, ?_, ?_, ?_⟩, hzz, ?_, ⟨hos, ht, ho, hsz, ?_⟩⟩
  · intro id h
    cases hx : e' id with
    | none => rfl
    | some ee =>
      obtain ⟨rfl, _⟩ := hm _ _ hx
      simp [Hp.get] at h
  · intro id g ob h
    simp only [Hp.get] at h
    by_cases hi : 100 = id
    · rw [if_pos hi] at h
      cases h
      subst hi
      refine ⟨_, h100, rfl, by show 1 < 2; omega, rfl, by rw [ints_length], by omega, ?_, ?_, ?_⟩
      · intro i h; simp [ints, AV.cells, I]
      · intro i h j h'; simp [ints, AV.cells, I, AV.one]
      · refine ⟨hcap, by rw [ints_length]; exact hn, cs, hw, by omega, ?_⟩
        intro i h j h'
        have hj : j = 0 := by simp [ints, AV.cells, I] at h'; omega
        subst hj
        have hi2 : i < l.length := by rwa [ints_length] at h
        have e1 : (ints l)[i].cells[0] = I (l.getD i 0) := by simp [ints, AV.cells, I, hi2]
        have e2 : cs.getD (i * 1 + 0) undef = .int .i64 (l.getD i 0) := by
          rw [Array.getD_eq_getD_getElem?, show i * 1 + 0 = i by omega, hval i hi2]; rfl
        rw [e1, e2]
        exact .val _ _ (.dat _ _ (.lit _ rfl))
    · rw [if_neg hi] at h; cases h
  · intro id id' ee ee' b c c' h1 h2 _ _
    rw [(hm _ _ h1).1, (hm _ _ h2).1]
  · intro id ee b c h1 h2
    obtain ⟨_, rfl⟩ := hm _ _ h1
    cases h2; exact hlt
  · intro id ee b c h1 h2
    obtain ⟨_, rfl⟩ := hm _ _ h1
    cases h2; rw [hzz]; exact hnzB
  · intro b B' c h; rw [hkid] at h; cases h
  · intro b _; exact hkid b
  · intro b B' c h; rw [hkid] at h; cases h
  · refine .slO _ _ _ _ _ (by show 1 < 2; omega) rfl ?_
    intro ee h _
    obtain ⟨_, rfl⟩ := hm _ _ h
    refine ⟨by simp, fun _ => ⟨cap, by simp, by simp, hn⟩⟩
  · intro g hg; exact Nat.lt_of_lt_of_le hg (by omega)
  · intro b hb hu
    refine ⟨by rw [hzz]; exact hu.1, fun h => ?_⟩
    have := hown b h
    subst this
    rcases hownB with h | h
    · omega
    · exact hu.2 h
  · intro b hb hu
    refine hsame b hb fun h => ?_
    subst h
    rcases hownB with h | h
    · omega
    · exact hu.2 h
  · intro id ee h hg
    obtain ⟨_, rfl⟩ := hm _ _ h
    exact absurd hg (by show ¬ (1 < 1); omega)
  · intro b h
    have := hown b h
    subst this
    exact hownB
  · intro b hb hu
    refine hsame b hb fun h => ?_
    subst h
    rcases hownB with h | h
    · omega
    · exact hu h
theorem ints_cellv {w : World} {e : Env} {G : Nat → Prop} {t : Nat} {l : List Int} {ee : EE} {b bcap : Nat} (ho : ORel w e G (.own t 1 (ints l)) ee) (hb : ee.blk = some (b, bcap)) :
    bcap ≤ maxLen ∧ l.length ≤ bcap ∧ ∃ cs, w.heap[b]? = some (.cells cs t (0, 0)) ∧ cs.size = bcap ∧ ∀ j, j < l.length → cs[j]? = some (.int .i64 (l.getD j 0)) := by
  obtain ⟨_, _, _, h4, h5, h6⟩ := ho
  rw [hb] at h6
  obtain ⟨h7, h8, cs, h9, h10, h11⟩ := h6
  rw [ints_length] at h8
  refine ⟨h7, h8, cs, h9, by omega, fun j hj => ?_⟩
  have hjl : j < (ints l).length := by rwa [ints_length]
  have hc : (ints l)[j].cells = [I (l.getD j 0)] := by simp [ints, AV.cells, I, hj]
  have := h11 j hjl 0 (by rw [hc]; simp)
  have e1 : (ints l)[j].cells[0]'(by rw [hc]; simp) = I (l.getD j 0) := by simp only [hc, List.getElem_cons_zero]
  rw [e1] at this
  cases this with
  | val _ _ h =>
    have e2 := h.lit_inv.1
    rw [Array.getD_eq_getD_getElem?, show j * 1 + 0 = j by omega, Array.getElem?_eq_getElem (by omega)] at e2
    rw [Array.getElem?_eq_getElem (by omega)]
    exact congrArg some e2
theorem setCells_get {w : World} {b o : Nat} {vs : List Value} {j : Nat} {v : Value} (h : ∀ j, j < vs.length → (w.cell? ⟨b, o + j, none⟩).isSome = true)
    (hj : (o ≤ j ∧ j < o + vs.length ∧ vs[j - o]? = some v) ∨ ((j < o ∨ o + vs.length ≤ j) ∧ w.cell? ⟨b, j, none⟩ = some v)) : (w.setCells b o vs).cell? ⟨b, j, none⟩ = some v := by
  rcases hj with ⟨h1, h2, h3⟩ | ⟨h1, h2⟩
  · have := World.cell?_setCells_in b vs o w h (j - o) (by omega)
    rw [show o + (j - o) = j by omega] at this
    rw [this, ← h3, List.getElem?_eq_getElem (by omega)]
  · rw [World.cell?_setCells_out b vs o w ⟨b, j, none⟩ (fun _ _ => h1)]
    exact h2
theorem cell_heap {w : World} {b t j : Nat} {cs : Array Value} {f : Nat × Nat} (h : w.heap[b]? = some (.cells cs t f)) : w.cell? ⟨b, j, none⟩ = cs[j]? := by simp [World.cell?, h]
theorem frozen_heap {w : World} {b t j : Nat} {cs : Array Value} (h : w.heap[b]? = some (.cells cs t (0, 0))) : w.frozen? ⟨b, j, none⟩ = false := by simp [World.frozen?, h]
theorem ins_get {l : List Int} {x : Int} {i j : Nat} (hi : i ≤ l.length) (hj : j < l.length + 1) : (l.take i ++ [x] ++ l.drop i).getD j 0 = if j < i then l.getD j 0 else if j = i then x else l.getD (j - 1) 0 := by
  have htl : (l.take i).length = i := by rw [List.length_take]; omega
  simp only [List.getD_eq_getElem?_getD, List.append_assoc]
  by_cases h1 : j < i
  · rw [if_pos h1, List.getElem?_append_left (by omega), List.getElem?_take, if_pos h1]
  · rw [if_neg h1, List.getElem?_append_right (by omega), htl]
    by_cases h2 : j = i
    · subst h2; rw [if_pos rfl]; simp
    · rw [if_neg h2, List.getElem?_append_right (by simp; omega), List.getElem?_drop]
      simp only [List.length_singleton]
      rw [show i + (j - i - 1) = j - 1 by omega]
theorem encs_get {l : List Int} {j : Nat} {v : Value} (h : (l.map fun y => Value.int .i64 y)[j]? = some v) : j < l.length ∧ v = .int .i64 (l.getD j 0) := by
  obtain ⟨hj, e⟩ := List.getElem?_eq_some_iff.1 h
  have hj' : j < l.length := by simpa using hj
  refine ⟨hj', ?_⟩
  rw [← e]; simp [hj']
theorem insert_sat (l : List Int) (x : Int) (i : Nat) (hi : i ≤ l.length) (hl : l.length ≤ 1000) :
    SatG Tryz.prog tab 124 [(0, some (0, .own 3 1 (ints l))), (1, some (0, .own 3 1 (ints [x])))] [.slO 0 0 0 l.length, I i, .slO 1 0 0 1]
      [(100, some (1, .own 3 1 (ints (l.take i ++ [x] ++ l.drop i))))] (.slO 100 1 0 (l.take i ++ [x] ++ l.drop i).length) := by
  refine ⟨⟨Tryz.f124, Tryz.func124, by rfl, by rfl⟩, ?_⟩
  intro w e vals hr hz _ hlen hargs
  have hlz : (l.take i ++ [x] ++ l.drop i).length = l.length + 1 := by simp; omega
  obtain ⟨v0, v1, v2, rfl⟩ : ∃ v0 v1 v2, vals = #[v0, v1, v2] := by
    have h3 : vals.size = 3 := hlen.symm
    refine ⟨vals[0], vals[1], vals[2], ?_⟩
    apply Array.ext
    · simpa using h3
    · intro j h1 h2
      have : j < 3 := by omega
      rcases (by omega : j = 0 ∨ j = 1 ∨ j = 2) with rfl | rfl | rfl <;> rfl
  have a0 : VR w (UE e) e (Glt 1) (.slO 0 0 0 l.length) v0 := hargs 0 (by simp)
  have a1 : VR w (UE e) e (Glt 1) (I i) v1 := hargs 1 (by simp)
  have a2 : VR w (UE e) e (Glt 1) (.slO 1 0 0 1) v2 := hargs 2 (by simp)
  obtain rfl : v1 = .int .i64 i := a1.lit_inv.1
  obtain ⟨ee, he, hg0, hn0, hok, hor⟩ := slO_val hr a0 rfl (by rw [ints_length]; omega)
  obtain ⟨ee2, he2, hg2, hn2, hok2, hor2⟩ := slO_val hr a2 rfl rfl
  cases hb2 : ee2.blk with
  | none =>
    obtain ⟨_, _, _, _, _, h6⟩ := hor2
    rw [hb2] at h6
    cases h6
  | some q2 =>
  obtain ⟨vb, vcap⟩ := q2
  obtain ⟨hv1, hv2, vc, hv3, hv4, hv5⟩ := ints_cellv hor2 hb2
  unfold SlOK at hok2
  rw [hb2] at hok2
  obtain ⟨c2, rfl, hv6, hv7⟩ := hok2
  have hxv : ∀ j v, [Value.int .i64 x][j]? = some v → w.cell? ⟨vb, 0 * ee2.k + j, none⟩ = some v := by
    intro j v h
    cases j with
    | zero =>
      cases h
      rw [Nat.zero_mul, Nat.zero_add, cell_heap hv3, hv5 0 (by simp)]; rfl
    | succ j => simp at h
  have h1v : ∀ v ∈ [Value.int .i64 x], v.oneCell' = true := by simp [Value.oneCell']
  have hen : (l.map fun y => Value.int .i64 y).length = l.length := by simp
  have h1c : ∀ v ∈ (l.map fun y => Value.int .i64 y), v.oneCell' = true := by simp [Value.oneCell']
  have fin : ∀ (B cap t : Nat) (w' : World) (cs : Array Value), (w.heap.size ≤ B ∨ ObjB e B) → B < w'.heap.size → w'.heap[B]? = some (.cells cs t (0, 0)) → t = 3 → cs.size = cap → cap ≤ maxLen → l.length + 1 ≤ cap →
      (∀ j, j < l.length + 1 → w'.cell? ⟨B, j, none⟩ = some (.int .i64 (if j < i then l.getD j 0 else if j = i then x else l.getD (j - 1) 0))) → w'.os = w.os → w'.tape = w.tape → w'.output = w.output → w.heap.size ≤ w'.heap.size →
      (∀ b, b < w.heap.size → b ≠ B → w'.heap[b]? = w.heap[b]?) →
      ∃ v e', Ending.returned (.slice (some ⟨B, 0, none⟩) (l.length + 1) cap) = .returned v ∧ HRel w' e' (Glt 2) [(100, some (1, .own 3 1 (ints (l.take i ++ [x] ++ l.drop i))))] ∧
        VR w' (UE e') e' (Glt 2) (.slO 100 1 0 (l.take i ++ [x] ++ l.drop i).length) v ∧ Ext w e (Glt 1) w' e' (Glt 2) ∧ e'.z = e.z ∧ (∀ b, OwnB e' b → w.heap.size ≤ b ∨ OwnB e b) ∧ FrameE e w w' := by
    intro B cap t w' cs h1 h2 h3 ht h4 h5 h6 h7 h8 h9 h10 h11 h12
    subst ht
    obtain ⟨e', q1, q2, q3⟩ := own_ret (l := l.take i ++ [x] ++ l.drop i) hr hz h1 h2 h3 h4 h5 (by omega) (fun j hj => by
      have := h7 j (by omega)
      rw [cell_heap h3] at this
      rw [this, ins_get hi (by omega)]) h8 h9 h10 h11 h12
    rw [hlz] at q2 ⊢
    exact ⟨_, e', rfl, q1, q2, q3⟩
  have cal : ∀ Q : Ending → World → Prop, Calls Tryz.prog (Tryz.lays21_ren.f 21) #[v0, .int .i64 i, .slice (some ⟨vb, 0 * ee2.k, none⟩) 1 c2] w Q → Calls Tryz.prog 124 #[v0, .int .i64 i, .slice (some ⟨vb, 0 * ee2.k, none⟩) 1 c2] w Q := fun Q h => h
  have ht3 : Tryz.lays21_ren.t 3 = 3 := rfl
  refine cal _ ?_
  cases hb : ee.blk with
  | none =>
    obtain ⟨_, _, _, _, _, h6⟩ := hor
    rw [hb] at h6
    have hl0 : l = [] := by
      have : (ints l).length = 0 := by rw [h6]; rfl
      rw [ints_length] at this
      exact List.eq_nil_of_length_eq_zero this
    subst hl0
    unfold SlOK at hok
    rw [hb] at hok
    obtain ⟨_, _, a, rfl⟩ := hok
    obtain rfl : i = 0 := by simpa using hi
    refine (Any2.slices_Insert_int_end_grow Tryz.lays21 a 0 0 vb (0 * ee2.k) 1 c2 [] [.int .i64 x] w (by omega) (by omega) (by omega) (by omega) rfl rfl (fun _ => rfl) (fun _ _ j v h => by simp at h) hxv h1v).mono ?_
    rintro en w' ⟨rfl, hw'⟩
    generalize hG : grownCap w (0 + 1) 0 (Tryz.lays21_ren.t 3) = G at *
    have hG1 : 0 + 1 ≤ G := by rw [← hG]; exact grownCap_ge w _ _ _
    have hG2 : G ≤ maxLen := by rw [← hG]; exact grownCap_le_maxLen w _ _ _ (by unfold maxLen; omega)
    have hsz : w'.heap.size = w.heap.size + 1 := by rw [hw']; exact size_new w.drew _
    refine fin w.heap.size G _ w' _ (.inl (Nat.le_refl _)) (by omega) (by rw [hw']; exact heap_new w.drew _) ht3 ?_ hG2 (by simpa using hG1) ?_ (by rw [hw']; rfl) (by rw [hw']; rfl) (by rw [hw']; rfl) (by omega) ?_
    · simp [size_zeroCells, Value.cells]; omega
    · intro j hj
      have hj0 : j = 0 := by simpa using hj
      subst hj0
      rw [cell_heap (by rw [hw']; exact heap_new w.drew _)]
      simp only [List.nil_append]
      rw [Array.getElem?_append_left (by simp)]; rfl
    · intro b hb _
      rw [hw']
      exact (Grow.drew_alloc w _).same b hb
  | some q =>
  obtain ⟨b, bcap⟩ := q
  obtain ⟨hc1, hc2, cs, hc3, hc4, hc5⟩ := ints_cellv hor hb
  unfold SlOK at hok
  rw [hb] at hok
  obtain ⟨c, rfl, hc6, hc7⟩ := hok
  obtain rfl : c = bcap := by omega
  have hbo : ObjB e b := .of he hb
  have hbl : b < w.heap.size := hr.obj_lt hbo
  have hvb : vb ≠ b := by
    intro h
    subst h
    have := hr.inj 0 1 ee ee2 _ _ _ he he2 hb hb2
    omega
  have hvl : vb < w.heap.size := hr.obj_lt (.of he2 hb2)
  have hcs : ∀ j v, (l.map fun y => Value.int .i64 y)[j]? = some v → w.cell? ⟨b, 0 + j, none⟩ = some v := by
    intro j v h
    obtain ⟨hj, rfl⟩ := encs_get h
    rw [Nat.zero_add, cell_heap hc3, hc5 j hj]
  have hsp : ∀ j, j < c → (w.cell? ⟨b, 0 + j, none⟩).isSome = true := by
    intro j hj
    rw [Nat.zero_add, cell_heap hc3, Array.getElem?_eq_getElem (by omega)]; rfl
  have hfz : ∀ j, w.frozen? ⟨b, j, none⟩ = false := fun j => frozen_heap hc3
  have hmx : c ≤ 9223372036854775807 := by unfold maxLen at hc1; omega
  by_cases hroom : l.length + 1 ≤ c
  · by_cases hlt : i < l.length
    · refine (Any2.slices_Insert_int_shift Tryz.lays21 b (0 * ee.k) l.length c i vb (0 * ee2.k) 1 c2 (l.map fun y => .int .i64 y) [.int .i64 x] w hlt (by omega) hroom hmx hvb hen rfl (by simpa using hcs) (fun j hj => by rw [Nat.zero_mul]; exact hsp j (by omega)) (fun j hj => hfz _) hxv h1c h1v _ _ _ _ (by simp [World.shape?, hv3]; exact ⟨rfl, rfl⟩) (by simp [World.shape?, hc3]; exact ⟨rfl, rfl⟩) (by omega) (frozen_heap hv3) (frozen_heap hv3)).mono ?_
      rintro en w' ⟨rfl, hw'⟩
      simp only [Nat.zero_mul, Nat.zero_add] at hw' ⊢
      have S1 : SetW b w (w.drew.setCells b (i + 1) ((l.map fun y => Value.int .i64 y).drop i)) := (SetW.drew b w).trans (SetW.cells b _ _ _)
      have S2 : SetW b w w' := by rw [hw']; exact S1.trans (SetW.cells b _ _ _)
      obtain ⟨cs1, k1, k2⟩ := S1.here _ _ _ hc3
      obtain ⟨cs2, k3, k4⟩ := S2.here _ _ _ hc3
      refine fin b c _ w' cs2 (.inr hbo) (by rw [S2.size]; exact hbl) k3 rfl (by omega) hc1 hroom ?_ S2.os S2.tape S2.output (by rw [S2.size]; exact Nat.le_refl _) (fun b' _ h => S2.other b' h)
      intro j hj
      rw [hw']
      refine setCells_get (fun t ht => by rw [cell_heap k1, Array.getElem?_eq_getElem (by simp only [List.length_singleton] at ht; omega)]; rfl) ?_
      by_cases h2 : j = i
      · left
        subst h2
        simp
      · right
        refine ⟨by simp only [List.length_singleton]; omega, ?_⟩
        rw [if_neg h2]
        refine setCells_get (fun t ht => by rw [cell_heap (w := w.drew) hc3, Array.getElem?_eq_getElem (by rw [List.length_drop, hen] at ht; omega)]; rfl) ?_
        by_cases h3 : j < i
        · right
          refine ⟨.inl (by omega), ?_⟩
          rw [if_pos h3, cell_heap (w := w.drew) hc3, hc5 j (by omega)]
        · left
          refine ⟨by omega, by rw [List.length_drop, hen]; omega, ?_⟩
          rw [if_neg h3, List.getElem?_drop, show i + (j - (i + 1)) = j - 1 by omega]
          simp [show j - 1 < l.length by omega]
    · obtain rfl : i = l.length := by omega
      refine (Any2.slices_Insert_int_end_room Tryz.lays21 b (0 * ee.k) l.length c vb (0 * ee2.k) 1 c2 [.int .i64 x] w (by omega) hroom hmx rfl (fun j hj => by have := hsp (l.length + j) (by omega); rwa [Nat.zero_mul, Nat.add_assoc]) (fun j hj => hfz _) hxv h1v).mono ?_
      rintro en w' ⟨rfl, hw'⟩
      simp only [Nat.zero_mul, Nat.zero_add] at hw' ⊢
      have S2 : SetW b w w' := by rw [hw']; exact SetW.cells b _ _ _
      obtain ⟨cs2, k3, k4⟩ := S2.here _ _ _ hc3
      refine fin b c _ w' cs2 (.inr hbo) (by rw [S2.size]; exact hbl) k3 rfl (by omega) hc1 hroom ?_ S2.os S2.tape S2.output (by rw [S2.size]; exact Nat.le_refl _) (fun b' _ h => S2.other b' h)
      intro j hj
      rw [hw']
      refine setCells_get (fun t ht => by rw [cell_heap hc3, Array.getElem?_eq_getElem (by simp only [List.length_singleton] at ht; omega)]; rfl) ?_
      by_cases h2 : j = l.length
      · left
        subst h2
        simp
      · right
        refine ⟨.inl (by omega), ?_⟩
        rw [if_pos (by omega), cell_heap hc3, hc5 j (by omega)]
  · by_cases hlt : i < l.length
    · refine (Any2.slices_Insert_int_grow Tryz.lays21 b (0 * ee.k) l.length c i vb (0 * ee2.k) 1 c2 (l.map fun y => .int .i64 y) [.int .i64 x] w hlt (by omega) hc2 (by omega) (by omega) hen rfl (by simpa using hcs) hxv h1c h1v).mono ?_
      rintro en w' ⟨rfl, hw'⟩
      generalize hG : grownCap w (l.length + 1) c (Tryz.lays21_ren.t 3) = G at *
      have hG1 : l.length + 1 ≤ G := by rw [← hG]; exact grownCap_ge w _ _ _
      have hG2 : G ≤ maxLen := by rw [← hG]; exact grownCap_le_maxLen w _ _ _ (by unfold maxLen; omega)
      obtain ⟨ROW, hR⟩ : ∃ ROW, ROW = ((List.take i (l.map fun y => Value.int .i64 y)).toArray ++ Builtin.zeroCells (Value.int IntKind.i64 0).cells (l.length + 1 - i) ++ Builtin.zeroCells (Value.int IntKind.i64 0).cells (G - (l.length + 1))) := ⟨_, rfl⟩
      rw [← hR] at hw'
      have hRs : ROW.size = G := by rw [hR]; simp [size_zeroCells, Value.cells]; omega
      have hRg : ∀ j, j < i → ROW[j]? = some (.int .i64 (l.getD j 0)) := by
        intro j hj
        rw [hR, Array.append_assoc, Array.getElem?_append_left (by simp; omega)]
        simp [hj, show j < l.length by omega]
      have hN : ((w.alloc (.cells ROW (Tryz.lays21_ren.t 3))).drew).heap[w.heap.size]? = some (.cells ROW 3 (0, 0)) := heap_new w _
      have S1 : SetW w.heap.size (w.alloc (.cells ROW (Tryz.lays21_ren.t 3))).drew ((w.alloc (.cells ROW (Tryz.lays21_ren.t 3))).drew.setCells w.heap.size i [.int .i64 x]).drew := (SetW.cells _ _ _ _).trans (SetW.drew _ _)
      have S2 : SetW w.heap.size (w.alloc (.cells ROW (Tryz.lays21_ren.t 3))).drew w' := by rw [hw']; exact S1.trans (SetW.cells _ _ _ _)
      obtain ⟨cs1, k1, k2⟩ := S1.here _ _ _ hN
      obtain ⟨cs2, k3, k4⟩ := S2.here _ _ _ hN
      have hsz : w'.heap.size = w.heap.size + 1 := by rw [S2.size]; exact size_new w _
      refine fin w.heap.size G _ w' cs2 (.inl (Nat.le_refl _)) (by omega) k3 rfl (by omega) hG2 hG1 ?_ S2.os S2.tape S2.output (by omega) (fun b' hb' h => (S2.other b' h).trans ((Grow.alloc w _).same b' hb'))
      intro j hj
      rw [hw']
      refine setCells_get (fun t ht => by rw [cell_heap k1, Array.getElem?_eq_getElem (by rw [List.length_drop, hen] at ht; omega)]; rfl) ?_
      by_cases h2 : i < j
      · left
        refine ⟨by omega, by rw [List.length_drop, hen]; omega, ?_⟩
        rw [if_neg (by omega), if_neg (by omega), List.getElem?_drop, show i + (j - (i + 1)) = j - 1 by omega]
        simp [show j - 1 < l.length by omega]
      · right
        refine ⟨.inl (by omega), ?_⟩
        show World.cell? ((w.alloc (.cells ROW (Tryz.lays21_ren.t 3))).drew.setCells w.heap.size i [.int .i64 x]) _ = _
        refine setCells_get (fun t ht => by rw [cell_heap hN, Array.getElem?_eq_getElem (by simp only [List.length_singleton] at ht; omega)]; rfl) ?_
        by_cases h3 : j < i
        · right
          refine ⟨.inl h3, ?_⟩
          rw [if_pos h3, cell_heap hN, hRg j h3]
        · left
          obtain rfl : j = i := by omega
          simp
    · obtain rfl : i = l.length := by omega
      refine (Any2.slices_Insert_int_end_grow Tryz.lays21 (some ⟨b, 0 * ee.k, none⟩) l.length c vb (0 * ee2.k) 1 c2 (l.map fun y => .int .i64 y) [.int .i64 x] w (by omega) hc2 (by omega) (by omega) hen rfl (by simp) (fun a ha j v h => by cases ha; rw [Addr.add_lit]; have := hcs j v h; simpa using this) hxv h1v).mono ?_
      rintro en w' ⟨rfl, hw'⟩
      generalize hG : grownCap w (l.length + 1) c (Tryz.lays21_ren.t 3) = G at *
      have hG1 : l.length + 1 ≤ G := by rw [← hG]; exact grownCap_ge w _ _ _
      have hG2 : G ≤ maxLen := by rw [← hG]; exact grownCap_le_maxLen w _ _ _ (by unfold maxLen; omega)
      have hsz : w'.heap.size = w.heap.size + 1 := by rw [hw']; exact size_new w.drew _
      refine fin w.heap.size G _ w' _ (.inl (Nat.le_refl _)) (by omega) (by rw [hw']; exact heap_new w.drew _) ht3 ?_ hG2 hG1 ?_ (by rw [hw']; rfl) (by rw [hw']; rfl) (by rw [hw']; rfl) (by omega) ?_
      · simp [size_zeroCells, Value.cells]; omega
      · intro j hj
        rw [cell_heap (by rw [hw']; exact heap_new w.drew _)]
        rw [Array.getElem?_append_left (by simp; omega)]
        by_cases h2 : j = l.length
        · subst h2; simp
        · rw [if_pos (by omega)]
          simp [List.getElem?_append_left, show j < l.length by omega]
      · intro b hb _
        rw [hw']
        exact (Grow.drew_alloc w _).same b hb
end Go.Proofs.YtkhjenddapaejaaGreatDoor
namespace Go.Proofs.YtkhjenddapaejaaGreatDoor
open Go Go.Sym
theorem putL_cut (l : List Int) (x : Int) : putL l x = l.take (cutN l x) ++ [x] ++ l.drop (cutN l x) := by
  have h1 : l.takeWhile (fun y => decide (y < x)) ++ l.dropWhile (fun y => decide (y < x)) = l := List.takeWhile_append_dropWhile
  have h2 : l.take (cutN l x) = l.takeWhile (fun y => decide (y < x)) := by
    conv => lhs; arg 2; rw [← h1]
    unfold cutN
    rw [List.take_left]
  have h3 : l.drop (cutN l x) = l.dropWhile (fun y => decide (y < x)) := by
    conv => lhs; arg 2; rw [← h1]
    unfold cutN
    rw [List.drop_left]
  rw [putL, h2, h3]
theorem eput_sat (l : List Int) (x : Int) (hl : l.length ≤ 1000) (hs : l.Pairwise (· ≤ ·)) :
    SatG Tryz.prog tab 85 [(0, some (0, .own 3 1 (ints l)))] [.slO 0 0 0 l.length, I x] [(100, some (1, .own 3 1 (ints (putL l x))))] (.slO 100 1 0 (putL l x).length) := by
  have hc := cutN_le l x
  rw [putL_cut]
  have hi := insert_sat l x (cutN l x) hc hl
  have hb := search_sat l x hl hs
  generalize (decide (cutN l x < l.length) && decide (l.getD (cutN l x) 0 = x)) = bb at hb
  generalize cutN l x = k at *
  generalize l.take k ++ [x] ++ l.drop k = z at *
  refine uFN Tryz.func85 Tryz.ntmps85 ?_; intro w e X hC
  refine uA ?_
  refine uR ?_; intro K hK
  refine callF (rc := .tup [I k, B bb]) ?_ ?_ ?_ ?_ ?_ ?_; (focus (first | exact trivial | (simp only [go_sem, Nat.reduceAdd, Nat.reduceSub, Nat.reduceMul, Nat.reduceLT, Nat.reduceEqDiff, Nat.reduceBEq, Nat.reduceLeDiff, Int.reduceToNat, ↓reduceIte, Int.reduceEq, Int.reduceLT, Int.reduceLE, Int.reduceAdd, Int.reduceSub, Int.reduceNeg, reduceCtorEq, ] <;> trivial))); (focus (simp only [go_sem, Nat.reduceAdd, Nat.reduceSub, Nat.reduceMul, Nat.reduceLT, Nat.reduceEqDiff, Nat.reduceBEq, Nat.reduceLeDiff, Int.reduceToNat, ↓reduceIte, Int.reduceEq, Int.reduceLT, Int.reduceLE, Int.reduceAdd, Int.reduceSub, Int.reduceNeg, reduceCtorEq, ]; exact hb)); (focus (first | exact trivial | (simp only [go_sem, Nat.reduceAdd, Nat.reduceSub, Nat.reduceMul, Nat.reduceLT, Nat.reduceEqDiff, Nat.reduceBEq, Nat.reduceLeDiff, Int.reduceToNat, ↓reduceIte, Int.reduceEq, Int.reduceLT, Int.reduceLE, Int.reduceAdd, Int.reduceSub, Int.reduceNeg, reduceCtorEq, ] <;> trivial))); (focus (first | exact trivial | (simp only [go_sem, Nat.reduceAdd, Nat.reduceSub, Nat.reduceMul, Nat.reduceLT, Nat.reduceEqDiff, Nat.reduceBEq, Nat.reduceLeDiff, Int.reduceToNat, ↓reduceIte, Int.reduceEq, Int.reduceLT, Int.reduceLE, Int.reduceAdd, Int.reduceSub, Int.reduceNeg, reduceCtorEq, ] <;> trivial))); (focus (first | exact trivial | (simp only [go_sem, Nat.reduceAdd, Nat.reduceSub, Nat.reduceMul, Nat.reduceLT, Nat.reduceEqDiff, Nat.reduceBEq, Nat.reduceLeDiff, Int.reduceToNat, ↓reduceIte, Int.reduceEq, Int.reduceLT, Int.reduceLE, Int.reduceAdd, Int.reduceSub, Int.reduceNeg, reduceCtorEq, ] <;> trivial))); first | refine uS ?_ | exact uX
  refine hK _ ?_; clear hK K
  refine uR ?_; intro K hK
  refine callE [(0, 0, 0, 0), (1, 0, 116, 13)] [(117, 14, 100, 1)] false (hi) uTR uTR uTE uTE uTE uTE uTE uTE uTE uTE uTE uTE uTE uTE uTE uTE uTE ?_; refine uQS ?_
  refine hK _ ?_; clear hK K
  refine awp_ret ?_; rw [show Tryz.f85.results.toList = [.tmp 4] from rfl]; (refine retG [(100, 1, 117, 14)] (by simp only [go_sem, Nat.reduceAdd, Nat.reduceSub, Nat.reduceMul, Nat.reduceLT, Nat.reduceEqDiff, Nat.reduceBEq, Nat.reduceLeDiff, Int.reduceToNat, ↓reduceIte, Int.reduceEq, Int.reduceLT, Int.reduceLE, Int.reduceAdd, Int.reduceSub, Int.reduceNeg, reduceCtorEq, retAV, resV] <;> trivial) (by simp) (by simp) (by simp) uTG uTG uTG ?_ ?_; all_goals (first | refine uSG ?_ | exact uXG | skip))
end Go.Proofs.YtkhjenddapaejaaGreatDoor
namespace Go.Proofs.YtkhjenddapaejaaGreatDoor
open Go Go.Sym
open Go.Plant
def bagOf (xs : List Nd) (p : Pl) (cs : List Int) (fs : List T3) (LV : List Int) (n : Nat) : Int :=
  if isStrip (xs.getD n default).kd = true then (advL (p.slots.getD n []) (atF fs n (xs.getD n default).ln.toNat) (decide (0 ≤ LV.getD n 0))).2 else cs.getD n 0
def st1 (xs : List Nd) (p : Pl) (cs : List Int) (fs : List T3) (LV : List Int) : Nat → List (List Int) × List (List Int) × List T3
  | 0 => (p.slots, p.bins, [])
  | n + 1 =>
    (if isStrip (xs.getD n default).kd = true then (st1 xs p cs fs LV n).1.set n (advL (p.slots.getD n []) (atF fs n (xs.getD n default).ln.toNat) (decide (0 ≤ LV.getD n 0))).1 else (st1 xs p cs fs LV n).1,
     if isStrip (xs.getD n default).kd = true then (st1 xs p cs fs LV n).2.1 else if 0 ≤ LV.getD n 0 then (st1 xs p cs fs LV n).2.1.set n (((st1 xs p cs fs LV n).2.1.getD n []).filter fun y => !decide (y = cs.getD n 0)) else (st1 xs p cs fs LV n).2.1,
     if 0 ≤ LV.getD n 0 then (st1 xs p cs fs LV n).2.2 ++ [⟨bagOf xs p cs fs LV n, n, (xs.getD n default).ex.getD (LV.getD n 0).toNat 0⟩] else (st1 xs p cs fs LV n).2.2)
def st2 (xs : List Nd) (ms : List T3) (s : List (List Int) × List (List Int)) : Nat → List (List Int) × List (List Int)
  | 0 => s
  | i + 1 =>
    let m := ms.getD i default
    if isStrip (xs.getD m.c.toNat default).kd = true then ((st2 xs ms s i).1.set m.c.toNat (((st2 xs ms s i).1.getD m.c.toNat []).set 0 m.a), (st2 xs ms s i).2)
    else ((st2 xs ms s i).1, (st2 xs ms s i).2.set m.c.toNat (putL ((st2 xs ms s i).2.getD m.c.toNat []) m.a))
def stepP (xs : List Nd) (p : Pl) (cs : List Int) (fs : List T3) (LV : List Int) : Pl × List T3 :=
  let s := st1 xs p cs fs LV xs.length
  let q := st2 xs s.2.2 (s.1, s.2.1) s.2.2.length
  (⟨q.1, q.2⟩, s.2.2.filter fun m => !decide (m.b = m.c))
theorem getD_set2 {α : Type} {l : List α} {i n : Nat} {x d : α} : (l.set i x).getD n d = if i = n ∧ i < l.length then x else l.getD n d := by
  simp only [List.getD_eq_getElem?_getD, List.getElem?_set]
  by_cases h : i = n
  · subst h
    by_cases h2 : i < l.length
    · simp [h2]
    · simp [h2, List.getElem?_eq_none (Nat.le_of_not_lt h2)]
  · simp [h]
theorem putL_cons (y : Int) (l : List Int) (x : Int) : putL (y :: l) x = if y < x then y :: putL l x else x :: y :: l := by
  unfold putL
  by_cases h : y < x
  · simp [h]
  · simp [h]
theorem putL_mem {l : List Int} {x z : Int} : z ∈ putL l x ↔ z = x ∨ z ∈ l := by
  have h1 : z ∈ l ↔ z ∈ l.takeWhile (fun y => decide (y < x)) ∨ z ∈ l.dropWhile (fun y => decide (y < x)) := by
    rw [← List.mem_append, List.takeWhile_append_dropWhile]
  rw [h1]
  simp only [putL, List.mem_append, List.mem_singleton]
  exact ⟨fun h => by rcases h with (h | h) | h <;> simp [h], fun h => by rcases h with h | h | h <;> simp [h]⟩
theorem putL_sorted : ∀ {l : List Int} {x : Int}, l.Pairwise (· ≤ ·) → (putL l x).Pairwise (· ≤ ·)
  | [], x, _ => by simp [putL]
  | y :: l, x, h => by
    rw [putL_cons]
    obtain ⟨h1, h2⟩ := List.pairwise_cons.1 h
    split
    · refine List.pairwise_cons.2 ⟨fun z hz => ?_, putL_sorted h2⟩
      rcases putL_mem.1 hz with rfl | hz
      · omega
      · exact h1 z hz
    · refine List.pairwise_cons.2 ⟨fun z hz => ?_, h⟩
      rcases List.mem_cons.1 hz with rfl | hz
      · omega
      · have := h1 z hz; omega
structure StOk (xs : List Nd) (c : Nat) (s : List (List Int) × List (List Int)) : Prop where
  l1 : s.1.length = xs.length
  l2 : s.2.length = xs.length
  r1 : ∀ n, n < xs.length → (s.1.getD n []).length = (xs.getD n default).ln.toNat
  r2 : ∀ n, n < xs.length → (s.2.getD n []).Pairwise (· ≤ ·) ∧ (s.2.getD n []).length ≤ 500 + c
theorem st1_ok {xs : List Nd} {p : Pl} {cs : List Int} {fs : List T3} {LV : List Int} (hp : FitP xs p) (hbs : ∀ n, n < xs.length → (p.bins.getD n []).Pairwise (· ≤ ·)) :
    ∀ i, i ≤ xs.length → StOk xs 0 ((st1 xs p cs fs LV i).1, (st1 xs p cs fs LV i).2.1)
  | 0, _ => ⟨hp.sl, hp.bl, hp.row, fun n hn => ⟨hbs n hn, hp.bin n hn⟩⟩
  | i + 1, hi => by
    obtain ⟨h1, h2, h3, h4⟩ := st1_ok (cs := cs) (fs := fs) (LV := LV) hp hbs i (by omega)
    rw [st1]
    generalize st1 xs p cs fs LV i = s at *
    simp only at h1 h2 h3 h4 ⊢
    refine ⟨?_, ?_, fun n hn => ?_, fun n hn => ?_⟩
    · split <;> simp [h1]
    · split <;> (try split) <;> simp [h2]
    · try simp only
      split
      · rw [getD_set2]
        split
        · rename_i h
          rw [advL_len, hp.row i (by omega), h.1]
        · exact h3 n hn
      · exact h3 n hn
    · try simp only
      split
      · exact h4 n hn
      · split
        · rw [getD_set2]
          split
          · obtain ⟨q1, q2⟩ := h4 i (by omega)
            exact ⟨q1.filter _, Nat.le_trans (List.length_filter_le _ _) q2⟩
          · exact h4 n hn
        · exact h4 n hn
theorem st2_ok {xs : List Nd} {ms : List T3} {s : List (List Int) × List (List Int)} (h : StOk xs 0 s) : ∀ i, StOk xs i (st2 xs ms s i)
  | 0 => h
  | i + 1 => by
    obtain ⟨h1, h2, h3, h4⟩ := st2_ok (ms := ms) h i
    rw [st2]
    generalize st2 xs ms s i = q at *
    have h4' : ∀ n, n < xs.length → (q.2.getD n []).Pairwise (· ≤ ·) ∧ (q.2.getD n []).length ≤ 500 + (i + 1) := fun n hn => ⟨(h4 n hn).1, by have := (h4 n hn).2; omega⟩
    try simp only
    split
    · refine ⟨by simp [h1], h2, fun n hn => ?_, h4'⟩
      try simp only
      rw [getD_set2]
      split
      · rename_i h5
        obtain ⟨rfl, h6⟩ := h5
        rw [List.length_set]; exact h3 _ hn
      · exact h3 n hn
    · refine ⟨h1, by simp [h2], h3, fun n hn => ?_⟩
      try simp only
      rw [getD_set2]
      split
      · rename_i h5
        obtain ⟨rfl, h6⟩ := h5
        rw [putL_length]
        exact ⟨putL_sorted (h4 _ hn).1, by have := (h4 _ hn).2; omega⟩
      · exact h4' n hn
def ExOk (xs : List Nd) : Prop := ∀ n, n < xs.length → ∀ j, j < (xs.getD n default).ex.length → 0 ≤ (xs.getD n default).ex.getD j 0 ∧ (xs.getD n default).ex.getD j 0 < xs.length
def LvOk (xs : List Nd) (LV : List Int) : Prop := ∀ n, n < xs.length → 0 ≤ LV.getD n 0 → LV.getD n 0 < (xs.getD n default).ex.length
theorem st1_to {xs : List Nd} {p : Pl} {cs : List Int} {fs : List T3} {LV : List Int} (hx : ExOk xs) (hl : LvOk xs LV) : ∀ i, i ≤ xs.length → ∀ m ∈ (st1 xs p cs fs LV i).2.2, 0 ≤ m.c ∧ m.c < xs.length
  | 0, _, m, hm => by cases hm
  | i + 1, hi, m, hm => by
    have ih := st1_to (p := p) (cs := cs) (fs := fs) hx hl i (by omega)
    rw [st1] at hm
    simp only at hm
    split at hm
    · rename_i h
      rcases List.mem_append.1 hm with hm | hm
      · exact ih m hm
      · rw [List.mem_singleton] at hm
        subst hm
        have := hl i (by omega) h
        exact hx i (by omega) _ (by omega)
    · exact ih m hm
end Go.Proofs.YtkhjenddapaejaaGreatDoor
namespace Go.Proofs.YtkhjenddapaejaaGreatDoor
open Go Go.Sym
open Go.Plant
theorem estep_sat (y : Ly) (p : Pl) (ord cs : List Int) (fs : List T3) (hp : FitP y.nodes p) (hN : y.nodes.length ≤ 11) (hc : cs.length = y.nodes.length) (hf : FitF y.nodes fs)
    (hx : ∀ m, m < y.nodes.length → 0 ≤ (wnts y.nodes p cs fs y.nodes.length).getD m 0 → (wnts y.nodes p cs fs y.nodes.length).getD m 0 < (y.nodes.getD m default).ex.length)
    (hol : ord.length ≤ 1000) (hord : ∀ i, i < ord.length → 0 ≤ ord.getD i 0 ∧ ord.getD i 0 < y.nodes.length) (LV EN : List Int)
    (hLl : LV.length = y.nodes.length) (hx1 : LvOk y.nodes LV) (hex : ExOk y.nodes) (hbs : ∀ n, n < y.nodes.length → (p.bins.getD n []).Pairwise (· ≤ ·)) (hLV : flows y.nodes p (wnts y.nodes p cs fs y.nodes.length) ord = (LV, EN)) :
    SatG Tryz.prog tab 47 [] [.ptI (plB y ord), p.av, IS cs, .sl (t3s fs) false]
      [(100, some (1, .own 22 1 (krows 3 (stepP y.nodes p cs fs LV).1.slots))), (101, some (1, .own 22 1 (krows 3 (stepP y.nodes p cs fs LV).1.bins))), (102, some (1, .own 44 3 (t3s (stepP y.nodes p cs fs LV).2)))]
      (.tup [.agg [.slO 100 1 0 (stepP y.nodes p cs fs LV).1.slots.length, .slO 101 1 0 (stepP y.nodes p cs fs LV).1.bins.length], .slO 102 1 0 (stepP y.nodes p cs fs LV).2.length]) := by
  have hflow := flows_sat y p ord cs fs hp hN hc hf.len hx hol hord
  rw [hLV] at hflow
  have hxl := hp.xl
  have hr1 : ∀ i, i < p.slots.length → (p.slots.getD i []).length ≤ 1000 := fun i hi => by
    rw [hp.sl] at hi
    have := hp.row i hi; have := hp.ln i hi; omega
  have hr2 : ∀ i, i < p.bins.length → (p.bins.getD i []).length ≤ 1000 := fun i hi => by
    rw [hp.bl] at hi
    have := hp.bin i hi; omega
  have hs1l : ∀ i, (st1 y.nodes p cs fs LV i).1.length = p.slots.length := fun i => by
    induction i with
    | zero => rfl
    | succ i ih => rw [st1]; simp only; split <;> simp [ih]
  have hs2l : ∀ i, (st1 y.nodes p cs fs LV i).2.1.length = p.bins.length := fun i => by
    induction i with
    | zero => rfl
    | succ i ih => rw [st1]; simp only; split <;> (try split) <;> simp [ih]
  have hs3l : ∀ i, (st1 y.nodes p cs fs LV i).2.2.length ≤ i := fun i => by
    induction i with
    | zero => exact Nat.le_refl _
    | succ i ih =>
      rw [st1]; simp only
      split
      · rw [List.length_append]; simp only [List.length_singleton]; omega
      · omega
  have hs2b : ∀ i n, ((st1 y.nodes p cs fs LV i).2.1.getD n []).length ≤ 500 := fun i => by
    induction i with
    | zero =>
      intro n
      by_cases h : n < p.bins.length
      · exact hp.bin n (by rw [← hp.bl]; exact h)
      · show (p.bins.getD n []).length ≤ 500
        rw [List.getD_eq_getElem?_getD, List.getElem?_eq_none (by omega)]
        simp
    | succ i ih =>
      intro n
      rw [st1]
      simp only
      split
      · exact ih n
      · split
        · generalize st1 y.nodes p cs fs LV i = s at ih
          have h1 := ih n
          have h2 := ih i
          rw [getD_set2]
          split
          · exact Nat.le_trans (List.length_filter_le _ _) h2
          · exact h1
        · exact ih n
  refine uFN Tryz.func47 Tryz.ntmps47 ?_; intro w e X hC
  refine uA ?_
  refine uR ?_; intro K hK
  refine callP uTS (hflow) uTS uTS uTS ?_; refine uS ?_
  refine hK _ ?_; clear hK K
  refine uR ?_; intro K hK
  have z := @Bool.or_true; refine callE [] [(125, 12, 100, 1), (401, 12, 101, 1)] false ((clone69_sat p (by rw [hp.sl]; omega) (by rw [hp.bl]; omega) hr1 hr2)) (uTR1 z) (uTR1 z) (uTE1 z) (uTE1 z) (uTE1 z) (uTE1 z) (uTE1 z) (uTE1 z) (uTE1 z) (uTE1 z) (uTE1 z) (uTE1 z) (uTE1 z) (uTE1 z) (uTE1 z) (uTE1 z) (uTE1 z) ?_; refine uQS1 z ?_; clear z
  refine hK _ ?_; clear hK K
  repeat refine uA ?_
  refine uW ?_
  refine awp_loopW (fun i : Nat × Nat × Nat => ⟨[(0, .ptI (plB y ord)), (2, IS cs), (3, .sl (t3s fs) false), (5, .ptO 105 1 0 0 0), (8, .ptO 108 2 0 0 0), (10, .ptO 110 9 0 0 0), (11, .ptO 111 13 0 0 0), (12, .slO 112 i.2.2 0 (st1 y.nodes p cs fs LV i.2.1).2.2.length), (30, .sl (nds y.nodes) false), (31, I y.nodes.length), (32, I i.2.1)],
    (112, some (i.2.2, .own 44 3 (t3s (st1 y.nodes p cs fs LV i.2.1).2.2))) :: (111, some (13, .box [.slO 125 12 0 p.slots.length, .slO 401 12 0 p.bins.length])) :: (125, some (12, .own 22 1 (krows 3 (st1 y.nodes p cs fs LV i.2.1).1))) :: (401, some (12, .own 22 1 (krows 3 (st1 y.nodes p cs fs LV i.2.1).2.1))) :: (110, some (9, .box [IS LV, IS EN])) :: (108, some (2, .box [.sl [] true, .sl [] true])) :: (105, some (1, .box [RS p.slots, RS p.bins])) :: [], i.1⟩)
    (fun i => i.2.1 ≤ y.nodes.length) (fun i => y.nodes.length - i.2.1) (_, 0, _) (Nat.zero_le _) (.of (Nat.le_refl _) (by repeat first | exact HOk.nil | refine uHN ?_ | (refine HOk.cons ?_ ?_; (focus (simp only [go_sem, Nat.reduceAdd, Nat.reduceSub, Nat.reduceMul, Nat.reduceLT, Nat.reduceEqDiff, Nat.reduceBEq, Nat.reduceLeDiff, Int.reduceToNat, ↓reduceIte, Int.reduceEq, Int.reduceLT, Int.reduceLE, Int.reduceAdd, Int.reduceSub, Int.reduceNeg, reduceCtorEq, st1]; done)))) (by repeat first | exact WOk.nil | refine uWN ?_ | (refine WOk.cons ?_ ?_; (focus (simp only [go_sem, Nat.reduceAdd, Nat.reduceSub, Nat.reduceMul, Nat.reduceLT, Nat.reduceEqDiff, Nat.reduceBEq, Nat.reduceLeDiff, Int.reduceToNat, ↓reduceIte, Int.reduceEq, Int.reduceLT, Int.reduceLE, Int.reduceAdd, Int.reduceSub, Int.reduceNeg, reduceCtorEq, st1]; done))))) ?_
  · rintro ⟨ck, i, gm⟩ hi
    simp only at hi
    have hL1 := hs1l i
    have hL2 := hs2l i
    have hB2 := hs2b i i
    have hL3 := hs3l i
    have hex1 : st1 y.nodes p cs fs LV (i + 1) = _ := st1.eq_2 y.nodes p cs fs LV i
    have hto := st1_to (p := p) (cs := cs) (fs := fs) hex hx1 i hi
    have hok := st1_ok (cs := cs) (fs := fs) (LV := LV) hp hbs i hi
    generalize hsE : st1 y.nodes p cs fs LV i = s at *
    obtain ⟨s1, s2, s3⟩ := s
    simp only at hL1 hL2 hB2 hL3 hex1
    repeat refine uA ?_
    refine uW ?_; refine condP _ rfl (fun h => ?_) (fun h => ?_)
    · have hlt : i < y.nodes.length := by omega
      have hic : i < cs.length := by omega
      have hiL : i < LV.length := by omega
      have hadv := fun h0 => eadvance_sat y p ord fs i (decide (0 ≤ LV.getD i 0)) hp hf hlt h0
      have hAl : (advL (p.slots.getD i []) (atF fs i (y.nodes.getD i default).ln.toNat) (decide (0 ≤ LV.getD i 0))).1.length = (p.slots.getD i []).length := advL_len _ _ _
      have hrow := hp.row i hlt
      have hps := hp.sl
      have hpb := hp.bl
      have hst : isStrip (y.nodes.getD i default).kd = true → 1 ≤ (y.nodes.getD i default).ln := hp.st i hlt
      have hln := hp.ln i hlt
      have his : i < s1.length := by rw [hL1, hp.sl]; exact hlt
      have hib : i < s2.length := by rw [hL2, hp.bl]; exact hlt
      generalize e2 : y.nodes.getD i default = x at *
      repeat refine uA1 (And.intro (nds_getD hlt) @e2) ?_
      refine uD1 (And.intro (ints_getD hic) (ints_getD hiL)) ?_; intro K hK
      refine uH ?_
      refine hK _ ?_; clear hK K
      have hbg : bagOf y.nodes p cs fs LV i = if isStrip x.kd = true then (advL (p.slots.getD i []) (atF fs i x.ln.toNat) (decide (0 ≤ LV.getD i 0))).2 else cs.getD i 0 := by rw [bagOf, e2]
      generalize bagOf y.nodes p cs fs LV i = bg at *
      generalize advL (p.slots.getD i []) (atF fs i x.ln.toNat) (decide (0 ≤ LV.getD i 0)) = A at *
      generalize hn1 : (if isStrip x.kd = true then s1.set i A.1 else s1) = n1 at *
      generalize hn2 : (if isStrip x.kd = true then s2 else if 0 ≤ LV.getD i 0 then s2.set i ((s2.getD i []).filter fun y => !decide (y = cs.getD i 0)) else s2) = n2 at *
      refine awp_seq ?_
      refine awp_merge (fun q : Nat => ⟨[(0, .ptI (plB y ord)), (2, IS cs), (3, .sl (t3s fs) false), (5, .ptO 105 1 0 0 0), (8, .ptO 108 2 0 0 0), (10, .ptO 110 9 0 0 0), (11, .ptO 111 13 0 0 0), (12, .slO 112 gm 0 s3.length), (13, I i), (14, .ptO 114 (ck+4) 0 0 0), (15, .ptO 115 (ck+17) 0 0 0), (16, B (decide (0 ≤ LV.getD i 0))), (30, .sl (nds y.nodes) false), (31, I y.nodes.length), (32, I i)], (115, some (ck+17, .box [I bg])) :: (114, some (ck+4, .box [S x.nm, I x.kd, I x.ln, I x.zn, IS x.ex])) :: (112, some (gm, .own 44 3 (t3s s3))) :: (111, some (13, .box [.slO 125 12 0 p.slots.length, .slO 401 12 0 p.bins.length])) :: (125, some (12, .own 22 1 (krows 3 n1))) :: (401, some (12, .own 22 1 (krows 3 n2))) :: (110, some (9, .box [IS LV, IS EN])) :: (108, some (2, .box [.sl [] true, .sl [] true])) :: (105, some (1, .box [RS p.slots, RS p.bins])) :: [], q⟩) (fun _ => True) ?_ ?_
      · refine uR ?_; intro K hK
        refine callF uTS ((fstrip_sat x.kd)) uTS uTS uTS ?_; refine uS ?_
        refine hK _ ?_; clear hK K
        cases c1 : isStrip x.kd with
        | true =>
          rw [c1] at hn1 hn2 hbg
          simp only [if_true] at hn1 hn2 hbg
          refine uT ?_
          have hr0 : 0 < (p.slots.getD i []).length := by have := hst c1; omega
          have hadv' := hadv hr0
          generalize (p.slots.getD i []).length = rl at *
          refine uD ?_; intro K hK
          refine callE [] [(159, ck+31, 100, 1)] false (hadv') uTR uTR uTE uTE uTE uTE uTE uTE uTE uTE uTE uTE uTE uTE uTE uTE uTE ?_; refine uQS ?_
          refine uH ?_
          refine hK _ ?_; clear hK K
          subst hn2 hbg
          refine ⟨_, trivial, .of (Nat.le_refl _) (uHF1 @hn1) uWF⟩
        | false =>
          rw [c1] at hn1 hn2 hbg
          simp only [Bool.false_eq_true, if_false] at hn1 hn2 hbg
          subst hn1 hbg
          refine uF ?_
          refine uA ?_
          refine uW ?_; refine condP _ rfl (fun c2 => ?_) (fun c2 => ?_)
          · rw [if_pos c2] at hn2
            (repeat first | refine awp_seq ?_ | refine awp_skip ?_ | refine awp_block ?_); refine awp_region_drawR hC (by kernel_rfl) (by kernel_rfl) rfl fun K hK => ?_; simp only [go_sem, Nat.reduceAdd, Nat.reduceSub, Nat.reduceMul, Nat.reduceLT, Nat.reduceEqDiff, Nat.reduceBEq, Nat.reduceLeDiff, Int.reduceToNat, ↓reduceIte, Int.reduceEq, Int.reduceLT, Int.reduceLE, Int.reduceAdd, Int.reduceSub, Int.reduceNeg, reduceCtorEq, krows_getD hib, hL2, hpb]
            refine ⟨by omega, by omega, ?_⟩
            refine callE [(0, 0, 171, ck+31)] [(173, ck+33, 100, 1)] true ((delI_sat (s2.getD i []) 84 [I (cs.getD i 0)] (fun y => decide (y = cs.getD i 0)) (by omega) (fun y _ => step1_sat (cs.getD i 0) y))) uTR uTR uTE uTE uTE uTE uTE uTE uTE uTE uTE uTE uTE uTE uTE uTE uTE ?_; refine uQS ?_
            refine uH ?_
            refine hK _ ?_; clear hK K
            refine ⟨_, trivial, .of (Nat.le_refl _) (uHF1 (And.intro @hn2 (And.intro @hpb @List.set_set.{0}))) uWF⟩
          · rw [if_neg c2] at hn2
            subst hn2
            refine uW ?_
            refine ⟨_, trivial, uKF⟩
      · rintro ck2 -
        have hxe := hx1 i hlt
        rw [e2] at hxe
        repeat refine uA ?_
        refine uW ?_; refine condP _ rfl (fun c3 => ?_) (fun c3 => ?_)
        · rw [if_pos c3] at hex1
          obtain ⟨k, hk⟩ : ∃ k : Nat, k = (LV.getD i 0).toNat := ⟨_, rfl⟩
          have hkk : LV.getD i 0 = (k : Int) := by omega
          rw [← hk] at hex1
          have hkx := hxe c3
          rw [hkk] at hkx
          have hkx' : k < x.ex.length := by omega
          refine uD1 (And.intro (ints_getD hiL) (And.intro @hkk (ints_getD hkx'))) ?_; intro K hK
          refine uH ?_
          refine hK _ ?_; clear hK K
          repeat refine uA ?_
          refine ⟨(_, i + 1, gm), by simp only; omega, by simp only; omega, .of (Nat.le_refl _) (uHF1 @hex1) (uWF1 (And.intro @hex1 @List.length_singleton.{0}))⟩
        · rw [if_neg c3] at hex1
          repeat refine uA ?_
          refine ⟨(_, i + 1, gm), by simp only; omega, by simp only; omega, .of (Nat.le_refl _) (uHF1 @hex1) (uWF1 @hex1)⟩
    · refine awp_exit ?_
      obtain rfl : i = y.nodes.length := by omega
      have hok2 := st2_ok (ms := s3) hok
      have hps := hp.sl
      have hpb := hp.bl
      clear hok hL1 hL2 hB2 hex1
      repeat refine uA ?_
      refine uW ?_
      refine awp_loopW (fun i : Nat × Nat => ⟨[(0, .ptI (plB y ord)), (2, IS cs), (3, .sl (t3s fs) false), (5, .ptO 105 1 0 0 0), (8, .ptO 108 2 0 0 0), (10, .ptO 110 9 0 0 0), (11, .ptO 111 13 0 0 0), (12, .slO 112 gm 0 s3.length), (92, .slO 112 gm 0 s3.length), (93, I s3.length), (94, I i.2)],
        (112, some (gm, .own 44 3 (t3s s3))) :: (111, some (13, .box [.slO 125 12 0 p.slots.length, .slO 401 12 0 p.bins.length])) :: (125, some (12, .own 22 1 (krows 3 (st2 y.nodes s3 (s1, s2) i.2).1))) :: (401, some (12, .own 22 1 (krows 3 (st2 y.nodes s3 (s1, s2) i.2).2))) :: (110, some (9, .box [IS LV, IS EN])) :: (108, some (2, .box [.sl [] true, .sl [] true])) :: (105, some (1, .box [RS p.slots, RS p.bins])) :: [], i.1⟩)
        (fun i => i.2 ≤ s3.length) (fun i => s3.length - i.2) (_, 0) (Nat.zero_le _) (.of (Nat.le_refl _) (by repeat first | exact HOk.nil | refine uHN ?_ | (refine HOk.cons ?_ ?_; (focus (simp only [go_sem, Nat.reduceAdd, Nat.reduceSub, Nat.reduceMul, Nat.reduceLT, Nat.reduceEqDiff, Nat.reduceBEq, Nat.reduceLeDiff, Int.reduceToNat, ↓reduceIte, Int.reduceEq, Int.reduceLT, Int.reduceLE, Int.reduceAdd, Int.reduceSub, Int.reduceNeg, reduceCtorEq, st2]; done)))) (by repeat first | exact WOk.nil | refine uWN ?_ | (refine WOk.cons ?_ ?_; (focus (simp only [go_sem, Nat.reduceAdd, Nat.reduceSub, Nat.reduceMul, Nat.reduceLT, Nat.reduceEqDiff, Nat.reduceBEq, Nat.reduceLeDiff, Int.reduceToNat, ↓reduceIte, Int.reduceEq, Int.reduceLT, Int.reduceLE, Int.reduceAdd, Int.reduceSub, Int.reduceNeg, reduceCtorEq]; done))))) ?_
      rintro ⟨ck, i⟩ hi
      simp only at hi
      have hoki := hok2 i
      have hE : st2 y.nodes s3 (s1, s2) (i + 1) = _ := st2.eq_2 y.nodes s3 (s1, s2) i
      generalize hqE : st2 y.nodes s3 (s1, s2) i = q at *
      obtain ⟨q1, q2⟩ := q
      obtain ⟨hq1, hq2, hq3, hq4⟩ := hoki
      simp only at hq1 hq2 hq3 hq4 hE
      repeat refine uA ?_
      refine uW ?_; refine condP _ rfl (fun h1 => ?_) (fun h1 => ?_)
      · have hlt : i < s3.length := by omega
        obtain ⟨hm0, hm1⟩ := hto (s3.getD i default) (mem_getD hlt)
        generalize e3 : s3.getD i default = m at *
        obtain ⟨k, hk⟩ : ∃ k : Nat, k = m.c.toNat := ⟨_, rfl⟩
        have hmk : m.c = (k : Int) := by omega
        rw [← hk] at hE
        have hkn : k < y.nodes.length := by omega
        have hkq1 : k < q1.length := by omega
        have hkq2 : k < q2.length := by omega
        have hr1 := hq3 k hkn
        obtain ⟨hr2, hr3⟩ := hq4 k hkn
        have hst : isStrip (y.nodes.getD k default).kd = true → 1 ≤ (y.nodes.getD k default).ln := hp.st k hkn
        generalize e4 : y.nodes.getD k default = x at *
        refine uA1 (And.intro (t3s_getD hlt) @e3) ?_
        refine uE1 (And.intro @hmk (And.intro (nds_getD hkn) @e4)) ?_; intro K hK
        refine ⟨by omega, ?_⟩
        refine callF uTS ((fstrip_sat x.kd)) uTS uTS uTS ?_; refine uS ?_
        refine uH ?_
        refine hK _ ?_; clear hK K
        cases c1 : isStrip x.kd with
        | true =>
          have := hst c1
          have hr0 : 0 < (q1.getD k []).length := by omega
          rw [c1] at hE
          simp only [if_true] at hE
          refine uT ?_
          (repeat first | refine awp_seq ?_ | refine awp_skip ?_ | refine awp_block ?_); refine awp_region_drawR hC (by kernel_rfl) (by kernel_rfl) rfl fun K hK => ?_; simp only [go_sem, Nat.reduceAdd, Nat.reduceSub, Nat.reduceMul, Nat.reduceLT, Nat.reduceEqDiff, Nat.reduceBEq, Nat.reduceLeDiff, Int.reduceToNat, ↓reduceIte, Int.reduceEq, Int.reduceLT, Int.reduceLE, Int.reduceAdd, Int.reduceSub, Int.reduceNeg, reduceCtorEq, krows_getD hkq1, hq1, hps, hmk]
          refine uH ?_
          refine hK _ ?_; clear hK K
          have hsk : ∀ v, ((krows 3 q1).set k v).getD k .bad = v := fun v => by
            rw [getD_set2, if_pos ⟨rfl, by rw [krows_length]; exact hkq1⟩]
          have hlk : ((q1.getD k []).set 0 m.a).length = (q1.getD k []).length := List.length_set
          refine awp_attach (id := 125) (gi := 12) (t := 22) (k := 1) (i := k) (rid := 214) (rg := ck + 21) (n := (q1.getD k []).length) rfl (by rw [List.length_set, krows_length]; exact hkq1) (hsk _) (by decide) ?_ ?_
          · simp only [go_sem, Nat.reduceAdd, Nat.reduceSub, Nat.reduceMul, Nat.reduceLT, Nat.reduceEqDiff, Nat.reduceBEq, Nat.reduceLeDiff, Int.reduceToNat, ↓reduceIte, Int.reduceEq, Int.reduceLT, Int.reduceLE, Int.reduceAdd, Int.reduceSub, Int.reduceNeg, reduceCtorEq, attP, hlk]
          · simp only [go_sem, Nat.reduceAdd, Nat.reduceSub, Nat.reduceMul, Nat.reduceLT, Nat.reduceEqDiff, Nat.reduceBEq, Nat.reduceLeDiff, Int.reduceToNat, ↓reduceIte, Int.reduceEq, Int.reduceLT, Int.reduceLE, Int.reduceAdd, Int.reduceSub, Int.reduceNeg, reduceCtorEq, att, List.set_set]
            repeat refine uA ?_
            refine ⟨(_, i + 1), by simp only; omega, by simp only; omega, .of (Nat.le_refl _) (uHF1 (And.intro @hE @hps)) uWF⟩
        | false =>
          rw [c1] at hE
          simp only [Bool.false_eq_true, if_false] at hE
          refine uF ?_
          (repeat first | refine awp_seq ?_ | refine awp_skip ?_ | refine awp_block ?_); refine awp_region_drawR hC (by kernel_rfl) (by kernel_rfl) rfl fun K hK => ?_; simp only [go_sem, Nat.reduceAdd, Nat.reduceSub, Nat.reduceMul, Nat.reduceLT, Nat.reduceEqDiff, Nat.reduceBEq, Nat.reduceLeDiff, Int.reduceToNat, ↓reduceIte, Int.reduceEq, Int.reduceLT, Int.reduceLE, Int.reduceAdd, Int.reduceSub, Int.reduceNeg, reduceCtorEq, krows_getD hkq2, hq2, hpb, hmk]
          refine ⟨by omega, by omega, ?_⟩
          refine callE [(0, 0, 227, ck+25)] [(230, ck+28, 100, 1)] false ((eput_sat (q2.getD k []) m.a (by omega) hr2)) uTR uTR uTE uTE uTE uTE uTE uTE uTE uTE uTE uTE uTE uTE uTE uTE uTE ?_; refine uQS ?_
          refine uH ?_
          refine hK _ ?_; clear hK K
          repeat refine uA ?_
          refine ⟨(_, i + 1), by simp only; omega, by simp only; omega, .of (Nat.le_refl _) (uHF1 (And.intro @hE (And.intro @hpb @List.set_set.{0}))) uWF⟩
      · refine awp_exit ?_
        obtain rfl : i = s3.length := by omega
        have hst : stepP y.nodes p cs fs LV = (⟨q1, q2⟩, s3.filter fun m => !decide (m.b = m.c)) := by
          unfold stepP; rw [hsE]; simp only [hqE]
        rw [hst]
        simp only
        refine uD ?_; intro K hK
        refine callE [(0, 0, 112, gm)] [(235, ck+3, 100, 1)] false ((delP_sat s3 87 (fun m => decide (m.b = m.c)) (by omega) (fun m _ => step2_sat m))) uTR uTR uTE uTE uTE uTE uTE uTE uTE uTE uTE uTE uTE uTE uTE uTE uTE ?_; refine uQS ?_
        refine uH ?_
        refine hK _ ?_; clear hK K
        have hA : p.slots.length = q1.length := by omega
        have hB : p.bins.length = q2.length := by omega
        rw [hA, hB]
        refine awp_ret ?_; rw [show Tryz.f47.results.toList = [.cell 8 34, .tmp 9] from rfl]; (refine retG [(100, 1, 125, 12), (101, 1, 401, 12), (102, 1, 235, ck+3)] (by simp only [go_sem, Nat.reduceAdd, Nat.reduceSub, Nat.reduceMul, Nat.reduceLT, Nat.reduceEqDiff, Nat.reduceBEq, Nat.reduceLeDiff, Int.reduceToNat, ↓reduceIte, Int.reduceEq, Int.reduceLT, Int.reduceLE, Int.reduceAdd, Int.reduceSub, Int.reduceNeg, reduceCtorEq, retAV, resV] <;> trivial) (by simp) (by simp) (by simp) uTG uTG uTG ?_ ?_; all_goals (first | refine uSG ?_ | exact uXG | skip))
end Go.Proofs.YtkhjenddapaejaaGreatDoor
namespace Go.Proofs.YtkhjenddapaejaaGreatDoor
open Go Go.Sym
theorem by_sat (x y : T3) (h : -9223372036854775808 ≤ x.b - y.b ∧ x.b - y.b ≤ 9223372036854775807) : SatG Tryz.prog tab 49 [] [x.av, y.av] [] (I (x.b - y.b)) := by
  refine uFN Tryz.func49 Tryz.ntmps49 ?_; intro w e X hC
  repeat refine uA ?_
  (refine awp_ret (ret1 uRT ?_); try rfl)
def Asc (l : List T3) : Prop := ∀ i, i + 1 < l.length → (l.getD i default).b ≤ (l.getD (i + 1) default).b
def Sml (l : List T3) : Prop := ∀ i, i < l.length → 0 ≤ (l.getD i default).b ∧ (l.getD i default).b ≤ 1000
theorem isort_sat (l : List T3) (hl : l.length ≤ 12) (ha : Asc l) (hs : Sml l) :
    SatG Tryz.prog tab 126 [(0, some (0, .own 44 3 (t3s l)))] [.slO 0 0 0 l.length, I 0, I l.length, .fn 49 []] [(0, some (0, .own 44 3 (t3s l)))] (.tup []) := by
  refine uFN Tryz.func126 Tryz.ntmps126 ?_; intro w e X hC
  repeat refine uA ?_
  refine uW ?_
  refine awp_loopW (fun i : Nat × Nat => ⟨[(0, .slO 0 0 0 l.length), (1, I 0), (2, I l.length), (3, .fn 49 []), (8, I (i.2 + 1 : Nat))], (0, some (0, .own 44 3 (t3s l))) :: [], i.1⟩) (fun i => True) (fun i => l.length - i.2) (_, 0) trivial (uKF) ?_
  rintro ⟨ck, i⟩ -
  repeat refine uA ?_
  refine uW ?_; refine condP _ rfl (fun h => ?_) (fun h => ?_)
  · have h1 : i + 1 < l.length := by omega
    repeat refine uA ?_
    refine uW ?_
    refine awp_loopW (fun k : Nat => ⟨[(0, .slO 0 0 0 l.length), (1, I 0), (2, I l.length), (3, .fn 49 []), (8, I (i + 1 : Nat)), (9, I (i + 1 : Nat))], (0, some (0, .own 44 3 (t3s l))) :: [], k⟩) (fun _ => True) (fun _ => 0) _ trivial (uKF) ?_
    rintro k -
    have d1 : decide (0 < ((i + 1 : Nat) : Int)) = true := decide_eq_true (by omega)
    have hb := ha i h1
    have hs1 := hs i (by omega)
    have hs2 := hs (i + 1) h1
    have hi0 : i < l.length := by omega
    have hsat := by_sat (l.getD (i + 1) default) (l.getD i default) (by omega)
    have d2 : decide ((l.getD (i + 1) default).b - (l.getD i default).b < 0) = false := decide_eq_false (by omega)
    have e1 : ((i + 1 : Nat) : Int) - 1 = (i : Int) := by omega
    refine uE1 (And.intro @d1 (And.intro @e1 (And.intro (t3s_getD h1) (t3s_getD hi0)))) ?_; intro K hK
    refine ⟨by omega, by omega, by omega, by omega, by omega, ?_⟩
    refine callF uTS (hsat) uTS uTS uTS ?_; refine uS ?_
    refine uH ?_
    refine hK _ ?_; clear hK K
    refine uW ?_; refine condP _ rfl (fun c1 => ?_) (fun c1 => ?_)
    · omega
    · refine awp_exit ?_
      repeat refine uA ?_
      refine ⟨(_, i + 1), trivial, by simp only; omega, uKF⟩
  · refine awp_exit ?_
    show ∃ σ D, RetG _ Tryz.f126.results.toList σ D _ _ _; rw [show Tryz.f126.results.toList = [] from rfl]; (refine retG [(0, 0, 0, 0)] (by simp only [go_sem, Nat.reduceAdd, Nat.reduceSub, Nat.reduceMul, Nat.reduceLT, Nat.reduceEqDiff, Nat.reduceBEq, Nat.reduceLeDiff, Int.reduceToNat, ↓reduceIte, Int.reduceEq, Int.reduceLT, Int.reduceLE, Int.reduceAdd, Int.reduceSub, Int.reduceNeg, reduceCtorEq, retAV, resV] <;> trivial) (by simp) (by simp) (by simp) uTG uTG uTG ?_ ?_; all_goals (first | refine uSG ?_ | exact uXG | skip))
end Go.Proofs.YtkhjenddapaejaaGreatDoor
namespace Go.Proofs.YtkhjenddapaejaaGreatDoor
open Go Go.Sym
theorem len64_sat (n : Nat) (h : n < 13) : SatG Tryz.prog tab 135 [] [U n] [] (I ([0, 1, 2, 2, 3, 3, 3, 3, 4, 4, 4, 4, 4].getD n 0)) := by
  have d1 : decide ((4294967296 : Int) ≤ n) = false := decide_eq_false (by omega)
  have d2 : decide ((65536 : Int) ≤ n) = false := decide_eq_false (by omega)
  have d3 : decide ((256 : Int) ≤ n) = false := decide_eq_false (by omega)
  refine uFN Tryz.func135 Tryz.ntmps135 ?_; intro w e X hC
  refine uA ?_
  refine uR1 @d1 ?_; intro K hK
  refine hK _ ?_; clear hK K
  refine uF ?_
  refine uR1 @d2 ?_; intro K hK
  refine hK _ ?_; clear hK K
  refine uF ?_
  refine uR1 @d3 ?_; intro K hK
  refine hK _ ?_; clear hK K
  refine uF ?_
  have hc : n = 0 ∨ n = 1 ∨ n = 2 ∨ n = 3 ∨ n = 4 ∨ n = 5 ∨ n = 6 ∨ n = 7 ∨ n = 8 ∨ n = 9 ∨ n = 10 ∨ n = 11 ∨ n = 12 := by omega
  refine uR ?_; intro K hK
  refine ⟨?_, ?_, ?_⟩
  · rcases hc with rfl | rfl | rfl | rfl | rfl | rfl | rfl | rfl | rfl | rfl | rfl | rfl | rfl <;> exact of_decide_eq_true (by kernel_rfl)
  · rcases hc with rfl | rfl | rfl | rfl | rfl | rfl | rfl | rfl | rfl | rfl | rfl | rfl | rfl <;> exact of_decide_eq_true (by kernel_rfl)
  · refine hK _ ?_; clear hK K
    (refine awp_ret (ret1 uRT ?_); try rfl)
    rcases hc with rfl | rfl | rfl | rfl | rfl | rfl | rfl | rfl | rfl | rfl | rfl | rfl | rfl <;> kernel_rfl
theorem len_sat (n : Nat) (h : n < 13) : SatG Tryz.prog tab 89 [] [U n] [] (I ([0, 1, 2, 2, 3, 3, 3, 3, 4, 4, 4, 4, 4].getD n 0)) := by
  refine uFN Tryz.func89 Tryz.ntmps89 ?_; intro w e X hC
  refine uA ?_
  refine uF ?_
  refine uR ?_; intro K hK
  refine callF uTS ((len64_sat n h)) uTS uTS uTS ?_; refine uS ?_
  refine hK _ ?_; clear hK K
  (refine awp_ret (ret1 uRT ?_); try rfl)
theorem pdq_sat (l : List T3) (lim : Int) (hl : l.length ≤ 12) (ha : Asc l) (hs : Sml l) :
    SatG Tryz.prog tab 88 [(0, some (0, .own 44 3 (t3s l)))] [.slO 0 0 0 l.length, I 0, I l.length, I lim, .fn 49 []] [(0, some (0, .own 44 3 (t3s l)))] (.tup []) := by
  refine uFN Tryz.func88 Tryz.ntmps88 ?_; intro w e X hC
  repeat refine uA ?_
  refine uW ?_
  refine awp_loopW (fun k : Nat => ⟨[(0, .slO 0 0 0 l.length), (1, I 0), (2, I l.length), (4, .fn 49 [])], (0, some (0, .own 44 3 (t3s l))) :: [], k⟩) (fun _ => True) (fun _ => 0) _ trivial (uKF) ?_
  rintro k -
  have e1 : (l.length : Int) - 0 = l.length := by omega
  repeat refine uA1 @e1 ?_
  refine uW ?_; refine condP _ rfl (fun h => ?_) (fun h => ?_)
  · refine uR ?_; intro K hK
    refine callE [(0, 0, 0, 0)] [(0, 0, 0, 0)] true ((isort_sat l hl ha hs)) uTR uTR uTE uTE uTE uTE uTE uTE uTE uTE uTE uTE uTE uTE uTE uTE uTE ?_; refine uQS ?_
    refine hK _ ?_; clear hK K
    refine uW ?_
    refine awp_ret ?_; rw [show Tryz.f88.results.toList = [] from rfl]; (refine retG [(0, 0, 0, 0)] (by simp only [go_sem, Nat.reduceAdd, Nat.reduceSub, Nat.reduceMul, Nat.reduceLT, Nat.reduceEqDiff, Nat.reduceBEq, Nat.reduceLeDiff, Int.reduceToNat, ↓reduceIte, Int.reduceEq, Int.reduceLT, Int.reduceLE, Int.reduceAdd, Int.reduceSub, Int.reduceNeg, reduceCtorEq, retAV, resV] <;> trivial) (by simp) (by simp) (by simp) uTG uTG uTG ?_ ?_; all_goals (first | refine uSG ?_ | exact uXG | skip))
  · omega
theorem sortP_sat (l : List T3) (hl : l.length ≤ 12) (ha : Asc l) (hs : Sml l) :
    SatG Tryz.prog tab 48 [(0, some (0, .own 44 3 (t3s l)))] [.slO 0 0 0 l.length, .fn 49 []] [(0, some (0, .own 44 3 (t3s l)))] (.tup []) := by
  have e1 := u64_nat (a := l.length) (by omega)
  have hlen := len_sat l.length (by omega)
  generalize [0, 1, 2, 2, 3, 3, 3, 3, 4, 4, 4, 4, 4].getD l.length (0 : Int) = lim at hlen
  refine uFN Tryz.func48 Tryz.ntmps48 ?_; intro w e X hC
  refine uA ?_
  refine uR1 @e1 ?_; intro K hK
  refine callF uTS (hlen) uTS uTS uTS ?_; refine uS ?_
  refine callE [(0, 0, 0, 0)] [(0, 0, 0, 0)] true ((pdq_sat l lim hl ha hs)) uTR uTR uTE uTE uTE uTE uTE uTE uTE uTE uTE uTE uTE uTE uTE uTE uTE ?_; refine uQS ?_
  refine hK _ ?_; clear hK K
  show ∃ σ D, RetG _ Tryz.f48.results.toList σ D _ _ _; rw [show Tryz.f48.results.toList = [] from rfl]; (refine retG [(0, 0, 0, 0)] (by simp only [go_sem, Nat.reduceAdd, Nat.reduceSub, Nat.reduceMul, Nat.reduceLT, Nat.reduceEqDiff, Nat.reduceBEq, Nat.reduceLeDiff, Int.reduceToNat, ↓reduceIte, Int.reduceEq, Int.reduceLT, Int.reduceLE, Int.reduceAdd, Int.reduceSub, Int.reduceNeg, reduceCtorEq, retAV, resV] <;> trivial) (by simp) (by simp) (by simp) uTG uTG uTG ?_ ?_; all_goals (first | refine uSG ?_ | exact uXG | skip))
end Go.Proofs.YtkhjenddapaejaaGreatDoor
namespace Go.Proofs.YtkhjenddapaejaaGreatDoor
open Go Go.Sym
abbrev U8 (c : Nat) : AV := .lit (.int .u8 (c : Int))
def letB (c : Nat) : Bool := decide ((65 : Int) ≤ c) && decide ((c : Int) ≤ 90)
def digB (c : Nat) : Bool := decide ((48 : Int) ≤ c) && decide ((c : Int) ≤ 57)
def bs (s : ByteArray) : List Nat := s.data.toList.map UInt8.toNat
def nameOk (s : ByteArray) : Bool := decide (1 ≤ (bs s).length) && (decide ((bs s).length ≤ 12) && (letB ((bs s).getD 0 0) && (bs s).all fun c => letB c || digB c))
theorem bs_len (s : ByteArray) : (bs s).length = s.data.toList.length := by simp [bs]
theorem bs_getD (s : ByteArray) (i : Nat) : (s.data.toList.getD i 0).toNat = (bs s).getD i 0 := by
  unfold bs
  by_cases h : i < s.data.toList.length
  · simp only [List.getD_eq_getElem?_getD, List.getElem?_map, List.getElem?_eq_getElem h]; rfl
  · simp only [List.getD_eq_getElem?_getD, List.getElem?_map, List.getElem?_eq_none (Nat.le_of_not_lt h)]; rfl
theorem letter_sat (c : Nat) : SatG Tryz.prog tab 172 [] [U8 c] [] (B (letB c)) := by
  refine uFN Tryz.func172 Tryz.ntmps172 ?_; intro w e X hC
  cases d1 : decide ((65 : Int) ≤ c) with
  | true =>
    repeat refine uA1 @d1 ?_
    (refine awp_ret (ret1 uRT ?_); try rfl)
    simp only [go_sem, Nat.reduceAdd, Nat.reduceSub, Nat.reduceMul, Nat.reduceLT, Nat.reduceEqDiff, Nat.reduceBEq, Nat.reduceLeDiff, Int.reduceToNat, ↓reduceIte, Int.reduceEq, Int.reduceLT, Int.reduceLE, Int.reduceAdd, Int.reduceSub, Int.reduceNeg, reduceCtorEq, letB, d1, Bool.true_and]
  | false =>
    repeat refine uA1 @d1 ?_
    (refine awp_ret (ret1 uRT ?_); try rfl)
    simp only [go_sem, Nat.reduceAdd, Nat.reduceSub, Nat.reduceMul, Nat.reduceLT, Nat.reduceEqDiff, Nat.reduceBEq, Nat.reduceLeDiff, Int.reduceToNat, ↓reduceIte, Int.reduceEq, Int.reduceLT, Int.reduceLE, Int.reduceAdd, Int.reduceSub, Int.reduceNeg, reduceCtorEq, letB, d1, Bool.false_and]
theorem digit_sat (c : Nat) : SatG Tryz.prog tab 175 [] [U8 c] [] (B (digB c)) := by
  refine uFN Tryz.func175 Tryz.ntmps175 ?_; intro w e X hC
  cases d1 : decide ((48 : Int) ≤ c) with
  | true =>
    repeat refine uA1 @d1 ?_
    (refine awp_ret (ret1 uRT ?_); try rfl)
    simp only [go_sem, Nat.reduceAdd, Nat.reduceSub, Nat.reduceMul, Nat.reduceLT, Nat.reduceEqDiff, Nat.reduceBEq, Nat.reduceLeDiff, Int.reduceToNat, ↓reduceIte, Int.reduceEq, Int.reduceLT, Int.reduceLE, Int.reduceAdd, Int.reduceSub, Int.reduceNeg, reduceCtorEq, digB, d1, Bool.true_and]
  | false =>
    repeat refine uA1 @d1 ?_
    (refine awp_ret (ret1 uRT ?_); try rfl)
    simp only [go_sem, Nat.reduceAdd, Nat.reduceSub, Nat.reduceMul, Nat.reduceLT, Nat.reduceEqDiff, Nat.reduceBEq, Nat.reduceLeDiff, Int.reduceToNat, ↓reduceIte, Int.reduceEq, Int.reduceLT, Int.reduceLE, Int.reduceAdd, Int.reduceSub, Int.reduceNeg, reduceCtorEq, digB, d1, Bool.false_and]
theorem letter2_sat (c : Nat) : SatG Tryz.prog tab 156 [] [U8 c] [] (B (letB c)) := by
  refine uFN Tryz.func156 Tryz.ntmps156 ?_; intro w e X hC
  cases d1 : decide ((65 : Int) ≤ c) with
  | true =>
    repeat refine uA1 @d1 ?_
    (refine awp_ret (ret1 uRT ?_); try rfl)
    simp only [go_sem, Nat.reduceAdd, Nat.reduceSub, Nat.reduceMul, Nat.reduceLT, Nat.reduceEqDiff, Nat.reduceBEq, Nat.reduceLeDiff, Int.reduceToNat, ↓reduceIte, Int.reduceEq, Int.reduceLT, Int.reduceLE, Int.reduceAdd, Int.reduceSub, Int.reduceNeg, reduceCtorEq, letB, d1, Bool.true_and]
  | false =>
    repeat refine uA1 @d1 ?_
    (refine awp_ret (ret1 uRT ?_); try rfl)
    simp only [go_sem, Nat.reduceAdd, Nat.reduceSub, Nat.reduceMul, Nat.reduceLT, Nat.reduceEqDiff, Nat.reduceBEq, Nat.reduceLeDiff, Int.reduceToNat, ↓reduceIte, Int.reduceEq, Int.reduceLT, Int.reduceLE, Int.reduceAdd, Int.reduceSub, Int.reduceNeg, reduceCtorEq, letB, d1, Bool.false_and]
theorem digit2_sat (c : Nat) : SatG Tryz.prog tab 157 [] [U8 c] [] (B (digB c)) := by
  refine uFN Tryz.func157 Tryz.ntmps157 ?_; intro w e X hC
  cases d1 : decide ((48 : Int) ≤ c) with
  | true =>
    repeat refine uA1 @d1 ?_
    (refine awp_ret (ret1 uRT ?_); try rfl)
    simp only [go_sem, Nat.reduceAdd, Nat.reduceSub, Nat.reduceMul, Nat.reduceLT, Nat.reduceEqDiff, Nat.reduceBEq, Nat.reduceLeDiff, Int.reduceToNat, ↓reduceIte, Int.reduceEq, Int.reduceLT, Int.reduceLE, Int.reduceAdd, Int.reduceSub, Int.reduceNeg, reduceCtorEq, digB, d1, Bool.true_and]
  | false =>
    repeat refine uA1 @d1 ?_
    (refine awp_ret (ret1 uRT ?_); try rfl)
    simp only [go_sem, Nat.reduceAdd, Nat.reduceSub, Nat.reduceMul, Nat.reduceLT, Nat.reduceEqDiff, Nat.reduceBEq, Nat.reduceLeDiff, Int.reduceToNat, ↓reduceIte, Int.reduceEq, Int.reduceLT, Int.reduceLE, Int.reduceAdd, Int.reduceSub, Int.reduceNeg, reduceCtorEq, digB, d1, Bool.false_and]
theorem name1_sat (c : Nat) : SatG Tryz.prog tab 174 [] [U8 c] [] (B (letB c || digB c)) := by
  have h1 := letter_sat c
  have h2 := digit_sat c
  generalize letB c = a at *
  generalize digB c = b at *
  refine uFN Tryz.func174 Tryz.ntmps174 ?_; intro w e X hC
  refine uA ?_
  refine uR ?_; intro K hK
  refine callF uTS (h1) uTS uTS uTS ?_; refine uS ?_
  cases a with
  | true =>
    first | refine uS ?_ | exact uX
    refine hK _ ?_; clear hK K
    (refine awp_ret (ret1 uRT ?_); try rfl)
  | false =>
    first | refine uS ?_ | exact uX
    refine callF uTS (h2) uTS uTS uTS ?_; refine uS ?_
    refine hK _ ?_; clear hK K
    (refine awp_ret (ret1 uRT ?_); try rfl)
end Go.Proofs.YtkhjenddapaejaaGreatDoor
namespace Go.Proofs.YtkhjenddapaejaaGreatDoor
open Go Go.Sym
theorem bs_size (s : ByteArray) : (bs s).length = s.size := by simp [bs_len]
theorem all_sat (s : ByteArray) (k : Nat) (p : Nat → Bool) (hl : (bs s).length ≤ 1000) (hk : ∀ c, SatG Tryz.prog tab k [] [U8 c] [] (B (p c))) :
    SatG Tryz.prog tab 173 [] [S s, .fn k []] [] (B ((bs s).all p)) := by
  have hbl := bs_len s
  have hbz := bs_size s
  refine uFN Tryz.func173 Tryz.ntmps173 ?_; intro w e X hC
  repeat ((repeat first | refine awp_seq ?_ | refine awp_skip ?_ | refine awp_block ?_); refine awp_region hC rfl fun K hK => ?_; simp only [go_sem, Nat.reduceAdd, Nat.reduceSub, Nat.reduceMul, Nat.reduceLT, Nat.reduceEqDiff, Nat.reduceBEq, Nat.reduceLeDiff, Int.reduceToNat, ↓reduceIte, Int.reduceEq, Int.reduceLT, Int.reduceLE, Int.reduceAdd, Int.reduceSub, Int.reduceNeg, reduceCtorEq, ← hbl, ← hbz]; (repeat ((with_reducible refine And.intro ?_ ?_); focus (((repeat' apply And.intro) <;> first | omega | (simp; done) | kernel_rfl)))); refine hK _ ?_; clear hK K)
  refine uW ?_
  refine awp_loopW (fun i : Nat × Nat => ⟨[(0, S s), (1, .fn k []), (7, I (bs s).length), (8, I i.2)], [], i.1⟩) (fun i => i.2 ≤ (bs s).length ∧ ∀ j, j < i.2 → p ((bs s).getD j 0) = true) (fun i => (bs s).length - i.2) (_, 0) ⟨Nat.zero_le _, fun j hj => absurd hj (Nat.not_lt_zero _)⟩ (uKF) ?_
  rintro ⟨ck, i⟩ ⟨hi, hj⟩
  simp only at hi hj
  repeat refine uA ?_
  refine uW ?_; refine condP _ rfl (fun h => ?_) (fun h => ?_)
  · have hlt : i < (bs s).length := by omega
    have hsat := hk ((bs s).getD i 0)
    have hg := bs_getD s i
    refine uA ?_
    cases c1 : p ((bs s).getD i 0) with
    | true =>
      rw [c1] at hsat
      (repeat first | refine awp_seq ?_ | refine awp_skip ?_ | refine awp_block ?_); refine awp_region hC rfl fun K hK => ?_; simp only [go_sem, Nat.reduceAdd, Nat.reduceSub, Nat.reduceMul, Nat.reduceLT, Nat.reduceEqDiff, Nat.reduceBEq, Nat.reduceLeDiff, Int.reduceToNat, ↓reduceIte, Int.reduceEq, Int.reduceLT, Int.reduceLE, Int.reduceAdd, Int.reduceSub, Int.reduceNeg, reduceCtorEq, hg, ← hbl, ← hbz]
      refine ⟨by omega, ?_⟩
      refine callF uTS (hsat) uTS uTS uTS ?_; refine uS ?_
      refine hK _ ?_; clear hK K
      refine uF ?_
      repeat refine uA ?_
      refine ⟨(_, i + 1), ⟨by simp only; omega, fun j hj' => ?_⟩, by simp only; omega, uKF⟩
      by_cases hji : j = i
      · subst hji; exact c1
      · exact hj j (by simp only at hj'; omega)
    | false =>
      rw [c1] at hsat
      (repeat first | refine awp_seq ?_ | refine awp_skip ?_ | refine awp_block ?_); refine awp_region hC rfl fun K hK => ?_; simp only [go_sem, Nat.reduceAdd, Nat.reduceSub, Nat.reduceMul, Nat.reduceLT, Nat.reduceEqDiff, Nat.reduceBEq, Nat.reduceLeDiff, Int.reduceToNat, ↓reduceIte, Int.reduceEq, Int.reduceLT, Int.reduceLE, Int.reduceAdd, Int.reduceSub, Int.reduceNeg, reduceCtorEq, hg, ← hbl, ← hbz]
      refine ⟨by omega, ?_⟩
      refine callF uTS (hsat) uTS uTS uTS ?_; refine uS ?_
      refine hK _ ?_; clear hK K
      refine uT ?_
      repeat refine uA ?_
      (refine awp_ret (ret1 uRT ?_); try rfl)
      have : (bs s).all p = false := by
        rw [List.all_eq_false]
        exact ⟨_, mem_getD (d := 0) hlt, by rw [c1]; simp⟩
      rw [this]; rfl
  · refine awp_exit ?_
    repeat refine uA ?_
    (refine awp_ret (ret1 uRT ?_); try rfl)
    have : (bs s).all p = true := by
      rw [List.all_eq_true]
      intro c hc
      obtain ⟨j, hj', rfl⟩ := List.getElem_of_mem hc
      have := hj j (by omega)
      simpa [hj'] using this
    rw [this]; rfl
theorem fname_sat (s : ByteArray) (hl : (bs s).length ≤ 1000) : SatG Tryz.prog tab 138 [] [S s, I 12] [] (B (nameOk s)) := by
  have hbl := bs_len s
  have hbz := bs_size s
  have hg := bs_getD s 0
  have h1 := letter_sat ((bs s).getD 0 0)
  have h2 := all_sat s 174 (fun c => letB c || digB c) hl name1_sat
  unfold nameOk
  generalize letB ((bs s).getD 0 0) = a at *
  generalize ((bs s).all fun c => letB c || digB c) = b at *
  refine uFN Tryz.func138 Tryz.ntmps138 ?_; intro w e X hC
  refine uA ?_
  by_cases c0 : 1 ≤ (bs s).length
  · have d0 : decide (1 ≤ (bs s).length) = true := decide_eq_true c0
    have de : decide (¬ s.data.toList = []) = true := decide_eq_true (fun h => by rw [hbl, h] at c0; simp at c0)
    rw [d0, Bool.true_and]
    by_cases c2 : (bs s).length ≤ 12
    · have d2 : decide (((bs s).length : Int) ≤ 12) = true := decide_eq_true (by omega)
      have d3 : decide ((bs s).length ≤ 12) = true := decide_eq_true c2
      rw [d3, Bool.true_and]
      (repeat first | refine awp_seq ?_ | refine awp_skip ?_ | refine awp_block ?_); refine awp_region hC rfl fun K hK => ?_; simp only [go_sem, Nat.reduceAdd, Nat.reduceSub, Nat.reduceMul, Nat.reduceLT, Nat.reduceEqDiff, Nat.reduceBEq, Nat.reduceLeDiff, Int.reduceToNat, ↓reduceIte, Int.reduceEq, Int.reduceLT, Int.reduceLE, Int.reduceAdd, Int.reduceSub, Int.reduceNeg, reduceCtorEq, hg, ← hbl, ← hbz, de, d2]
      refine ⟨by omega, ?_⟩
      refine callF uTS (h1) uTS uTS uTS ?_; refine uS ?_
      cases a with
      | true =>
        first | refine uS ?_ | exact uX
        refine callF uTS (h2) uTS uTS uTS ?_; refine uS ?_
        refine hK _ ?_; clear hK K
        (refine awp_ret (ret1 uRT ?_); try rfl)
      | false =>
        first | refine uS ?_ | exact uX
        refine hK _ ?_; clear hK K
        (refine awp_ret (ret1 uRT ?_); try rfl)
    · have d2 : decide (((bs s).length : Int) ≤ 12) = false := decide_eq_false (by omega)
      have d3 : decide ((bs s).length ≤ 12) = false := decide_eq_false c2
      rw [d3, Bool.false_and]
      (repeat first | refine awp_seq ?_ | refine awp_skip ?_ | refine awp_block ?_); refine awp_region hC rfl fun K hK => ?_; simp only [go_sem, Nat.reduceAdd, Nat.reduceSub, Nat.reduceMul, Nat.reduceLT, Nat.reduceEqDiff, Nat.reduceBEq, Nat.reduceLeDiff, Int.reduceToNat, ↓reduceIte, Int.reduceEq, Int.reduceLT, Int.reduceLE, Int.reduceAdd, Int.reduceSub, Int.reduceNeg, reduceCtorEq, hg, ← hbl, ← hbz, de, d2]
      refine hK _ ?_; clear hK K
      (refine awp_ret (ret1 uRT ?_); try rfl)
  · have d0 : decide (1 ≤ (bs s).length) = false := decide_eq_false c0
    have de : decide (¬ s.data.toList = []) = false := decide_eq_false (fun h => h (List.eq_nil_of_length_eq_zero (by omega)))
    rw [d0, Bool.false_and]
    (repeat first | refine awp_seq ?_ | refine awp_skip ?_ | refine awp_block ?_); refine awp_region hC rfl fun K hK => ?_; simp only [go_sem, Nat.reduceAdd, Nat.reduceSub, Nat.reduceMul, Nat.reduceLT, Nat.reduceEqDiff, Nat.reduceBEq, Nat.reduceLeDiff, Int.reduceToNat, ↓reduceIte, Int.reduceEq, Int.reduceLT, Int.reduceLE, Int.reduceAdd, Int.reduceSub, Int.reduceNeg, reduceCtorEq, hg, ← hbl, ← hbz, de]
    refine hK _ ?_; clear hK K
    (refine awp_ret (ret1 uRT ?_); try rfl)
theorem name4_sat (s : ByteArray) (hl : (bs s).length ≤ 1000) : SatG Tryz.prog tab 114 [] [S s] [] (B (nameOk s)) := by
  have hbl := bs_len s
  have hbz := bs_size s
  have hg0 := bs_getD s 0
  have h1 := letter2_sat ((bs s).getD 0 0)
  unfold nameOk
  generalize hae : letB ((bs s).getD 0 0) = a at *
  refine uFN Tryz.func114 Tryz.ntmps114 ?_; intro w e X hC
  refine uA ?_
  refine awp_seq ?_
  refine awp_merge (fun q : Nat => ⟨[(0, S s)], [], q⟩) (fun _ => (decide (1 ≤ (bs s).length) && (decide ((bs s).length ≤ 12) && a)) = true) ?_ ?_
  · by_cases c0 : 1 ≤ (bs s).length
    · have d0 : decide (1 ≤ (bs s).length) = true := decide_eq_true c0
      have de : decide (((bs s).length : Int) < 1) = false := decide_eq_false (by omega)
      by_cases c2 : (bs s).length ≤ 12
      · have d2 : decide ((12 : Int) < (bs s).length) = false := decide_eq_false (by omega)
        have d3 : decide ((bs s).length ≤ 12) = true := decide_eq_true c2
        rw [d0, d3]
        (repeat first | refine awp_seq ?_ | refine awp_skip ?_ | refine awp_block ?_); refine awp_region hC rfl fun K hK => ?_; simp only [go_sem, Nat.reduceAdd, Nat.reduceSub, Nat.reduceMul, Nat.reduceLT, Nat.reduceEqDiff, Nat.reduceBEq, Nat.reduceLeDiff, Int.reduceToNat, ↓reduceIte, Int.reduceEq, Int.reduceLT, Int.reduceLE, Int.reduceAdd, Int.reduceSub, Int.reduceNeg, reduceCtorEq, hg0, ← hbl, ← hbz, de, d2]
        refine ⟨by omega, ?_⟩
        refine callF uTS (h1) uTS uTS uTS ?_; refine uS ?_
        cases a with
        | true =>
          first | refine uS ?_ | exact uX
          refine hK _ ?_; clear hK K
          refine uF ?_
          refine uW ?_
          refine ⟨_, rfl, uKF⟩
        | false =>
          first | refine uS ?_ | exact uX
          refine hK _ ?_; clear hK K
          refine uT ?_
          repeat refine uA ?_
          (refine awp_ret (ret1 uRT ?_); try rfl)
      · have d2 : decide ((12 : Int) < (bs s).length) = true := decide_eq_true (by omega)
        have d3 : decide ((bs s).length ≤ 12) = false := decide_eq_false c2
        rw [d0, d3]
        (repeat first | refine awp_seq ?_ | refine awp_skip ?_ | refine awp_block ?_); refine awp_region hC rfl fun K hK => ?_; simp only [go_sem, Nat.reduceAdd, Nat.reduceSub, Nat.reduceMul, Nat.reduceLT, Nat.reduceEqDiff, Nat.reduceBEq, Nat.reduceLeDiff, Int.reduceToNat, ↓reduceIte, Int.reduceEq, Int.reduceLT, Int.reduceLE, Int.reduceAdd, Int.reduceSub, Int.reduceNeg, reduceCtorEq, hg0, ← hbl, ← hbz, de, d2]
        refine hK _ ?_; clear hK K
        refine uT ?_
        repeat refine uA ?_
        (refine awp_ret (ret1 uRT ?_); try rfl)
    · have d0 : decide (1 ≤ (bs s).length) = false := decide_eq_false c0
      have de : decide (((bs s).length : Int) < 1) = true := decide_eq_true (by omega)
      rw [d0]
      (repeat first | refine awp_seq ?_ | refine awp_skip ?_ | refine awp_block ?_); refine awp_region hC rfl fun K hK => ?_; simp only [go_sem, Nat.reduceAdd, Nat.reduceSub, Nat.reduceMul, Nat.reduceLT, Nat.reduceEqDiff, Nat.reduceBEq, Nat.reduceLeDiff, Int.reduceToNat, ↓reduceIte, Int.reduceEq, Int.reduceLT, Int.reduceLE, Int.reduceAdd, Int.reduceSub, Int.reduceNeg, reduceCtorEq, hg0, ← hbl, ← hbz, de]
      refine hK _ ?_; clear hK K
      refine uT ?_
      repeat refine uA ?_
      (refine awp_ret (ret1 uRT ?_); try rfl)
  rintro ck0 hok
  have hall : (decide (1 ≤ (bs s).length) && (decide ((bs s).length ≤ 12) && (a && (bs s).all fun c => letB c || digB c))) = (bs s).all fun c => letB c || digB c := by
    rw [← Bool.and_assoc (decide ((bs s).length ≤ 12)), ← Bool.and_assoc, hok, Bool.true_and]
  rw [hall]
  clear hall hok h1 hae
  repeat refine uA ?_
  refine uW ?_
  refine awp_loopW (fun i : Nat × Nat => ⟨[(0, S s), (3, I i.2)], [], i.1⟩) (fun i => i.2 ≤ (bs s).length ∧ ∀ j, j < i.2 → (letB ((bs s).getD j 0) || digB ((bs s).getD j 0)) = true) (fun i => (bs s).length - i.2) (_, 0) ⟨Nat.zero_le _, fun j hj => absurd hj (Nat.not_lt_zero _)⟩ (uKF) ?_
  rintro ⟨ck, i⟩ ⟨hi, hj⟩
  simp only at hi hj
  repeat ((repeat first | refine awp_seq ?_ | refine awp_skip ?_ | refine awp_block ?_); refine awp_region hC rfl fun K hK => ?_; simp only [go_sem, Nat.reduceAdd, Nat.reduceSub, Nat.reduceMul, Nat.reduceLT, Nat.reduceEqDiff, Nat.reduceBEq, Nat.reduceLeDiff, Int.reduceToNat, ↓reduceIte, Int.reduceEq, Int.reduceLT, Int.reduceLE, Int.reduceAdd, Int.reduceSub, Int.reduceNeg, reduceCtorEq, ← hbl, ← hbz]; (repeat ((with_reducible refine And.intro ?_ ?_); focus (((repeat' apply And.intro) <;> first | omega | (simp; done) | kernel_rfl)))); refine hK _ ?_; clear hK K)
  refine uW ?_; refine condP _ rfl (fun h => ?_) (fun h => ?_)
  · have hlt : i < (bs s).length := by omega
    have h1 := letter2_sat ((bs s).getD i 0)
    have h2 := digit2_sat ((bs s).getD i 0)
    have hg := bs_getD s i
    have hgood : (letB ((bs s).getD i 0) || digB ((bs s).getD i 0)) = true → ∀ j, j < i + 1 → (letB ((bs s).getD j 0) || digB ((bs s).getD j 0)) = true := fun h j hj' => by
      by_cases hji : j = i
      · subst hji; exact h
      · exact hj j (by omega)
    have hbad : (letB ((bs s).getD i 0) || digB ((bs s).getD i 0)) = false → ((bs s).all fun c => letB c || digB c) = false := fun h => by
      rw [List.all_eq_false]
      exact ⟨_, mem_getD (d := 0) hlt, by rw [h]; simp⟩
    generalize letB ((bs s).getD i 0) = a at *
    generalize digB ((bs s).getD i 0) = b at *
    (repeat first | refine awp_seq ?_ | refine awp_skip ?_ | refine awp_block ?_); refine awp_region hC rfl fun K hK => ?_; simp only [go_sem, Nat.reduceAdd, Nat.reduceSub, Nat.reduceMul, Nat.reduceLT, Nat.reduceEqDiff, Nat.reduceBEq, Nat.reduceLeDiff, Int.reduceToNat, ↓reduceIte, Int.reduceEq, Int.reduceLT, Int.reduceLE, Int.reduceAdd, Int.reduceSub, Int.reduceNeg, reduceCtorEq, hg, ← hbl, ← hbz]
    refine ⟨by omega, ?_⟩
    refine callF uTS (h1) uTS uTS uTS ?_; refine uS ?_
    cases a with
    | true =>
      first | refine uS ?_ | exact uX
      refine hK _ ?_; clear hK K
      refine uF ?_
      repeat refine uA ?_
      refine ⟨(_, i + 1), ⟨by simp only; omega, hgood rfl⟩, by simp only; omega, uKF⟩
    | false =>
      simp only [go_sem, Nat.reduceAdd, Nat.reduceSub, Nat.reduceMul, Nat.reduceLT, Nat.reduceEqDiff, Nat.reduceBEq, Nat.reduceLeDiff, Int.reduceToNat, ↓reduceIte, Int.reduceEq, Int.reduceLT, Int.reduceLE, Int.reduceAdd, Int.reduceSub, Int.reduceNeg, reduceCtorEq, hg, ← hbl, ← hbz]
      refine ⟨by omega, ?_⟩
      refine callF uTS (h2) uTS uTS uTS ?_; refine uS ?_
      cases b with
      | true =>
        first | refine uS ?_ | exact uX
        refine hK _ ?_; clear hK K
        refine uF ?_
        repeat refine uA ?_
        refine ⟨(_, i + 1), ⟨by simp only; omega, hgood rfl⟩, by simp only; omega, uKF⟩
      | false =>
        first | refine uS ?_ | exact uX
        refine hK _ ?_; clear hK K
        refine uT ?_
        repeat refine uA ?_
        rw [hbad rfl]
        (refine awp_ret (ret1 uRT ?_); try rfl)
  · refine awp_exit ?_
    have : ((bs s).all fun c => letB c || digB c) = true := by
      rw [List.all_eq_true]
      intro c hc
      obtain ⟨j, hj', rfl⟩ := List.getElem_of_mem hc
      have := hj j (by omega)
      simpa [hj'] using this
    rw [this]
    repeat refine uA ?_
    (refine awp_ret (ret1 uRT ?_); try rfl)
end Go.Proofs.YtkhjenddapaejaaGreatDoor
namespace Go.Proofs.YtkhjenddapaejaaGreatDoor
open Go Go.Sym
theorem lexits_sat (kd : Int) : SatG Tryz.prog tab 176 [] [I kd] [] (I (exitsN kd)) := by
  refine uFN Tryz.func176 Tryz.ntmps176 ?_; intro w e X hC
  iterate 2 refine uA ?_
  have kds : kd = 8 ∨ kd = 9 ∨ kd = 4 ∨ kd = 5 ∨ kd = 6 ∨ (¬ kd = 4 ∧ ¬ kd = 5 ∧ ¬ kd = 6 ∧ ¬ kd = 8 ∧ ¬ kd = 9) := by omega
  rcases kds with rfl | rfl | rfl | rfl | rfl | ⟨k4, k5, k6, k8, k9⟩
  · repeat first | refine uC ?_ | refine uA ?_
    (refine awp_ret (ret1 uRT ?_); try rfl)
  · repeat first | refine uC ?_ | refine uA ?_
    (refine awp_ret (ret1 uRT ?_); try rfl)
  · repeat first | refine uC ?_ | refine uA ?_
    (refine awp_ret (ret1 uRT ?_); try rfl)
  · repeat first | refine uC ?_ | refine uA ?_
    (refine awp_ret (ret1 uRT ?_); try rfl)
  · repeat first | refine uC ?_ | refine uA ?_
    (refine awp_ret (ret1 uRT ?_); try rfl)
  · have d4 := decide_eq_false k4
    have d5 := decide_eq_false k5
    have d6 := decide_eq_false k6
    have d8 := decide_eq_false k8
    have d9 := decide_eq_false k9
    repeat first | refine uC ?_ | refine uA1 (And.intro @d4 (And.intro @d5 (And.intro @d6 (And.intro @d8 @d9)))) ?_
    (refine awp_ret (ret1 uRT ?_); try rfl)
    rw [exitsN, if_neg (by omega), if_neg (by omega)]; rfl
def lenOk (x : Nd) : Bool := if isStrip x.kd = true then (if x.kd = 5 then decide (2 ≤ x.ln) else decide (1 ≤ x.ln)) && decide (x.ln ≤ 8) else decide (x.ln = 0)
theorem length_sat (x : Nd) : SatG Tryz.prog tab 139 [] [x.av] [] (B (lenOk x)) := by
  have h1 := fstrip_sat x.kd
  unfold lenOk
  generalize isStrip x.kd = s at *
  refine uFN Tryz.func139 Tryz.ntmps139 ?_; intro w e X hC
  refine uA ?_
  refine uR ?_; intro K hK
  refine callF uTS (h1) uTS uTS uTS ?_; refine uS ?_
  cases s with
  | false =>
    first | refine uS ?_ | exact uX
    refine hK _ ?_; clear hK K
    refine uT ?_
    repeat refine uA ?_
    (refine awp_ret (ret1 uRT ?_); try rfl)
  | true =>
    first | refine uS ?_ | exact uX
    refine hK _ ?_; clear hK K
    refine uF ?_
    repeat refine uA ?_
    refine uW ?_; refine condP _ rfl (fun c5 => ?_) (fun c5 => ?_)
    · cases c2 : decide (2 ≤ x.ln) with
      | true =>
        repeat first | refine uC ?_ | refine uA1 @c2 ?_
        (refine awp_ret (ret1 uRT ?_); try rfl)
        simp only [go_sem, Nat.reduceAdd, Nat.reduceSub, Nat.reduceMul, Nat.reduceLT, Nat.reduceEqDiff, Nat.reduceBEq, Nat.reduceLeDiff, Int.reduceToNat, ↓reduceIte, Int.reduceEq, Int.reduceLT, Int.reduceLE, Int.reduceAdd, Int.reduceSub, Int.reduceNeg, reduceCtorEq, if_pos c5, if_true, Bool.true_and, c2]
      | false =>
        repeat first | refine uC ?_ | refine uA1 @c2 ?_
        (refine awp_ret (ret1 uRT ?_); try rfl)
        simp only [go_sem, Nat.reduceAdd, Nat.reduceSub, Nat.reduceMul, Nat.reduceLT, Nat.reduceEqDiff, Nat.reduceBEq, Nat.reduceLeDiff, Int.reduceToNat, ↓reduceIte, Int.reduceEq, Int.reduceLT, Int.reduceLE, Int.reduceAdd, Int.reduceSub, Int.reduceNeg, reduceCtorEq, if_pos c5, if_true, Bool.false_and, c2]
    · cases c2 : decide (1 ≤ x.ln) with
      | true =>
        repeat first | refine uC ?_ | refine uA1 @c2 ?_
        (refine awp_ret (ret1 uRT ?_); try rfl)
        simp only [go_sem, Nat.reduceAdd, Nat.reduceSub, Nat.reduceMul, Nat.reduceLT, Nat.reduceEqDiff, Nat.reduceBEq, Nat.reduceLeDiff, Int.reduceToNat, ↓reduceIte, Int.reduceEq, Int.reduceLT, Int.reduceLE, Int.reduceAdd, Int.reduceSub, Int.reduceNeg, reduceCtorEq, if_neg c5, if_true, Bool.true_and, c2]
      | false =>
        repeat first | refine uC ?_ | refine uA1 @c2 ?_
        (refine awp_ret (ret1 uRT ?_); try rfl)
        simp only [go_sem, Nat.reduceAdd, Nat.reduceSub, Nat.reduceMul, Nat.reduceLT, Nat.reduceEqDiff, Nat.reduceBEq, Nat.reduceLeDiff, Int.reduceToNat, ↓reduceIte, Int.reduceEq, Int.reduceLT, Int.reduceLE, Int.reduceAdd, Int.reduceSub, Int.reduceNeg, reduceCtorEq, if_neg c5, if_true, Bool.false_and, c2]
end Go.Proofs.YtkhjenddapaejaaGreatDoor
namespace Go.Proofs.YtkhjenddapaejaaGreatDoor
open Go Go.Sym
def leadK (N i : Int) (x : Nd) (k : Nat) : Bool := decide (0 ≤ x.ex.getD k 0) && (decide (x.ex.getD k 0 < N) && ((decide (x.ex.getD k 0 = i) == (decide (x.kd = 5) && decide (k = 0))) && !((x.ex.take k).any fun y => decide (x.ex.getD k 0 = y))))
def leadP (N i : Int) (x : Nd) : Bool := decide ((x.ex.length : Int) = exitsN x.kd) && (List.range x.ex.length).all (leadK N i x)
theorem leadP_true {N i : Int} {x : Nd} : leadP N i x = true ↔ (x.ex.length : Int) = exitsN x.kd ∧ ∀ k, k < x.ex.length → leadK N i x k = true := by
  simp only [leadP, Bool.and_eq_true, decide_eq_true_eq, List.all_eq_true, List.mem_range]
theorem leadP_bad {N i : Int} {x : Nd} {k : Nat} (hk : k < x.ex.length) (h : leadK N i x k = false) : leadP N i x = false := by
  cases h2 : leadP N i x with
  | false => rfl
  | true => have := (leadP_true.1 h2).2 k hk; rw [h] at this; cases this
theorem lleads_sat (y : Ly) (i : Nat) (hi : i < y.nodes.length) (hN : y.nodes.length ≤ 1000) (hx : (y.nodes.getD i default).ex.length ≤ 1000) :
    SatG Tryz.prog tab 140 [] [y.av, I i] [] (B (leadP y.nodes.length i (y.nodes.getD i default))) := by
  refine uFN Tryz.func140 Tryz.ntmps140 ?_; intro w e X hC
  generalize e1 : y.nodes.getD i default = x at *
  have hxs := lexits_sat x.kd
  refine uA ?_
  repeat refine uA1 (And.intro (nds_getD hi) @e1) ?_
  refine awp_seq ?_
  refine awp_merge (fun q : Nat => ⟨[(1, I i), (2, .ptO 102 1 0 0 0), (5, .ptO 105 8 0 0 0)], (105, some (8, .box [S x.nm, I x.kd, I x.ln, I x.zn, IS x.ex])) :: (102, some (1, .box [.sl (nds y.nodes) false, .sl (t3s y.devs) false])) :: [], q⟩) (fun _ => (x.ex.length : Int) = exitsN x.kd) ?_ ?_
  · refine uE ?_; intro K hK
    refine callF uTS (hxs) uTS uTS uTS ?_; refine uS ?_
    refine uH ?_
    refine hK _ ?_; clear hK K
    refine uW ?_; refine condP _ rfl (fun c0 => ?_) (fun c0 => ?_)
    · repeat refine uA ?_
      (refine awp_ret (ret1 uRT ?_); try rfl)
      have : leadP y.nodes.length i x = false := by simp [leadP, c0]
      rw [this]; rfl
    · refine uW ?_
      refine ⟨_, Decidable.byContradiction c0, uKF⟩
  rintro ck0 hlen
  clear hxs
  repeat refine uA ?_
  refine uW ?_
  refine awp_loopW (fun q : Nat × Nat => ⟨[(1, I i), (2, .ptO 102 1 0 0 0), (5, .ptO 105 8 0 0 0), (22, IS x.ex), (23, I x.ex.length), (24, I q.2)], (105, some (8, .box [S x.nm, I x.kd, I x.ln, I x.zn, IS x.ex])) :: (102, some (1, .box [.sl (nds y.nodes) false, .sl (t3s y.devs) false])) :: [], q.1⟩) (fun q => q.2 ≤ x.ex.length ∧ ∀ j, j < q.2 → leadK y.nodes.length i x j = true) (fun q => x.ex.length - q.2) (_, 0) ⟨Nat.zero_le _, fun j hj => absurd hj (Nat.not_lt_zero _)⟩ (uKF) ?_
  rintro ⟨ck, k⟩ ⟨hk, hj⟩
  simp only at hk hj
  repeat refine uA ?_
  refine uW ?_; refine condP _ rfl (fun h => ?_) (fun h => ?_)
  · have hlt : k < x.ex.length := by omega
    have hbad := leadP_bad (N := y.nodes.length) (i := i) hlt
    obtain ⟨lk, hkE⟩ : ∃ lk, lk = leadK y.nodes.length i x k := ⟨_, rfl⟩
    rw [← hkE] at hbad
    have hct := containsI_sat (x.ex.take k) (x.ex.getD k 0) (by rw [List.length_take]; omega)
    have dk : decide ((k : Int) = 0) = decide (k = 0) := by
      by_cases h0 : k = 0
      · subst h0; rfl
      · rw [decide_eq_false h0]; exact decide_eq_false (by omega)
    have htk : (x.ex.take k).length = k := by rw [List.length_take]; omega
    have hgood : leadK y.nodes.length i x k = true → ∀ j, j < k + 1 → leadK y.nodes.length i x j = true := fun h j hj' => by
      by_cases hji : j = k
      · subst hji; exact h
      · exact hj j (by omega)
    rw [← hkE] at hgood
    unfold leadK at hkE
    have bb1 : (true == true) = true := rfl
    have bb2 : (true == false) = false := rfl
    have bb3 : (false == true) = false := rfl
    have bb4 : (false == false) = true := rfl
    generalize ((x.ex.take k).any fun y => decide (x.ex.getD k 0 = y)) = v at *
    generalize e2 : x.ex.getD k 0 = e at *
    refine uA1 (And.intro (ints_getD hlt) @e2) ?_
    cases d5 : decide (x.kd = 5) with
    | true =>
      cases d0' : decide (k = 0) with
      | true =>
        have d0 := dk.trans d0'
        cases dx : decide (e = (i : Int)) with
        | true =>
          refine uA1 (And.intro @d5 @d0) ?_
          cases c1 : decide (e < 0) with
          | true =>
            have q1 : decide (0 ≤ e) = false := decide_eq_false (by have := of_decide_eq_true c1; omega)
            rw [q1, Bool.false_and] at hkE
            refine uR1 @c1 ?_; intro K hK
            refine uH ?_
            refine hK _ ?_; clear hK K
            refine uT ?_
            repeat refine uA ?_
            rw [hbad hkE]
            (refine awp_ret (ret1 uRT ?_); try rfl)
          | false =>
            have q1 : decide (0 ≤ e) = true := decide_eq_true (by have := of_decide_eq_false c1; omega)
            rw [q1, Bool.true_and] at hkE
            cases c2 : decide ((y.nodes.length : Int) ≤ e) with
            | true =>
              have q2 : decide (e < (y.nodes.length : Int)) = false := decide_eq_false (by have := of_decide_eq_true c2; omega)
              rw [q2, Bool.false_and] at hkE
              refine uR1 (And.intro @c1 @c2) ?_; intro K hK
              refine uH ?_
              refine hK _ ?_; clear hK K
              refine uT ?_
              repeat refine uA ?_
              rw [hbad hkE]
              (refine awp_ret (ret1 uRT ?_); try rfl)
            | false =>
              have q2 : decide (e < (y.nodes.length : Int)) = true := decide_eq_true (by have := of_decide_eq_false c2; omega)
              rw [q2, Bool.true_and] at hkE
              simp [d5, d0', dx] at hkE
              refine uR1 (And.intro @c1 (And.intro @c2 (And.intro @dx (And.intro @bb1 (And.intro @bb2 (And.intro @bb3 (And.intro @bb4 (And.intro @ints_take @htk)))))))) ?_; intro K hK
              refine ⟨by omega, ?_⟩
              refine callF uTS (hct) uTS uTS uTS ?_; refine uS ?_
              refine hK _ ?_; clear hK K
              cases v with
              | true =>
                refine uT ?_
                repeat refine uA ?_
                rw [hbad (by simpa using hkE)]
                (refine awp_ret (ret1 uRT ?_); try rfl)
              | false =>
                refine uF ?_
                repeat refine uA ?_
                refine ⟨(_, k + 1), ⟨by simp only; omega, hgood (by simpa using hkE)⟩, by simp only; omega, uKF⟩
        | false =>
          refine uA1 (And.intro @d5 @d0) ?_
          cases c1 : decide (e < 0) with
          | true =>
            have q1 : decide (0 ≤ e) = false := decide_eq_false (by have := of_decide_eq_true c1; omega)
            rw [q1, Bool.false_and] at hkE
            refine uR1 @c1 ?_; intro K hK
            refine uH ?_
            refine hK _ ?_; clear hK K
            refine uT ?_
            repeat refine uA ?_
            rw [hbad hkE]
            (refine awp_ret (ret1 uRT ?_); try rfl)
          | false =>
            have q1 : decide (0 ≤ e) = true := decide_eq_true (by have := of_decide_eq_false c1; omega)
            rw [q1, Bool.true_and] at hkE
            cases c2 : decide ((y.nodes.length : Int) ≤ e) with
            | true =>
              have q2 : decide (e < (y.nodes.length : Int)) = false := decide_eq_false (by have := of_decide_eq_true c2; omega)
              rw [q2, Bool.false_and] at hkE
              refine uR1 (And.intro @c1 @c2) ?_; intro K hK
              refine uH ?_
              refine hK _ ?_; clear hK K
              refine uT ?_
              repeat refine uA ?_
              rw [hbad hkE]
              (refine awp_ret (ret1 uRT ?_); try rfl)
            | false =>
              have q2 : decide (e < (y.nodes.length : Int)) = true := decide_eq_true (by have := of_decide_eq_false c2; omega)
              rw [q2, Bool.true_and] at hkE
              simp [d5, d0', dx] at hkE
              refine uR1 (And.intro @c1 (And.intro @c2 (And.intro @dx (And.intro @bb1 (And.intro @bb2 (And.intro @bb3 @bb4)))))) ?_; intro K hK
              refine uH ?_
              refine hK _ ?_; clear hK K
              refine uT ?_
              repeat refine uA ?_
              rw [hbad hkE]
              (refine awp_ret (ret1 uRT ?_); try rfl)
      | false =>
        have d0 := dk.trans d0'
        cases dx : decide (e = (i : Int)) with
        | true =>
          refine uA1 (And.intro @d5 @d0) ?_
          cases c1 : decide (e < 0) with
          | true =>
            have q1 : decide (0 ≤ e) = false := decide_eq_false (by have := of_decide_eq_true c1; omega)
            rw [q1, Bool.false_and] at hkE
            refine uR1 @c1 ?_; intro K hK
            refine uH ?_
            refine hK _ ?_; clear hK K
            refine uT ?_
            repeat refine uA ?_
            rw [hbad hkE]
            (refine awp_ret (ret1 uRT ?_); try rfl)
          | false =>
            have q1 : decide (0 ≤ e) = true := decide_eq_true (by have := of_decide_eq_false c1; omega)
            rw [q1, Bool.true_and] at hkE
            cases c2 : decide ((y.nodes.length : Int) ≤ e) with
            | true =>
              have q2 : decide (e < (y.nodes.length : Int)) = false := decide_eq_false (by have := of_decide_eq_true c2; omega)
              rw [q2, Bool.false_and] at hkE
              refine uR1 (And.intro @c1 @c2) ?_; intro K hK
              refine uH ?_
              refine hK _ ?_; clear hK K
              refine uT ?_
              repeat refine uA ?_
              rw [hbad hkE]
              (refine awp_ret (ret1 uRT ?_); try rfl)
            | false =>
              have q2 : decide (e < (y.nodes.length : Int)) = true := decide_eq_true (by have := of_decide_eq_false c2; omega)
              rw [q2, Bool.true_and] at hkE
              simp [d5, d0', dx] at hkE
              refine uR1 (And.intro @c1 (And.intro @c2 (And.intro @dx (And.intro @bb1 (And.intro @bb2 (And.intro @bb3 @bb4)))))) ?_; intro K hK
              refine uH ?_
              refine hK _ ?_; clear hK K
              refine uT ?_
              repeat refine uA ?_
              rw [hbad hkE]
              (refine awp_ret (ret1 uRT ?_); try rfl)
        | false =>
          refine uA1 (And.intro @d5 @d0) ?_
          cases c1 : decide (e < 0) with
          | true =>
            have q1 : decide (0 ≤ e) = false := decide_eq_false (by have := of_decide_eq_true c1; omega)
            rw [q1, Bool.false_and] at hkE
            refine uR1 @c1 ?_; intro K hK
            refine uH ?_
            refine hK _ ?_; clear hK K
            refine uT ?_
            repeat refine uA ?_
            rw [hbad hkE]
            (refine awp_ret (ret1 uRT ?_); try rfl)
          | false =>
            have q1 : decide (0 ≤ e) = true := decide_eq_true (by have := of_decide_eq_false c1; omega)
            rw [q1, Bool.true_and] at hkE
            cases c2 : decide ((y.nodes.length : Int) ≤ e) with
            | true =>
              have q2 : decide (e < (y.nodes.length : Int)) = false := decide_eq_false (by have := of_decide_eq_true c2; omega)
              rw [q2, Bool.false_and] at hkE
              refine uR1 (And.intro @c1 @c2) ?_; intro K hK
              refine uH ?_
              refine hK _ ?_; clear hK K
              refine uT ?_
              repeat refine uA ?_
              rw [hbad hkE]
              (refine awp_ret (ret1 uRT ?_); try rfl)
            | false =>
              have q2 : decide (e < (y.nodes.length : Int)) = true := decide_eq_true (by have := of_decide_eq_false c2; omega)
              rw [q2, Bool.true_and] at hkE
              simp [d5, d0', dx] at hkE
              refine uR1 (And.intro @c1 (And.intro @c2 (And.intro @dx (And.intro @bb1 (And.intro @bb2 (And.intro @bb3 (And.intro @bb4 (And.intro @ints_take @htk)))))))) ?_; intro K hK
              refine ⟨by omega, ?_⟩
              refine callF uTS (hct) uTS uTS uTS ?_; refine uS ?_
              refine hK _ ?_; clear hK K
              cases v with
              | true =>
                refine uT ?_
                repeat refine uA ?_
                rw [hbad (by simpa using hkE)]
                (refine awp_ret (ret1 uRT ?_); try rfl)
              | false =>
                refine uF ?_
                repeat refine uA ?_
                refine ⟨(_, k + 1), ⟨by simp only; omega, hgood (by simpa using hkE)⟩, by simp only; omega, uKF⟩
    | false =>
      have d0 := trivial
      cases dx : decide (e = (i : Int)) with
      | true =>
        refine uA1 @d5 ?_
        cases c1 : decide (e < 0) with
        | true =>
          have q1 : decide (0 ≤ e) = false := decide_eq_false (by have := of_decide_eq_true c1; omega)
          rw [q1, Bool.false_and] at hkE
          refine uR1 @c1 ?_; intro K hK
          refine uH ?_
          refine hK _ ?_; clear hK K
          refine uT ?_
          repeat refine uA ?_
          rw [hbad hkE]
          (refine awp_ret (ret1 uRT ?_); try rfl)
        | false =>
          have q1 : decide (0 ≤ e) = true := decide_eq_true (by have := of_decide_eq_false c1; omega)
          rw [q1, Bool.true_and] at hkE
          cases c2 : decide ((y.nodes.length : Int) ≤ e) with
          | true =>
            have q2 : decide (e < (y.nodes.length : Int)) = false := decide_eq_false (by have := of_decide_eq_true c2; omega)
            rw [q2, Bool.false_and] at hkE
            refine uR1 (And.intro @c1 @c2) ?_; intro K hK
            refine uH ?_
            refine hK _ ?_; clear hK K
            refine uT ?_
            repeat refine uA ?_
            rw [hbad hkE]
            (refine awp_ret (ret1 uRT ?_); try rfl)
          | false =>
            have q2 : decide (e < (y.nodes.length : Int)) = true := decide_eq_true (by have := of_decide_eq_false c2; omega)
            rw [q2, Bool.true_and] at hkE
            simp [d5, dx] at hkE
            refine uR1 (And.intro @c1 (And.intro @c2 (And.intro @dx (And.intro @bb1 (And.intro @bb2 (And.intro @bb3 @bb4)))))) ?_; intro K hK
            refine uH ?_
            refine hK _ ?_; clear hK K
            refine uT ?_
            repeat refine uA ?_
            rw [hbad hkE]
            (refine awp_ret (ret1 uRT ?_); try rfl)
      | false =>
        refine uA1 @d5 ?_
        cases c1 : decide (e < 0) with
        | true =>
          have q1 : decide (0 ≤ e) = false := decide_eq_false (by have := of_decide_eq_true c1; omega)
          rw [q1, Bool.false_and] at hkE
          refine uR1 @c1 ?_; intro K hK
          refine uH ?_
          refine hK _ ?_; clear hK K
          refine uT ?_
          repeat refine uA ?_
          rw [hbad hkE]
          (refine awp_ret (ret1 uRT ?_); try rfl)
        | false =>
          have q1 : decide (0 ≤ e) = true := decide_eq_true (by have := of_decide_eq_false c1; omega)
          rw [q1, Bool.true_and] at hkE
          cases c2 : decide ((y.nodes.length : Int) ≤ e) with
          | true =>
            have q2 : decide (e < (y.nodes.length : Int)) = false := decide_eq_false (by have := of_decide_eq_true c2; omega)
            rw [q2, Bool.false_and] at hkE
            refine uR1 (And.intro @c1 @c2) ?_; intro K hK
            refine uH ?_
            refine hK _ ?_; clear hK K
            refine uT ?_
            repeat refine uA ?_
            rw [hbad hkE]
            (refine awp_ret (ret1 uRT ?_); try rfl)
          | false =>
            have q2 : decide (e < (y.nodes.length : Int)) = true := decide_eq_true (by have := of_decide_eq_false c2; omega)
            rw [q2, Bool.true_and] at hkE
            simp [d5, dx] at hkE
            refine uR1 (And.intro @c1 (And.intro @c2 (And.intro @dx (And.intro @bb1 (And.intro @bb2 (And.intro @bb3 (And.intro @bb4 (And.intro @ints_take @htk)))))))) ?_; intro K hK
            refine ⟨by omega, ?_⟩
            refine callF uTS (hct) uTS uTS uTS ?_; refine uS ?_
            refine hK _ ?_; clear hK K
            cases v with
            | true =>
              refine uT ?_
              repeat refine uA ?_
              rw [hbad (by simpa using hkE)]
              (refine awp_ret (ret1 uRT ?_); try rfl)
            | false =>
              refine uF ?_
              repeat refine uA ?_
              refine ⟨(_, k + 1), ⟨by simp only; omega, hgood (by simpa using hkE)⟩, by simp only; omega, uKF⟩
  · refine awp_exit ?_
    have : leadP y.nodes.length i x = true := leadP_true.2 ⟨hlen, fun j hj' => hj j (by omega)⟩
    rw [this]
    repeat refine uA ?_
    (refine awp_ret (ret1 uRT ?_); try rfl)
end Go.Proofs.YtkhjenddapaejaaGreatDoor
namespace Go.Proofs.YtkhjenddapaejaaGreatDoor
open Go Go.Sym
def nodeE (N i : Int) (x : Nd) : Int :=
  if nameOk x.nm = false then 3 else if x.kd < 1 ∨ 9 < x.kd then 4 else if lenOk x = true ∧ (x.zn = 0 ∨ x.zn = 1) ∧ leadP N i x = true then 0 else 1
theorem lnode_sat (y : Ly) (i : Nat) (hi : i < y.nodes.length) (hN : y.nodes.length ≤ 1000) (hx : (y.nodes.getD i default).ex.length ≤ 1000) (hnm : (bs (y.nodes.getD i default).nm).length ≤ 1000) :
    SatG Tryz.prog tab 102 [] [y.av, I i] [] (I (nodeE y.nodes.length i (y.nodes.getD i default))) := by
  have h1 := fname_sat _ hnm
  have h2 := length_sat (y.nodes.getD i default)
  have h3 := lleads_sat y i hi hN hx
  generalize e1 : y.nodes.getD i default = x at *
  have hE : nodeE y.nodes.length i x = _ := nodeE.eq_1 _ _ _
  generalize nodeE y.nodes.length i x = r at *
  generalize nameOk x.nm = a at *
  generalize lenOk x = l at *
  generalize leadP y.nodes.length i x = p at *
  refine uFN Tryz.func102 Tryz.ntmps102 ?_; intro w e X hC
  refine uA ?_
  repeat refine uA1 (And.intro (nds_getD hi) @e1) ?_
  refine uR ?_; intro K hK
  refine callF uTS (h1) uTS uTS uTS ?_; refine uS ?_
  refine hK _ ?_; clear hK K
  cases a with
  | false =>
    refine uT ?_
    repeat refine uA ?_
    rw [if_pos rfl] at hE
    subst hE
    (refine awp_ret (ret1 uRT ?_); try rfl)
  | true =>
    rw [if_neg (by decide)] at hE
    refine uF ?_
    cases d1 : decide (x.kd < 1) with
    | true =>
      rw [if_pos (.inl (of_decide_eq_true d1))] at hE
      subst hE
      refine uR1 @d1 ?_; intro K hK
      refine hK _ ?_; clear hK K
      refine uT ?_
      repeat refine uA ?_
      (refine awp_ret (ret1 uRT ?_); try rfl)
    | false =>
      cases d2 : decide (9 < x.kd) with
      | true =>
        rw [if_pos (.inr (of_decide_eq_true d2))] at hE
        subst hE
        refine uR1 (And.intro @d1 @d2) ?_; intro K hK
        refine hK _ ?_; clear hK K
        refine uT ?_
        repeat refine uA ?_
        (refine awp_ret (ret1 uRT ?_); try rfl)
      | false =>
        rw [if_neg (by have := of_decide_eq_false d1; have := of_decide_eq_false d2; omega)] at hE
        refine uR1 (And.intro @d1 @d2) ?_; intro K hK
        refine hK _ ?_; clear hK K
        refine uF ?_
        refine uR ?_; intro K hK
        refine callF uTS (h2) uTS uTS uTS ?_; refine uS ?_
        cases l with
        | false =>
          rw [if_neg (by simp)] at hE
          subst hE
          first | refine uS ?_ | exact uX
          refine hK _ ?_; clear hK K
          refine uT ?_
          repeat refine uA ?_
          (refine awp_ret (ret1 uRT ?_); try rfl)
        | true =>
          first | refine uS ?_ | exact uX
          cases z0 : decide (¬ x.zn = 0) with
          | false =>
            have q0 : x.zn = 0 := Decidable.byContradiction (of_decide_eq_false z0)
            first | refine uS1 @z0 ?_ | exact uX1 @z0
            refine callF uTS (h3) uTS uTS uTS ?_; refine uS ?_
            cases p with
            | true =>
              rw [if_pos ⟨rfl, .inl q0, rfl⟩] at hE
              subst hE
              first | refine uS ?_ | exact uX
              refine hK _ ?_; clear hK K
              refine uF ?_
              repeat refine uA ?_
              (refine awp_ret (ret1 uRT ?_); try rfl)
            | false =>
              rw [if_neg (by simp)] at hE
              subst hE
              first | refine uS ?_ | exact uX
              refine hK _ ?_; clear hK K
              refine uT ?_
              repeat refine uA ?_
              (refine awp_ret (ret1 uRT ?_); try rfl)
          | true =>
            have q0 : ¬ x.zn = 0 := of_decide_eq_true z0
            cases z1 : decide (¬ x.zn = 1) with
            | true =>
              have q1 : ¬ x.zn = 1 := of_decide_eq_true z1
              rw [if_neg (fun h => h.2.1.elim q0 q1)] at hE
              subst hE
              first | refine uS1 (And.intro @z0 @z1) ?_ | exact uX1 (And.intro @z0 @z1)
              refine hK _ ?_; clear hK K
              refine uT ?_
              repeat refine uA ?_
              (refine awp_ret (ret1 uRT ?_); try rfl)
            | false =>
              have q1 : x.zn = 1 := Decidable.byContradiction (of_decide_eq_false z1)
              first | refine uS1 (And.intro @z0 @z1) ?_ | exact uX1 (And.intro @z0 @z1)
              refine callF uTS (h3) uTS uTS uTS ?_; refine uS ?_
              cases p with
              | true =>
                rw [if_pos ⟨rfl, .inr q1, rfl⟩] at hE
                subst hE
                first | refine uS ?_ | exact uX
                refine hK _ ?_; clear hK K
                refine uF ?_
                repeat refine uA ?_
                (refine awp_ret (ret1 uRT ?_); try rfl)
              | false =>
                rw [if_neg (by simp)] at hE
                subst hE
                first | refine uS ?_ | exact uX
                refine hK _ ?_; clear hK K
                refine uT ?_
                repeat refine uA ?_
                (refine awp_ret (ret1 uRT ?_); try rfl)
end Go.Proofs.YtkhjenddapaejaaGreatDoor
namespace Go.Proofs.YtkhjenddapaejaaGreatDoor
open Go Go.Sym
theorem ltotal_sat (y : Ly) (hy : y.nodes.length ≤ 1000) (hx : ∀ i, i < y.nodes.length → 0 ≤ (y.nodes.getD i default).ln ∧ (y.nodes.getD i default).ln ≤ 1000) :
    SatG Tryz.prog tab 97 [] [y.av] [] (I (total y.nodes)) := by
  refine uFN Tryz.func97 Tryz.ntmps97 ?_; intro w e X hC
  repeat refine uA ?_
  refine uW ?_
  refine awp_loopW (fun i : Nat × Nat => ⟨[(1, .ptO 101 1 0 0 0), (3, I (totL y.nodes i.2)), (7, .sl (nds y.nodes) false), (8, I y.nodes.length), (9, I i.2)], (101, some (1, .box [.sl (nds y.nodes) false, .sl (t3s y.devs) false])) :: [], i.1⟩) (fun i => i.2 ≤ y.nodes.length) (fun i => y.nodes.length - i.2) (_, 0) (Nat.zero_le _) (.of (Nat.le_refl _) (by repeat first | exact HOk.nil | refine uHN ?_ | (refine HOk.cons ?_ ?_; (focus (simp only [go_sem, Nat.reduceAdd, Nat.reduceSub, Nat.reduceMul, Nat.reduceLT, Nat.reduceEqDiff, Nat.reduceBEq, Nat.reduceLeDiff, Int.reduceToNat, ↓reduceIte, Int.reduceEq, Int.reduceLT, Int.reduceLE, Int.reduceAdd, Int.reduceSub, Int.reduceNeg, reduceCtorEq, totL]; done)))) (by repeat first | exact WOk.nil | refine uWN ?_ | (refine WOk.cons ?_ ?_; (focus (simp only [go_sem, Nat.reduceAdd, Nat.reduceSub, Nat.reduceMul, Nat.reduceLT, Nat.reduceEqDiff, Nat.reduceBEq, Nat.reduceLeDiff, Int.reduceToNat, ↓reduceIte, Int.reduceEq, Int.reduceLT, Int.reduceLE, Int.reduceAdd, Int.reduceSub, Int.reduceNeg, reduceCtorEq, totL]; done))))) ?_
  rintro ⟨ck, i⟩ hi
  simp only at hi
  repeat refine uA ?_
  refine uW ?_; refine condP _ rfl (fun h => ?_) (fun h => ?_)
  · have hn : i < y.nodes.length := by omega
    have hb := totL_le (fun j hj => hx j (by omega)) i hi
    have hxi := hx i hn
    have e1 : totL y.nodes (i + 1) = totL y.nodes i + (y.nodes.getD i default).ln := rfl
    generalize totL y.nodes i = t at *
    repeat refine uA1 (nds_getD hn) ?_
    refine ⟨(_, i + 1), by simp only; omega, by simp only; omega, .of (Nat.le_refl _) uHF (uWF1 @e1)⟩
  · refine awp_exit ?_
    have hi' : i = y.nodes.length := by omega
    subst hi'
    repeat refine uA ?_
    (refine awp_ret (ret1 uRT ?_); try rfl)
theorem find1_sat (x : Nd) (nm : ByteArray) : SatG Tryz.prog tab 177 [] [x.av, .ptI [S nm]] [] (B (decide (x.nm = nm))) := by
  refine uFN Tryz.func177 Tryz.ntmps177 ?_; intro w e X hC
  repeat refine uA ?_
  (refine awp_ret (ret1 uRT ?_); try rfl)
  have : decide (x.nm.data.toList = nm.data.toList) = decide (x.nm = nm) := by
    by_cases h : x.nm = nm
    · rw [h]; simp
    · rw [decide_eq_false h]; exact decide_eq_false fun h2 => h (ba_eq h2)
  rw [← this]
  rfl
theorem findN_idx (xs : List Nd) (nm : ByteArray) : findN xs nm = idxR (fun x => decide (x.nm = nm)) xs := rfl
theorem lfind_sat (y : Ly) (nm : ByteArray) (hy : y.nodes.length ≤ 1000) : SatG Tryz.prog tab 141 [] [y.av, S nm] [] (I (findN y.nodes nm)) := by
  rw [findN_idx]
  refine uFN Tryz.func141 Tryz.ntmps141 ?_; intro w e X hC
  refine uA ?_
  refine uR ?_; intro K hK
  refine callP uTS ((ixfN_sat y.nodes 177 [S nm] (fun x => decide (x.nm = nm)) hy (fun x _ => find1_sat x nm))) uTS uTS uTS ?_; refine uS ?_
  refine hK _ ?_; clear hK K
  (refine awp_ret (ret1 uRT ?_); try rfl)
end Go.Proofs.YtkhjenddapaejaaGreatDoor
namespace Go.Proofs.YtkhjenddapaejaaGreatDoor
open Go Go.Sym
def namedB (xs : List Nd) : Bool := (List.range xs.length).all fun i => decide (findN xs (xs.getD i default).nm = (i : Int))
theorem range_all_true {n : Nat} {p : Nat → Bool} (h : ∀ i, i < n → p i = true) : (List.range n).all p = true := by
  rw [List.all_eq_true]; intro i hi; exact h i (List.mem_range.1 hi)
theorem range_all_false {n i : Nat} {p : Nat → Bool} (hi : i < n) (h : p i = false) : (List.range n).all p = false := by
  rw [List.all_eq_false]; exact ⟨i, List.mem_range.2 hi, by rw [h]; simp⟩
theorem lnamed_sat (y : Ly) (hy : y.nodes.length ≤ 1000) : SatG Tryz.prog tab 103 [] [y.av] [] (B (namedB y.nodes)) := by
  refine uFN Tryz.func103 Tryz.ntmps103 ?_; intro w e X hC
  repeat refine uA ?_
  refine uW ?_
  refine awp_loopW (fun i : Nat × Nat => ⟨[(1, .ptO 101 1 0 0 0), (6, .sl (nds y.nodes) false), (7, I y.nodes.length), (8, I i.2)], (101, some (1, .box [.sl (nds y.nodes) false, .sl (t3s y.devs) false])) :: [], i.1⟩) (fun i => i.2 ≤ y.nodes.length ∧ ∀ j, j < i.2 → decide (findN y.nodes (y.nodes.getD j default).nm = (j : Int)) = true) (fun i => y.nodes.length - i.2) (_, 0) ⟨Nat.zero_le _, fun j hj => absurd hj (Nat.not_lt_zero _)⟩ (uKF) ?_
  rintro ⟨ck, i⟩ ⟨hi, hj⟩
  simp only at hi hj
  repeat refine uA ?_
  refine uW ?_; refine condP _ rfl (fun h => ?_) (fun h => ?_)
  · have hn : i < y.nodes.length := by omega
    have hsat := lfind_sat y (y.nodes.getD i default).nm hy
    have hbad := range_all_false (p := fun i => decide (findN y.nodes (y.nodes.getD i default).nm = (i : Int))) hn
    have hgood : decide (findN y.nodes (y.nodes.getD i default).nm = (i : Int)) = true → ∀ j, j < i + 1 → decide (findN y.nodes (y.nodes.getD j default).nm = (j : Int)) = true := fun h j hj' => by
      by_cases hji : j = i
      · subst hji; exact h
      · exact hj j (by omega)
    try simp only at hbad
    generalize e1 : y.nodes.getD i default = x at *
    generalize findN y.nodes x.nm = f at *
    refine uA1 (And.intro (nds_getD hn) @e1) ?_
    refine uR ?_; intro K hK
    refine callP uTS (hsat) uTS uTS uTS ?_; refine uS ?_
    refine hK _ ?_; clear hK K
    refine uW ?_; refine condP _ rfl (fun c1 => ?_) (fun c1 => ?_)
    · repeat refine uA ?_
      (refine awp_ret (ret1 uRT ?_); try rfl)
      rw [show namedB y.nodes = false from hbad (decide_eq_false c1)]; rfl
    · repeat refine uA ?_
      refine ⟨(_, i + 1), ⟨by simp only; omega, hgood (decide_eq_true (Decidable.byContradiction c1))⟩, by simp only; omega, uKF⟩
  · refine awp_exit ?_
    have : namedB y.nodes = true := range_all_true fun j hj' => hj j (by omega)
    rw [this]
    repeat refine uA ?_
    (refine awp_ret (ret1 uRT ?_); try rfl)
end Go.Proofs.YtkhjenddapaejaaGreatDoor
namespace Go.Proofs.YtkhjenddapaejaaGreatDoor
open Go Go.Sym
def zoneA (x : Nd) : Bool := if x.kd = 1 ∨ x.kd = 3 ∨ x.kd = 6 then decide (x.zn = 0) else if x.kd = 7 ∨ x.kd = 8 then decide (x.zn = 1) else true
def zoneW (x : Nd) (k : Nat) : Int := if x.kd = 6 ∧ k = 1 then 1 else x.zn
def zoneK (xs : List Nd) (x : Nd) (k : Nat) : Bool := !(decide ((xs.getD (x.ex.getD k 0).toNat default).kd = 1) || decide (¬ (xs.getD (x.ex.getD k 0).toNat default).zn = zoneW x k))
def zoneB (xs : List Nd) (x : Nd) : Bool := zoneA x && (List.range x.ex.length).all (zoneK xs x)
theorem lzoned_sat (y : Ly) (i : Nat) (hi : i < y.nodes.length) (hN : y.nodes.length ≤ 1000) (hx : (y.nodes.getD i default).ex.length ≤ 1000) (hr : ∀ k, k < (y.nodes.getD i default).ex.length → 0 ≤ (y.nodes.getD i default).ex.getD k 0 ∧ (y.nodes.getD i default).ex.getD k 0 < y.nodes.length) :
    SatG Tryz.prog tab 104 [] [y.av, I i] [] (B (zoneB y.nodes (y.nodes.getD i default))) := by
  refine uFN Tryz.func104 Tryz.ntmps104 ?_; intro w e X hC
  generalize e1 : y.nodes.getD i default = x at *
  refine uA ?_
  refine uR1 (And.intro (nds_getD hi) @e1) ?_; intro K hK
  refine uH ?_
  refine hK _ ?_; clear hK K
  refine awp_seq ?_
  refine awp_merge (fun q : Nat => ⟨[(1, I i), (2, .ptO 102 1 0 0 0), (5, .ptO 105 8 0 0 0)], (105, some (8, .box [S x.nm, I x.kd, I x.ln, I x.zn, IS x.ex])) :: (102, some (1, .box [.sl (nds y.nodes) false, .sl (t3s y.devs) false])) :: [], q⟩) (fun _ => zoneA x = true) ?_ ?_
  · refine uR ?_; intro K hK
    refine hK _ ?_; clear hK K
    have kds : x.kd = 1 ∨ x.kd = 3 ∨ x.kd = 6 ∨ x.kd = 7 ∨ x.kd = 8 ∨ (¬ x.kd = 1 ∧ ¬ x.kd = 3 ∧ ¬ x.kd = 6 ∧ ¬ x.kd = 7 ∧ ¬ x.kd = 8) := by omega
    rcases kds with c | c | c | c | c | ⟨n1, n3, n6, n7, n8⟩
    · have d1 : decide (x.kd = 1) = true := decide_eq_true c
      have hA : zoneA x = decide (x.zn = 0) := by simp [zoneA, c]
      cases z0 : decide (¬ x.zn = 0) with
      | true =>
        repeat first | refine uC ?_ | refine uA1 (And.intro @d1 @z0) ?_
        have : zoneB y.nodes x = false := by rw [zoneB, hA, decide_eq_false (of_decide_eq_true z0), Bool.false_and]
        rw [this]
        (refine awp_ret (ret1 uRT ?_); try rfl)
      | false =>
        repeat first | refine uC ?_ | refine uA1 (And.intro @d1 @z0) ?_
        refine uW ?_
        refine ⟨_, by rw [hA]; exact decide_eq_true (Decidable.byContradiction (of_decide_eq_false z0)), uKF⟩
    · have d1 : decide (x.kd = 1) = false := decide_eq_false (by omega)
      have d3 : decide (x.kd = 3) = true := decide_eq_true c
      have hA : zoneA x = decide (x.zn = 0) := by simp [zoneA, c]
      cases z0 : decide (¬ x.zn = 0) with
      | true =>
        repeat first | refine uC ?_ | refine uA1 (And.intro @d1 (And.intro @d3 @z0)) ?_
        have : zoneB y.nodes x = false := by rw [zoneB, hA, decide_eq_false (of_decide_eq_true z0), Bool.false_and]
        rw [this]
        (refine awp_ret (ret1 uRT ?_); try rfl)
      | false =>
        repeat first | refine uC ?_ | refine uA1 (And.intro @d1 (And.intro @d3 @z0)) ?_
        refine uW ?_
        refine ⟨_, by rw [hA]; exact decide_eq_true (Decidable.byContradiction (of_decide_eq_false z0)), uKF⟩
    · have d1 : decide (x.kd = 1) = false := decide_eq_false (by omega)
      have d3 : decide (x.kd = 3) = false := decide_eq_false (by omega)
      have d6 : decide (x.kd = 6) = true := decide_eq_true c
      have hA : zoneA x = decide (x.zn = 0) := by simp [zoneA, c]
      cases z0 : decide (¬ x.zn = 0) with
      | true =>
        repeat first | refine uC ?_ | refine uA1 (And.intro @d1 (And.intro @d3 (And.intro @d6 @z0))) ?_
        have : zoneB y.nodes x = false := by rw [zoneB, hA, decide_eq_false (of_decide_eq_true z0), Bool.false_and]
        rw [this]
        (refine awp_ret (ret1 uRT ?_); try rfl)
      | false =>
        repeat first | refine uC ?_ | refine uA1 (And.intro @d1 (And.intro @d3 (And.intro @d6 @z0))) ?_
        refine uW ?_
        refine ⟨_, by rw [hA]; exact decide_eq_true (Decidable.byContradiction (of_decide_eq_false z0)), uKF⟩
    · have d1 : decide (x.kd = 1) = false := decide_eq_false (by omega)
      have d3 : decide (x.kd = 3) = false := decide_eq_false (by omega)
      have d6 : decide (x.kd = 6) = false := decide_eq_false (by omega)
      have d7 : decide (x.kd = 7) = true := decide_eq_true c
      have hA : zoneA x = decide (x.zn = 1) := by simp [zoneA, c]
      cases z0 : decide (¬ x.zn = 1) with
      | true =>
        repeat first | refine uC ?_ | refine uA1 (And.intro @d1 (And.intro @d3 (And.intro @d6 (And.intro @d7 @z0)))) ?_
        have : zoneB y.nodes x = false := by rw [zoneB, hA, decide_eq_false (of_decide_eq_true z0), Bool.false_and]
        rw [this]
        (refine awp_ret (ret1 uRT ?_); try rfl)
      | false =>
        repeat first | refine uC ?_ | refine uA1 (And.intro @d1 (And.intro @d3 (And.intro @d6 (And.intro @d7 @z0)))) ?_
        refine uW ?_
        refine ⟨_, by rw [hA]; exact decide_eq_true (Decidable.byContradiction (of_decide_eq_false z0)), uKF⟩
    · have d1 : decide (x.kd = 1) = false := decide_eq_false (by omega)
      have d3 : decide (x.kd = 3) = false := decide_eq_false (by omega)
      have d6 : decide (x.kd = 6) = false := decide_eq_false (by omega)
      have d7 : decide (x.kd = 7) = false := decide_eq_false (by omega)
      have d8 : decide (x.kd = 8) = true := decide_eq_true c
      have hA : zoneA x = decide (x.zn = 1) := by simp [zoneA, c]
      cases z0 : decide (¬ x.zn = 1) with
      | true =>
        repeat first | refine uC ?_ | refine uA1 (And.intro @d1 (And.intro @d3 (And.intro @d6 (And.intro @d7 (And.intro @d8 @z0))))) ?_
        have : zoneB y.nodes x = false := by rw [zoneB, hA, decide_eq_false (of_decide_eq_true z0), Bool.false_and]
        rw [this]
        (refine awp_ret (ret1 uRT ?_); try rfl)
      | false =>
        repeat first | refine uC ?_ | refine uA1 (And.intro @d1 (And.intro @d3 (And.intro @d6 (And.intro @d7 (And.intro @d8 @z0))))) ?_
        refine uW ?_
        refine ⟨_, by rw [hA]; exact decide_eq_true (Decidable.byContradiction (of_decide_eq_false z0)), uKF⟩
    · have d1 := decide_eq_false n1
      have d3 := decide_eq_false n3
      have d6 := decide_eq_false n6
      have d7 := decide_eq_false n7
      have d8 := decide_eq_false n8
      repeat first | refine uC ?_ | refine uA1 (And.intro @d1 (And.intro @d3 (And.intro @d6 (And.intro @d7 @d8)))) ?_
      refine uW ?_
      refine ⟨_, by simp [zoneA, n1, n3, n6, n7, n8], uKF⟩
  rintro ck0 hA
  repeat refine uA ?_
  refine uW ?_
  refine awp_loopW (fun q : Nat × Nat => ⟨[(2, .ptO 102 1 0 0 0), (5, .ptO 105 8 0 0 0), (30, IS x.ex), (31, I x.ex.length), (32, I q.2)], (105, some (8, .box [S x.nm, I x.kd, I x.ln, I x.zn, IS x.ex])) :: (102, some (1, .box [.sl (nds y.nodes) false, .sl (t3s y.devs) false])) :: [], q.1⟩) (fun q => q.2 ≤ x.ex.length ∧ ∀ j, j < q.2 → zoneK y.nodes x j = true) (fun q => x.ex.length - q.2) (_, 0) ⟨Nat.zero_le _, fun j hj => absurd hj (Nat.not_lt_zero _)⟩ (uKF) ?_
  rintro ⟨ck, k⟩ ⟨hk, hj⟩
  simp only at hk hj
  repeat refine uA ?_
  refine uW ?_; refine condP _ rfl (fun h => ?_) (fun h => ?_)
  · have hlt : k < x.ex.length := by omega
    obtain ⟨r0, r1⟩ := hr k hlt
    have hbad : zoneK y.nodes x k = false → zoneB y.nodes x = false := fun h => by rw [zoneB, range_all_false hlt h, Bool.and_false]
    have hgood : zoneK y.nodes x k = true → ∀ j, j < k + 1 → zoneK y.nodes x j = true := fun h j hj' => by
      by_cases hji : j = k
      · subst hji; exact h
      · exact hj j (by omega)
    obtain ⟨zk, hzk⟩ : ∃ zk, zk = zoneK y.nodes x k := ⟨_, rfl⟩
    rw [← hzk] at hbad hgood
    unfold zoneK at hzk
    obtain ⟨m, hm⟩ : ∃ m, m = (x.ex.getD k 0).toNat := ⟨_, rfl⟩
    have hmm : x.ex.getD k 0 = (m : Int) := by omega
    rw [← hm] at hzk
    have hmn : m < y.nodes.length := by omega
    generalize e3 : y.nodes.getD m default = t at *
    iterate 2 refine uA1 (And.intro (ints_getD hlt) @hmm) ?_
    refine awp_seq ?_
    refine awp_merge (fun q : Nat => ⟨[(2, .ptO 102 1 0 0 0), (5, .ptO 105 8 0 0 0), (7, I m), (8, I (zoneW x k)), (30, IS x.ex), (31, I x.ex.length), (32, I k)], (105, some (8, .box [S x.nm, I x.kd, I x.ln, I x.zn, IS x.ex])) :: (102, some (1, .box [.sl (nds y.nodes) false, .sl (t3s y.devs) false])) :: [], q⟩) (fun _ => True) ?_ ?_
    · by_cases c6 : x.kd = 6
      · have d6 := decide_eq_true c6
        by_cases ck1 : k = 1
        · have dk : decide ((k : Int) = 1) = true := decide_eq_true (by omega)
          have hw : zoneW x k = 1 := by rw [zoneW, if_pos ⟨c6, ck1⟩]
          repeat first | refine uC ?_ | refine uA1 (And.intro @d6 @dk) ?_
          refine uW ?_
          refine ⟨_, trivial, .of (Nat.le_refl _) (uHF1 @hw) (uWF1 @hw)⟩
        · have dk : decide ((k : Int) = 1) = false := decide_eq_false (by omega)
          have hw : zoneW x k = x.zn := by rw [zoneW, if_neg (fun h => ck1 h.2)]
          repeat first | refine uC ?_ | refine uA1 (And.intro @d6 @dk) ?_
          refine uW ?_
          refine ⟨_, trivial, .of (Nat.le_refl _) (uHF1 @hw) (uWF1 @hw)⟩
      · have d6 := decide_eq_false c6
        have hw : zoneW x k = x.zn := by rw [zoneW, if_neg (fun h => c6 h.1)]
        repeat first | refine uC ?_ | refine uA1 @d6 ?_
        refine uW ?_
        refine ⟨_, trivial, .of (Nat.le_refl _) (uHF1 @hw) (uWF1 @hw)⟩
    · rintro ck1 -
      generalize zoneW x k = wt at *
      cases c1 : decide (t.kd = 1) with
      | true =>
        rw [c1, Bool.true_or] at hzk
        repeat first | refine uC ?_ | refine uA1 (And.intro (nds_getD hmn) (And.intro @e3 @c1)) ?_
        rw [hbad hzk]
        (refine awp_ret (ret1 uRT ?_); try rfl)
      | false =>
        cases c2 : decide (¬ t.zn = wt) with
        | true =>
          rw [c1, c2] at hzk
          repeat first | refine uC ?_ | refine uA1 (And.intro (nds_getD hmn) (And.intro @e3 (And.intro @c1 @c2))) ?_
          rw [hbad hzk]
          (refine awp_ret (ret1 uRT ?_); try rfl)
        | false =>
          rw [c1, c2] at hzk
          repeat first | refine uC ?_ | refine uA1 (And.intro (nds_getD hmn) (And.intro @e3 (And.intro @c1 @c2))) ?_
          refine ⟨(_, k + 1), ⟨by simp only; omega, hgood hzk⟩, by simp only; omega, uKF⟩
  · refine awp_exit ?_
    have : zoneB y.nodes x = true := by rw [zoneB, hA, range_all_true fun j hj' => hj j (by omega)]; rfl
    rw [this]
    repeat refine uA ?_
    (refine awp_ret (ret1 uRT ?_); try rfl)
end Go.Proofs.YtkhjenddapaejaaGreatDoor
namespace Go.Proofs.YtkhjenddapaejaaGreatDoor
open Go Go.Sym
def devOne (xs : List Nd) (d : T3) : Int :=
  if ¬ d.a = 1 ∧ ¬ d.a = 2 then 4 else if d.b < 0 ∨ (xs.length : Int) ≤ d.b ∨ d.c < 0 ∨ (xs.getD d.b.toNat default).ln ≤ d.c then 1 else 0
def dupK (ds : List T3) (i : Nat) : Bool := !(ds.take i).any fun y => eqT (ds.getD i default) y
def devE (xs : List Nd) (ds : List T3) : Int := match ds.find? fun d => !decide (devOne xs d = 0) with
  | some d => devOne xs d
  | none => if (List.range ds.length).all (dupK ds) = true then 0 else 5
theorem devE_bad {xs : List Nd} {ds : List T3} {i : Nat} (hi : i < ds.length) (h : ∀ j, j < i → devOne xs (ds.getD j default) = 0) (hb : ¬ devOne xs (ds.getD i default) = 0) : devE xs ds = devOne xs (ds.getD i default) := by
  have : (ds.find? fun d => !decide (devOne xs d = 0)) = some (ds.getD i default) := by
    rw [List.find?_eq_some_iff_getElem]
    refine ⟨by simpa using hb, i, hi, by simp [hi], fun j hj => ?_⟩
    have hjl : j < ds.length := by omega
    have := h j hj
    simpa [hjl] using this
  rw [devE, this]
theorem devE_ok {xs : List Nd} {ds : List T3} (h : ∀ j, j < ds.length → devOne xs (ds.getD j default) = 0) : devE xs ds = if (List.range ds.length).all (dupK ds) = true then 0 else 5 := by
  have : (ds.find? fun d => !decide (devOne xs d = 0)) = none := by
    rw [List.find?_eq_none]
    intro d hd
    obtain ⟨j, hj, rfl⟩ := List.getElem_of_mem hd
    have := h j hj
    simpa [hj] using this
  rw [devE, this]
theorem ldevices_sat (y : Ly) (hN : y.nodes.length ≤ 1000) (hD : y.devs.length ≤ 1000) : SatG Tryz.prog tab 106 [] [y.av] [] (I (devE y.nodes y.devs)) := by
  refine uFN Tryz.func106 Tryz.ntmps106 ?_; intro w e X hC
  repeat refine uA ?_
  refine uW ?_
  refine awp_loopW (fun q : Nat × Nat => ⟨[(1, .ptO 101 1 0 0 0), (8, .sl (t3s y.devs) false), (9, I y.devs.length), (10, I q.2)], (101, some (1, .box [.sl (nds y.nodes) false, .sl (t3s y.devs) false])) :: [], q.1⟩) (fun q => q.2 ≤ y.devs.length ∧ ∀ j, j < q.2 → devOne y.nodes (y.devs.getD j default) = 0) (fun q => y.devs.length - q.2) (_, 0) ⟨Nat.zero_le _, fun j hj => absurd hj (Nat.not_lt_zero _)⟩ (uKF) ?_
  rintro ⟨ck, k⟩ ⟨hk, hj⟩
  simp only at hk hj
  repeat refine uA ?_
  refine uW ?_; refine condP _ rfl (fun h => ?_) (fun h => ?_)
  · have hlt : k < y.devs.length := by omega
    have hbad := devE_bad hlt hj
    have hgood : devOne y.nodes (y.devs.getD k default) = 0 → ∀ j, j < k + 1 → devOne y.nodes (y.devs.getD j default) = 0 := fun h j hj' => by
      by_cases hji : j = k
      · subst hji; exact h
      · exact hj j (by omega)
    have hE : devOne y.nodes (y.devs.getD k default) = _ := devOne.eq_1 _ _
    generalize devOne y.nodes (y.devs.getD k default) = r at *
    generalize e1 : y.devs.getD k default = d at *
    refine uA1 (And.intro (t3s_getD hlt) @e1) ?_
    refine awp_block ?_
    refine awp_seq ?_
    refine awp_merge (fun q : Nat => ⟨[(1, .ptO 101 1 0 0 0), (4, .ptO 104 (ck+3) 0 0 0), (8, .sl (t3s y.devs) false), (9, I y.devs.length), (10, I k), (14, B (decide (¬ d.a = 1 ∧ ¬ d.a = 2)))], (104, some (ck+3, .box [I d.a, I d.b, I d.c])) :: (101, some (1, .box [.sl (nds y.nodes) false, .sl (t3s y.devs) false])) :: [], q⟩) (fun _ => True) ?_ ?_
    · cases d1 : decide (¬ d.a = 1) with
      | true =>
        have h1 := of_decide_eq_true d1
        cases d2 : decide (¬ d.a = 2) with
        | true =>
          rw [decide_eq_true (show ¬ d.a = 1 ∧ ¬ d.a = 2 from ⟨h1, of_decide_eq_true d2⟩)]
          repeat refine uA1 (And.intro @d1 @d2) ?_
          refine ⟨_, trivial, uKF⟩
        | false =>
          have h2 := of_decide_eq_false d2
          rw [decide_eq_false (show ¬ (¬ d.a = 1 ∧ ¬ d.a = 2) from fun h => h2 h.2)]
          repeat refine uA1 (And.intro @d1 @d2) ?_
          refine ⟨_, trivial, uKF⟩
      | false =>
        have h1 := of_decide_eq_false d1
        rw [decide_eq_false (show ¬ (¬ d.a = 1 ∧ ¬ d.a = 2) from fun h => h1 h.1)]
        repeat refine uA1 @d1 ?_
        refine ⟨_, trivial, uKF⟩
    rintro ck1 -
    refine uW ?_; refine condP _ rfl (fun ca => ?_) (fun ca => ?_)
    · rw [if_pos ca] at hE
      repeat refine uA ?_
      rw [hbad (by omega), hE]
      (refine awp_ret (ret1 uRT ?_); try rfl)
    rw [if_neg ca] at hE
    cases d1 : decide (d.b < 0) with
    | true =>
      rw [if_pos (.inl (of_decide_eq_true d1))] at hE
      refine uE1 @d1 ?_; intro K hK
      refine uH ?_
      refine hK _ ?_; clear hK K
      refine uT ?_
      repeat refine uA ?_
      rw [hbad (by omega), hE]
      (refine awp_ret (ret1 uRT ?_); try rfl)
    | false =>
      have g1 := of_decide_eq_false d1
      cases d2 : decide ((y.nodes.length : Int) ≤ d.b) with
      | true =>
        rw [if_pos (.inr (.inl (of_decide_eq_true d2)))] at hE
        refine uE1 (And.intro @d1 @d2) ?_; intro K hK
        refine uH ?_
        refine hK _ ?_; clear hK K
        refine uT ?_
        repeat refine uA ?_
        rw [hbad (by omega), hE]
        (refine awp_ret (ret1 uRT ?_); try rfl)
      | false =>
        have g2 := of_decide_eq_false d2
        cases d3 : decide (d.c < 0) with
        | true =>
          rw [if_pos (.inr (.inr (.inl (of_decide_eq_true d3))))] at hE
          refine uE1 (And.intro @d1 (And.intro @d2 @d3)) ?_; intro K hK
          refine uH ?_
          refine hK _ ?_; clear hK K
          refine uT ?_
          repeat refine uA ?_
          rw [hbad (by omega), hE]
          (refine awp_ret (ret1 uRT ?_); try rfl)
        | false =>
          have g3 := of_decide_eq_false d3
          obtain ⟨m, hm⟩ : ∃ m, m = d.b.toNat := ⟨_, rfl⟩
          have hmm : d.b = (m : Int) := by omega
          rw [← hm] at hE
          have hmn : m < y.nodes.length := by omega
          generalize e2 : y.nodes.getD m default = x at *
          have d2' : decide ((y.nodes.length : Int) ≤ m) = false := decide_eq_false (by omega)
          have d1' : decide ((m : Int) < 0) = false := decide_eq_false (by omega)
          cases d4 : decide (x.ln ≤ d.c) with
          | true =>
            rw [if_pos (.inr (.inr (.inr (of_decide_eq_true d4))))] at hE
            refine uE1 (And.intro @hmm (And.intro @d1' (And.intro @d2' (And.intro @d3 (And.intro (nds_getD hmn) (And.intro @e2 @d4)))))) ?_; intro K hK
            refine uH ?_
            refine hK _ ?_; clear hK K
            refine uT ?_
            repeat refine uA ?_
            rw [hbad (by omega), hE]
            (refine awp_ret (ret1 uRT ?_); try rfl)
          | false =>
            have g4 := of_decide_eq_false d4
            rw [if_neg (fun h => by rcases h with h | h | h | h <;> omega)] at hE
            refine uE1 (And.intro @hmm (And.intro @d1' (And.intro @d2' (And.intro @d3 (And.intro (nds_getD hmn) (And.intro @e2 @d4)))))) ?_; intro K hK
            refine uH ?_
            refine hK _ ?_; clear hK K
            refine uF ?_
            repeat refine uA ?_
            refine ⟨(_, k + 1), ⟨by simp only; omega, hgood hE⟩, by simp only; omega, uKF⟩
  · refine awp_exit ?_
    obtain rfl : k = y.devs.length := by omega
    rw [devE_ok hj]
    clear hj
    repeat refine uA ?_
    refine uW ?_
    refine awp_loopW (fun q : Nat × Nat => ⟨[(1, .ptO 101 1 0 0 0), (54, .sl (t3s y.devs) false), (55, I y.devs.length), (56, I q.2)], (101, some (1, .box [.sl (nds y.nodes) false, .sl (t3s y.devs) false])) :: [], q.1⟩) (fun q => q.2 ≤ y.devs.length ∧ ∀ j, j < q.2 → dupK y.devs j = true) (fun q => y.devs.length - q.2) (_, 0) ⟨Nat.zero_le _, fun j hj => absurd hj (Nat.not_lt_zero _)⟩ (uKF) ?_
    rintro ⟨ck2, k⟩ ⟨hk, hj⟩
    simp only at hk hj
    repeat refine uA ?_
    refine uW ?_; refine condP _ rfl (fun h => ?_) (fun h => ?_)
    · have hlt : k < y.devs.length := by omega
      have hct := containsD_sat (y.devs.take k) (y.devs.getD k default) (by rw [List.length_take]; omega)
      have hbad : dupK y.devs k = false → (List.range y.devs.length).all (dupK y.devs) = false := range_all_false hlt
      have hgood : dupK y.devs k = true → ∀ j, j < k + 1 → dupK y.devs j = true := fun h j hj' => by
        by_cases hji : j = k
        · subst hji; exact h
        · exact hj j (by omega)
      unfold dupK at hbad hgood
      have htk : (y.devs.take k).length = k := by rw [List.length_take]; omega
      generalize ((y.devs.take k).any fun z => eqT (y.devs.getD k default) z) = v at *
      generalize e1 : y.devs.getD k default = d at *
      refine uA1 (And.intro (t3s_getD hlt) @e1) ?_
      refine uE1 (And.intro @t3s_take @htk) ?_; intro K hK
      refine ⟨by omega, ?_⟩
      refine callF uTS (hct) uTS uTS uTS ?_; refine uS ?_
      refine uH ?_
      refine hK _ ?_; clear hK K
      cases v with
      | true =>
        rw [if_neg (fun h => absurd (h.symm.trans (hbad rfl)) (by decide))]
        refine uT ?_
        repeat refine uA ?_
        (refine awp_ret (ret1 uRT ?_); try rfl)
      | false =>
        refine uF ?_
        repeat refine uA ?_
        refine ⟨(_, k + 1), ⟨by simp only; omega, hgood rfl⟩, by simp only; omega, uKF⟩
    · refine awp_exit ?_
      rw [if_pos (range_all_true fun j hj' => hj j (by omega))]
      repeat refine uA ?_
      (refine awp_ret (ret1 uRT ?_); try rfl)
end Go.Proofs.YtkhjenddapaejaaGreatDoor
namespace Go.Proofs.YtkhjenddapaejaaGreatDoor
open Go Go.Sym
theorem mfind_succ (n : Int) : ∀ (l : List (Int × Int)) (i : Nat), mfind n l (i + 1) = (mfind n l i).map fun q => (q.1 + 1, q.2)
  | [], _ => rfl
  | p :: l, i => by
    rw [mfind, mfind]
    split
    · rfl
    · exact mfind_succ n l (i + 1)
theorem mget_cons (p : Int × Int) (l : List (Int × Int)) (m : Int) : mget (p :: l) m = if m = p.1 then p.2 else mget l m := by
  unfold mget
  rw [mfind]
  by_cases h : m = p.1
  · rw [if_pos h, if_pos h]
  · rw [if_neg h, if_neg h, mfind_succ]
    cases mfind m l 0 <;> rfl
theorem mset_cons (p : Int × Int) (l : List (Int × Int)) (n v : Int) : mset (p :: l) n v = if n = p.1 then (n, v) :: l else p :: mset l n v := by
  unfold mset
  rw [mfind]
  by_cases h : n = p.1
  · rw [if_pos h, if_pos h]; rfl
  · rw [if_neg h, if_neg h, mfind_succ]
    cases mfind n l 0 with
    | none => rfl
    | some q => rfl
theorem mget_mset (n v m : Int) : ∀ l : List (Int × Int), mget (mset l n v) m = if m = n then v else mget l m
  | [] => by
    show mget [(n, v)] m = _
    rw [mget_cons]
  | p :: l => by
    rw [mset_cons]
    split
    · rename_i h
      rw [mget_cons, mget_cons]
      by_cases hm : m = n
      · simp [hm]
      · simp [hm, ← h]
    · rename_i h
      rw [mget_cons, mget_cons, mget_mset n v m l]
      by_cases hm : m = n
      · subst hm; simp [h]
      · simp [hm]
def own1 (ex : List Int) (k i : Int) : Int := (ex.countP fun e => decide (e = i) && !decide (e = k) : Nat)
theorem own1_snoc (ex : List Int) (e k i : Int) : own1 (ex ++ [e]) k i = own1 ex k i + if e = i ∧ ¬ e = k then 1 else 0 := by
  unfold own1
  rw [List.countP_append]
  by_cases h : e = i ∧ ¬ e = k
  · rw [if_pos h]; simp [h.1, h.2, List.countP_cons]
    rw [← h.1]; simp [h.2]
  · rw [if_neg h]
    have : (decide (e = i) && !decide (e = k)) = false := by
      by_cases h1 : e = i
      · have : e = k := Decidable.byContradiction fun h2 => h ⟨h1, h2⟩
        simp [this]
      · simp [h1]
    simp [List.countP_cons, this]
theorem own1_nonneg (ex : List Int) (k i : Int) : 0 ≤ own1 ex k i := by unfold own1; omega
theorem own1_le (ex : List Int) (k i : Int) : own1 ex k i ≤ ex.length := by
  unfold own1
  have := List.countP_le_length (l := ex) (p := fun e => decide (e = i) && !decide (e = k))
  omega
theorem own1_zero {ex : List Int} {k i : Int} : own1 ex k i = 0 ↔ ¬ (¬ k = i ∧ i ∈ ex) := by
  unfold own1
  rw [show ((ex.countP fun e => decide (e = i) && !decide (e = k) : Nat) : Int) = 0 ↔ (ex.countP fun e => decide (e = i) && !decide (e = k)) = 0 by omega, List.countP_eq_zero]
  constructor
  · rintro h ⟨h1, h2⟩
    have := h i h2
    simp at this
    exact h1 this.symm
  · intro h a ha h2
    simp only [Bool.and_eq_true, decide_eq_true_eq, Bool.not_eq_true', decide_eq_false_iff_not] at h2
    obtain ⟨rfl, h3⟩ := h2
    exact h ⟨fun h4 => h3 h4.symm, ha⟩
def wts (xs : List Nd) (out : List Int) (i : Int) : Nat → Int
  | 0 => 0
  | k + 1 => wts xs out i k + if (k : Int) ∈ out then 0 else own1 (xs.getD k default).ex k i
theorem wts_nonneg (xs : List Nd) (out : List Int) (i : Int) : ∀ k, 0 ≤ wts xs out i k
  | 0 => Int.le_refl _
  | k + 1 => by
    have := wts_nonneg xs out i k
    have := own1_nonneg (xs.getD k default).ex k i
    rw [wts]; split <;> omega
theorem wts_le {xs : List Nd} {out : List Int} {i : Int} (hx : ∀ k, k < xs.length → (xs.getD k default).ex.length ≤ 1000) : ∀ k, k ≤ xs.length → wts xs out i k ≤ 1000 * k
  | 0, _ => by simp [wts]
  | k + 1, h => by
    have := wts_le (out := out) (i := i) hx k (by omega)
    have := own1_le (xs.getD k default).ex k i
    have := hx k (by omega)
    rw [wts]; split <;> omega
theorem wts_zero {xs : List Nd} {out : List Int} {i : Int} : ∀ {n}, wts xs out i n = 0 ↔ ∀ k, k < n → ¬ (k : Int) ∈ out → own1 (xs.getD k default).ex k i = 0
  | 0 => by simp [wts]
  | n + 1 => by
    have ih := wts_zero (xs := xs) (out := out) (i := i) (n := n)
    have h1 := wts_nonneg xs out i n
    have h2 := own1_nonneg (xs.getD n default).ex n i
    rw [wts]
    constructor
    · intro h k hk hko
      have hw : wts xs out i n = 0 := by split at h <;> omega
      by_cases hkn : k = n
      · subst hkn; rw [if_neg hko] at h; omega
      · exact ih.1 hw k (by omega) hko
    · intro h
      have hw := ih.2 fun k hk => h k (by omega)
      rw [hw]
      split
      · rfl
      · rename_i ho
        rw [h n (by omega) ho]; rfl
theorem wts_out {xs : List Nd} {out : List Int} {i : Int} {m : Nat} (hm : ¬ (m : Int) ∈ out) : ∀ n, wts xs (out ++ [(m : Int)]) i n = wts xs out i n - if m < n then own1 (xs.getD m default).ex m i else 0
  | 0 => by simp [wts]
  | n + 1 => by
    have ih := wts_out (xs := xs) (i := i) hm n
    rw [wts, wts, ih]
    by_cases hmn : m = n
    · subst hmn
      simp [hm]
    · have e1 : ((n : Int) ∈ out ++ [(m : Int)]) ↔ (n : Int) ∈ out := by
        simp only [List.mem_append, List.mem_singleton]
        exact ⟨fun h => h.elim id fun h => by omega, .inl⟩
      simp only [e1]
      by_cases hlt : m < n
      · simp only [if_pos hlt, if_pos (show m < n + 1 by omega)]; split <;> omega
      · simp only [if_neg hlt, if_neg (show ¬ m < n + 1 by omega)]; split <;> omega
theorem rdyK_iff {xs : List Nd} {out : List Int} {i : Nat} : ∀ {n}, rdyK xs out i n = true ↔ ¬ (i : Int) ∈ out ∧ ∀ k, k < n → leadsB (xs.getD k default) k i = true → (k : Int) ∈ out
  | 0 => by simp [rdyK]
  | n + 1 => by
    rw [rdyK]
    constructor
    · intro h
      split at h
      · cases h
      · rename_i h2
        obtain ⟨h3, h4⟩ := rdyK_iff.1 h
        refine ⟨h3, fun k hk hl => ?_⟩
        by_cases hkn : k = n
        · subst hkn
          exact Decidable.byContradiction fun ho => h2 ⟨hl, ho⟩
        · exact h4 k (by omega) hl
    · rintro ⟨h1, h2⟩
      rw [if_neg (fun h => h.2 (h2 n (by omega) h.1))]
      exact rdyK_iff.2 ⟨h1, fun k hk => h2 k (by omega)⟩
theorem rdy_wts {xs : List Nd} {out : List Int} {i : Nat} : rdyK xs out i xs.length = (!decide ((i : Int) ∈ out) && decide (wts xs out i xs.length = 0)) := by
  rw [Bool.eq_iff_iff, rdyK_iff]
  simp only [Bool.and_eq_true, Bool.not_eq_true', decide_eq_false_iff_not, decide_eq_true_eq, wts_zero, own1_zero, leadsB]
  refine and_congr_right fun _ => ⟨fun h k hk ho h2 => ho (h k hk h2), fun h k hk h2 => Decidable.byContradiction fun ho => h k hk ho h2⟩
theorem nxF_first {xs : List Nd} {out : List Int} {i : Nat} (hi : i < xs.length) (h : rdyK xs out i xs.length = true) (hb : ∀ j, j < i → rdyK xs out j xs.length = false) : nxt xs out = i := by
  have : ∀ c, c ≤ xs.length → xs.length - c ≤ i → nxF xs out c = i := by
    intro c
    induction c with
    | zero => intro _ h2; omega
    | succ c ih =>
      intro h1 h2
      rw [nxF]
      by_cases he : xs.length - 1 - c = i
      · rw [he, if_pos h]
      · rw [hb _ (by omega), if_neg (by decide)]
        exact ih (by omega) (by omega)
  exact this xs.length (Nat.le_refl _) (by omega)
theorem nxF_none {xs : List Nd} {out : List Int} (hb : ∀ j, j < xs.length → rdyK xs out j xs.length = false) : nxt xs out = -1 := by
  have : ∀ c, c ≤ xs.length → nxF xs out c = -1 := by
    intro c
    induction c with
    | zero => intro _; rfl
    | succ c ih =>
      intro h1
      rw [nxF, hb _ (by omega), if_neg (by decide)]
      exact ih (by omega)
  exact this xs.length (Nat.le_refl _)
end Go.Proofs.YtkhjenddapaejaaGreatDoor
namespace Go.Proofs.YtkhjenddapaejaaGreatDoor
open Go Go.Sym
def dl (N : Nat) (o : List Int) : List Bool := (List.range N).map fun (i : Nat) => decide ((i : Int) ∈ o)
theorem dl_len (N : Nat) (o : List Int) : (dl N o).length = N := by simp [dl]
theorem dl_getD {N i : Nat} {o : List Int} (h : i < N) : (dl N o).getD i false = decide ((i : Int) ∈ o) := by simp [dl, h]
theorem dl_nil (N : Nat) : List.replicate N false = dl N [] := by
  apply List.ext_getElem
  · simp [dl]
  · intro i h1 h2; simp [dl]
theorem dl_snoc {N m : Nat} {o : List Int} : (dl N o).set m true = dl N (o ++ [(m : Int)]) := by
  apply List.ext_getElem
  · simp [dl]
  · intro i h1 h2
    rw [List.getElem_set]
    by_cases h : m = i
    · subst h; simp [dl]
    · have : ¬ (i : Int) = (m : Int) := by omega
      simp [dl, h, this]
theorem nxF_rdy {xs : List Nd} {out : List Int} : ∀ c, 0 ≤ nxF xs out c → rdyK xs out (nxF xs out c).toNat xs.length = true
  | 0, h => by rw [nxF] at h; omega
  | c + 1, h => by
    rw [nxF] at h ⊢
    by_cases h2 : rdyK xs out (xs.length - 1 - c) xs.length = true
    · rw [if_pos h2, Int.toNat_natCast]; exact h2
    · rw [if_neg h2] at h ⊢; exact nxF_rdy c h
theorem sorted_sat (y : Ly) (hy : y.nodes.length ≤ 1000) (hx : ∀ i, i < y.nodes.length → (y.nodes.getD i default).ex.length ≤ 1000) (hr : ∀ i, i < y.nodes.length → ∀ j, j < (y.nodes.getD i default).ex.length → 0 ≤ (y.nodes.getD i default).ex.getD j 0 ∧ (y.nodes.getD i default).ex.getD j 0 < y.nodes.length) :
    SatG Tryz.prog tab 105 [] [y.av] [] (IS (order y.nodes)) := by
  refine uFN Tryz.func105 Tryz.ntmps105 ?_; intro w e X hC
  repeat refine uA ?_
  refine uW ?_
  refine awp_loopW (fun q : Nat × Nat × List (Int × Int) => ⟨[(1, .ptO 101 1 0 0 0), (3, .mpO 114 3), (16, .sl (nds y.nodes) false), (17, I y.nodes.length), (18, I q.2.1)], (114, some (3, .mp q.2.2)) :: (101, some (1, .box [.sl (nds y.nodes) false, .sl (t3s y.devs) false])) :: [], q.1⟩) (fun q => q.2.1 ≤ y.nodes.length ∧ ∀ i, mget q.2.2 i = wts y.nodes [] i q.2.1) (fun q => y.nodes.length - q.2.1) (_, 0, []) ⟨Nat.zero_le _, fun _ => rfl⟩ (uKF) ?_
  rintro ⟨ck, a, es⟩ ⟨ha, hes⟩
  simp only at ha hes
  repeat refine uA ?_
  refine uW ?_; refine condP _ rfl (fun h => ?_) (fun h => ?_)
  · have hlt : a < y.nodes.length := by omega
    have hxa := hx a hlt
    have hW : ∀ i, wts y.nodes [] i (a + 1) = wts y.nodes [] i a + own1 (y.nodes.getD a default).ex a i := fun i => by rw [wts, if_neg (by simp)]
    have hWl : ∀ i, wts y.nodes [] i a ≤ 1000 * a := fun i => wts_le hx a ha
    have hWn : ∀ i, 0 ≤ wts y.nodes [] i a := fun i => wts_nonneg _ _ _ _
    generalize e1 : y.nodes.getD a default = x at *
    repeat refine uA1 (And.intro (nds_getD hlt) @e1) ?_
    refine uW ?_
    refine awp_loopW (fun q : Nat × Nat × List (Int × Int) => ⟨[(1, .ptO 101 1 0 0 0), (3, .mpO 114 3), (4, I a), (16, .sl (nds y.nodes) false), (17, I y.nodes.length), (18, I a), (24, IS x.ex), (25, I x.ex.length), (26, I q.2.1)], (114, some (3, .mp q.2.2)) :: (101, some (1, .box [.sl (nds y.nodes) false, .sl (t3s y.devs) false])) :: [], q.1⟩) (fun q => q.2.1 ≤ x.ex.length ∧ ∀ i, mget q.2.2 i = wts y.nodes [] i a + own1 (x.ex.take q.2.1) a i) (fun q => x.ex.length - q.2.1) (_, 0, es) ⟨Nat.zero_le _, fun i => by simp only [List.take_zero]; rw [hes i, own1]; simp⟩ (uKF) ?_
    rintro ⟨ck2, c, es2⟩ ⟨hc, hes2⟩
    simp only at hc hes2
    repeat refine uA ?_
    refine uW ?_; refine condP _ rfl (fun h2 => ?_) (fun h2 => ?_)
    · have hlt2 : c < x.ex.length := by omega
      have htk := take_getD (d := 0) hlt2
      have hO : ∀ i, own1 (x.ex.take (c + 1)) a i = own1 (x.ex.take c) a i + if x.ex.getD c 0 = i ∧ ¬ x.ex.getD c 0 = a then 1 else 0 := fun i => by rw [htk, own1_snoc]
      have hOl : ∀ i, own1 (x.ex.take c) a i ≤ c := fun i => by have := own1_le (x.ex.take c) a i; rw [List.length_take] at this; omega
      have hOn : ∀ i, 0 ≤ own1 (x.ex.take c) a i := fun i => own1_nonneg _ _ _
      generalize e2 : x.ex.getD c 0 = e at *
      have hge := hes2 e
      have := hWl e
      have := hWn e
      have := hOl e
      have := hOn e
      repeat refine uA1 (And.intro (ints_getD hlt2) @e2) ?_
      refine uW ?_; refine condP _ rfl (fun h3 => ?_) (fun h3 => ?_)
      · repeat refine uA ?_
        refine ⟨(_, c + 1, mset es2 e (mget es2 e + 1)), ⟨by simp only; omega, fun i => ?_⟩, by simp only; omega, uKF⟩
        simp only
        rw [mget_mset, hO i, hes2 e, hes2 i]
        by_cases hi : i = e
        · subst hi; rw [if_pos rfl, if_pos ⟨rfl, h3⟩]; omega
        · rw [if_neg hi, if_neg (fun h => hi h.1.symm)]; omega
      · repeat refine uA ?_
        refine ⟨(_, c + 1, es2), ⟨by simp only; omega, fun i => ?_⟩, by simp only; omega, uKF⟩
        simp only
        rw [hO i, hes2 i, if_neg (fun h => h3 h.2)]; omega
    · refine awp_exit ?_
      repeat refine uA ?_
      refine ⟨(_, a + 1, es2), ⟨by simp only; omega, fun i => ?_⟩, by simp only; omega, uKF⟩
      simp only
      rw [hW i, hes2 i, List.take_of_length_le (by omega)]
  · refine awp_exit ?_
    obtain rfl : a = y.nodes.length := by omega
    clear h ha
    repeat refine uA ?_
    refine uW ?_
    refine awp_loopW (fun q : Nat × Nat × List (Int × Int) × Nat × Nat => ⟨[(1, .ptO 101 1 0 0 0), (3, .mpO 114 3), (8, .slO 108 q.2.2.2.2 0 q.2.1), (9, .slO 142 q.2.2.2.1 0 y.nodes.length), (45, I y.nodes.length), (46, I q.2.1)],
      (142, some (q.2.2.2.1, .own 4 1 (bls (dl y.nodes.length (ordR y.nodes q.2.1))))) :: (108, some (q.2.2.2.2, .own 3 1 (ints (ordR y.nodes q.2.1)))) :: (114, some (3, .mp q.2.2.1)) :: (101, some (1, .box [.sl (nds y.nodes) false, .sl (t3s y.devs) false])) :: [], q.1⟩)
      (fun q => q.2.1 ≤ y.nodes.length ∧ (ordR y.nodes q.2.1).length = q.2.1 ∧ ∀ i, mget q.2.2.1 i = wts y.nodes (ordR y.nodes q.2.1) i y.nodes.length) (fun q => y.nodes.length - q.2.1) (_, 0, es, ck+5, ck+1) ⟨Nat.zero_le _, rfl, hes⟩ (.of (Nat.le_refl _) (by repeat (first | exact HOk.nil | refine HOk.cons rfl ?_ | refine HOk.gone ?_ | refine HOk.opt rfl ?_ | (refine HOk.cons ?_ ?_; (focus (simp only [go_sem, Nat.reduceAdd, Nat.reduceSub, Nat.reduceMul, Nat.reduceLT, Nat.reduceEqDiff, Nat.reduceBEq, Nat.reduceLeDiff, Int.reduceToNat, ↓reduceIte, Int.reduceEq, Int.reduceLT, Int.reduceLE, Int.reduceAdd, Int.reduceSub, Int.reduceNeg, reduceCtorEq, ordR, ← dl_nil]; done))) | (refine HOk.less rfl (ObW.ofBW ?_) ?_; (focus ((repeat (first | exact BW.nil | refine BW.same ?_ | (refine BW.frz ?_ ?_ ?_ ?_; (focus (first | exact trivial | (simp only [go_sem, Nat.reduceAdd, Nat.reduceSub, Nat.reduceMul, Nat.reduceLT, Nat.reduceEqDiff, Nat.reduceBEq, Nat.reduceLeDiff, Int.reduceToNat, ↓reduceIte, Int.reduceEq, Int.reduceLT, Int.reduceLE, Int.reduceAdd, Int.reduceSub, Int.reduceNeg, reduceCtorEq, ordR, ← dl_nil] <;> trivial))); (focus (first | rfl | ((simp only [go_sem, Nat.reduceAdd, Nat.reduceSub, Nat.reduceMul, Nat.reduceLT, Nat.reduceEqDiff, Nat.reduceBEq, Nat.reduceLeDiff, Int.reduceToNat, ↓reduceIte, Int.reduceEq, Int.reduceLT, Int.reduceLE, Int.reduceAdd, Int.reduceSub, Int.reduceNeg, reduceCtorEq, ordR, ← dl_nil] <;> rfl); done))); (focus (first | (simp only [go_sem, Nat.reduceAdd, Nat.reduceSub, Nat.reduceMul, Nat.reduceLT, Nat.reduceEqDiff, Nat.reduceBEq, Nat.reduceLeDiff, Int.reduceToNat, ↓reduceIte, Int.reduceEq, Int.reduceLT, Int.reduceLE, Int.reduceAdd, Int.reduceSub, Int.reduceNeg, reduceCtorEq, ordR, ← dl_nil]; done) | ((simp only [go_sem, Nat.reduceAdd, Nat.reduceSub, Nat.reduceMul, Nat.reduceLT, Nat.reduceEqDiff, Nat.reduceBEq, Nat.reduceLeDiff, Int.reduceToNat, ↓reduceIte, Int.reduceEq, Int.reduceLT, Int.reduceLE, Int.reduceAdd, Int.reduceSub, Int.reduceNeg, reduceCtorEq, ordR, ← dl_nil] <;> simp); done) | (simp; done))))))); done)))) uWF) ?_
    clear hes
    rintro ⟨ck, n, es, g1, g2⟩ ⟨hn, hol, hes⟩
    simp only at hn hol hes
    have e1 : ordR y.nodes (n + 1) = _ := ordR.eq_2 y.nodes n
    have hst : nxt y.nodes (ordR y.nodes n) < 0 → order y.nodes = ordR y.nodes n := fun h => by
      have := ordR_stop h (y.nodes.length - n)
      rw [show n + (y.nodes.length - n) = y.nodes.length by omega] at this
      exact this
    have hfin : n = y.nodes.length → order y.nodes = ordR y.nodes n := fun h => by rw [h]; rfl
    generalize ordR y.nodes n = o at *
    repeat refine uA ?_
    refine uW ?_; refine condP _ rfl (fun h => ?_) (fun h => ?_)
    · have hlt : n < y.nodes.length := by omega
      refine uA ?_
      refine awp_seq ?_
      refine awp_merge (fun q : Nat => ⟨[(1, .ptO 101 1 0 0 0), (3, .mpO 114 3), (8, .slO 108 g2 0 n), (9, .slO 142 g1 0 y.nodes.length), (10, I (nxt y.nodes o)), (45, I y.nodes.length), (46, I n)],
        (142, some (g1, .own 4 1 (bls (dl y.nodes.length o)))) :: (108, some (g2, .own 3 1 (ints o))) :: (114, some (3, .mp es)) :: (101, some (1, .box [.sl (nds y.nodes) false, .sl (t3s y.devs) false])) :: [], q⟩) (fun _ => True) ?_ ?_
      · repeat refine uA ?_
        refine uW ?_
        refine awp_loopW (fun q : Nat × Nat => ⟨[(1, .ptO 101 1 0 0 0), (3, .mpO 114 3), (8, .slO 108 g2 0 n), (9, .slO 142 g1 0 y.nodes.length), (10, I (-1)), (45, I y.nodes.length), (46, I n), (50, I y.nodes.length), (51, I q.2)],
          (142, some (g1, .own 4 1 (bls (dl y.nodes.length o)))) :: (108, some (g2, .own 3 1 (ints o))) :: (114, some (3, .mp es)) :: (101, some (1, .box [.sl (nds y.nodes) false, .sl (t3s y.devs) false])) :: [], q.1⟩) (fun q => q.2 ≤ y.nodes.length ∧ ∀ j, j < q.2 → rdyK y.nodes o j y.nodes.length = false) (fun q => y.nodes.length - q.2) (_, 0) ⟨Nat.zero_le _, fun j hj => absurd hj (Nat.not_lt_zero _)⟩ (uKF) ?_
        rintro ⟨ck2, i⟩ ⟨hi, hj⟩
        simp only at hi hj
        repeat refine uA ?_
        refine uW ?_; refine condP _ rfl (fun h2 => ?_) (fun h2 => ?_)
        · have hil : i < y.nodes.length := by omega
          have hrd := rdy_wts (xs := y.nodes) (out := o) (i := i)
          have hfirst : rdyK y.nodes o i y.nodes.length = true → nxt y.nodes o = i := fun h => nxF_first hil h hj
          have hgood : rdyK y.nodes o i y.nodes.length = false → ∀ j, j < i + 1 → rdyK y.nodes o j y.nodes.length = false := fun h j hj' => by
            by_cases hji : j = i
            · subst hji; exact h
            · exact hj j (by omega)
          generalize rdyK y.nodes o i y.nodes.length = r at *
          rw [← hes i] at hrd
          have hbl : i < (dl y.nodes.length o).length := by rw [dl_len]; exact hil
          have hdg := dl_getD (o := o) hil
          cases c1 : decide ((i : Int) ∈ o) with
          | true =>
            rw [c1] at hrd hdg
            simp only [Bool.not_true, Bool.false_and] at hrd
            refine uA ?_
            repeat first | refine uC ?_ | refine uA1 (And.intro (bls_getD hbl) (And.intro @hdg @dl_len)) ?_
            refine ⟨(_, i + 1), ⟨by simp only; omega, hgood hrd⟩, by simp only; omega, uKF⟩
          | false =>
            rw [c1] at hrd hdg
            simp only [Bool.not_false, Bool.true_and] at hrd
            cases c2 : decide (mget es i = 0) with
            | true =>
              rw [c2] at hrd
              refine uA ?_
              repeat first | refine uC ?_ | refine uA1 (And.intro (bls_getD hbl) (And.intro @hdg (And.intro @dl_len @c2))) ?_
              refine awp_exit ?_
              refine ⟨_, trivial, .of (Nat.le_refl _) uHF (uWF1 (hfirst hrd))⟩
            | false =>
              rw [c2] at hrd
              refine uA ?_
              repeat first | refine uC ?_ | refine uA1 (And.intro (bls_getD hbl) (And.intro @hdg (And.intro @dl_len @c2))) ?_
              refine ⟨(_, i + 1), ⟨by simp only; omega, hgood hrd⟩, by simp only; omega, uKF⟩
        · refine awp_exit ?_
          have hnone : nxt y.nodes o = -1 := nxF_none fun j hj' => hj j (by omega)
          refine ⟨_, trivial, .of (Nat.le_refl _) uHF (uWF1 @hnone)⟩
      rintro ck2 -
      repeat refine uA ?_
      refine uW ?_; refine condP _ rfl (fun h2 => ?_) (fun h2 => ?_)
      · have e5 := hst h2
        refine awp_exit ?_
        repeat refine uA ?_
        (refine awp_ret (ret1 (uRT1 @hol) ?_); try rfl)
        first | refine uS1 (And.intro @hol @e5) ?_ | exact uX1 (And.intro @hol @e5)
      · rw [if_neg h2] at e1
        have hrd : rdyK y.nodes o (nxt y.nodes o).toNat y.nodes.length = true := nxF_rdy _ (by show 0 ≤ nxt y.nodes o; omega)
        have hlt2 : nxt y.nodes o < max 1 (y.nodes.length : Int) := nxF_lt _
        obtain ⟨m, hm⟩ : ∃ m, m = (nxt y.nodes o).toNat := ⟨_, rfl⟩
        rw [← hm] at hrd
        have hmm : nxt y.nodes o = (m : Int) := by omega
        rw [hmm] at e1
        have hmn : m < y.nodes.length := by omega
        have hmo : ¬ (m : Int) ∈ o := (rdyK_iff.1 hrd).1
        have hW : ∀ i, wts y.nodes (o ++ [(m : Int)]) i y.nodes.length = wts y.nodes o i y.nodes.length - own1 (y.nodes.getD m default).ex m i := fun i => by rw [wts_out hmo, if_pos hmn]
        have hWl : ∀ i, wts y.nodes o i y.nodes.length ≤ 1000 * y.nodes.length := fun i => wts_le hx _ (Nat.le_refl _)
        have hWn : ∀ i, 0 ≤ wts y.nodes o i y.nodes.length := fun i => wts_nonneg _ _ _ _
        have hxa := hx m hmn
        have hdl := dl_len y.nodes.length o
        have hds := dl_snoc (N := y.nodes.length) (m := m) (o := o)
        have hol2 : (o ++ [(m : Int)]).length = n + 1 := by simp [hol]
        generalize e3 : y.nodes.getD m default = x at *
        repeat refine uA1 (And.intro @hmm (And.intro @hol (And.intro @dl_len (And.intro @hds (And.intro (nds_getD hmn) @e3))))) ?_
        refine uW ?_
        refine awp_loopW (fun q : Nat × Nat × List (Int × Int) × Nat => ⟨[(1, .ptO 101 1 0 0 0), (3, .mpO 114 3), (8, .slO 108 q.2.2.2 0 (n + 1)), (9, .slO 142 g1 0 y.nodes.length), (10, I m), (45, I y.nodes.length), (46, I n), (81, IS x.ex), (82, I x.ex.length), (83, I q.2.1)],
          (142, some (g1, .own 4 1 (bls (dl y.nodes.length (o ++ [(m : Int)]))))) :: (108, some (q.2.2.2, .own 3 1 (ints (o ++ [(m : Int)])))) :: (114, some (3, .mp q.2.2.1)) :: (101, some (1, .box [.sl (nds y.nodes) false, .sl (t3s y.devs) false])) :: [], q.1⟩)
          (fun q => q.2.1 ≤ x.ex.length ∧ ∀ i, mget q.2.2.1 i = wts y.nodes o i y.nodes.length - own1 (x.ex.take q.2.1) m i) (fun q => x.ex.length - q.2.1) (_, 0, es, _) ⟨Nat.zero_le _, fun i => by simp only [List.take_zero]; rw [hes i, own1]; simp⟩ (.of (Nat.le_refl _) (uHF1 @hol) (uWF1 @hol)) ?_
        rintro ⟨ck3, c, es2, g3⟩ ⟨hc, hes2⟩
        simp only at hc hes2
        repeat refine uA ?_
        refine uW ?_; refine condP _ rfl (fun h5 => ?_) (fun h5 => ?_)
        · have hlt3 : c < x.ex.length := by omega
          have htk := take_getD (d := 0) hlt3
          have hO : ∀ i, own1 (x.ex.take (c + 1)) m i = own1 (x.ex.take c) m i + if x.ex.getD c 0 = i ∧ ¬ x.ex.getD c 0 = m then 1 else 0 := fun i => by rw [htk, own1_snoc]
          have hOl : ∀ i, own1 (x.ex.take c) m i ≤ c := fun i => by have := own1_le (x.ex.take c) m i; rw [List.length_take] at this; omega
          have hOn : ∀ i, 0 ≤ own1 (x.ex.take c) m i := fun i => own1_nonneg _ _ _
          generalize e6 : x.ex.getD c 0 = e at *
          have hge := hes2 e
          have := hWl e
          have := hWn e
          have := hOl e
          have := hOn e
          repeat refine uA1 (And.intro (ints_getD hlt3) @e6) ?_
          refine uW ?_; refine condP _ rfl (fun h6 => ?_) (fun h6 => ?_)
          · repeat refine uA ?_
            refine ⟨(_, c + 1, mset es2 e (mget es2 e - 1), _), ⟨by simp only; omega, fun i => ?_⟩, by simp only; omega, uKF⟩
            simp only
            rw [mget_mset, hO i, hes2 e, hes2 i]
            by_cases hi : i = e
            · subst hi; rw [if_pos rfl, if_pos ⟨rfl, h6⟩]; omega
            · rw [if_neg hi, if_neg (fun h => hi h.1.symm)]; omega
          · repeat refine uA ?_
            refine ⟨(_, c + 1, es2, _), ⟨by simp only; omega, fun i => ?_⟩, by simp only; omega, uKF⟩
            simp only
            rw [hO i, hes2 i, if_neg (fun h => h6 h.2)]; omega
        · refine awp_exit ?_
          repeat refine uA ?_
          refine ⟨(_, n + 1, es2, g1, g3), ⟨by simp only; omega, by simp only; rw [e1]; exact hol2, fun i => ?_⟩, by simp only; omega, .of (Nat.le_refl _) (uHF1 @e1) uWF⟩
          simp only
          rw [e1, hW i, hes2 i, List.take_of_length_le (by omega)]
    · refine awp_exit ?_
      have e4 := hfin (by omega)
      repeat refine uA ?_
      (refine awp_ret (ret1 (uRT1 @hol) ?_); try rfl)
      first | refine uS1 (And.intro @hol @e4) ?_ | exact uX1 (And.intro @hol @e4)
end Go.Proofs.YtkhjenddapaejaaGreatDoor
namespace Go.Proofs.YtkhjenddapaejaaGreatDoor
open Go Go.Sym
def nodesE (xs : List Nd) : Int := match (List.range xs.length).find? (fun (i : Nat) => !decide (nodeE xs.length i (xs.getD i default) = 0)) with
  | some i => nodeE xs.length i (xs.getD i default)
  | none => 0
theorem nodesE_bad {xs : List Nd} {i : Nat} (hi : i < xs.length) (h : ∀ j, j < i → nodeE xs.length j (xs.getD j default) = 0) (hb : ¬ nodeE xs.length i (xs.getD i default) = 0) : nodesE xs = nodeE xs.length i (xs.getD i default) := by
  have : ((List.range xs.length).find? fun (i : Nat) => !decide (nodeE xs.length i (xs.getD i default) = 0)) = some i := by
    rw [List.find?_eq_some_iff_getElem]
    refine ⟨by simpa using hb, i, by simpa using hi, by simp, fun j hj => ?_⟩
    have := h j hj
    simp only [List.getElem_range]
    simpa using this
  rw [nodesE, this]
theorem nodesE_ok {xs : List Nd} (h : ∀ j, j < xs.length → nodeE xs.length j (xs.getD j default) = 0) : nodesE xs = 0 := by
  have : ((List.range xs.length).find? fun (i : Nat) => !decide (nodeE xs.length i (xs.getD i default) = 0)) = none := by
    rw [List.find?_eq_none]
    intro i hi
    have := h i (List.mem_range.1 hi)
    simpa using this
  rw [nodesE, this]
def entB (xs : List Nd) : Bool := xs.any fun x => decide (x.kd = 1)
def zonesB (xs : List Nd) : Bool := (List.range xs.length).all fun i => zoneB xs (xs.getD i default)
def validE (y : Ly) : Int :=
  if 24 < y.nodes.length ∨ 24 < y.devs.length then 2
  else if ¬ nodesE y.nodes = 0 then nodesE y.nodes
  else if 80 < total y.nodes then 2
  else if namedB y.nodes = false then 5
  else if zonesB y.nodes = false then 7
  else if (order y.nodes).length < y.nodes.length then 9
  else if ¬ devE y.nodes y.devs = 0 then devE y.nodes y.devs
  else if entB y.nodes = false then 6 else 0
theorem nodeE_len {N i : Int} {x : Nd} (h : nodeE N i x = 0) : 0 ≤ x.ln ∧ x.ln ≤ 8 ∧ leadP N i x = true := by
  rw [nodeE] at h
  split at h
  · cases h
  · split at h
    · cases h
    · split at h
      · rename_i h2
        obtain ⟨h3, _, h4⟩ := h2
        refine ⟨?_, ?_, h4⟩ <;> (unfold lenOk at h3; split at h3 <;> (try split at h3) <;> simp at h3 <;> omega)
      · cases h
theorem nodeE_ex {N i : Int} {x : Nd} (h : nodeE N i x = 0) : ∀ k, k < x.ex.length → 0 ≤ x.ex.getD k 0 ∧ x.ex.getD k 0 < N := by
  have := (leadP_true.1 (nodeE_len h).2.2).2
  intro k hk
  have := this k hk
  simp only [leadK, Bool.and_eq_true, decide_eq_true_eq] at this
  exact ⟨this.1, this.2.1⟩
theorem ent_sat (x : Nd) : SatG Tryz.prog tab 108 [] [x.av] [] (B (decide (x.kd = 1))) := by
  refine uFN Tryz.func108 Tryz.ntmps108 ?_; intro w e X hC
  repeat refine uA ?_
  (refine awp_ret (ret1 uRT ?_); try rfl)
structure Sml7 (y : Ly) : Prop where
  n : y.nodes.length ≤ 1000
  d : y.devs.length ≤ 1000
  x : ∀ i, i < y.nodes.length → (y.nodes.getD i default).ex.length ≤ 1000
  nm : ∀ i, i < y.nodes.length → (bs (y.nodes.getD i default).nm).length ≤ 1000
theorem validate_sat (y : Ly) (hs : Sml7 y) : SatG Tryz.prog tab 62 [] [y.av] [] (I (validE y)) := by
  obtain ⟨hN, hD, hx, hnm⟩ := hs
  have hnode := fun i hi => lnode_sat y i hi hN (hx i hi) (hnm i hi)
  have htot := ltotal_sat y hN
  have hnam := lnamed_sat y hN
  have hzon := fun i hi => lzoned_sat y i hi hN (hx i hi)
  have hsrt := sorted_sat y hN hx
  have hdev := ldevices_sat y hN hD
  have hcx := cxfM_sat y.nodes 108 (fun x => decide (x.kd = 1)) hN (fun x _ => ent_sat x)
  have hE : validE y = _ := validE.eq_1 y
  generalize validE y = r at *
  refine uFN Tryz.func62 Tryz.ntmps62 ?_; intro w e X hC
  repeat refine uA ?_
  cases d1 : decide (24 < (y.nodes.length : Int)) with
  | true =>
    have h1 := of_decide_eq_true d1
    rw [if_pos (.inl (by omega))] at hE
    subst hE
    repeat first | refine uC ?_ | refine uA1 @d1 ?_
    (refine awp_ret (ret1 uRT ?_); try rfl)
  | false =>
  have h1 := of_decide_eq_false d1
  cases d2 : decide (24 < (y.devs.length : Int)) with
  | true =>
    have h2 := of_decide_eq_true d2
    rw [if_pos (.inr (by omega))] at hE
    subst hE
    repeat first | refine uC ?_ | refine uA1 (And.intro @d1 @d2) ?_
    (refine awp_ret (ret1 uRT ?_); try rfl)
  | false =>
  have h2 := of_decide_eq_false d2
  rw [if_neg (by omega)] at hE
  refine uR1 (And.intro @d1 @d2) ?_; intro K hK
  refine hK _ ?_; clear hK K
  refine uF ?_
  repeat refine uA ?_
  refine uW ?_
  refine awp_loopW (fun q : Nat × Nat => ⟨[(1, .ptO 101 1 0 0 0), (19, I y.nodes.length), (20, I q.2)], (101, some (1, .box [.sl (nds y.nodes) false, .sl (t3s y.devs) false])) :: [], q.1⟩) (fun q => q.2 ≤ y.nodes.length ∧ ∀ j, j < q.2 → nodeE y.nodes.length j (y.nodes.getD j default) = 0) (fun q => y.nodes.length - q.2) (_, 0) ⟨Nat.zero_le _, fun j hj => absurd hj (Nat.not_lt_zero _)⟩ (uKF) ?_
  rintro ⟨ck, k⟩ ⟨hk, hj⟩
  simp only at hk hj
  repeat refine uA ?_
  refine uW ?_; refine condP _ rfl (fun h => ?_) (fun h => ?_)
  · have hlt : k < y.nodes.length := by omega
    have hbad := nodesE_bad hlt hj
    have hsat := hnode k hlt
    have hgood : nodeE y.nodes.length k (y.nodes.getD k default) = 0 → ∀ j, j < k + 1 → nodeE y.nodes.length j (y.nodes.getD j default) = 0 := fun h j hj' => by
      by_cases hji : j = k
      · subst hji; exact h
      · exact hj j (by omega)
    generalize nodeE y.nodes.length k (y.nodes.getD k default) = e at *
    refine uA ?_
    refine uR ?_; intro K hK
    refine callF uTS (hsat) uTS uTS uTS ?_; refine uS ?_
    refine hK _ ?_; clear hK K
    repeat refine uA ?_
    refine uW ?_; refine condP _ rfl (fun c1 => ?_) (fun c1 => ?_)
    · rw [if_pos (by rw [hbad c1]; exact c1), hbad c1] at hE
      subst hE
      repeat refine uA ?_
      (refine awp_ret (ret1 uRT ?_); try rfl)
    · repeat refine uA ?_
      refine ⟨(_, k + 1), ⟨by simp only; omega, hgood (Decidable.byContradiction c1)⟩, by simp only; omega, uKF⟩
  · refine awp_exit ?_
    obtain rfl : k = y.nodes.length := by omega
    rw [if_neg (by rw [nodesE_ok hj]; simp)] at hE
    replace htot := htot fun i hi => ⟨(nodeE_len (hj i hi)).1, by have := (nodeE_len (hj i hi)).2.1; omega⟩
    replace hzon := fun i hi => hzon i hi fun k hk => nodeE_ex (hj i hi) k hk
    replace hsrt := hsrt fun i hi k hk => nodeE_ex (hj i hi) k hk
    clear hj hnode
    have hzB : zonesB y.nodes = _ := zonesB.eq_1 y.nodes
    generalize total y.nodes = t at *
    generalize namedB y.nodes = nb at *
    generalize zonesB y.nodes = zb at *
    generalize order y.nodes = o at *
    generalize devE y.nodes y.devs = de at *
    have heB : entB y.nodes = _ := entB.eq_1 y.nodes
    rw [← heB] at hcx
    generalize entB y.nodes = eb at *
    refine uR ?_; intro K hK
    refine callF uTS (htot) uTS uTS uTS ?_; refine uS ?_
    refine hK _ ?_; clear hK K
    refine uW ?_; refine condP _ rfl (fun c1 => ?_) (fun c1 => ?_)
    · rw [if_pos c1] at hE
      subst hE
      repeat refine uA ?_
      (refine awp_ret (ret1 uRT ?_); try rfl)
    rw [if_neg c1] at hE
    refine uR ?_; intro K hK
    refine callF uTS (hnam) uTS uTS uTS ?_; refine uS ?_
    refine hK _ ?_; clear hK K
    cases nb with
    | false =>
      rw [if_pos rfl] at hE
      subst hE
      refine uT ?_
      repeat refine uA ?_
      (refine awp_ret (ret1 uRT ?_); try rfl)
    | true =>
    rw [if_neg (by decide)] at hE
    refine uF ?_
    repeat refine uA ?_
    refine uW ?_
    refine awp_loopW (fun q : Nat × Nat => ⟨[(1, .ptO 101 1 0 0 0), (40, I y.nodes.length), (41, I q.2)], (101, some (1, .box [.sl (nds y.nodes) false, .sl (t3s y.devs) false])) :: [], q.1⟩) (fun q => q.2 ≤ y.nodes.length ∧ ∀ j, j < q.2 → zoneB y.nodes (y.nodes.getD j default) = true) (fun q => y.nodes.length - q.2) (_, 0) ⟨Nat.zero_le _, fun j hj => absurd hj (Nat.not_lt_zero _)⟩ (uKF) ?_
    rintro ⟨ck2, k⟩ ⟨hk, hj⟩
    simp only at hk hj
    repeat refine uA ?_
    refine uW ?_; refine condP _ rfl (fun h2 => ?_) (fun h2 => ?_)
    · have hlt : k < y.nodes.length := by omega
      have hbad := range_all_false (p := fun i => zoneB y.nodes (y.nodes.getD i default)) hlt
      try simp only at hbad
      rw [← hzB] at hbad
      have hsat := hzon k hlt
      have hgood : zoneB y.nodes (y.nodes.getD k default) = true → ∀ j, j < k + 1 → zoneB y.nodes (y.nodes.getD j default) = true := fun h j hj' => by
        by_cases hji : j = k
        · subst hji; exact h
        · exact hj j (by omega)
      generalize zoneB y.nodes (y.nodes.getD k default) = e at *
      refine uA ?_
      refine uR ?_; intro K hK
      refine callF uTS (hsat) uTS uTS uTS ?_; refine uS ?_
      refine hK _ ?_; clear hK K
      cases e with
      | false =>
        rw [if_pos (hbad rfl)] at hE
        subst hE
        refine uT ?_
        repeat refine uA ?_
        (refine awp_ret (ret1 uRT ?_); try rfl)
      | true =>
        refine uF ?_
        repeat refine uA ?_
        refine ⟨(_, k + 1), ⟨by simp only; omega, hgood rfl⟩, by simp only; omega, uKF⟩
    · refine awp_exit ?_
      rw [if_neg (by rw [hzB, range_all_true fun j hj' => hj j (by omega)]; decide)] at hE
      clear hj
      refine uE ?_; intro K hK
      refine callP uTS (hsrt) uTS uTS uTS ?_; refine uS ?_
      refine uH ?_
      refine hK _ ?_; clear hK K
      refine uW ?_; refine condP _ rfl (fun c2 => ?_) (fun c2 => ?_)
      · rw [if_pos (by omega)] at hE
        subst hE
        repeat refine uA ?_
        (refine awp_ret (ret1 uRT ?_); try rfl)
      rw [if_neg (by omega)] at hE
      refine uR ?_; intro K hK
      refine callF uTS (hdev) uTS uTS uTS ?_; refine uS ?_
      refine hK _ ?_; clear hK K
      repeat refine uA ?_
      refine uW ?_; refine condP _ rfl (fun c3 => ?_) (fun c3 => ?_)
      · rw [if_pos c3] at hE
        subst hE
        repeat refine uA ?_
        (refine awp_ret (ret1 uRT ?_); try rfl)
      rw [if_neg c3] at hE
      refine uR ?_; intro K hK
      refine callP uTS (hcx) uTS uTS uTS ?_; refine uS ?_
      refine hK _ ?_; clear hK K
      cases eb with
      | false =>
        rw [if_pos rfl] at hE
        subst hE
        refine uT ?_
        repeat refine uA ?_
        (refine awp_ret (ret1 uRT ?_); try rfl)
      | true =>
        rw [if_neg (by decide)] at hE
        subst hE
        refine uF ?_
        repeat refine uA ?_
        (refine awp_ret (ret1 uRT ?_); try rfl)
end Go.Proofs.YtkhjenddapaejaaGreatDoor
namespace Go.Proofs.YtkhjenddapaejaaGreatDoor
open Go Go.Sym
open Go.Plant
theorem lorder_sat (y : Ly) (hs : Sml7 y) (hv : validE y = 0) (hr : ∀ i, i < y.nodes.length → ∀ j, j < (y.nodes.getD i default).ex.length → 0 ≤ (y.nodes.getD i default).ex.getD j 0 ∧ (y.nodes.getD i default).ex.getD j 0 < y.nodes.length) :
    SatG Tryz.prog tab 76 [] [y.av] [] (IS (order y.nodes)) := by
  have h1 := validate_sat y hs
  rw [hv] at h1
  have h2 := sorted_sat y hs.n hs.x hr
  refine uFN Tryz.func76 Tryz.ntmps76 ?_; intro w e X hC
  refine uA ?_
  refine uR ?_; intro K hK
  refine callF uTS (h1) uTS uTS uTS ?_; refine uS ?_
  refine hK _ ?_; clear hK K
  refine uF ?_
  refine uR ?_; intro K hK
  refine callP uTS (h2) uTS uTS uTS ?_; refine uS ?_
  refine hK _ ?_; clear hK K
  (refine awp_ret (ret1 uRT ?_); try rfl)
theorem enew_sat (y : Ly) (hs : Sml7 y) (hv : validE y = 0) (hr : ∀ i, i < y.nodes.length → ∀ j, j < (y.nodes.getD i default).ex.length → 0 ≤ (y.nodes.getD i default).ex.getD j 0 ∧ (y.nodes.getD i default).ex.getD j 0 < y.nodes.length) :
    SatG Tryz.prog tab 44 [] [y.av] [] (.tup [.ptI (plB y (order y.nodes)), B true]) := by
  have h1 := validate_sat y hs
  rw [hv] at h1
  have h2 := lorder_sat y hs hv hr
  refine uFN Tryz.func44 Tryz.ntmps44 ?_; intro w e X hC
  refine uA ?_
  refine uR ?_; intro K hK
  refine callF uTS (h1) uTS uTS uTS ?_; refine uS ?_
  refine hK _ ?_; clear hK K
  refine uF ?_
  refine uD ?_; intro K hK
  refine callP uTS (h2) uTS uTS uTS ?_; refine uS ?_
  refine uH ?_
  refine hK _ ?_; clear hK K
  refine awp_ret ?_; rw [show Tryz.f44.results.toList = [.tmp 2, .tmp 3] from rfl]; (refine (retN (by simp only [go_sem, Nat.reduceAdd, Nat.reduceSub, Nat.reduceMul, Nat.reduceLT, Nat.reduceEqDiff, Nat.reduceBEq, Nat.reduceLeDiff, Int.reduceToNat, ↓reduceIte, Int.reduceEq, Int.reduceLT, Int.reduceLE, Int.reduceAdd, Int.reduceSub, Int.reduceNeg, reduceCtorEq, retAV, resV] <;> simp) (by simp only [go_sem, Nat.reduceAdd, Nat.reduceSub, Nat.reduceMul, Nat.reduceLT, Nat.reduceEqDiff, Nat.reduceBEq, Nat.reduceLeDiff, Int.reduceToNat, ↓reduceIte, Int.reduceEq, Int.reduceLT, Int.reduceLE, Int.reduceAdd, Int.reduceSub, Int.reduceNeg, reduceCtorEq, retAV, resV] <;> trivial) ?_); simp only [go_sem, Nat.reduceAdd, Nat.reduceSub, Nat.reduceMul, Nat.reduceLT, Nat.reduceEqDiff, Nat.reduceBEq, Nat.reduceLeDiff, Int.reduceToNat, ↓reduceIte, Int.reduceEq, Int.reduceLT, Int.reduceLE, Int.reduceAdd, Int.reduceSub, Int.reduceNeg, reduceCtorEq, retAV, resV])
end Go.Proofs.YtkhjenddapaejaaGreatDoor
namespace Go.Proofs.YtkhjenddapaejaaGreatDoor
open Go Go.Sym
def zoneOf (A n : Nat) (e : Int) : Int := if e ≤ A ∨ e = (n : Int) - 2 then 0 else 1
def EX (A n i : Nat) (z : Int) (e : Int) : Prop := (i : Int) < e ∧ e < n ∧ zoneOf A n e = z
structure Shape (A n i : Nat) (x : Nd) : Prop where
  kd : 1 ≤ x.kd ∧ x.kd ≤ 9
  k1 : x.kd = 1 ↔ i = 0
  k6 : x.kd = 6 → i = A
  k8 : 8 ≤ x.kd → A < i
  zn : x.zn = zoneOf A n i
  z0 : x.kd = 1 ∨ x.kd = 3 ∨ x.kd = 6 → x.zn = 0
  z1 : x.kd = 7 ∨ x.kd = 8 → x.zn = 1
  ln : x.kd ≤ 6 → 1 ≤ x.ln ∧ x.ln ≤ 4
  l5 : x.kd = 5 → 2 ≤ x.ln
  l0 : 7 ≤ x.kd → x.ln = 0
  ex : (8 ≤ x.kd ∧ x.ex = []) ∨ ((x.kd = 1 ∨ x.kd = 2 ∨ x.kd = 3 ∨ x.kd = 7) ∧ ∃ e, x.ex = [e] ∧ EX A n i x.zn e) ∨
    (x.kd = 4 ∧ ∃ e f, x.ex = [e, f] ∧ e ≠ f ∧ EX A n i x.zn e ∧ EX A n i x.zn f) ∨
    (x.kd = 5 ∧ ∃ f, x.ex = [(i : Int), f] ∧ EX A n i x.zn f) ∨
    (x.kd = 6 ∧ ∃ e f, x.ex = [e, f] ∧ e ≠ f ∧ EX A n i 0 e ∧ EX A n i 1 f)
theorem gO_cases {l : List Int} {a : Nat} {es : List Int} {x : Int} : ((gO l a es x).1 = -1 ∧ rest es x = []) ∨ ((gO l a es x).1 ∈ es ∧ (gO l a es x).1 ≠ x) := by
  unfold gO
  split
  · next h => exact .inl ⟨rfl, h⟩
  · next h =>
    refine .inr ?_
    have hl : 0 < (rest es x).length := List.length_pos_iff.mpr h
    have hb := gN_lt (l := l) (a := a) (n := ((rest es x).length : Int)) (by omega)
    have hm := getD_memI (l := rest es x) (n := (gN l a (rest es x).length).toNat) (by omega)
    simp only
    rw [rest, List.mem_filter] at hm
    exact ⟨hm.1, of_decide_eq_true hm.2⟩
theorem gP_mem {l : List Int} {a : Nat} {es : List Int} (h : es ≠ []) : gP l a es ∈ es := by
  have hl : 0 < es.length := List.length_pos_iff.mpr h
  have hb := gN_lt (l := l) (a := a) (n := (es.length : Int)) (by omega)
  exact getD_memI (by omega)
theorem rest_ne {es : List Int} {x : Int} (h : es ≠ []) (hx : x ∉ es) : rest es x ≠ [] := by
  obtain ⟨y, hy⟩ := List.exists_mem_of_ne_nil es h
  intro h0
  have : y ∈ rest es x := by rw [rest, List.mem_filter]; exact ⟨hy, by simp; intro h; exact hx (h ▸ hy)⟩
  rw [h0] at this
  cases this
theorem gS_shape {l : List Int} {a : Nat} {i z : Int} {kinds to : List Int} (hk : kinds ≠ []) (ht : to ≠ []) (P : Int → Prop) (hP : ∀ e ∈ to, P e ∧ 0 ≤ e) :
    ((gS l a i z kinds to).1.kd ∈ kinds ∨ ((gS l a i z kinds to).1.kd = 2 ∧ 4 ∈ kinds)) ∧ (gS l a i z kinds to).1.zn = z ∧ (1 ≤ (gS l a i z kinds to).1.ln ∧ (gS l a i z kinds to).1.ln ≤ 4) ∧ ((gS l a i z kinds to).1.kd = 5 → 2 ≤ (gS l a i z kinds to).1.ln) ∧
    (((gS l a i z kinds to).1.kd = 5 ∧ ∃ f, (gS l a i z kinds to).1.ex = [i, f] ∧ P f) ∨ ((gS l a i z kinds to).1.kd = 4 ∧ ∃ e f, (gS l a i z kinds to).1.ex = [e, f] ∧ e ≠ f ∧ P e ∧ P f) ∨
      ((gS l a i z kinds to).1.kd ≠ 4 ∧ (gS l a i z kinds to).1.kd ≠ 5 ∧ ∃ e, (gS l a i z kinds to).1.ex = [e] ∧ P e)) := by
  have hm1 : (-1 : Int) ∉ to := fun h => by have := (hP _ h).2; omega
  have hkm := gP_mem (l := l) (a := a) hk
  have hln := gR_lt (l := l) (a := a + 1) (lo := 1) (hi := 3) (by omega)
  have hf : P (gO l (a + 2) to (-1)).1 := by
    rcases gO_cases (l := l) (a := a + 2) (es := to) (x := -1) with ⟨_, h⟩ | ⟨h, _⟩
    · exact absurd h (rest_ne ht hm1)
    · exact (hP _ h).1
  unfold gS
  simp only
  split
  · next h5 =>
    refine ⟨.inl hkm, rfl, ?_, ?_, .inl ⟨h5, _, rfl, hf⟩⟩
    · simp only; omega
    · simp only; omega
  · next h5 =>
    split
    · next h4 =>
      rcases gO_cases (l := l) (a := (gO l (a + 2) to (-1)).2) (es := to) (x := (gO l (a + 2) to (-1)).1) with ⟨h, _⟩ | ⟨h, hne⟩
      · rw [if_pos (by omega)]
        exact ⟨.inr ⟨rfl, h4 ▸ hkm⟩, rfl, by simp only; omega, fun h => by simp at h, .inr (.inr ⟨show (2 : Int) ≠ 4 by decide, show (2 : Int) ≠ 5 by decide, _, rfl, hf⟩)⟩
      · have := (hP _ h)
        rw [if_neg (by omega)]
        exact ⟨.inl hkm, rfl, by simp only; omega, fun h => absurd h h5, .inr (.inl ⟨h4, _, _, rfl, fun h => hne h.symm, hf, this.1⟩)⟩
    · next h4 => exact ⟨.inl hkm, rfl, by simp only; omega, fun h => absurd h h5, .inr (.inr ⟨h4, h5, _, rfl, hf⟩)⟩
theorem upI_mem {lo : Nat} {e : Int} : ∀ {k : Nat}, e ∈ upI lo k → (lo : Int) ≤ e ∧ e < lo + k
  | 0, h => by simp [upI] at h
  | k + 1, h => by
    rw [upI, List.mem_append, List.mem_singleton] at h
    rcases h with h | h
    · have := upI_mem h; omega
    · omega
structure Sz (A B n : Nat) : Prop where
  a : 1 ≤ A ∧ A ≤ 3
  b : B ≤ 3
  n : A + 1 + B + 1 + 2 ≤ n ∧ n ≤ A + 1 + B + 2 + 2
theorem zeroI_ex {A B n i : Nat} (h : Sz A B n) (hi : i ≤ A) : ∀ e ∈ zeroI A n i, EX A n i 0 e ∧ 0 ≤ e := by
  obtain ⟨h1, h2, h3⟩ := h
  intro e he
  rw [zeroI, List.mem_append, List.mem_singleton] at he
  unfold EX zoneOf
  rcases he with he | he
  · have := upI_mem he
    rw [if_pos (by omega)]
    omega
  · rw [if_pos (by omega)]
    omega
theorem oneI_ex {A B n i : Nat} (h : Sz A B n) (hi : i < A + 1 + B) : ∀ e ∈ oneI A n i, EX A n i 1 e ∧ 0 ≤ e := by
  obtain ⟨h1, h2, h3⟩ := h
  intro e he
  rw [oneI, List.mem_append, List.mem_singleton] at he
  unfold EX zoneOf
  rcases he with he | he
  · have := upI_mem he
    rw [if_neg (by omega)]
    omega
  · rw [if_neg (by omega)]
    omega
theorem oneI_ne {A n i : Nat} : oneI A n i ≠ [] := by simp [oneI]
theorem zeroI_ne {A n i : Nat} : zeroI A n i ≠ [] := by simp [zeroI]
theorem lyX_shape {l : List Int} {A B n i a : Nat} (h : Sz A B n) (hi : i < n) (nm : ByteArray) : Shape A n i { (lyX l A B n i a).1 with nm := nm } := by
  obtain ⟨h1, h2, h3⟩ := h
  have hz := zeroI_ex (i := i) ⟨h1, h2, h3⟩
  have ho := oneI_ex (i := i) ⟨h1, h2, h3⟩
  unfold lyX
  by_cases c0 : i = 0
  · rw [if_pos c0]
    obtain ⟨g1, g2, g3, g4, g5⟩ := gS_shape (l := l) (a := a) (i := (i : Int)) (z := 0) (kinds := [1]) (by simp) zeroI_ne (EX A n i 0) (hz (by omega))
    generalize (gS l a i 0 [1] (zeroI A n i)).1 = x at *
    have hkd : x.kd = 1 := by
      rcases g1 with g1 | ⟨_, g1⟩
      · simpa using g1
      · simp at g1
    refine ⟨by simp only; omega, by simp only; omega, by simp only; omega, by simp only; omega, ?_, fun _ => g2, by simp only; omega, fun _ => g3, by simp only; omega, by simp only; omega, .inr (.inl ⟨.inl hkd, ?_⟩)⟩
    · simp only; rw [g2, zoneOf, if_pos (by omega)]
    · simp only
      rw [g2]
      rcases g5 with ⟨g, _⟩ | ⟨g, _⟩ | ⟨_, _, g⟩
      · omega
      · omega
      · exact g
  rw [if_neg c0]
  by_cases c1 : i < A
  · rw [if_pos c1]
    obtain ⟨g1, g2, g3, g4, g5⟩ := gS_shape (l := l) (a := a) (i := (i : Int)) (z := 0) (kinds := [2, 3, 4, 5, 3]) (by simp) zeroI_ne (EX A n i 0) (hz (by omega))
    generalize (gS l a i 0 [2, 3, 4, 5, 3] (zeroI A n i)).1 = x at *
    have hkd : x.kd = 2 ∨ x.kd = 3 ∨ x.kd = 4 ∨ x.kd = 5 := by
      rcases g1 with g1 | ⟨g1, _⟩
      · simp at g1; omega
      · exact .inl g1
    refine ⟨by simp only; omega, by simp only; omega, by simp only; omega, by simp only; omega, ?_, fun _ => g2, by simp only; omega, fun _ => g3, g4, by simp only; omega, ?_⟩
    · simp only; rw [g2, zoneOf, if_pos (by omega)]
    · simp only
      rw [g2]
      rcases g5 with ⟨g, g'⟩ | ⟨g, g'⟩ | ⟨g, g'', g'⟩
      · exact .inr (.inr (.inr (.inl ⟨g, g'⟩)))
      · exact .inr (.inr (.inl ⟨g, g'⟩))
      · exact .inr (.inl ⟨by omega, g'⟩)
  rw [if_neg c1]
  by_cases c2 : i = A
  · rw [if_pos c2]
    have hg := gP_mem (l := l) (a := a + 1) (oneI_ne (A := A) (n := n) (i := i))
    have he := (ho (by omega) _ hg).1
    have hr := gR_lt (l := l) (a := a) (lo := 1) (hi := 3) (by omega)
    refine ⟨by simp only; omega, by simp only; omega, fun _ => c2, by simp only; omega, ?_, fun _ => rfl, by simp only; omega, fun _ => by simp only; omega, by simp only; omega, by simp only; omega, .inr (.inr (.inr (.inr ⟨rfl, _, _, rfl, ?_, ?_, he⟩)))⟩
    · simp only; rw [zoneOf, if_pos (by omega)]
    · intro h
      rw [← h] at he
      have := he.2.2
      rw [zoneOf, if_pos (by omega)] at this
      omega
    · unfold EX zoneOf
      rw [if_pos (by omega)]
      omega
  rw [if_neg c2]
  by_cases c3 : i < A + 1 + B
  · rw [if_pos c3]
    obtain ⟨g1, g2, g3, g4, g5⟩ := gS_shape (l := l) (a := a) (i := (i : Int)) (z := 1) (kinds := [2, 4, 5, 7]) (by simp) oneI_ne (EX A n i 1) (ho c3)
    simp only
    generalize (gS l a i 1 [2, 4, 5, 7] (oneI A n i)) = x at *
    have hkd : x.1.kd = 2 ∨ x.1.kd = 4 ∨ x.1.kd = 5 ∨ x.1.kd = 7 := by
      rcases g1 with g1 | ⟨g1, _⟩
      · simp at g1; omega
      · exact .inl g1
    have hzn : x.1.zn = zoneOf A n i := by rw [g2, zoneOf, if_neg (by omega)]
    split
    · next h7 =>
      refine ⟨by simp only; omega, by simp only; omega, by simp only; omega, by simp only; omega, hzn, by simp only; omega, fun _ => g2, by simp only; omega, by simp only; omega, fun _ => rfl, ?_⟩
      simp only
      rw [g2]
      rcases g5 with ⟨g, g'⟩ | ⟨g, g'⟩ | ⟨g, g'', g'⟩
      · omega
      · omega
      · exact .inr (.inl ⟨by omega, g'⟩)
    · next h7 =>
      refine ⟨by simp only; omega, by simp only; omega, by simp only; omega, by simp only; omega, hzn, by simp only; omega, fun _ => g2, fun _ => g3, g4, by simp only; omega, ?_⟩
      simp only
      rw [g2]
      rcases g5 with ⟨g, g'⟩ | ⟨g, g'⟩ | ⟨g, g'', g'⟩
      · exact .inr (.inr (.inr (.inl ⟨g, g'⟩)))
      · exact .inr (.inr (.inl ⟨g, g'⟩))
      · exact .inr (.inl ⟨by omega, g'⟩)
  rw [if_neg c3]
  by_cases c4 : i < n - 2
  · rw [if_pos c4]
    refine ⟨by simp only; omega, by simp only; omega, by simp only; omega, by simp only; omega, ?_, by simp only; omega, fun _ => rfl, by simp only; omega, by simp only; omega, fun _ => rfl, .inl ⟨by simp only; omega, rfl⟩⟩
    simp only; rw [zoneOf, if_neg (by omega)]
  · rw [if_neg c4]
    refine ⟨by simp only; omega, by simp only; omega, by simp only; omega, by simp only; omega, ?_, by simp only; omega, by simp only; omega, by simp only; omega, by simp only; omega, fun _ => rfl, .inl ⟨by simp only; omega, rfl⟩⟩
    simp only
    unfold zoneOf
    split <;> omega
theorem fixN_shape {A B n k : Nat} {x : Nd} (h : Sz A B n) (hk : k < A) (hs : Shape A n k x) : Shape A n k (fixN k x) := by
  obtain ⟨h1, h2, h3⟩ := h
  unfold fixN
  split
  · next hc =>
    obtain ⟨hc, hm⟩ := hc
    have hz : x.zn = 0 := by rw [hs.zn, zoneOf, if_pos (by omega)]
    have hx : EX A n k x.zn ((k + 1 : Nat) : Int) := by
      unfold EX
      rw [hz, zoneOf, if_pos (by omega)]
      omega
    refine ⟨hs.kd, hs.k1, hs.k6, hs.k8, hs.zn, hs.z0, hs.z1, hs.ln, hs.l5, hs.l0, ?_⟩
    rcases hs.ex with ⟨g, g'⟩ | ⟨g, e, g', _⟩ | ⟨g, e, f, g', hne, he, hf⟩ | ⟨g, _⟩ | ⟨g, _⟩
    · have := hs.k8 g
      omega
    · refine .inr (.inl ⟨g, _, ?_, hx⟩)
      simp only [fixX, g']
      rfl
    · refine .inr (.inr (.inl ⟨g, _, f, ?_, ?_, hx, hf⟩))
      · simp only [fixX, g']
        rfl
      · intro h
        rw [g'] at hm
        exact hm (by rw [h]; simp)
    · exact absurd g hc
    · have := hs.k6 g
      omega
  · exact hs
end Go.Proofs.YtkhjenddapaejaaGreatDoor
