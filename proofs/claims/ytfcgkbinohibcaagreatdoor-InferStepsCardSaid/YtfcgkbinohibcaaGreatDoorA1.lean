/- Lemmas towards inferSteps_card: no conditions of their own. -/
import Derived.WalkKit
import Derived.Laws.StructEq
import Derived.WalkSpells
import Derived.WalkLawsBesides
import Derived.Lib.Strings
import Derived.Great.BuildSlice
import Derived.Laws.IdiomCopy
import Derived.Laws.BytesString
set_option linter.all false
abbrev Go.Az:=Nat×Nat
def Go.GQ:=@Go.Result.andThen_ok
def Go.rX:=@List.mem_cons
def Go.iT:=@List.mem_singleton
def Go.Vd:=@decide_eq_true_eq
def Go.TF:=@Bool.and_eq_true
def Go.CJ:=@List.mem_flatMap
def Go.nw:=@List.getElem_map
def Go.pP:=@Go.run_underlying
def Go.Z5:=@List.append_assoc
def Go.ym:=@List.mem_append
def Go.Mb:=@List.cons_append
def Go.MP:=@List.append_nil
def Go.rD:=@congrArg
def Go.A2:=@List.mem_map
def Go.fj:=@List.nil_append
def Go.AY:=@List.not_mem_nil
def Go.zT:=@List.map_congr_left
def Go.ig:=@Go.Sem.run_bind
def Go.b_:=@List.map_cons
def Go.Mv:=@Int.toNat_natCast
def Go.BX:=@Decidable.byContradiction
def Go.aS:=@Bool.false_and
def Go.G_:=@List.getElem_of_mem
def Go.Hh:=@List.length_take
def Go.Q2:=@Bool.true_and
def Go.LS:=@Array.getElem?_eq_getElem
def Go.dO:=@List.length_cons
def Go.XI:=@List.mem_append_left
def Go.Sy:=@List.take_length
def Go.C9:=@Bool.false_eq_true
def Go.Pv:=@List.drop_eq_getElem_cons
def Go.FR:=@List.all_eq_true
def Go.cy:=@Nat.zero_add
def Go.E3:=@List.length_map
def Go.FV:=@List.map_nil
def Go.Jz:=@Nat.le_trans
def Go.Ha:=@List.eq_nil_of_length_eq_zero
def Go.rq:=@forall_eq_or_imp
def Go.BD:=@List.mem_range
def Go.xL:=@List.pairwise_cons
def Go.X4:=@List.any_eq_true
def Go.Zo:=@List.getElem?_eq_none
def Go.j4:=@if_false
def Go.RW:=@Nat.mul_le_mul_right
def Go.DH:=@Array.getElem?_eq_some_iff
def Go.MB:=@Int.le_refl
def Go.WC:=@List.length_singleton
def Go.rL:=@Option.map_some
def Go.Ga:=@List.getElem?_append_right
def Go.Kh:=@Option.some.injEq
def Go.Tx:=@List.getElem_append_left
def Go.mO:=@List.mem_append_right
def Go.fd:=@List.getElem?_append_left
def Go.Mg:=@List.getElem_append_right
def Go.Jl:=@Array.getElem?_append_left
def Go.E6:=@List.getElem_cons_zero
def Go.su:=@List.length_set
def Go.Xi:=@List.foldl_cons
def Go.z_:=@Array.getElem?_setIfInBounds_self_of_lt
def Go.mV:=@decide_eq_false_iff_not
def Go.Cz:=@List.mem_of_mem_take
def Go.P5:=@Decidable.not_not
def Go.dR:=@List.drop_succ_cons
def Go.dq:=@Nat.add_zero
def Go.DT:=@List.length_drop
def Go.ic:=@Int.toNat_zero
def Go.dS:=@List.take_succ_cons
def Go.tV:=@List.findIdx?_eq_some_iff_getElem
def Go.yY:=@Array.size_setIfInBounds
def Go.DA:=@List.getElem_take
def Go.qY:=@List.getElem_drop
def Go.ql:=@if_true
def Go.N9:=@List.length_nil
def Go.kA:=@List.flatMap_cons
def Go.Oc:=@Bool.not_eq_true'
def Go.i7:=@List.ext_getElem
def Go.Dr:=@Array.length_toList
def Go.PU:=@List.getElem_set
def Go.YO:=@List.getElem?_map
def Go.EH:=@List.length_eq_zero_iff
def Go.RH:=@List.drop_zero
def Go.Td:=@List.take_zero
def Go.sK:=@Go.ByteArray.toList_eq
def Go.CX:=@Array.getElem?_setIfInBounds_ne
def Go.Qe:=@List.getElem_cons_succ
def Go.Dl:=@Nat.add_mul
def Go.iG:=@and_true
def Go.fX:=@Go.Sem.run_pure
def Go.YX:=@Array.getElem?_modify
def Go.dN:=@List.set_set
def Go.pF:=@forall_eq
def Go.ua:=@Int.toNat_of_nonneg
def Go.n4:=@List.findIdx?_eq_none_iff
def Go.Ie:=@eq_true
def Go.WS:=@List.foldl_append
def Go.aU:=@List.length_filter_le
def Go.Mx:=@List.map_append
def Go.eo:=@Bool.or_eq_true
def Go.Qz:=@Option.some.inj
def Go.be:=@and_self
def Go.jw:=@Option.getD_some
def Go.XL:=@List.filter_cons
def Go.zx:=@List.pairwise_singleton
def Go.Nn:=@List.size_toArray
def Go.JQ:=@List.pairwise_iff_getElem
def Go.DZ:=@List.take_of_length_le
def Go.To:=@List.drop_of_length_le
def Go.jH:=@Prod.mk.injEq
def Go.wz:=@List.drop_length
def Go.B3:=@Nat.mul_one
def Go.gw:=@Nat.zero_mul
def Go.wr:=@List.take_add_one
def Go.Ya:=@List.count_append
def Go.lA:=@List.any_eq_false
def Go.I8:=@List.takeWhile_append_dropWhile
def Go.aT:=@List.filter_append
def Go.iL:=@List.pairwise_append
def Go.Sp:=@Nat.zero_lt_one
def Go.VY:=@Bool.eq_iff_iff
def Go.RM:=@List.range_succ
def Go.JU:=@Go.MapKept.run_getObj_map
def Go.bt:=@List.length_pos_iff
def Go.kB:=@Nat.sub_lt_sub_left
def Go.ug:=@Nat.le_succ
def Go.n_:=@List.getElem?_toArray
def Go.lX:=@Nat.add_assoc
def Go.oQ:=@List.nodup_nil
def Go.HO:=@Iff.rfl
def Go.bD:=@List.cons.injEq
def Go.R8:=@List.map_map
def Go.zV:=@List.filter_nil
def Go.We:=@Array.toList_inj
def Go.K_:=@Go.wpIn_mono
def Go.fQ:=@Nat.lt_succ_self
def Go.Il:=@Nat.pow_le_pow_right
def Go.yp:=@List.pairwise_map
def Go.Db:=@List.drop_eq_nil_of_le
def Go.Yu:=@List.mem_filter
def Go.Q5:=@Nat.min_eq_left
def Go.CO:=@Array.getElem?_toList
def Go.xN:=@or_false
def Go.Zz:=@List.mem_filterMap
def Go.FA:=@List.set_cons_zero
def Go.lQ:=@Go.setRow_other
def Go.E1:=@Go.Oper.semAt_eq
def Go.Hv:=@List.map_set
def Go.LJ:=@List.foldl_nil
def Go.UX:=@List.getElem?_set_ne
def Go.kI:=@Go.wpIn_region_lit
def Go.Ek:=@List.getD_cons_zero
def Go.VG:=@List.getD_cons_succ
def Go.Oj:=@Array.getElem?_extract
def Go.Z2:=@List.getElem?_set_self
def Go.sV:=@Bool.or_false
def Go.OX:=@Bool.not_eq_true
def Go.ul:=@true_and
def Go.qL:=@List.getElem?_take
def Go.gt:=@List.contains_cons
def Go.DQ:=@Int.tmod_eq_emod_of_nonneg
def Go.t7:=@decide_eq_true_iff
def Go.FX:=@Ne.symm
def Go.vB:=@Classical.choose_spec
def Go.pH:=@List.take_append_drop
def Go.tc:=@List.singleton_append
def Go.VL:=@List.getElem?_eq_some_iff
def Go.TV:=@List.nodup_cons
def Go.vI:=@List.nodup_append
def Go.DS:=@List.mem_of_mem_drop
def Go.Aa:=@Bool.true_or
def Go.OH:=@List.contains_nil
def Go.HB:=@List.all_eq_false
def Go.Y5:=@Bool.not_true
def Go.mo:=@List.length_filterMap_le
def Go.JH:=@Go.size_zeroCells
def Go.Dh:=@List.getElem?_cons_succ
def Go.N6:=@beq_self_eq_true
def Go.HG:=@List.getElem?_replicate
def Go.lh:=@List.take_append_of_le_length
def Go.BY:=@List.getElem?_drop
def Go.vW:=@Nat.sub_self
def Go.z8:=@Bool.or_true
def Go.ID:=@List.set_cons_succ
def Go.kM:=@false_and
def Go.Ta:=@Go.Oper.uponIn_value
def Go.K5:=@Array.mem_toList_iff
def Go.Jf:=@Array.getElem_toList
def Go.yP:=@Go.MapKept.run_checkKey
def Go.RB:=@Bool.not_false
def Go.pr:=@List.count_le_length
def Go.Be:=@List.replicate_succ'
def Go.cY:=@BitVec.ofInt_natCast
def Go.BV:=@Nat.succ_mul
def Go.XZ:=@Nat.mul_comm
def Go.Xx:=@Nat.mod_eq_of_lt
def Go.iD:=@Option.bind_some
def Go.VX:=@List.nil_sublist
def Go.oy:=@getElem!_pos
def Go.QI:=@Go.MapKept.run_findKey
def Go.Bf:=@List.filterMap_cons
def Go.fY:=@Option.map_none
def Go.mG:=@List.countP_append
def Go.uc:=@Int.natCast_nonneg
def Go.RJ:=@BitVec.toNat_ofNat
def Go.iq:=@List.find?_eq_none
def Go.bW:=@Go.Lib.frozen_of_heap
def Go.go:=@List.flatMap_eq_nil_iff
def Go.IJ:=@List.filter_cons_of_pos
def Go.Mi:=@List.filter_cons_of_neg
def Go.Jr:=@List.getElem_replicate
def Go.Ji:=@Bool.and_assoc
def Go.oZ:=@List.range_succ_eq_map
def Go.nk:=@Nat.div_div_eq_div_mul
def Go.Yx:=@Bool.and_false
def Go.dG:=@List.countP_le_length
def Go.KW:=@Bool.and_eq_false_iff
def Go.xj:=@List.filterMap_append
def Go.TJ:=@Int.min_le_right
def Go.aah:=@List.find?_eq_some_iff_getElem
def Go.iQ:=@Go.wpIn_seq
def Go.aA:=@decide_true
def Go.YQ:=@Nat.pow_lt_pow_right
def Go.jg:=@Go.Lib.byteCells_length
def Go.tE:=@Go.IntKind.wrap_u8
def Go.se:=@Nat.div_le_self
def Go.ae:=@Int.min_le_left
def Go.T5:=@Nat.max_eq_left
def Go.Ua:=@Nat.testBit_two_pow
def Go.Li:=@List.countP_eq_zero
def Go.jl:=@List.filter_eq_self
def Go.pw:=@List.filter_sublist
def Go.Oz:=@Nat.sub_zero
def Go.Fo:=@Array.getElem?_append_right
def Go.KN:=@Nat.pow_succ
def Go.Qv:=@Go.grownCap_le_maxLen
def Go.yh:=@Nat.mod_lt
def Go.Ec:=@Array.empty_append
def Go.It:=@Go.wpIn_block
def Go.Yw:=@Nat.testBit_or
def Go.rK:=@Option.toList_some
def Go.zi:=@Int.tdiv_eq_ediv_of_nonneg
def Go.Wf:=@List.tail_cons
def Go.Pj:=@List.getElem_range
def Go.pv:=@Bool.not_eq_false'
def Go.OY:=@Go.Lib.run_append_own_stringF
def Go.s_:=@List.exists_mem_of_ne_nil
def Go.PM:=@Classical.byContradiction
def Go.dX:=@dif_pos
def Go.te:=@List.ext_getElem?
def Go.jx:=@Nat.lt_irrefl
def Go.Cf:=@List.Pairwise.imp_of_mem
def Go.Dm:=@List.set_eq_of_length_le
def Go.Jb:=@Array.toList_map
def Go.WA:=@Nat.le_add_right
def Go.MM:=@Nat.add_sub_cancel_left
def Go.C8:=@List.getElem?_cons_zero
def Go.zM:=@List.countP_cons
def Go.dL:=@Int.natCast_zero
def Go.Rw:=@Go.Addr.add_lit
def Go.me:=@decide_false
def Go.O0:=@Int.le_trans
def Go.mh:=@List.any_append
def Go.qU:=@and_congr_right
def Go.qv:=@List.headD_cons
def Go.gd:=@Int.natCast_add
def Go.AG:=@Go.DataW.lit.injEq
def Go.yx:=@Array.mem_iff_getElem
def Go.LH:=@Nat.div_lt_iff_lt_mul
def Go.ro:=@List.length_replicate
def Go.ap:=@List.set_append_right
def Go.I_:=@Go.growslice_fits
def Go.yT:=@Go.run_program
def Go.sP:=@Go.DataW.trod_int
def Go.sD:=@dif_neg
def Go.ux:=@Int.toNat_one
def Go.FD:=@List.any_cons
def Go.Lr:=@beq_iff_eq
def Go.um:=@Nat.le_of_lt
def Go.cC:=@List.map_id'
def Go.TQ:=@Nat.add_comm
def Go.yy:=@Nat.lt_trans
def Go.cG:=@Int.ofNat_lt
attribute [go_sem] Nat.reduceAdd Nat.reduceSub Nat.reduceMul Nat.reduceLT Nat.reduceEqDiff Nat.reduceBEq Nat.reduceLeDiff Int.reduceToNat Int.reduceEq Int.reduceLT Int.reduceLE Int.reduceAdd Int.reduceSub Int.reduceNeg reduceCtorEq
attribute [go_sem ↓] reduceIte
theorem Go.Vj(p : Prop)[Decidable p](h : ¬ p := by omega): decide p = false := decide_eq_false h
theorem Go.oN(p : Prop)[Decidable p](h : p := by omega): decide p = true := decide_eq_true h
theorem Go.uO{p : Prop}(h : p := by simp only; omega): p := h
theorem Go.oM{p : Prop}(h : p := by omega): p := h
theorem Go.sM{p : Prop}(h : p := by simp): p := h
theorem Go.kR{p : Prop}(h : p := by kernel_rfl): p := h
theorem Go.dM{p : Prop}(h : p := by decide): p := h
theorem Go.iN.{u}{c : Prop}{h : Decidable c}(n : ¬ c){α : Sort u}{t e : α}: ite c t e = e := if_neg n
theorem Go.iP.{u}{c : Prop}{h : Decidable c}(n : c){α : Sort u}{t e : α}: ite c t e = t := if_pos n
theorem Go.dF{p : Prop}[Decidable p](h : ¬ p): decide p = false := decide_eq_false h
theorem Go.dT{p : Prop}[Decidable p](h : p): decide p = true := decide_eq_true h
theorem Go.lR(n : Nat): n ≤ n := Nat.le_refl n
theorem Go.zL(n : Nat): 0 ≤ n := Nat.zero_le n
theorem Go.gE.{u}{α : Type u}{l : List α}{i : Nat}{a : α}: l.getD i a = l[i]?.getD a := List.getD_eq_getElem?_getD
theorem Go.gA.{u}{α : Type u}{xs : Array α}{i : Nat}{d : α}: xs.getD i d = xs[i]?.getD d := Array.getD_eq_getD_getElem?
theorem Go.gG.{u}{α : Type u}{l : List α}{i : Nat}(h : i < l.length): l[i]? = some l[i] := List.getElem?_eq_getElem h
theorem Go.gM.{u}{α : Type u}{l : List α}{n : Nat}(h : n < l.length): l[n]'h ∈ l := List.getElem_mem h
theorem Go.tL{n m k : Nat}(a : n < m)(b : m ≤ k): n < k := Nat.lt_of_lt_of_le a b
theorem Go.mS.{u}{α : Type u}{a : α}{l : List α}: a ∈ a :: l := List.mem_cons_self
theorem Go.mC.{u}{α : Type u}(y : α){a : α}{l : List α}(h : a ∈ l): a ∈ y :: l := List.mem_cons_of_mem y h
theorem Go.oT{p : Prop}[Decidable p](h : decide p = true): p := of_decide_eq_true h
theorem Go.oF{p : Prop}[Decidable p](h : decide p = false): ¬ p := of_decide_eq_false h
theorem Go.nZ(n : Nat): ¬ n < 0 := Nat.not_lt_zero n
theorem Go.aL.{u}{α : Type u}{xs ys : List α}: (xs ++ ys).length = xs.length + ys.length := List.length_append
theorem Go.pa{p:Prop}(h:p:=by simp only[Act.put,Act.eval,tZ,yY,s1,s2,s3,s4,Nat.reduceEqDiff,Nat.reduceLT,kM,ul,be,j4,ql,reduceIte]):p:=h
theorem Go.Nw{p:Prop}(h:p:=by decide+kernel):p:=h
theorem Go.xF{p:Prop}(h:p:=by simp;omega):p:=h
theorem Go.aM{p:Prop}(h:p:=by simp[Op.operands]):p:=h
theorem Go.My{p:Prop}(h:p:=by repeat first|exact O6.nil|refine yB ?_|(refine O6.cons ?_ ?_;(focus (simp only[go_sem];done)))):p:=h
theorem Go.Ks{p:Prop}(h:p:=by simpa using hi):p:=h
theorem Go.DG{p:Prop}(h:p:=by simp only at tw;omega):p:=h
theorem Go.C3{p:Prop}(h:p:=by cases h):p:=h
theorem Go.Oi{p:Prop}(h:p:=by rw[<-K5,ha];simp):p:=h
theorem Go.iy{p:Prop}(h:p:=by simpa[Op.operands,Call.operands] using hx):p:=h
theorem Go.Px{p:Prop}(h:p:=by simp only[go_sem,e_,FT]<;>trivial):p:=h
theorem Go.Xo{p:Prop}(h:p:=by intro c h;cases h):p:=h
theorem Go.j6{p:Prop}(h:p:=by rw[Hh];omega):p:=h
theorem Go.B7{p:Prop}(h:p:=by have h:b<(((mA w L).putObj (w.heap.size+1) (.loop L')).putObj w.heap.size (.deferred none)).heap.size:=hb;omega):p:=h
theorem Go.Ou{p:Prop}(h:p:=by simpa using hj):p:=h
theorem Go.yg{p:Prop}(h:p:=by cases xm<;>simp_all [O3]):p:=h
theorem Go.Aj{p:Prop}(h:p:=by simp[H9,Cq,Vf,W2]):p:=h
theorem Go.V0{p:Prop}(h:p:=by simp only[Mb,fj];rw[Hp.RG _ _ hj]):p:=h
theorem Go.YH{p:Prop}(h:p:=by simp at hj;omega):p:=h
theorem Go.DM{p:Prop}(h:p:=by rw[hA];exact dT (BX (oF z0))):p:=h
theorem Go.Rl{p:Prop}(h:p:=by rintro b c ⟨⟩;exact⟨lR _,by rw[Ar];omega⟩):p:=h
theorem Go.Mu{p:Prop}(h:p:=by simpa[Op.operands,Call.operands] using hd):p:=h
theorem Go.Uo{p:Prop}(h:p:=by rw[show Op.maxDepth=9999+1 from rfl,Op.equalIn,ig,pP hu];rfl):p:=h
theorem Go.A6{p:Prop}(h:p:=by simpa using h):p:=h
theorem Go.Cd{p:Prop}(h:p:=by simpa using h1):p:=h
theorem Go.rH{p:Prop}(h:p:=by cases xl<;>simp_all [O3]):p:=h
theorem Go.tG{p:Prop}(h:p:=by rw[<-hG];exact Qv w _ _ _ (by unfold maxLen;omega)):p:=h
theorem Go.H0{p:Prop}(h:p:=by simpa using h2):p:=h
theorem Go.CP{p:Prop}(h:p:=by rw[<-We];exact ha):p:=h
theorem Go.Nv{p:Prop}(h:p:=by rw[<-We];exact ht):p:=h
theorem Go.ZY{p:Prop}(h:p:=by cases hx):p:=h
theorem Go.vT{p:Prop}(h:p:=by simp at hi;omega):p:=h
theorem Go.Nh{p:Prop}(h:p:=by rw[NQ,hA,dF (oT z0),aS]):p:=h
theorem Go.yr{p:Prop}(h:p:=by simp at hi):p:=h
theorem Go.uk{p:Prop}(h:p:=by cases xh<;>simp_all [O3]):p:=h
theorem Go.YM{p:Prop}(h:p:=by rintro rfl;exact hb (by rw[epz];exact .inr (.inr rfl))):p:=h
theorem Go.p9{p:Prop}(h:p:=by simp[AV.cells]):p:=h
theorem Go.tC{p:Prop}(h:p:=by simp at h):p:=h
theorem Go.wX{p:Prop}(h:p:=by cases m<;>simp only[go_sem]):p:=h
theorem Go.XV{p:Prop}(h:p:=by simp only[WC]at ht;omega):p:=h
theorem Go.ZV{p:Prop}(h:p:=by simp only[N9];omega):p:=h
theorem Go.Rq{p:Prop}(h:p:=by rw[Lib.cell_of_heap h.Rr];rfl):p:=h
theorem Go.fV{p:Prop}(h:p:=by cases n<;>rfl):p:=h
theorem Go.NT{p:Prop}(h:p:=by simp only[maxLen]at ru;omega):p:=h
theorem Go.VM{p:Prop}(h:p:=by simpa using ha):p:=h
theorem Go.DD{p:Prop}(h:p:=by simp[Region.wanted,hg,hy,EW]):p:=h
theorem Go.o4{p:Prop}(h:p:=by simp[Builtin.len_,pP hu]):p:=h
theorem Go.eO{p:Prop}(h:p:=by rw[Lib.cell_of_heap C'];rfl):p:=h
theorem Go.Eb{p:Prop}(h:p:=by rw[Lib.cell_of_heap Wx];rfl):p:=h
theorem Go.HT{p:Prop}(h:p:=by simp only[N_,hg,rZ,MP]):p:=h
theorem Go.Fz{p:Prop}(h:p:=by rw[DT];omega):p:=h
theorem Go.gz{p:Prop}(h:p:=by unfold T1;simp[c]):p:=h
theorem Go.AX{p:Prop}(h:p:=by rw[<-hG];exact grownCap_ge w _ _ _):p:=h
theorem Go.QS{p:Prop}(h:p:=by have:=oT c1;omega):p:=h
theorem Go.Qt{p:Prop}(h:p:=by have:=oF c1;omega):p:=h
theorem Go.Z8{p:Prop}(h:p:=by have:=oT c2;omega):p:=h
theorem Go.wW{p:Prop}(h:p:=by have:=oF c2;omega):p:=h
theorem Go.kS{p:Prop}(h:p:=by rw[aL,WC];omega):p:=h
theorem Go.Ps{p:Prop}(h:p:=by unfold Aq.fmt;rw[c0];rfl):p:=h
theorem Go.jE{p:Prop}(h:p:=by rw[Ar];omega):p:=h
theorem Go.vz{p:Prop}(h:p:=by rfl):p:=h
theorem Go.Sq{p:Prop}(h:p:=by rw[g7];exact sg w.drew _):p:=h
theorem Go.Qs{p:Prop}(h:p:=by simp[MapKept.IsKey]):p:=h
theorem Go.yG{p:Prop}(h:p:=by unfold maxLen;omega):p:=h
theorem Go.HQ{p:Prop}(h:p:=by have:=BD.1 tw;omega):p:=h
theorem Go.dj{p:Prop}(h:p:=by rw[hp.sl];exact hn):p:=h
theorem Go.H_{p:Prop}(h:p:=by rw[yp];exact Qy):p:=h
theorem Go.auW{p:Prop}(h:p:=by rw[epz];exact .inr (.inr rfl)):p:=h
theorem Go.w9{p:Prop}(h:p:=by simpa using hl):p:=h
theorem Go.Pn{p:Prop}(h:p:=by intro c;cases c<;>rfl):p:=h
theorem Go.jn{p:Prop}(h:p:=by rw[zo];exact Sp):p:=h
theorem Go.Wa{p:Prop}(h:p:=by simpa using hx):p:=h
theorem Go.S5{p:Prop}(h:p:=by simp[Act.put,Act.eval,tZ,t1]):p:=h
theorem Go.wg{p:Prop}(h:p:=by simpa using qG):p:=h
theorem Go.iC{p:Prop}(h:p:=by have:=hex i PP;omega):p:=h
theorem Go.YD{p:Prop}(h:p:=by simp only;rw[hj];rfl):p:=h
theorem Go.EI{p:Prop}(h:p:=by simp[World.setCell]):p:=h
theorem Go.lM{p:Prop}(h:p:=by simp at h;omega):p:=h
theorem Go.US{p:Prop}(h:p:=by simpa using q1):p:=h
theorem Go.j3{p:Prop}(h:p:=by simpa using jk):p:=h
theorem Go.dB{p:Prop}(h:p:=by simpa using hn):p:=h
theorem Go.xW{p:Prop}(h:p:=by simpa using hb):p:=h
theorem Go.sR{p:Prop}(h:p:=by simp[mj]):p:=h
namespace Go.Sym
open Go
inductive AV where
 |bad|lit (v:Value)|agg (cs:List AV)|F1 (vs:List AV)|sl (es:List AV) (full:Bool)|Rc (t k:Nat) (es:List AV)|l (id g off len:Nat)|P (cs:List AV)|p (id g n i off:Nat)|Ic (id g:Nat)|gl (g:Nat)|fn (f:FuncId) (caps:List AV)|Ep (f:FuncId) (first:List AV)
 |tY|anyI (k:IntKind)
def AV.cells:AV->List AV
 | .agg cs=>cs|v=>[v]
def AV.one:AV->Bool
 | .bad| .agg _| .F1 _=>false|_=>true
inductive Ob where
 |own (t k:Nat) (es:List AV)|box (cs:List AV)|mp (es:List (Int×Int))|ms (es:List (ByteArray×AV))|bd (t e:Nat) (bs:List UInt8)
inductive VD(w:World)(U:Nat->Prop):AV->Value->Prop
 |bad (v:Value):VD w U .bad v|lit (v:Value):v.oneCell'=true->VD w U (.lit v) v|agg (cs:List AV) (vs:Array Value):cs.length=vs.size->(∀i (h:i<cs.length),cs[i].one=true)->
   (∀i (h:i<cs.length),VD w U cs[i] (vs.getD i undef))->VD w U (.agg cs) (.agg vs)
 |F1 (cs:List AV) (vs:Array Value):cs.length=vs.size->
   (∀i (h:i<cs.length),VD w U cs[i] (vs.getD i undef))->VD w U (.F1 cs) (.tuple vs)
 |nil (full:Bool) (a:Option Addr):VD w U (.sl [] full) (.slice a 0 0)|sl (es:List AV) (full:Bool) (b off cap k:Nat) (f:Nat->Value):U b->b<w.heap.size->es.length<=cap->cap<=maxLen->(full=true->cap=es.length)->0<k->
   (∀i (h:i<es.length),es[i].cells.length=k)->
   (∀j,j<es.length*k->w.cell? ⟨b,off+j,none⟩=some (f j))->
   (∀i (h:i<es.length) j (h':j<es[i].cells.length),es[i].cells[j].one=true)->
   (∀i (h:i<es.length) j (h':j<es[i].cells.length),VD w U es[i].cells[j] (f (i*k+j)))->
   VD w U (.sl es full) (.slice (some ⟨b,off,none⟩) es.length cap)
 |P (cs:List AV) (b off:Nat) (f:Nat->Value):U b->b<w.heap.size->
   (∀j,j<cs.length->w.cell? ⟨b,off+j,none⟩=some (f j))->
   (∀j (h:j<cs.length),cs[j].one=true)->
   (∀j (h:j<cs.length),VD w U cs[j] (f j))->VD w U (.P cs) (.pointer (some ⟨b,off,none⟩))
 |gl (g:Nat):VD w U (.gl g) (.pointer (some ⟨g,0,none⟩))|fn (f:FuncId) (cs:List AV) (vs:Array Value):cs.length=vs.size->
   (∀i (h:i<cs.length),VD w U cs[i] (vs.getD i undef))->VD w U (.fn f cs) (.func (.func f) #[] vs)
 |tY (t:Nat) (p:Value):VD w U .tY (.iface t p)|anyI (k:IntKind) (n:Int):VD w U (.anyI k) (.int k n)
structure EE where
 g:Nat
 Rr:Option (Az)
 k:Nat
 n:Nat
structure bQ where
 m:Nat->Option EE
 z:Nat->Prop
 Rc:Nat->Option (Az)
instance:CoeFun bQ (fun _=>Nat->Option EE):=⟨bQ.m⟩
def I2(e:bQ)(b:Nat):Prop:=∃id ee c,e id=some ee/\ee.Rr=some (b,c)
def TT(e:bQ)(b:Nat):Prop:=I2 e b\/∃B c,e.Rc b=some (B,c)/\I2 e B
def UE(e:bQ)(b:Nat):Prop:=¬e.z b/\¬TT e b
def cL(ee:EE)(off len:Nat)(v:Value):Prop:=
 match ee.Rr with
 |none=>off=0/\len=0/\∃a,v=.slice a 0 0|some (b,bcap)=>∃cap,v=.slice (some ⟨b,off*ee.k,none⟩) len cap/\off+cap=bcap/\len<=cap
inductive VR(w:World)(U:Nat->Prop)(e:bQ)(G:Nat->Prop):AV->Value->Prop
 |rC (av:AV) (v:Value):VD w U av v->VR w U e G av v|agg (cs:List AV) (vs:Array Value):cs.length=vs.size->(∀i (h:i<cs.length),cs[i].one=true)->
   (∀i (h:i<cs.length),VR w U e G cs[i] (vs.getD i undef))->VR w U e G (.agg cs) (.agg vs)
 |F1 (cs:List AV) (vs:Array Value):cs.length=vs.size->
   (∀i (h:i<cs.length),VR w U e G cs[i] (vs.getD i undef))->VR w U e G (.F1 cs) (.tuple vs)
 |fn (f:FuncId) (cs:List AV) (vs:Array Value):cs.length=vs.size->
   (∀i (h:i<cs.length),VR w U e G cs[i] (vs.getD i undef))->VR w U e G (.fn f cs) (.func (.func f) #[] vs)
 |Ep (f:FuncId) (cs:List AV) (vs:Array Value):cs.length=vs.size->
   (∀i (h:i<cs.length),VR w U e G cs[i] (vs.getD i undef))->VR w U e G (.Ep f cs) (.func (.func f) vs #[])
 |l (id g off len:Nat) (v:Value):G g->v.oneCell'=true->
   (∀ee,e id=some ee->ee.g=g->off+len<=ee.n/\(ee.n=off+len->cL ee off len v))->VR w U e G (.l id g off len) v
 |p (id g n i off:Nat) (v:Value):G g->v.oneCell'=true->
   (∀ee,e id=some ee->ee.g=g->n<=ee.n/\(ee.n=n->∀b c,ee.Rr=some (b,c)->v=.pointer (some ⟨b,i*ee.k+off,none⟩)))->VR w U e G (.p id g n i off) v
 |Ic (id g:Nat) (v:Value):G g->v.oneCell'=true->
   (∀ee,e id=some ee->ee.g=g->ee.n=0->∀b c,ee.Rr=some (b,c)->v=.map (some b))->VR w U e G (.Ic id g) v
structure Z7(w:World)(e:bQ)(G:Nat->Prop)(w':World)(e':bQ)(G':Nat->Prop):Prop where
 size:w.heap.size<=w'.heap.size
 gs:∀g,G g->G' g
 un:∀b,b<w.heap.size->UE e b->UE e' b
 same:∀b,b<w.heap.size->UE e b->w'.heap[b]?=w.heap[b]?
 Ia:∀id SV,e' id=some SV->G SV.g->∃ee,e id=some ee/\ee.g=SV.g/\ee.k=SV.k/\((ee.n=SV.n/\ee.Rr=SV.Rr)\/ee.n<SV.n)
def rT{w w':World}{b o:Nat}(h:w'.heap[b]?=w.heap[b]?):w'.cell? ⟨b,o,none⟩=w.cell? ⟨b,o,none⟩:=by simp[World.cell?,h]
theorem VD.mono{w w':World}{U U':Nat->Prop}(hs:w.heap.size<=w'.heap.size)(hU:∀b,b<w.heap.size->U b->U' b)(hh:∀b,b<w.heap.size->U b->w'.heap[b]?=w.heap[b]?){av:AV}{v:Value}(h:VD w U av v):VD w' U' av v:=by
 induction h with
 |bad v=>exact .bad v|lit v h=>exact .lit v h|agg cs vs h1 h2 _ ih=>exact .agg cs vs h1 h2 ih|F1 cs vs h1 _ ih=>exact .F1 cs vs h1 ih|nil full a=>exact .nil full a|sl es full b off cap k f hb PP h1 oS h2 h3 h4 h5 h6 _ ih=>exact .sl es full b off cap k f (hU b PP hb) (tL PP hs) h1 oS h2 h3 h4 (fun j hj=>(rT (hh b PP hb)).trans (h5 j hj)) h6 ih|P cs b off f hb PP h1 h2 _ ih=>exact .P cs b off f (hU b PP hb) (tL PP hs) (fun j hj=>(rT (hh b PP hb)).trans (h1 j hj)) h2 ih|gl g=>exact .gl g|fn f cs vs h1 _ ih=>exact .fn f cs vs h1 ih|tY t p=>exact .tY t p|anyI k n=>exact .anyI k n
theorem VR.ext{w w':World}{e e':bQ}{G G':Nat->Prop}(x:Z7 w e G w' e' G'){av:AV}{v:Value}(h:VR w (UE e) e G av v):VR w' (UE e') e' G' av v:=by
 induction h with
 |rC av v h=>exact .rC av v (h.mono x.size x.un x.same)|agg cs vs h1 h2 _ ih=>exact .agg cs vs h1 h2 ih|F1 cs vs h1 _ ih=>exact .F1 cs vs h1 ih|fn f cs vs h1 _ ih=>exact .fn f cs vs h1 ih|Ep f cs vs h1 _ ih=>exact .Ep f cs vs h1 ih|l id g off len v hg h1 hi=>
  refine .l id g off len v (x.gs _ hg) h1 fun SV X6 X0=>?_;obtain⟨ee,he,V8,hk,hn⟩:=x.Ia id SV X6 (by rw[X0];exact hg);obtain⟨ha,hb⟩:=hi ee he oM;rcases hn with ⟨hn,OT⟩|hn
  .refine⟨oM,fun hl=>?_⟩;have:=hb oM;unfold cL at this ⊢;rw[hk,OT]at this;exact this
  exact⟨oM,fun hl=>oM⟩
 |p id g n i off v hg h1 hi=>
  refine .p id g n i off v (x.gs _ hg) h1 fun SV X6 X0=>?_;obtain⟨ee,he,V8,hk,hn⟩:=x.Ia id SV X6 (by rw[X0];exact hg);obtain⟨ha,hb⟩:=hi ee he oM;rcases hn with ⟨hn,OT⟩|hn
  .exact⟨oM,fun hl b c hc=>by rw[<-hk];exact hb oM b c (OT.trans hc)⟩
  exact⟨oM,fun hl=>oM⟩
 |Ic id g v hg h1 hi=>
  refine .Ic id g v (x.gs _ hg) h1 fun SV X6 X0 Sn b c hb=>?_;obtain⟨ee,he,V8,hk,hn⟩:=x.Ia id SV X6 (by rw[X0];exact hg);rcases hn with ⟨hn,OT⟩|hn
  .exact hi ee he oM oM b c (OT.trans hb)
  omega
def VD.Gg{w:World}{U:Nat->Prop}{av:AV}{v:Value}(h:VD w U av v)(h1:av.one=true):v.oneCell'=true:=by cases h<;>first|assumption|rfl|cases h1
theorem VR.Gg{w:World}{U:Nat->Prop}{e:bQ}{G:Nat->Prop}{av:AV}{v:Value}(h:VR w U e G av v)(h1:av.one=true):v.oneCell'=true:=by
 cases h with
 |rC _ _ h=>exact h.Gg h1|agg=>cases h1
 |F1=>cases h1
 |fn=>rfl|Ep=>rfl|l=>assumption|p=>assumption|Ic=>assumption
def NF(fz:Az)(n:Nat):Prop:=∀j,j<n->¬(fz.1<=j/\j<fz.2)
def Cl(w:World)(b:Nat)(cs:Array Value)(t:Nat):Prop:=∃fz,w.heap[b]?=some (.cells cs t fz)/\NF fz cs.size/\(fz=(0,0)\/t=5)
def NF.zero(n:Nat):NF (0,0) n:=fun j _ h=>tC
def Cl.same{w w':World}{b t:Nat}{cs:Array Value}(h:Cl w b cs t)(k:w'.heap[b]?=w.heap[b]?):Cl w' b cs t:=by obtain⟨fz,h1,h2⟩:=h;exact⟨fz,k.trans h1,h2⟩
def Cl.of{w:World}{b t:Nat}{cs:Array Value}(h:w.heap[b]?=some (.cells cs t (0,0))):Cl w b cs t:=⟨_,h,.zero _,.inl rfl⟩
def Cl.cell{w:World}{b t:Nat}{cs:Array Value}(h:Cl w b cs t)(o:Nat):w.cell? ⟨b,o,none⟩=cs[o]?:=by obtain⟨fz,h1,_⟩:=h;simp[World.cell?,h1]
def Cl.frozen{w:World}{b t:Nat}{cs:Array Value}(h:Cl w b cs t){o:Nat}(ho:o<cs.size):w.frozen? ⟨b,o,none⟩=false:=by obtain⟨fz,h1,h2⟩:=h;have:=h2.1 o ho;simp only[World.frozen?,h1];simpa using this
def Cl.KP{w:World}{b t:Nat}{cs:Array Value}(h:Cl w b cs t){o:Nat}(ho:o<cs.size):w.cell? ⟨b,o,none⟩=some (cs.getD o undef):=by rw[h.cell,gA,LS ho];rfl
def Cl.inj{w:World}{b t t':Nat}{cs F8:Array Value}(h:Cl w b cs t)(h':Cl w b F8 t'):cs=F8/\t=t':=by
 obtain⟨fz,h1,_⟩:=h;obtain⟨fz',h2,_⟩:=h';rw[h1]at h2;cases h2
 exact⟨rfl,rfl⟩
inductive VC(w:World)(e:bQ)(G:Nat->Prop)(B c:Nat):AV->Value->Prop
 |val (av:AV) (v:Value):VR w (UE e) e G av v->VC w e G B c av v|Mt (t k:Nat) (a:Option Addr):0<k->VC w e G B c (.Rc t k []) (.slice a 0 0)|Rc (t k:Nat) (es:List AV) (b cap:Nat) (cs:Array Value):e.Rc b=some (B,c)->Cl w b cs t->cs.size=cap*k->0<k->es.length<=cap->cap<=maxLen->
   (∀i (h:i<es.length),es[i].cells.length=k)->
   (∀i (h:i<es.length) j (h':j<es[i].cells.length),es[i].cells[j].one=true)->
   (∀i (h:i<es.length) j (h':j<es[i].cells.length),VD w (UE e) es[i].cells[j] (cs.getD (i*k+j) undef))->
   VC w e G B c (.Rc t k es) (.slice (some ⟨b,0,none⟩) es.length cap)
theorem VC.ext{w w':World}{e e':bQ}{G G':Nat->Prop}(x:Z7 w e G w' e' G'){B B' c:Nat}{av:AV}{v:Value}(h:VC w e G B c av v)(hk:∀b,e.Rc b=some (B,c)->w'.heap[b]?=w.heap[b]?/\e'.Rc b=some (B',c)):VC w' e' G' B' c av v:=by
 cases h with
 |val _ _ h=>exact .val _ _ (h.ext x)|Mt t k a h=>exact .Mt t k a h|Rc t k es b cap cs h1 h2 h3 h4 h5 h6 h7 h8 h9=>obtain⟨k1,k2⟩:=hk b h1;exact .Rc t k es b cap cs k2 (h2.same k1) h3 h4 h5 h6 h7 h8 fun i hi j hj=>(h9 i hi j hj).mono x.size x.un x.same
def np(w:World)(e:bQ)(b el:Nat)(bs:List UInt8)(v:Value):Prop:=
 (v=.slice none 0 0/\bs=[])\/∃(g cap:Nat)(cur:Array Value)(fz:Az),v=.slice (some ⟨g,0,none⟩) bs.length cap/\e.Rc g=some (b,1)/\w.heap[g]?=some (.cells cur el fz)/\
  fz.2<=bs.length/\bs.length<=cap/\cap<=maxLen/\cur.size=cap/\cur.toList.take bs.length=bs.map (fun b=>Value.int .u8 b.toNat)/\bs≠[]
def Jh(w:World)(e:bQ)(G:Nat->Prop):Ob->EE->Prop
 | .own t k es,ee=>ee.k=k/\ee.n=es.length/\0<k/\(∀i (h:i<es.length),es[i].cells.length=k)/\
   (∀i (h:i<es.length) j (h':j<es[i].cells.length),es[i].cells[j].one=true)/\
   match ee.Rr with
   |none=>es=[]|some (b,bcap)=>bcap<=maxLen/\es.length<=bcap/\∃cs,Cl w b cs t/\cs.size=bcap*k/\
     ∀i (h:i<es.length) j (h':j<es[i].cells.length),VC w e G b (i*k+j) es[i].cells[j] (cs.getD (i*k+j) undef)
 | .box cs,ee=>ee.n=0/\(∀j (h:j<cs.length),cs[j].one=true)/\∃b c vs t,ee.Rr=some (b,c)/\w.heap[b]?=some (.cells vs t (0,0))/\vs.size=cs.length/\
   ∀j (h:j<cs.length),VR w (UE e) e G cs[j] (vs.getD j undef)
 | .mp es,ee=>ee.n=0/\∃(b c:Nat)(vs:Array MapEntry)(cl:Nat),ee.Rr=some (b,c)/\w.heap[b]?=some (.map vs cl)/\vs.toList.map (fun m=>(m.key,m.val))=es.map (fun p=>(Value.int .i64 p.1,Value.int .i64 p.2))| .ms es,ee=>ee.n=0/\∃(b c:Nat)(vs:Array MapEntry)(cl:Nat),ee.Rr=some (b,c)/\w.heap[b]?=some (.map vs cl)/\vs.size=es.length/\
   ∀(i:Nat)(m:MapEntry)(p:ByteArray×AV),vs[i]?=some m->es[i]?=some p->m.key=.string p.1/\p.2.one=true/\VR w (UE e) e G p.2 m.val
 | .bd t el bs,ee=>ee.n=0/\∃(b c:Nat)(p v:Value),ee.Rr=some (b,c)/\w.heap[b]?=some (.cells #[p,v] t (0,0))/\(p=.pointer none\/p=.pointer (some ⟨b,0,none⟩))/\np w e b el bs v
def np.ext{w w':World}{e e':bQ}{b b' el:Nat}{bs:List UInt8}{v:Value}(h:np w e b el bs v)(hk:∀g,e.Rc g=some (b,1)->w'.heap[g]?=w.heap[g]?/\e'.Rc g=some (b',1)):np w' e' b' el bs v:=by
 rcases h with h|⟨g,cap,cur,fz,h1,h2,h3,h4⟩
 .exact .inl h
 obtain⟨k1,k2⟩:=hk g h2;exact .inr ⟨g,cap,cur,fz,h1,k2,k1.trans h3,h4⟩
theorem Jh.ext{w w':World}{e e':bQ}{G G':Nat->Prop}(x:Z7 w e G w' e' G'){ob:Ob}{ee:EE}(h:Jh w e G ob ee)(hb:∀b c,ee.Rr=some (b,c)->w'.heap[b]?=w.heap[b]?/\∀b' c',e.Rc b'=some (b,c')->w'.heap[b']?=w.heap[b']?/\e'.Rc b'=some (b,c')):Jh w' e' G' ob ee:=by
 cases ob with
 |own t k es=>
  obtain⟨h1,h2,h3,h4,h5,h6⟩:=h;refine⟨h1,h2,h3,h4,h5,?_⟩;cases OT:ee.Rr with
  |none=>rw[OT]at h6;exact h6|some p=>obtain⟨b,bcap⟩:=p;rw[OT]at h6;obtain⟨h7,h8,cs,h9,bF,ED⟩:=h6;obtain⟨k1,k2⟩:=hb b bcap OT;exact⟨h7,h8,cs,h9.same k1,bF,fun i hi j hj=>(ED i hi j hj).ext x fun b' C6=>k2 b' _ C6⟩
 |box cs=>obtain⟨h1,h2,b,c,vs,t,h3,h4,h5,h6⟩:=h;exact⟨h1,h2,b,c,vs,t,h3,(hb b c h3).1.trans h4,h5,fun j hj=>(h6 j hj).ext x⟩
 |mp es=>obtain⟨h1,b,c,vs,cl,h3,h4,h5⟩:=h;exact⟨h1,b,c,vs,cl,h3,(hb b c h3).1.trans h4,h5⟩
 |ms es=>obtain⟨h1,b,c,vs,cl,h3,h4,h5,h6⟩:=h;exact⟨h1,b,c,vs,cl,h3,(hb b c h3).1.trans h4,h5,fun i m p hm hp=>⟨(h6 i m p hm hp).1,(h6 i m p hm hp).2.1,(h6 i m p hm hp).2.2.ext x⟩⟩
 |bd t el bs=>obtain⟨h1,b,c,p,v,h3,h4,h5,h6⟩:=h;exact⟨h1,b,c,p,v,h3,(hb b c h3).1.trans h4,h5,h6.ext fun g hg=>(hb b c h3).2 g 1 hg⟩
open Go
abbrev Hp:=List (Nat×Option (Nat×Ob))
def Hp.get:Hp->Nat->Option (Nat×Ob)
 |[],_=>none|(i,x)::h,n=>if i=n then x else Hp.get h n
def L5:List (Nat×AV)->Nat->AV
 |[],_=>.bad|(i,x)::h,n=>if i=n then x else L5 h n
structure St where
 tm:List (Nat×AV)
 hp:Hp
 ck:Nat
structure cH(w:World)(e:bQ)(G:Nat->Prop)(hp:Hp):Prop where
 dead:∀id,hp.get id=none->e id=none
 live:∀id g ob,hp.get id=some (g,ob)->∃ee,e id=some ee/\ee.g=g/\G g/\Jh w e G ob ee
 inj:∀id qJ ee SV b c c',e id=some ee->e qJ=some SV->ee.Rr=some (b,c)->SV.Rr=some (b,c')->id=qJ
 lt:∀id ee b c,e id=some ee->ee.Rr=some (b,c)->b<w.heap.size
 nz:∀id ee b c,e id=some ee->ee.Rr=some (b,c)->¬e.z b
 kl:∀b B c,e.Rc b=some (B,c)->b<w.heap.size/\B<w.heap.size/\¬e.z b
 ko:∀b,I2 e b->e.Rc b=none
 kk:∀b B c,e.Rc b=some (B,c)->e.Rc B=none
def xZ(e:bQ)(id:Nat)(x:Option EE):bQ:=⟨fun i=>if i=id then x else e i,e.z,e.Rc⟩
def nq(e:bQ)(id:Nat)(x:Option EE):xZ e id x id=x:=by simp[xZ]
def t_(e:bQ){id i:Nat}(x:Option EE)(h:i≠id):xZ e id x i=e i:=by simp[xZ,h]
def Hp.mz(h:Hp)(id:Nat)(x:Option (Nat×Ob)):Hp.get ((id,x)::h) id=x:=by simp[Hp.get]
def Hp.RG(h:Hp){id i:Nat}(x:Option (Nat×Ob))(SO:i≠id):Hp.get ((id,x)::h) i=h.get i:=by simp[Hp.get,FX SO]
def I2.of{e:bQ}{id:Nat}{ee:EE}{b c:Nat}(he:e id=some ee)(hb:ee.Rr=some (b,c)):I2 e b:=⟨id,ee,c,he,hb⟩
def cH.u7{w:World}{e:bQ}{G:Nat->Prop}{hp:Hp}(h:cH w e G hp){b:Nat}(hb:I2 e b):b<w.heap.size:=by obtain⟨id,ee,c,h1,h2⟩:=hb;exact h.lt id ee b c h1 h2
def cH.BO{w:World}{e:bQ}{G:Nat->Prop}{hp:Hp}(h:cH w e G hp){b:Nat}(hb:I2 e b):¬e.z b:=by obtain⟨id,ee,c,h1,h2⟩:=hb;exact h.nz id ee b c h1 h2
def cH.N2{w:World}{e:bQ}{G:Nat->Prop}{hp:Hp}(h:cH w e G hp){b:Nat}(hb:TT e b):b<w.heap.size:=by
 rcases hb with hb|⟨B,c,hk,_⟩
 .exact h.u7 hb
 exact(h.kl b B c hk).1
def cH.PQ{w:World}{e:bQ}{G:Nat->Prop}{hp:Hp}(h:cH w e G hp){b:Nat}(hb:TT e b):¬e.z b:=by
 rcases hb with hb|⟨B,c,hk,_⟩
 .exact h.BO hb
 exact(h.kl b B c hk).2.2
theorem cH.gen{w:World}{e:bQ}{G:Nat->Prop}{hp:Hp}(h:cH w e G hp):∀id ee,e id=some ee->G ee.g:=by
 intro id ee he;cases hx:hp.get id with
 |none=>rw[h.dead id hx]at he;cases he
 |some p=>obtain⟨g,ob⟩:=p;obtain⟨SV,h1,h2,h3,_⟩:=h.live id g ob hx;rw[h1]at he;cases he;rw[h2];exact h3
def cH.step{w w':World}{e e':bQ}{G G':Nat->Prop}{hp hp':Hp}(tch:Nat->Prop)(h:cH w e G hp)(x:Z7 w e G w' e' G')(hz:e'.z=e.z)(aQ:∀id,¬tch id->e' id=e id/\hp'.get id=hp.get id)(Dn:∀id ee b c,¬tch id->e id=some ee->ee.Rr=some (b,c)->w'.heap[b]?=w.heap[b]?/\∀b' c',e.Rc b'=some (b,c')->w'.heap[b']?=w.heap[b']?/\e'.Rc b'=some (b,c'))(hd:∀id,tch id->hp'.get id=none->e' id=none)(hl:∀id g ob,tch id->hp'.get id=some (g,ob)->∃ee,e' id=some ee/\ee.g=g/\G' g/\Jh w' e' G' ob ee)(hb:∀id ee b c,tch id->e' id=some ee->ee.Rr=some (b,c)->b<w'.heap.size/\¬e.z b/\∀qJ SV c',e' qJ=some SV->SV.Rr=some (b,c')->qJ=id)(hk:∀b B c,e'.Rc b=some (B,c)->b<w'.heap.size/\B<w'.heap.size/\¬e.z b)(S8:∀b,I2 e' b->e'.Rc b=none)(DJ:∀b B c,e'.Rc b=some (B,c)->e'.Rc B=none):cH w' e' G' hp':=by
 have hs:=x.size;constructor
 .intro id hid;by_cases ht:tch id
  .exact hd id ht hid
  obtain⟨h1,h2⟩:=aQ id ht;rw[h1];exact h.dead id (h2.symm.trans hid)
 .intro id g ob hid;by_cases ht:tch id
  .exact hl id g ob ht hid
  obtain⟨h1,h2⟩:=aQ id ht;obtain⟨ee,q1,q2,q3,q4⟩:=h.live id g ob (h2.symm.trans hid);exact⟨ee,h1.trans q1,q2,x.gs _ q3,q4.ext x fun b c OT=>Dn id ee b c ht q1 OT⟩
 .intro i j ei ej b c c' hi hj Jj FZ;by_cases h1:tch i
  .exact((hb i ei b c h1 hi Jj).2.2 j ej c' hj FZ).symm
  by_cases h2:tch j
  .exact(hb j ej b c' h2 hj FZ).2.2 i ei c hi Jj
  rw[(aQ i h1).1]at hi;rw[(aQ j h2).1]at hj;exact h.inj i j ei ej b c c' hi hj Jj FZ
 .intro i ei b c hi Jj;by_cases h1:tch i
  .exact(hb i ei b c h1 hi Jj).1
  rw[(aQ i h1).1]at hi;exact tL (h.lt i ei b c hi Jj) hs
 .intro i ei b c hi Jj;rw[hz];by_cases h1:tch i
  .exact(hb i ei b c h1 hi Jj).2.1
  rw[(aQ i h1).1]at hi;exact h.nz i ei b c hi Jj
 .rw[hz];exact hk
 .exact S8
 exact DJ
def Z7.mk'{w w':World}{e e':bQ}{G G':Nat->Prop}(hs:w.heap.size<=w'.heap.size)(hg:∀g,G g->G' g)(hz:e'.z=e.z)(ho:∀b,b<w.heap.size->TT e' b->TT e b)(nv:∀b,b<w.heap.size->¬TT e b->w'.heap[b]?=w.heap[b]?)(gu:∀id SV,e' id=some SV->G SV.g->∃ee,e id=some ee/\ee.g=SV.g/\ee.k=SV.k/\((ee.n=SV.n/\ee.Rr=SV.Rr)\/ee.n<SV.n)):Z7 w e G w' e' G':=
 ⟨hs,hg,fun b hb hu=>⟨by rw[hz];exact hu.1,fun h=>hu.2 (ho b hb h)⟩,fun b hb hu=>nv b hb hu.2,gu⟩
def Z7.refl(w:World)(e:bQ)(G:Nat->Prop):Z7 w e G w e G:=
 ⟨lR _,fun _ h=>h,fun _ _ h=>h,fun _ _ _=>rfl,fun _ SV h _=>⟨SV,h,rfl,rfl,.inl ⟨rfl,rfl⟩⟩⟩
def Z7.trans{w w' w'':World}{e e' e'':bQ}{G G' G'':Nat->Prop}(x:Z7 w e G w' e' G')(y:Z7 w' e' G' w'' e'' G''):Z7 w e G w'' e'' G'':=by
 refine⟨Jz x.size y.size,fun g h=>y.gs _ (x.gs _ h),fun b hb hu=>y.un b (tL hb x.size) (x.un b hb hu),
  fun b hb hu=>(y.same b (tL hb x.size) (x.un b hb hu)).trans (x.same b hb hu),?_⟩
 intro id ee'' he hg;obtain⟨SV,h1,h2,h3,h4⟩:=y.Ia id ee'' he (x.gs _ hg);obtain⟨ee,k1,k2,k3,k4⟩:=x.Ia id SV h1 (by rw[h2];exact hg);refine⟨ee,k1,k2.trans h2,k3.trans h3,?_⟩;rcases h4 with ⟨h4,h5⟩|h4<;>rcases k4 with ⟨k4,k5⟩|k4
 .exact .inl ⟨k4.trans h4,k5.trans h5⟩
 .exact .inr oM
 .exact .inr oM
 exact .inr oM
structure Cx where
 P:Program
 N:Nat
 w0:World
 e0:bQ
 rd:Option Nat
 df:List Deferred
 WV:Act->World->Prop
structure OL(C:Cx)(w:World):Prop where
 os:w.os=C.w0.os
 tape:w.tape=C.w0.tape
 output:w.output=C.w0.output
 size:C.w0.heap.size<=w.heap.size
 same:∀b,b<C.w0.heap.size->¬TT C.e0 b->w.heap[b]?=C.w0.heap[b]?
 drawn:C.w0.drawn<=w.drawn
def rM(n:Nat):Nat->Prop:=fun g=>g<n
structure ke(C:Cx)(w:World)(e:bQ)(G:Nat->Prop):Prop where
 tI:e.z=C.e0.z
 BA:∀b,C.e0.z b->b<C.w0.heap.size
 ext:Z7 C.w0 C.e0 (rM 1) w e G
 jR:∀b,TT e b->C.w0.heap.size<=b\/TT C.e0 b
structure mc(C:Cx)(G:Nat->Prop)(tm:List (Nat×AV))(hp:Hp)(a:Act)(w:World):Prop where
 defers:a.defers=C.df
 size:a.tmps.size=C.N
 xt:OL C w
 body:∃e,cH w e G hp/\ke C w e G/\∀t,VR w (UE e) e G (L5 tm t) (a.tmps.getD t undef)
def ke.step{C:Cx}{w w':World}{e e':bQ}{G G':Nat->Prop}(h:ke C w e G)(hs:C.w0.heap.size<=w.heap.size)(x:Z7 w e G w' e' G')(hz:e'.z=e.z)(ho:∀b,b<w.heap.size->TT e' b->TT e b):ke C w' e' G':=by
 refine⟨hz.trans h.tI,h.BA,h.ext.trans x,fun b hb=>?_⟩;by_cases PP:b<w.heap.size
 .exact h.jR b (ho b PP hb)
 exact .inl oM
def OL.step{C:Cx}{w w':World}{e:bQ}{G:Nat->Prop}(h:OL C w)(hl:ke C w e G)(h1:w'.os=w.os)(h2:w'.tape=w.tape)(h3:w'.output=w.output)(hs:w.heap.size<=w'.heap.size)(nv:∀b,b<w.heap.size->¬TT e b->w'.heap[b]?=w.heap[b]?)(hd:w.drawn<=w'.drawn:=by exact lR _):OL C w':=by
 refine⟨h1.trans h.os,h2.trans h.tape,h3.trans h.output,Jz h.size hs,fun b hb hn=>?_,Jz h.drawn hd⟩;rw[nv b (tL hb h.size) ?_]
 .exact h.same b hb hn
 intro ho;rcases hl.jR b ho with h4|h4
 .omega
 exact hn h4
def Kp{C:Cx}{w:World}{e:bQ}{G:Nat->Prop}(h:ke C w e G)(f:OL C w){b:Nat}(hb:w.heap.size<=b):¬e.z b:=by rw[h.tI];intro hz;have:=h.BA b hz;have:=f.size;omega
def nO(e:bQ)(ids:List Nat):bQ:=⟨fun i=>if i∈ids then none else e i,e.z,e.Rc⟩
def JG{e:bQ}{ids:List Nat}{i:Nat}{ee:EE}(h:nO e ids i=some ee):i∉ids/\e i=some ee:=by
 simp only[nO]at h;split at h
 .cases h
 exact⟨by assumption,h⟩
def KF{e:bQ}{ids:List Nat}{i:Nat}(h:i∉ids):nO e ids i=e i:=by simp[nO,h]
def I2.nO{e:bQ}{ids:List Nat}{b:Nat}(h:I2 (nO e ids) b):I2 e b:=by obtain⟨id,ee,c,h1,h2⟩:=h;exact⟨id,ee,c,(JG h1).2,h2⟩
def TT.nO{e:bQ}{ids:List Nat}{b:Nat}(h:TT (nO e ids) b):TT e b:=by
 rcases h with h|⟨B,c,h1,h2⟩
 .exact .inl h.nO
 exact .inr ⟨B,c,h1,h2.nO⟩
def Z7.qq(w:World)(e:bQ)(G:Nat->Prop)(ids:List Nat):Z7 w e G w (nO e ids) G:=
 Z7.mk' (lR _) (fun _ h=>h) rfl (fun _ _ h=>h.nO) (fun _ _ _=>rfl) fun _ SV h _=>⟨SV,(JG h).2,rfl,rfl,.inl ⟨rfl,rfl⟩⟩
theorem wx(ids:List Nat)(hp:Hp)(i:Nat):Hp.get ((ids.map fun j=>(j,none))++hp) i=if i∈ids then none else hp.get i:=by
 induction ids with
 |nil=>simp|cons j ids ih=>
  simp only[b_,Mb,Hp.get,ih,rX];by_cases h:j=i
  .subst h;simp
  simp[h,FX h]
def cH.qq{w:World}{e:bQ}{G:Nat->Prop}{hp:Hp}(h:cH w e G hp)(ids:List Nat):cH w (nO e ids) G ((ids.map fun j=>(j,none))++hp):=by
 refine h.step (fun i=>i∈ids) (Z7.qq w e G ids) rfl (fun i hi=>⟨KF hi,by rw[wx,iN hi]⟩) (fun _ _ _ _ _ _ _=>⟨rfl,fun _ _ h=>⟨rfl,h⟩⟩)
  (fun i hi _=>by simp[nO,hi]) (fun i g ob hi hg=>by rw[wx,iP hi]at hg;cases hg) (fun i ee b c hi he _=>absurd hi (JG he).1) h.kl (fun b hb=>h.ko b hb.nO) h.kk
def ke.qq{C:Cx}{w:World}{e:bQ}{G:Nat->Prop}(h:ke C w e G)(ids:List Nat):ke C w (nO e ids) G:=
 ⟨h.tI,h.BA,h.ext.trans (Z7.qq w e G ids),fun b hb=>h.jR b hb.nO⟩
def UE.dropped{w:World}{e:bQ}{G:Nat->Prop}{hp:Hp}(hr:cH w e G hp){id:Nat}{ee:EE}{b c:Nat}(he:e id=some ee)(hb:ee.Rr=some (b,c)){ids:List Nat}(hi:id∈ids):UE (nO e ids) b:=by
 have aq8:¬I2 (Sym.nO e ids) b:=by rintro⟨qJ,SV,c',h1,h2⟩;obtain⟨h3,h4⟩:=JG h1;have:=hr.inj id qJ ee SV b c c' he h4 hb h2;subst this;exact h3 hi
 refine⟨hr.nz id ee b c he hb,?_⟩;rintro(h|⟨B,c',hk,_⟩)
 .exact aq8 h
 rw[show(Sym.nO e ids).Rc=e.Rc from rfl,hr.ko b ⟨id,ee,c,he,hb⟩]at hk;cases hk
def UE.adx{w:World}{e:bQ}{G:Nat->Prop}{hp:Hp}(hr:cH w e G hp){id:Nat}{ee:EE}{b c:Nat}(he:e id=some ee)(hb:ee.Rr=some (b,c)){ids:List Nat}(hi:id∈ids){b' c':Nat}(hk:e.Rc b'=some (b,c')):UE (nO e ids) b':=by
 refine⟨(hr.kl _ _ _ hk).2.2,?_⟩;rintro(h|⟨B,c'',tF,ho⟩)
 .have:=hr.ko b' h.nO;rw[hk]at this;cases this
 have e1:e.Rc b'=some (B,c''):=tF;rw[hk]at e1;cases e1
 exact(UE.dropped hr he hb hi).2 (.inl ho)
def m7{i n k j:Nat}(hi:i<n)(hj:j<k):i*k+j<n*k:=
 calc i*k+j<i*k+k:=oM
  _=(i+1)*k:=by rw[BV]
  _<=n*k:=RW _ oM
def RN{i j k:Nat}(hj:j<k):(i*k+j) / k=i/\(i*k+j) % k=j:=by
 have hk:0<k:=oM;refine⟨?_,?_⟩
 .rw[XZ,Nat.mul_add_div hk,Nat.div_eq_of_lt hj,dq]
 rw[XZ,Nat.mul_add_mod,Xx hj]
open Go
inductive ZC where
 |int (k:IntKind)|bool|str|sl|ptr|map|fn|iface
def ZC.val:ZC->Value
 | .int k=>.int k 0| .bool=>.bool false| .str=>.string ByteArray.empty| .sl=>.slice none 0 0| .ptr=>.pointer none| .map=>.map none| .fn=>.nilFunc| .iface=>.nilIface
def ZC.av:ZC->AV
 | .sl=>.sl [] true|z=>.lit z.val
inductive Ty where
 |int (k:IntKind)|bool|str|slice (e:Nat)|array (n e:Nat)|struct (fs:List (Az))|ptr (e:Nat)|map (k e:Nat)|iface|ra (e:Nat)|other
structure TI where
 ty:Ty
 agg:Bool
 size:Nat
 bytes:Nat
 zs:List ZC
 eq:Bool:=false
structure vp where
 ty:List (Nat×TI)
 gl:List (Nat×List AV)
 full:List (Nat×Array Value)
def TI.none:TI:=⟨.other,false,0,0,[],false⟩
def Wu:List (Nat×TI)->Nat->TI
 |[],_=>.none|(i,x)::h,n=>if i=n then x else Wu h n
def tl(T:vp)(n:Nat):TI:=Wu T.ty n
def Sb:List (Nat×List AV)->Nat->Option (List AV)
 |[],_=>none|(i,x)::h,n=>if i=n then some x else Sb h n
def Hm(T:vp):AV->AV
 | .gl g=>match Sb T.gl g with|some cs=>.P cs|none=>.gl g
 |v=>v
def TI.H3(ti:TI):Value:=
 if ti.agg then .agg (ti.zs.map ZC.val).toArray else(match ti.zs with|[z]=>z.val|_=>undef)
def TI.OR(ti:TI):AV:=
 if ti.agg then .agg (ti.zs.map ZC.av) else(match ti.zs with|[z]=>z.av|_=>.bad)
def Ty.fits:Ty->TypeDesc->Prop
 | .int k,d=>d=.int k| .bool,d=>d=.bool| .str,d=>d=.string| .slice e,d=>d=.slice e| .array n e,d=>d=.array n e| .struct fs,d=>∃a,d=.struct a/\a.toList.map (fun f=>(f.offset,f.type))=fs| .ptr e,d=>d=.pointer e| .map k e,d=>d=.map k e| .iface,d=>∃m,d=.interface m| .ra _,_=>True| .other,_=>True
def ZC.eqs:ZC->TypeDesc->Prop
 | .int _,d=>∃k,d=.int k| .bool,d=>d=.bool| .str,d=>d=.string|_,_=>False
inductive Fb(P:Program):Nat->Nat->List Field->List ZC->Prop
 |nil (n o:Nat):Fb P n o [] []|one (n o:Nat) (f:Field) (fs:List Field) (z:ZC) (zs:List ZC) (d:TypeDesc):f.name≠ "_" ->f.offset=o->P.underlying f.type=some d->z.eqs d->Fb P n (o+1) fs zs->Fb P n o (f::fs) (z::zs)|sub (n o:Nat) (f:Field) (fs:List Field) (z1 z2:List ZC) (i:TypeInfo):f.name≠ "_" ->f.offset=o->P.underlying f.type=some (.struct (P.fieldsOf f.type))->P.stoodInHeld f.type=false->
   P.info? f.type=some i->i.size=z1.length->Fb P n 0 (P.fieldsOf f.type).toList z1->Fb P (n+1) (o+z1.length) fs z2->Fb P (n+1) o (f::fs) (z1++z2)
def vv(P:Program)(t:Nat)(zs:List ZC):Prop:=
 P.underlying t=some (.struct (P.fieldsOf t))/\P.stoodInHeld t=false/\P.eqGuardType P.depth t=false/\Fb P 9998 0 (P.fieldsOf t).toList zs
structure uz(P:Program)(t:Nat)(ti:TI):Prop where
 info:∃i,P.info? t=some i/\i.size=ti.size/\i.bytes=ti.bytes/\i.zero=some ti.H3
 desc:∃d,P.underlying t=some d/\ti.ty.fits d/\(ti.agg=match d with| .struct _| .array _ _=>true|_=>false)
 len:ti.zs.length=ti.size
 aum:∀a,P.underlying t=some (.struct a)->∀f∈a,(P.info? f.type).isSome=true
 one:ti.agg=false->ti.size=1
 eqs:ti.eq=true->vv P t ti.zs
def JE(P:Program)(T:vp):Prop:=∀t,tl T t=.none\/uz P t (tl T t)
def cK(f:AV->AV):AV->AV
 | .agg cs=>.agg (cs.map f)|v=>f v
def fz:Nat->Hp->AV->AV
 |_,_,.Rc _ _ xs=>.sl xs false|_,_,.sl es _=>.sl es false|n+1,hp,.l id _ off _=>match hp.get id with
  |some (_,.own _ _ es)=>.sl ((es.drop off).map (cK (fz n hp))) false|_=>.bad
 |n+1,hp,.p id _ _ i off=>match hp.get id with
  |some (_,.box cs)=>.P ((cs.drop off).map (fz n hp))|some (_,.own _ _ es)=>.P (((es.getD i .bad).cells.drop off).map (fz n hp))|_=>.bad
 |n+1,hp,.fn f cs=>.fn f (cs.map (fz n hp))|_,_,v=>v
def Xa:Nat->Hp->AV->Prop
 |_,_,.Rc _ _ _|_,_,.lit _|_,_,.sl _ _|_,_,.P _|_,_,.gl _|_,_,.tY|_,_,.anyI _=>True|n+1,hp,.l id g off len=>match hp.get id with
  |some (g',.own _ _ es)=>g'=g/\es.length=off+len/\∀e∈es,∀c∈e.cells,Xa n hp c|_=>False
 |n+1,hp,.p id g m i _=>match hp.get id with
  |some (g',.box cs)=>g'=g/\m=0/\i=0/\∀c∈cs,Xa n hp c|some (g',.own _ _ es)=>g'=g/\m=es.length/\i<es.length/\∀c∈(es.getD i .bad).cells,Xa n hp c|_=>False
 |n+1,hp,.fn _ cs=>∀c∈cs,Xa n hp c|_,_,_=>False
def qg:Nat->Hp->AV->List Nat
 |n+1,hp,.l id _ _ _=>id::match hp.get id with
  |some (_,.own _ _ es)=>es.flatMap fun e=>e.cells.flatMap (qg n hp)|_=>[]
 |n+1,hp,.p id _ _ i _=>id::match hp.get id with
  |some (_,.box cs)=>cs.flatMap (qg n hp)|some (_,.own _ _ es)=>(es.getD i .bad).cells.flatMap (qg n hp)|_=>[]
 |n+1,hp,.fn _ cs=>cs.flatMap (qg n hp)|_,_,_=>[]
def In(hp:Hp)(v:AV):AV:=cK (fz 4 hp) v
def fi(hp:Hp)(v:AV):Prop:=∀c∈v.cells,Xa 4 hp c
def xz(hp:Hp)(v:AV):List Nat:=v.cells.flatMap (qg 4 hp)
def mH(hp:Hp):AV->AV
 | .F1 vs=>.F1 (vs.map (In hp))|v=>In hp v
def pj(hp:Hp):AV->Prop
 | .F1 vs=>∀v∈vs,fi hp v|v=>fi hp v
def ui(hp:Hp):AV->List Nat
 | .F1 vs=>vs.flatMap (xz hp)|v=>xz hp v
def vZ(hp:Hp):AV->AV
 | .l id g off len=>match hp.get id with
  |some (_,.own t k es)=>if off=0 then .Rc t k (es.map (cK (fz 0 hp))) else fz 1 hp (.l id g off len)|_=>.bad
 |v=>v
def Kr(hp:Hp):AV->Prop
 | .l id g off len=>Xa 1 hp (.l id g off len)| .bad| .agg _| .F1 _| .Rc _ _ _=>False|_=>True
def JR:AV->List Nat
 | .l id _ _ _=>[id]|_=>[]
def RP:Value->AV
 | .slice none 0 0=>.sl [] true|v=>if v.oneCell' then .lit v else .bad
def bk:Value->AV
 | .agg cs=>if cs.toList.all (fun c=>(RP c).one) then .agg (cs.toList.map RP) else .bad|v=>RP v
def St.ev(s:St):Operand->AV
 | .tmp t=>L5 s.tm t| .const v=>bk v| .func f=>.fn f []| .global g=>.gl g
abbrev Up:=Nat×Option (Nat×Ob)
abbrev R:=Prop×AV×List Up
def R.no:R:=(False,.bad,[])
def R.val(ob:Prop)(v:AV):R:=(ob,v,[])
def b6(k:IntKind)(r:Int):R:=
 match k with
 | .i64=>.val (-9223372036854775808<=r/\r<=9223372036854775807) (.lit (.int .i64 r))|k=>.val True (.lit (.int k (k.wrap r)))
def Lv(k:IntKind)(a b:Int):Int:=k.wrap (BitVec.ofInt k.bits a &&& BitVec.ofInt k.bits b).toNat
def lN(k:IntKind)(a b:Int):Int:=k.wrap (BitVec.ofInt k.bits a ||| BitVec.ofInt k.bits b).toNat
def akX(k:IntKind)(a b:Int):Int:=k.wrap (BitVec.ofInt k.bits a ^^^ BitVec.ofInt k.bits b).toNat
def an7(k:IntKind)(a b:Int):Int:=k.wrap (BitVec.ofInt k.bits a &&& ~~~ BitVec.ofInt k.bits b).toNat
def CE(k:IntKind)(a b:Int):Int:=k.wrap (a*2^(min b.toNat k.bits))
def OQ(k:IntKind)(a b:Int):Int:=a.fdiv (2^(min b.toNat k.bits))
def S7(op:BinOp)(k:IntKind)(a b:Int):R:=
 match op with
 | .add=>b6 k (a+b)| .sub=>b6 k (a-b)| .mul=>b6 k (a*b)| .quo=>.val (b≠0) (.lit (.int k (k.wrap (a.tdiv b))))| .rem=>.val (b≠0) (.lit (.int k (a.tmod b)))| .eql=>.val True (.lit (.bool (decide (a=b))))| .neq=>.val True (.lit (.bool (decide (a≠b))))| .lss=>.val True (.lit (.bool (decide (a<b))))| .leq=>.val True (.lit (.bool (decide (a<=b))))| .gtr=>.val True (.lit (.bool (decide (b<a))))| .geq=>.val True (.lit (.bool (decide (b<=a))))| .and=>.val True (.lit (.int k (Lv k a b)))| .or=>.val True (.lit (.int k (lN k a b)))| .xor=>.val True (.lit (.int k (akX k a b)))| .andNot=>.val True (.lit (.int k (an7 k a b)))|_=>.no
def Vs(op:BinOp)(k:IntKind)(a b:Int):R:=
 match op with
 | .shl=>.val (0<=b) (.lit (.int k (CE k a b)))| .shr=>.val (0<=b) (.lit (.int k (OQ k a b)))|_=>.no
def FB(op:BinOp)(a b:ByteArray):R:=
 match op with
 | .add=>.val (a.size+b.size<=9223372036854775807) (.lit (.string (a++b)))| .eql=>.val True (.lit (.bool (decide (a.data.toList=b.data.toList))))| .neq=>.val True (.lit (.bool (decide (a.data.toList≠b.data.toList))))| .lss=>.val True (.lit (.bool (Op.bytesLess a.data.toList b.data.toList)))| .leq=>.val True (.lit (.bool (Op.bytesLess a.data.toList b.data.toList||decide (a.data.toList=b.data.toList))))| .gtr=>.val True (.lit (.bool (!(Op.bytesLess a.data.toList b.data.toList||decide (a.data.toList=b.data.toList)))))| .geq=>.val True (.lit (.bool (!Op.bytesLess a.data.toList b.data.toList)))|_=>.no
def yC(op:BinOp)(ty:Ty)(a b:Bool):R:=
 match ty,op with
 | .bool,.eql=>.val True (.lit (.bool (a==b)))| .bool,.neq=>.val True (.lit (.bool (!(a==b))))|_,_=>.no
def sW:ZC->AV->AV->Prop×Bool
 | .int _,.lit (.int k a),.lit (.int k' b)=>(k=k',decide (a=b))| .bool,.lit (.bool a),.lit (.bool b)=>(True,a==b)| .str,.lit (.string a),.lit (.string b)=>(True,decide (a.data.toList=b.data.toList))|_,_,_=>(False,false)
def Ix:List ZC->List AV->List AV->Prop×Bool
 |[],[],[]=>(True,true)|z::zs,a::az,b::bs=>((sW z a b).1/\(Ix zs az bs).1,(sW z a b).2&&(Ix zs az bs).2)|_,_,_=>(False,false)
def YJ(op:BinOp)(ti:TI)(az bs:List AV):R:=
 match op with
 | .eql=>.val (ti.eq=true/\(Ix ti.zs az bs).1) (.lit (.bool (Ix ti.zs az bs).2))| .neq=>.val (ti.eq=true/\(Ix ti.zs az bs).1) (.lit (.bool (!(Ix ti.zs az bs).2)))|_=>.no
def l9(op:BinOp)(ti:TI):AV->AV->R
 | .lit (.int k a),.lit (.int k' b)=>match op with
  | .shl=>Vs .shl k a b| .shr=>Vs .shr k a b|op=>let r:=S7 op k a b;(k=k'/\r.1,r.2)
 | .lit (.string a),.lit (.string b)=>FB op a b| .lit (.bool a),.lit (.bool b)=>yC op ti.ty a b| .agg az,.agg bs=>YJ op ti az bs|_,_=>.no
def F2(ti:TI)(cs:List AV):R:=
 .val (ti.size≠0/\ti.size<=cs.length) (if ti.agg then .agg (cs.take ti.size) else cs.getD 0 .bad)
def AV.Je:AV->Bool
 | .Rc _ _ _=>false|_=>true
def Zt(e:AV)(off:Nat)(v:AV):AV:=
 match e with
 | .agg cs=>.agg (cs.set off v)|_=>v
def YU(ti:TI)(did gn:Nat)(hp:Hp):AV->R
 | .P cs=>F2 ti cs| .p id g n i off=>match hp.get id with
  |some (g',.box cs)=>(g'=g/\n=0/\i=0/\(F2 ti (cs.drop off)).1,(F2 ti (cs.drop off)).2)|some (g',.own t k es)=>match ti.agg,(es.getD i .bad).cells.getD off .bad with
   |false,.Rc t' k' xs=>(g'=g/\n=es.length/\i<es.length/\id≠did/\ti.size≠0/\off<(es.getD i .bad).cells.length,.l did gn 0 xs.length,
     [(did,some (gn,.own t' k' xs)),(id,some (g',.own t k (es.set i (Zt (es.getD i .bad) off (.l did gn 0 xs.length)))))])
   |_,_=>(g'=g/\n=es.length/\i<es.length/\(∀c∈(es.getD i .bad).cells,c.Je=true)/\(F2 ti ((es.getD i .bad).cells.drop off)).1,(F2 ti ((es.getD i .bad).cells.drop off)).2)
  |_=>.no
 |_=>.no
def Wj(cs:List AV)(off:Nat)(vs:List AV):List AV:=cs.take off++vs++cs.drop (off+vs.length)
def qq(ids:List Nat):List Up:=ids.map fun j=>(j,none)
def TG(k:Nat)(e:AV)(off:Nat)(v:AV):AV:=
 if off=0/\v.cells.length=k then v else .agg (Wj e.cells off v.cells)
def dc(ti:TI)(hp:Hp)(v:AV):AV->R
 | .p id g n i off=>match hp.get id with
  |some (g',.box cs)=>(g'=g/\n=0/\i=0/\ti.size≠0/\v.cells.length=ti.size/\(∀c∈v.cells,c.one=true/\c.Je=true)/\off+ti.size<=cs.length,.bad,[(id,some (g,.box (Wj cs off v.cells)))])|some (g',.own t k es)=>
    (g'=g/\n=es.length/\i<es.length/\ti.size≠0/\v.cells.length=ti.size/\off+ti.size<=k/\(∀c∈v.cells,Kr hp c)/\(v.cells.flatMap JR).Nodup/\id∉v.cells.flatMap JR,.bad,
     (id,some (g,.own t k (es.set i (TG k (es.getD i .bad) off (cK (vZ hp) v)))))::qq (v.cells.flatMap JR))
  |_=>.no
 |_=>.no
def Hp.has(hp:Hp)(id g n:Nat):Prop:=
 match hp.get id with
 |some (g',.box _)|some (g',.bd _ _ _)=>g'=g/\n=0|some (g',.own _ _ es)=>g'=g/\n=es.length/\es.length≠0|_=>False
def pb(ti ei:TI)(hp:Hp):AV->AV->R
 | .sl es _,.lit (.int _ i)=>match ti.ty with
  | .slice _=>.val (0<=i/\i<es.length/\(es.getD i.toNat .bad).cells.length=ei.size) (.P (es.getD i.toNat .bad).cells)|_=>.no
 | .l id g off len,.lit (.int _ i)=>match ti.ty,hp.get id with
  | .slice _,some (g',.own _ k es)=>.val (g'=g/\es.length=off+len/\k=ei.size/\0<=i/\i<len) (.p id g (off+len) (off+i.toNat) 0)|_,_=>.no
 | .p id g n j off,.lit (.int _ i)=>match ti.ty with
  | .array m _=>.val (hp.has id g n/\ei.size≠0/\0<=i/\i<m) (.p id g n j (off+i.toNat*ei.size))|_=>.no
 | .P cs,.lit (.int _ i)=>match ti.ty with
  | .array m _=>.val (ei.size≠0/\0<=i/\i<m) (.P (cs.drop (i.toNat*ei.size)))|_=>.no
 |_,_=>.no
def ta(T:vp)(t f:Nat)(hp:Hp)(v:AV):R:=
 match (tl T t).ty with
 | .struct fs=>
  let q:=fs.getD f (0,0)
  match v with
  | .P cs=>.val (f<fs.length/\(tl T q.2).size≠0) (.P (cs.drop q.1))| .p id g n i off=>.val (f<fs.length/\(tl T q.2).size≠0/\hp.has id g n) (.p id g n i (off+q.1))|_=>.no
 |_=>.no
def CM(T:vp)(t f:Nat)(v:AV):R:=
 match (tl T t).ty with
 | .struct fs=>
  let q:=fs.getD f (0,0)
  match v with
  | .agg cs=>let r:=F2 (tl T q.2) (cs.drop q.1);(f<fs.length/\(tl T q.2).size≠0/\r.1,r.2)|_=>.no
 |_=>.no
def sX(T:vp)(t:Nat)(v i:AV):R:=
 match (tl T t).ty with
 | .array n e=>match v,i with
  | .agg cs,.lit (.int _ i)=>let r:=F2 (tl T e) (cs.drop (i.toNat*(tl T e).size));(0<=i/\i<n/\(tl T e).size≠0/\r.1,r.2)|_,_=>.no
 | .str=>match v,i with
  | .lit (.string s),.lit (.int _ i)=>.val (0<=i/\i<s.data.toList.length) (.lit (.int .u8 ((s.data.toList.getD i.toNat 0).toNat:Nat)))|_,_=>.no
 |_=>.no
def elemOf(T:vp)(t:Nat):Nat:=
 match (tl T t).ty with
 | .slice e=>e| .array _ e=>e|_=>0
def D9(ei:TI)(gn:Nat)(hp:Hp)(lo hi mx:Option AV):AV->R
 | .sl es full=>match lo,hi,mx with
  |none,none,none=>.val (ei.size≠0) (.sl es full)|some (.lit (.int _ l)),none,none=>.val (ei.size≠0/\(∀y∈es,y.cells.length=ei.size)/\0<=l/\l<=es.length) (.sl (es.drop l.toNat) full)|none,some (.lit (.int _ h)),none=>.val (ei.size≠0/\0<=h/\h<=es.length) (.sl (es.take h.toNat) false)|some (.lit (.int _ l)),some (.lit (.int _ h)),none=>.val (ei.size≠0/\(∀y∈es,y.cells.length=ei.size)/\0<=l/\l<=h/\h<=es.length) (.sl ((es.take h.toNat).drop l.toNat) false)|none,some (.lit (.int _ h)),some (.lit (.int _ m))=>.val (ei.size≠0/\0<=h/\h=m/\m<=es.length) (.sl (es.take h.toNat) true)|some (.lit (.int _ l)),some (.lit (.int _ h)),some (.lit (.int _ m))=>.val (ei.size≠0/\(∀y∈es,y.cells.length=ei.size)/\0<=l/\l<=h/\h=m/\m<=es.length) (.sl ((es.take h.toNat).drop l.toNat) true)|_,_,_=>.no
 | .l id g off len=>match hp.get id with
  |some (g',.own t k es)=>match lo,hi,mx with
   |none,none,none=>.val (g'=g/\es.length=off+len/\k=ei.size/\0<len) (.l id g off len)|some (.lit (.int _ l)),none,none=>.val (g'=g/\es.length=off+len/\k=ei.size/\0<=l/\l<len) (.l id g (off+l.toNat) (len-l.toNat))|none,some (.lit (.int _ h)),none=>(g'=g/\es.length=off+len/\k=ei.size/\0<=h/\h<=len/\0<len,.l id gn off h.toNat,[(id,some (gn,.own t k (es.take (off+h.toNat))))])|some (.lit (.int _ l)),some (.lit (.int _ h)),none=>(g'=g/\es.length=off+len/\k=ei.size/\0<=l/\l<=h/\h<=len/\l<len,.l id gn (off+l.toNat) (h.toNat-l.toNat),[(id,some (gn,.own t k (es.take (off+h.toNat))))])|none,some (.lit (.int _ h)),some (.lit (.int _ m))=>.val (g'=g/\es.length=off+len/\k=ei.size/\h=0/\m=0) (.sl [] true)|_,_,_=>.no
  |_=>.no
 |_=>.no
def strOf(l:List UInt8):ByteArray:=⟨l.toArray⟩
def gZ(s:ByteArray)(lo hi mx:Option AV):R:=
 match lo,hi,mx with
 |none,none,none=>.val True (.lit (.string s))|some (.lit (.int _ l)),none,none=>.val (0<=l/\l<=s.data.toList.length) (.lit (.string (strOf (s.data.toList.drop l.toNat))))|none,some (.lit (.int _ h)),none=>.val (0<=h/\h<=s.data.toList.length) (.lit (.string (strOf (s.data.toList.take h.toNat))))|some (.lit (.int _ l)),some (.lit (.int _ h)),none=>.val (0<=l/\l<=h/\h<=s.data.toList.length) (.lit (.string (strOf ((s.data.toList.take h.toNat).drop l.toNat))))|_,_,_=>.no
def V7(n:Nat)(ei:TI)(hp:Hp)(lo hi mx:Option AV):AV->R
 | .p id g m i off=>match hp.get id,lo,hi,mx with
  |some (g',.box cs),none,none,none=>(g'=g/\m=0/\i=0/\off=0/\ei.size=1/\cs.length=n/\(n:Int)<=9223372036854775807/\(∀e∈cs,∀c∈e.cells,Xa 0 hp c),.sl (cs.map (cK (fz 0 hp))) false,qq [id])|_,_,_,_=>.no
 |_=>.no
def P3(T:vp)(t gn:Nat)(hp:Hp)(lo hi mx:Option AV)(v:AV):R:=
 match (tl T t).ty with
 | .slice el=>D9 (tl T el) gn hp lo hi mx v| .array n el=>V7 n (tl T el) hp lo hi mx v| .str=>match v with
  | .lit (.string s)=>gZ s lo hi mx|_=>.no
 |_=>.no
def Ym(hp:Hp):AV->Option (List AV)
 | .sl ys _=>some ys| .l id _ off _=>match hp.get id with
  |some (_,.own _ _ es)=>some (es.drop off)|_=>none
 |_=>none
def HN(hp:Hp):AV->Prop
 | .sl _ _=>True| .l id g off len=>match hp.get id with
  |some (g',.own _ _ es)=>g'=g/\es.length=off+len|_=>False
 |_=>False
def uo(es:List AV):List Nat:=es.flatMap fun e=>e.cells.flatMap JR
def nL(T:vp)(t:Nat)(did g:Nat)(hp:Hp)(d x:AV):R:=
 let e:=elemOf T t
 let ei:=tl T e
 match Ym hp x with
 |some ys=>
  let GR:=ys.map (cK (vZ hp))
  let okY:=HN hp x/\ei.size≠0/\(∀y∈ys,y.cells.length=ei.size)/\(∀y∈ys,∀c∈y.cells,Kr hp c)/\(uo ys).Nodup
  match d with
  | .sl es true=>if es.length=0 then(okY/\did∉uo ys/\ys.length*ei.bytes<=140737488355328/\ys.length<=9223372036854775807,.l did g 0 ys.length,(did,some (g,.own e ei.size GR))::qq (uo ys))
   else if ys.length=0 then(okY,.sl es false,[])
   else(okY/\did∉uo ys/\((∀y∈es,y.cells.length=ei.size)/\(∀y∈es,∀c∈y.cells,c.Je=true))/\(es.length+ys.length)*ei.bytes<=140737488355328/\es.length+ys.length<=9223372036854775807,.l did g 0 (es.length+ys.length),(did,some (g,.own e ei.size (es++GR)))::qq (uo ys))
  | .l id g' off len=>match hp.get id with
   |some (g'',.own e' k es)=>(okY/\id∉uo ys/\g''=g'/\e'=e/\k=ei.size/\off=0/\es.length=len/\(len+ys.length)*ei.bytes<=140737488355328/\len+ys.length<=9223372036854775807,
     .l id g' 0 (len+ys.length),(id,some (g',.own e k (es++GR)))::qq (uo ys))
   |_=>.no
  |_=>.no
 |none=>.no
def JK(T:vp)(t:Nat)(hp:Hp)(d x:AV):R:=
 match (tl T t).ty,d,Ym hp x with
 | .slice e,.l id g off len,some ys=>match hp.get id with
  |some (g',.own t' k es)=>(g'=g/\es.length=off+len/\k=1/\(tl T e).size=1/\HN hp x/\(∀y∈ys,y.cells.length=1)/\(∀y∈ys,∀c∈y.cells,Xa 0 hp c/\c.Je=true)/\0<len,
    .lit (.int .i64 (min ys.length len:Nat)),[(id,some (g,.own t' k (es.take off++ys.take (min ys.length len)++es.drop (off+min ys.length len))))])
  |_=>.no
 |_,_,_=>.no
def B4(T:vp)(t:Nat)(hp:Hp)(d:AV):R:=
 match (tl T t).ty,d with
 | .slice e,.l id g off len=>match hp.get id with
  |some (g',.own t' k es)=>(g'=g/\es.length=off+len/\k=(tl T e).size,.F1 [],[(id,some (g,.own t' k (es.take off++List.replicate len (tl T e).OR)))])|_=>.no
 |_,_=>.no
def bytesOf:List AV->Option (List UInt8)
 |[]=>some []| .lit (.int .u8 n)::l=>(bytesOf l).map (UInt8.ofNat n.toNat::·)|_=>none
def Kk(b:UInt8):AV:=.lit (.int .u8 (b.toNat:Nat))
def HY(n:Nat)(ps:List (Nat×Operand)):Bool:=ps.map (·.1)==List.range n
def Ey(T:vp)(t:Nat)(hp:Hp)(v:AV):R:=
 match (tl T t).ty with
 | .slice _=>match v with
  | .sl es _=>.val True (.lit (.int .i64 es.length))| .l id g off len=>match hp.get id with
   |some (g',.own _ _ es)=>.val (g'=g/\es.length=off+len) (.lit (.int .i64 len))|_=>.no
  |_=>.no
 | .str=>match v with
  | .lit (.string s)=>.val True (.lit (.int .i64 s.size))|_=>.no
 | .array n _=>.val True (.lit (.int .i64 n))|_=>.no
def L7(n:Int):List (Int×Int)->Nat->Option (Nat×Int)
 |[],_=>none|p::l,i=>if n=p.1 then some (i,p.2) else L7 n l (i+1)
def bN(l:List (Int×Int))(n:Int):Int:=match L7 n l 0 with
 |some (_,v)=>v|none=>0
def IF(l:List (Int×Int))(n v:Int):List (Int×Int):=match L7 n l 0 with
 |some (i,_)=>l.set i (n,v)|none=>l++[(n,v)]
def JF(k:List UInt8)(z:AV):List (ByteArray×AV)->AV
 |[]=>z|p::l=>if p.1.data.toList=k then p.2 else JF k z l
def qz(k:List UInt8):List (ByteArray×AV)->Bool
 |[]=>false|p::l=>decide (p.1.data.toList=k)||qz k l
def Jc(T:vp)(t:Nat):Bool:=match (tl T t).ty with
 | .map kt _=>match (tl T kt).ty with
  | .str=>true|_=>false
 |_=>false
def Cv(T:vp)(t:Nat)(hp:Hp)(m k:AV):R:=
 match (tl T t).ty,m,k with
 | .map kt et,.Ic id g,.lit (.string s)=>match hp.get id with
  |some (g',.ms es)=>.val (g'=g/\(tl T kt).ty=.str/\(tl T et).size≠0/\(tl T et).agg=false) (.F1 [JF s.data.toList (tl T et).OR es,.lit (.bool (qz s.data.toList es))])|_=>.no
 |_,_,_=>.no
def XE(T:vp)(t:Nat)(hp:Hp)(m k v:AV):R:=
 match (tl T t).ty,m,k with
 | .map kt _,.Ic id g,.lit (.string s)=>match hp.get id with
  |some (g',.ms es)=>(g'=g/\(tl T kt).ty=.str/\qz s.data.toList es=false/\v.one=true/\v.Je=true,.bad,[(id,some (g,.ms (es++[(s,v)])))])|_=>.no
 |_,_,_=>.no
def Pp(T:vp)(t:Nat)(hp:Hp)(m k:AV):R:=
 match (tl T t).ty,m,k with
 | .map kt et,.Ic id g,.lit (.int .i64 n)=>match hp.get id with
  |some (g',.mp es)=>.val (g'=g/\(tl T kt).ty=.int .i64/\(tl T et).size≠0/\(tl T et).H3=.int .i64 0) (.lit (.int .i64 (bN es n)))|_=>.no
 |_,_,_=>.no
def aW(T:vp)(t:Nat)(hp:Hp)(m k v:AV):R:=
 match (tl T t).ty,m,k,v with
 | .map kt _,.Ic id g,.lit (.int .i64 n),.lit (.int .i64 x)=>match hp.get id with
  |some (g',.mp es)=>(g'=g/\(tl T kt).ty=.int .i64,.bad,[(id,some (g,.mp (IF es n x)))])|_=>.no
 |_,_,_,_=>.no
def Cb:Operand->Bool
 | .const (.slice none 0 0)=>true|_=>false
def gW(b:Bool)(op:BinOp)(ti:TI)(x y:AV):R:=
 match b with
 |false=>l9 op ti x y|true=>match op,ti.ty,x with
  | .eql,.slice _,.sl es _=>.val (0<es.length) (.lit (.bool false))| .neq,.slice _,.sl es _=>.val (0<es.length) (.lit (.bool true))|_,_,_=>.no
def K4:Operand->Bool
 | .const .nilIface=>true|_=>false
def Bp(b:Bool)(op:BinOp)(ti:TI)(x:AV)(r:R):R:=
 match b with
 |false=>r|true=>match op,ti.ty,x with
  | .eql,.iface,.tY=>.val True (.lit (.bool false))| .neq,.iface,.tY=>.val True (.lit (.bool true))| .eql,.iface,.lit .nilIface=>.val True (.lit (.bool true))| .neq,.iface,.lit .nilIface=>.val True (.lit (.bool false))|_,_,_=>.no
def r9(T:vp)(o:Oper)(ev:Operand->AV)(hp:Hp)(g:Nat):R:=
 let did:=100+o.dst.getD 0
 match o.op with
 | .move x=>.val True (ev x)| .assign x=>match x,(tl T o.type).ty with
  | .const (.slice none 0 0),.slice e=>((tl T e).size≠0,.l did g 0 0,[(did,some (g,.own e (tl T e).size []))])|_,_=>.val True (ev x)
 | .pick c a b=>match ev c with
  | .lit (.bool c)=>.val True (if c then ev a else ev b)|_=>.no
 | .binOp op t x y _=>Bp (K4 y) op (tl T t) (ev x) (gW (Cb y) op (tl T t) (ev x) (ev y))| .makeMap t none=>(True,.Ic did g,[(did,some (g,if Jc T t then .ms [] else .mp []))])| .lookup t m k false=>Pp T t hp (ev m) (ev k)| .lookup t m k true=>Cv T t hp (ev m) (ev k)| .mapUpdate t m k v=>if Jc T t then XE T t hp (ev m) (ev k) (ev v) else aW T t hp (ev m) (ev k) (ev v)| .insert t m k v=>XE T t hp (ev m) (ev k) (ev v)| .unOp .not _ x=>match ev x with
  | .lit (.bool b)=>.val True (.lit (.bool (!b)))|_=>.no
 | .unOp .neg _ x=>match ev x with
  | .lit (.int k n)=>b6 k (0-n)|_=>.no
 | .nilCheck x=>match ev x with
  | .gl n=>.val True (.gl n)| .P cs=>.val True (.P cs)| .p id g n i off=>.val (hp.has id g n) (.p id g n i off)|_=>.no
 | .extract x i=>match ev x with
  | .F1 vs=>.val (i<vs.length) (vs.getD i .bad)|_=>.no
 | .load t a=>YU (tl T t) did g hp (Hm T (ev a))| .store t a v=>dc (tl T t) hp (ev v) (ev a)| .indexAddr t x i=>pb (tl T t) (tl T (elemOf T t)) hp (Hm T (ev x)) (ev i)| .fieldAddr t x f=>ta T t f hp (Hm T (ev x))| .field t x f=>CM T t f (ev x)| .index t x i=>sX T t (ev x) (ev i)| .slice t x lo hi mx=>P3 T t g hp (lo.map ev) (hi.map ev) (mx.map ev) (ev x)| .makeSlice t l c=>match (tl T t).ty,ev l,ev c with
  | .slice e,.lit (.int _ l),.lit (.int _ c)=>(0<=l/\l<=c/\c*(tl T e).bytes<=140737488355328/\c<=9223372036854775807/\(tl T e).size≠0,.l did g 0 l.toNat,[(did,some (g,.own e (tl T e).size (List.replicate l.toNat (tl T e).OR)))])|_,_,_=>.no
 | .buildSlice t n ps=>match (tl T t).ty with
  | .slice el=>
  let ei:=tl T el
  let vs:=ps.toList.map fun p=>ev p.2
  (HY n ps.toList=true/\ei.size≠0/\n*ei.size<=16777216/\(∀v∈vs,v.cells.length=ei.size/\∀c∈v.cells,c.one=true/\c.Je=true),
   .l did g 0 n,[(did,some (g,.own el ei.size vs))])
  |_=>.no
 | .alloc t=>match (tl T t).ty with
  | .ra e=>((tl T t).size≠0/\(tl T t).zs=[.ptr,.sl]/\(tl T t).agg=true,.p did g 0 0 0,[(did,some (g,.bd t e []))])|_=>((tl T t).size≠0,.p did g 0 0 0,[(did,some (g,.box (tl T t).OR.cells))])
 | .box t x=>(((ev x).cells.length=(tl T t).size/\∀c∈(ev x).cells,c.one=true/\c.Je=true),.p did g 0 0 0,[(did,some (g,.box (ev x).cells))])| .build t ps=>match (tl T t).ty with
  | .struct fs=>
   let step:=fun(cs:List AV) (p:Nat×Operand)=>Wj cs (fs.getD p.1 (0,0)).1 (ev p.2).cells
   (∀p∈ps.toList,p.1<fs.length/\(tl T (fs.getD p.1 (0,0)).2).size≠0/\(ev p.2).cells.length=(tl T (fs.getD p.1 (0,0)).2).size/\(fs.getD p.1 (0,0)).1+(tl T (fs.getD p.1 (0,0)).2).size<=(tl T t).size/\(∀c∈(ev p.2).cells,c.one=true),
    .agg (ps.toList.foldl step ((tl T t).zs.map ZC.av)),[])
  | .array n el=>
   (ps.toList≠[]/\∀p∈ps.toList,p.1<n/\(tl T el).size≠0/\(ev p.2).cells.length=(tl T el).size/\p.1*(tl T el).size+(tl T el).size<=(tl T t).size/\(∀c∈(ev p.2).cells,c.one=true),
    .agg (ps.toList.foldl (fun cs p=>Wj cs (p.1*(tl T el).size) (ev p.2).cells) ((tl T t).zs.map ZC.av)),[])
  |_=>.no
 | .convert s d x=>match (tl T s).ty,(tl T d).ty,ev x with
  | .int _,.int k,.lit (.int _ n)=>.val True (.lit (.int k (k.wrap n)))| .str,.slice e,.lit (.string b)=>match (tl T e).ty with
   | .int .u8=>(b.data.toList.length<=9223372036854775807/\e=5,.l did g 0 b.data.toList.length,[(did,some (g,.own e 1 (b.data.toList.map Kk)))])|_=>.no
  | .slice e,.str,v=>match (tl T e).ty,Ym hp v with
   | .int .u8,some ys=>match bytesOf ys with
    |some bs=>.val (HN hp v) (.lit (.string (strOf bs)))|none=>.no
   |_,_=>.no
  |_,_,_=>.no
 | .call {callee:=.builtin b,args,argTypes}=>match b,args.toList,argTypes.toList with
  | .len,[x],[t]=>Ey T t hp (ev x)| .append,[d,x],[t,t']=>match (tl T t).ty with
   | .slice _=>let r:=nL T t did g hp (ev d) (ev x);(t'=t/\r.1,r.2)|_=>.no
  | .copy,[d,x],[t,_]=>JK T t hp (ev d) (ev x)| .clear,[d],[t]=>B4 T t hp (ev d)| .min,[x,y],[_,_]=>match ev x,ev y with
   | .lit (.int k a),.lit (.int _ b)=>.val True (.lit (.int k (if b<a then b else a)))|_,_=>.no
  | .max,[x,y],[_,_]=>match ev x,ev y with
   | .lit (.int k a),.lit (.int _ b)=>.val True (.lit (.int k (if a<b then b else a)))|_,_=>.no
  |_,_,_=>.no
 | .makeFunc fn first caps=>match fn,first.toList with
  | .func f,[]=>.val True (.fn f (caps.toList.map ev))| .func f,x::xs=>(caps.toList=[],.Ep f ((x::xs).map ev),[])|_,_=>.no
 |_=>.no
def mL:AV->List AV->Option (FuncId×List AV)
 | .fn f caps,vs=>some (f,vs++caps)| .Ep f first,vs=>some (f,first++vs)
 |_,_=>none
open Go
def Bb(G:Nat->Prop)(g:Nat):Nat->Prop:=fun x=>G x\/x=g
section inv
variable{w:World}{U:Nat->Prop}{e:bQ}{G:Nat->Prop}{x:Value}
def VR.VI{v:Value}(h:VR w U e G (.lit v) x):x=v/\v.oneCell'=true:=by cases h with|rC _ _ h=>cases h with|lit _ h=>exact⟨rfl,h⟩
theorem VR.IX{cs:List AV}(h:VR w U e G (.agg cs) x):∃vs:Array Value,x=.agg vs/\cs.length=vs.size/\(∀i (h:i<cs.length),cs[i].one=true)/\
  ∀i (h:i<cs.length),VR w U e G cs[i] (vs.getD i undef):=by
 cases h with
 |rC _ _ h=>cases h with|agg _ vs h1 h2 h3=>exact⟨vs,rfl,h1,h2,fun i hi=>.rC _ _ (h3 i hi)⟩
 |agg _ vs h1 h2 h3=>exact⟨vs,rfl,h1,h2,h3⟩
theorem VR.oJ{cs:List AV}(h:VR w U e G (.F1 cs) x):∃vs:Array Value,x=.tuple vs/\cs.length=vs.size/\
  ∀i (h:i<cs.length),VR w U e G cs[i] (vs.getD i undef):=by
 cases h with
 |rC _ _ h=>cases h with|F1 _ vs h1 h3=>exact⟨vs,rfl,h1,fun i hi=>.rC _ _ (h3 i hi)⟩
 |F1 _ vs h1 h3=>exact⟨vs,rfl,h1,h3⟩
def VR.Rv{es:List AV}{full:Bool}(h:VR w U e G (.sl es full) x):VD w U (.sl es full) x:=by cases h with|rC _ _ h=>exact h
def VR.Si{cs:List AV}(h:VR w U e G (.P cs) x):VD w U (.P cs) x:=by cases h with|rC _ _ h=>exact h
def VD.Qh{id g off len:Nat}(h:VD w U (.l id g off len) x):False:=C3
def VD.VZ{id g n i off:Nat}(h:VD w U (.p id g n i off) x):False:=C3
theorem VR.UF{id g off len:Nat}(h:VR w U e G (.l id g off len) x):G g/\x.oneCell'=true/\
  ∀ee,e id=some ee->ee.g=g->off+len<=ee.n/\(ee.n=off+len->cL ee off len x):=by
 cases h with
 |rC _ _ h=>exact h.Qh.elim|l _ _ _ _ _ h1 h2 h3=>exact⟨h1,h2,h3⟩
theorem VR.nj{id g n i off:Nat}(h:VR w U e G (.p id g n i off) x):G g/\x.oneCell'=true/\
  ∀ee,e id=some ee->ee.g=g->n<=ee.n/\(ee.n=n->∀b c,ee.Rr=some (b,c)->x=.pointer (some ⟨b,i*ee.k+off,none⟩)):=by
 cases h with
 |rC _ _ h=>exact h.VZ.elim|p _ _ _ _ _ _ h1 h2 h3=>exact⟨h1,h2,h3⟩
def VD.Si{cs:List AV}(h:VD w U (.P cs) x):∃(b off:Nat)(f:Nat->Value),x=.pointer (some ⟨b,off,none⟩)/\U b/\b<w.heap.size/\
  (∀j,j<cs.length->w.cell? ⟨b,off+j,none⟩=some (f j))/\(∀j (h:j<cs.length),cs[j].one=true)/\∀j (h:j<cs.length),VD w U cs[j] (f j):=by
 cases h with|P _ b off f h1 h2 h3 h4 h5=>exact⟨b,off,f,rfl,h1,h2,h3,h4,h5⟩
theorem VD.Rv{es:List AV}{full:Bool}(h:VD w U (.sl es full) x):(es=[]/\∃a,x=.slice a 0 0)\/
  ∃(b off cap k:Nat)(f:Nat->Value),x=.slice (some ⟨b,off,none⟩) es.length cap/\U b/\b<w.heap.size/\es.length<=cap/\cap<=maxLen/\(full=true->cap=es.length)/\0<k/\
   (∀i (h:i<es.length),es[i].cells.length=k)/\
   (∀j,j<es.length*k->w.cell? ⟨b,off+j,none⟩=some (f j))/\
   (∀i (h:i<es.length) j (h':j<es[i].cells.length),es[i].cells[j].one=true)/\
   (∀i (h:i<es.length) j (h':j<es[i].cells.length),VD w U es[i].cells[j] (f (i*k+j))):=by
 cases h with
 |nil _ a=>exact .inl ⟨rfl,a,rfl⟩|sl _ _ b off cap k f h1 h2 h3 h4 h5 h6 h7 h8 h9 bF=>exact .inr ⟨b,off,cap,k,f,rfl,h1,h2,h3,h4,h5,h6,h7,h8,h9,bF⟩
def VD.RP(v:Value):VD w U (RP v) v:=by
 unfold Sym.RP;split
 .exact .nil _ _
 split
 .rename_i h;exact .lit _ h
 exact .bad _
def VD.bk(v:Value):VD w U (bk v) v:=by
 unfold Sym.bk;split
 .rename_i cs;split
  .rename_i h;rw[FR]at h;refine .agg _ _ sM ?_ ?_
   .intro i hi;simp only[nw];exact h _ (gM _)
   intro i hi;simp only[nw,Jf];rw[gA,LS Ks];exact VD.RP _
  exact .bad _
 exact VD.RP _
def VD.rE{t k:Nat}{es:List AV}(h:VD w U (.Rc t k es) x):False:=C3
def VR.rE{t k:Nat}{es:List AV}(h:VR w U e G (.Rc t k es) x):False:=by cases h with|rC _ _ h=>exact h.rE
def VR.Cc{g:Nat}(h:VR w U e G (.gl g) x):x=.pointer (some ⟨g,0,none⟩):=by cases h with|rC _ _ h=>cases h;rfl
end inv
def Bm(C:Cx)(e:bQ)(G:Nat->Prop)(g:Nat)(hp:Hp)(w:World)(r:R)(res:Result Next):Prop:=
 ∃nx w' e',res=.ok nx w'/\cH w' e' (Bb G g) (r.2.2++hp)/\Z7 w e G w' e' (Bb G g)/\ke C w' e' (Bb G g)/\OL C w'/\
  ((∃xv,nx=.value xv/\VR w' (UE e') e' (Bb G g) r.2.1 xv)\/(nx=.skip/\r.2.1=.bad))
structure jC(C:Cx)(e:bQ)(G:Nat->Prop)(g:Nat)(hp:Hp)(w:World):Prop where
 hr:cH w e G hp
 ln:ke C w e G
 fr:OL C w
 ng:¬G g
def Z7.wide(w:World)(e:bQ)(G:Nat->Prop)(g:Nat):Z7 w e G w e (Bb G g):=
 ⟨lR _,fun _ h=>.inl h,fun _ _ h=>h,fun _ _ _=>rfl,fun _ SV h _=>⟨SV,h,rfl,rfl,.inl ⟨rfl,rfl⟩⟩⟩
def cH.agf{w:World}{e:bQ}{G G':Nat->Prop}{hp:Hp}(h:cH w e G hp)(hg:∀g,G g->G' g):cH w e G' hp:=by
 have x:Z7 w e G w e G':=⟨lR _,hg,fun _ _ h=>h,fun _ _ _=>rfl,fun _ SV h _=>⟨SV,h,rfl,rfl,.inl ⟨rfl,rfl⟩⟩⟩;exact⟨h.dead,fun id g ob hi=>by
  obtain⟨ee,h1,h2,h3,h4⟩:=h.live id g ob hi;exact⟨ee,h1,h2,hg _ h3,h4.ext x fun b c _=>⟨rfl,fun _ _ h=>⟨rfl,h⟩⟩⟩,h.inj,h.lt,h.nz,h.kl,h.ko,h.kk⟩
def cH.wide{w:World}{e:bQ}{G:Nat->Prop}{hp:Hp}{g:Nat}(h:cH w e G hp):cH w e (Bb G g) hp:=h.agf fun _ h=>.inl h
def ke.wide{C:Cx}{w:World}{e:bQ}{G:Nat->Prop}(h:ke C w e G)(g:Nat):ke C w e (Bb G g):=⟨h.tI,h.BA,h.ext.trans (Z7.wide w e G g),h.jR⟩
structure XO(T:vp)(w:World)(U:Nat->Prop):Prop where
 cell:∀g cs,Sb T.gl g=some cs->VD w U (.P cs) (.pointer (some ⟨g,0,none⟩))
 full:∀p∈T.full,U p.1/\p.1<w.heap.size/\∃t fz,w.heap[p.1]?=some (.cells p.2 t fz)
def XO.mono{T:vp}{w w':World}{U U':Nat->Prop}(h:XO T w U)(hs:w.heap.size<=w'.heap.size)(hU:∀b,b<w.heap.size->U b->U' b)(hh:∀b,b<w.heap.size->U b->w'.heap[b]?=w.heap[b]?):XO T w' U':=by
 refine⟨fun g cs hg=>(h.cell g cs hg).mono hs hU hh,fun p hp=>?_⟩;obtain⟨h1,h2,t,fz,h3⟩:=h.full p hp;exact⟨hU _ h2 h1,tL h2 hs,t,fz,(hh _ h2 h1).trans h3⟩
structure PT(C:Cx)(T:vp):Prop where
 ty:JE C.P T
 gl:XO T C.w0 (UE C.e0)
theorem PT.Hm{C:Cx}{T:vp}(h:PT C T){w:World}{e:bQ}{G:Nat->Prop}(hl:ke C w e G){v:AV}{x:Value}(hv:VR w (UE e) e G v x):VR w (UE e) e G (Hm T v) x:=by
 cases v with
 |gl g=>
  simp only[Sym.Hm];cases hg:Sb T.gl g with
  |none=>exact hv|some cs=>rw[hv.Cc];exact .rC _ _ ((h.gl.cell g cs hg).mono hl.ext.size hl.ext.un hl.ext.same)
 |_=>exact hv
section
variable{C:Cx}{e:bQ}{G:Nat->Prop}{g:Nat}{hp:Hp}{w:World}
def Bm.pure(p:jC C e G g hp w){v:AV}{ob:Prop}{xv:Value}(h:VR w (UE e) e G v xv):Bm C e G g hp w (ob,v,[]) (.ok (.value xv) w):=by have x:=Z7.wide w e G g;exact⟨_,w,e,rfl,p.hr.wide,x,p.ln.wide g,p.fr,.inl ⟨xv,rfl,h.ext x⟩⟩
def JE.fit{P:Program}{T:vp}(h:JE P T){t:Nat}{ty:Ty}(ht:(tl T t).ty=ty)(SO:ty≠.other):uz P t (tl T t):=by
 rcases h t with h|h
 .rw[h]at ht;exact absurd ht.symm SO
 exact h
def JE.fits{P:Program}{T:vp}(h:JE P T){t:Nat}(ht:(tl T t).size≠0):uz P t (tl T t):=by
 rcases h t with h|h
 .rw[h]at ht;exact absurd rfl ht
 exact h
def uz.under{P:Program}{t:Nat}{ti:TI}(h:uz P t ti):∃d,P.underlying t=some d/\ti.ty.fits d:=by obtain⟨d,h1,h2,_⟩:=h.desc;exact⟨d,h1,h2⟩
def lZ{P:Program}{t:Nat}{ti:TI}(h:uz P t ti)(w:World):(isAgg t).run P w=.ok ti.agg w:=by obtain⟨d,h1,h2,h3⟩:=h.desc;rw[h3];unfold isAgg;rw[ig,pP h1];simp only[GQ];cases d<;>rfl
def xO{P:Program}{t:Nat}{ti:TI}(h:uz P t ti)(w:World):(sizeOf t).run P w=.ok ti.size w:=by obtain⟨i,h1,h2,_⟩:=h.info;simp[sizeOf,typeInfo,h1,h2]
def ZW{P:Program}{t:Nat}{ti:TI}(h:uz P t ti)(w:World):(zeroValue t).run P w=.ok ti.H3 w:=by obtain⟨i,h1,_,_,h2⟩:=h.info;simp[zeroValue,typeInfo,h1,h2]
def Cu(p:jC C e G g hp w)(ob:Prop)(k:IntKind)(n:Int):Bm C e G g hp w (ob,.lit (.int k n),[]) (.ok (.value (.int k n)) w):=
 .pure p (.rC _ _ (.lit _ rfl))
def re(p:jC C e G g hp w)(ob:Prop)(b:Bool):Bm C e G g hp w (ob,.lit (.bool b),[]) (.ok (.value (.bool b)) w):=
 .pure p (.rC _ _ (.lit _ rfl))
def wrap_i64{r:Int}(h:-9223372036854775808<=r/\r<=9223372036854775807):IntKind.i64.wrap r=r:=IntWalk.i64_in r h
def Wz(p:jC C e G g hp w)(k:IntKind)(r:Int)(h:(b6 k r).1):Bm C e G g hp w (b6 k r) (.ok (.value (.int k (k.wrap r))) w):=by cases k<;>simp only[b6,R.val]at h ⊢<;>first|exact Cu p _ _ _|(rw[wrap_i64 h];exact Cu p _ _ _)
def ae0(p:jC C e G g hp w)(op:BinOp)(t:TypeId)(k:IntKind)(a b:Int)(x y:Operand)(h:(S7 op k a b).1):
  Bm C e G g hp w (S7 op k a b) (((do eqGuard op t x y (.int k a) (.int k b);let v<-binOp op t (.int k a) (.int k b);Pure.pure (Next.value v)):Sem Next).run C.P w):=by
 cases op<;>simp only[S7,R.val,R.no]at h ⊢<;>simp only[go_sem,ig,fX,GQ,Op.intArith,Op.intDiv]
 case add=>exact Wz p k _ h
 case sub=>exact Wz p k _ h
 case mul=>exact Wz p k _ h
 case quo=>simp only[h,j4,fX,GQ];exact Cu p _ _ _
 case rem=>simp only[h,j4,fX,GQ];exact Cu p _ _ _
 case eql=>rw[show(a==b)=decide (a=b) from rfl];exact re p _ _
 case neq => rw [show (a != b) = decide (a ≠ b) from by by_cases h : a = b <;> simp [h]]; exact re p _ _
 case lss=>exact re p _ _
 case leq=>exact re p _ _
 case gtr=>exact re p _ _
 case geq=>exact re p _ _
 case and=>exact Cu p _ _ _
 case or=>exact Cu p _ _ _
 case xor=>exact Cu p _ _ _
 case andNot=>exact Cu p _ _ _
theorem arx(p:jC C e G g hp w){ti:TI}{t:Nat}(_hf:uz C.P t ti){cs:List AV}{cv:Array Value}(hl:cs.length<=cv.size)(h1:∀i (h:i<cs.length),cs[i].one=true)(hv:∀i (h:i<cs.length),VR w (UE e) e G cs[i] (cv.getD i undef))(m9:ti.agg=false->ti.size=1)(h:(F2 ti cs).1):
  Bm C e G g hp w (F2 ti cs) (.ok (.value (if ti.agg then .agg (cv.extract 0 ti.size) else cv.getD 0 undef)) w):=by
 unfold F2 R.val at h ⊢;simp only at h;refine .pure p ?_;cases fW:ti.agg with
 |true=>
  simp only[ql];refine .agg _ _ xF ?_ ?_
  .intro i hi;simp only[DA];exact h1 _ _
  intro i hi;have jk:i<ti.size/\i<cs.length:=vT;simp only[DA];have:=hv i jk.2;rw[gA]at this ⊢;rw[Oj,iP oM];simpa using this
 |false=>simp only[C9,j4];have hs:=m9 fW;have h0:0<cs.length:=oM;have:=hv 0 h0;rw[gE,gG h0];exact this
end
open Go
section
variable{C:Cx}{e:bQ}{G:Nat->Prop}{g:Nat}{hp:Hp}{w:World}
def Dt(b o n:Nat):Addr.add ⟨b,o,none⟩ n=⟨b,o+n,none⟩:=Rw b o n
def abT{n:Nat}(f:Nat->Value){i:Nat}(h:i<n):(((List.range n).map f).toArray).getD i undef=f i:=by simp[gA,h]
theorem GZ{P:Program}{t:Nat}{ti:TI}(hf:uz P t ti)(w:World)(b off:Nat)(f:Nat->Value)(hc:∀j,j<ti.size->w.cell? ⟨b,off+j,none⟩=some (f j)):
  (Instr.loadAt t (.pointer (some ⟨b,off,none⟩))).run P w=.ok (if ti.agg then .agg ((List.range ti.size).map f).toArray else f 0) w:=by
 unfold Instr.loadAt Instr.sureAddr loadVar;rw[ig,fX,GQ,ig,lZ hf,GQ];cases m9:ti.agg with
 |true=>simp only[ql,ig,xO hf,GQ,fX];rw[run_loadCells w ⟨b,off,none⟩ ti.size f (fun j hj=>by rw[Dt];exact hc j hj)];rfl|false=>have h1:=hf.one m9;have h0:=hc 0 oM;simp only[C9,j4];rw[run_load];simp only[dq]at h0;rw[h0]
theorem qw{ti:TI}{t:Nat}(hf:uz C.P t ti){cs:List AV}{b off:Nat}{f:Nat->Value}(hc:∀j,j<cs.length->w.cell? ⟨b,off+j,none⟩=some (f j))(h1:∀i (h:i<cs.length),cs[i].one=true)(hv:∀i (h:i<cs.length),VR w (UE e) e G cs[i] (f i))(h:(F2 ti cs).1):
  ∃xv,(Instr.loadAt t (.pointer (some ⟨b,off,none⟩))).run C.P w=.ok xv w/\VR w (UE e) e G (F2 ti cs).2.1 xv:=by
 have hs:ti.size<=cs.length:=h.2;refine⟨_,GZ hf w b off f fun j hj=>hc j oM,?_⟩;unfold F2 R.val;cases fW:ti.agg with
 |true=>
  simp only[ql];refine .agg _ _ xF ?_ ?_
  .intro i hi;simp only[DA];exact h1 _ _
  intro i hi;have jk:i<ti.size:=vT;simp only[DA];rw[abT f jk];exact hv i _
 |false=>
  simp only[C9,j4];have h0:0<cs.length:=by have:=hf.one fW;omega
  rw[gE,gG h0];exact hv 0 h0
def Cs{cs:List AV}(h1:∀i (h:i<cs.length),cs[i].one=true)(n:Nat):∀i (h:i<(cs.drop n).length),(cs.drop n)[i].one=true:=by intro i hi;simp only[qY];exact h1 _ _
def cell_of_heap{b o:Nat}{cs:Array Value}{t:Nat}{fz:Az}(h:w.heap[b]?=some (.cells cs t fz))(ho:o<cs.size):w.cell? ⟨b,o,none⟩=some (cs.getD o undef):=by simp[World.cell?,h,gA,ho]
theorem VC.Je{B c:Nat}{av:AV}{v:Value}(h:VC w e G B c av v)(hn:av.Je=true):VR w (UE e) e G av v:=by
 cases h with
 |val _ _ h=>exact h|Mt=>cases hn
 |Rc=>cases hn
theorem DV{el v:AV}{off:Nat}(h:off<el.cells.length)(hv:v.cells=[v]):(Zt el off v).cells=el.cells.set off v:=by
 cases el with
 |agg cs=>rfl|_=>simp only[AV.cells,WC]at h;obtain rfl:off=0:=oM;exact hv
def PR{es:List AV}{i:Nat}(h:i<es.length):es.getD i .bad=es[i]:=by rw[gE,gG h];rfl
theorem acY(p:jC C e G g hp w){id did:Nat}(SO:id≠did){ee:EE}(he:e id=some ee){t k i off t' k':Nat}{es xs:List AV}(hi:i<es.length)(RF:off<es[i].cells.length){b bcap:Nat}(hb:ee.Rr=some (b,bcap))(jz:Jh w e G (.own t k es) ee)(hc:es[i].cells[off]=.Rc t' k' xs){x:Value}(hx:∃cs,Cl w b cs t/\x=cs.getD (i*k+off) undef){P:Prop}:
  Bm C e G g hp w (P,.l did g 0 xs.length,[(did,some (g,.own t' k' xs)),(id,some (ee.g,.own t k (es.set i (Zt es[i] off (.l did g 0 xs.length)))))]) (.ok (.value x) w):=by
 obtain⟨cs0,fK,rfl⟩:=hx;obtain⟨hk,hn,zU,DN,h1,rm⟩:=jz;rw[hb]at rm;obtain⟨hm,Zm,cs,hh,hs,hv⟩:=rm;obtain⟨rfl,_⟩:=fK.inj hh;have Uu:=hv i hi off RF;rw[hc]at Uu;have main:∀(da:Option (Az))(kd:Nat->Option (Az)),
   (∀b1 B c,kd b1=some (B,c)->e.Rc b1=some (B,c))->
   (∀b1 B c,e.Rc b1=some (B,c)->(B,c)≠(b,i*k+off)->kd b1=some (B,c))->
   (∀b' c',da=some (b',c')->e.Rc b'=some (b,i*k+off)/\kd b'=none)->
   cL ⟨g,da,k',xs.length⟩ 0 xs.length (cs0.getD (i*k+off) undef)->(cs0.getD (i*k+off) undef).oneCell'=true->
   (∀x:Z7 w e G w ⟨fun j=>if j=did then some ⟨g,da,k',xs.length⟩ else e j,e.z,kd⟩ (Bb G g),Jh w ⟨fun j=>if j=did then some ⟨g,da,k',xs.length⟩ else e j,e.z,kd⟩ (Bb G g) (.own t' k' xs) ⟨g,da,k',xs.length⟩)->
   Bm C e G g hp w (P,.l did g 0 xs.length,[(did,some (g,.own t' k' xs)),(id,some (ee.g,.own t k (es.set i (Zt es[i] off (.l did g 0 xs.length)))))]) (.ok (.value (cs0.getD (i*k+off) undef)) w):=by
  intro da kd kd1 kd2 hblk jJ wE DW;generalize X6:(⟨fun j=>if j=did then some ⟨g,da,k',xs.length⟩ else e j,e.z,kd⟩:bQ)=e' at DW;have e1:e' did=some ⟨g,da,k',xs.length⟩:=by subst X6;simp
  have e2:∀j,j≠did->e' j=e j:=by intro j hj;subst X6;simp[hj]
  have e3:e'.z=e.z:=by subst X6;rfl
  have e4:e'.Rc=kd:=by subst X6;rfl
  have tX:∀b1,I2 e' b1->I2 e b1\/∃c',da=some (b1,c'):=by
   rintro b1 ⟨j,ej,c1,h1,h2⟩;by_cases hj:j=did
   .subst hj;rw[e1]at h1;cases h1;exact .inr ⟨c1,h2⟩
   rw[e2 j hj]at h1;exact .inl ⟨j,ej,c1,h1,h2⟩
  have HL:I2 e b:=⟨id,ee,bcap,he,hb⟩;have ext:Z7 w e G w e' (Bb G g):=by
   refine Z7.mk' (lR _) (fun _ h=>.inl h) e3 (fun b1 _ ho=>?_) (fun _ _ _=>rfl) fun j ej hj hG=>?_
   .rcases ho with ho|⟨B,c1,P',ho⟩
    .rcases tX b1 ho with ho|⟨c',ho⟩
     .exact .inl ho
     exact .inr ⟨b,_,(hblk b1 c' ho).1,HL⟩
    rw[e4]at P';have BF:=kd1 _ _ _ P';rcases tX B ho with ho|⟨c',ho⟩
    .exact .inr ⟨B,c1,BF,ho⟩
    have:=p.hr.kk _ _ _ BF;rw[(hblk B c' ho).1]at this;cases this
   by_cases Wl:j=did
   .subst Wl;rw[e1]at hj;cases hj;exact absurd hG p.ng
   rw[e2 j Wl]at hj;exact⟨ej,hj,rfl,rfl,.inl ⟨rfl,rfl⟩⟩
  have oE:VR w (UE e') e' (Bb G g) (.l did g 0 xs.length) (cs0.getD (i*k+off) undef):=by refine .l _ _ _ _ _ (.inr rfl) wE fun SV X6 _=>?_;rw[e1]at X6;cases X6;exact⟨sM,fun _=>jJ⟩
  have own_of:∀b1,TT e' b1->TT e b1:=by
   intro b1 ho;rcases ho with ho|⟨B,c1,P',ho⟩
   .rcases tX b1 ho with ho|⟨c',ho⟩
    .exact .inl ho
    exact .inr ⟨b,_,(hblk b1 c' ho).1,HL⟩
   rw[e4]at P';have BF:=kd1 _ _ _ P';rcases tX B ho with ho|⟨c',ho⟩
   .exact .inr ⟨B,c1,BF,ho⟩
   have:=p.hr.kk _ _ _ BF;rw[(hblk B c' ho).1]at this;cases this
  refine⟨_,w,e',rfl,?_,ext,?_,p.fr,.inl ⟨_,rfl,oE⟩⟩
  .refine p.hr.step (fun j=>j=did\/j=id) ext e3 (fun j hj=>?_) (fun j ej b1 c1 hj AQ FZ=>⟨rfl,fun b2 c2 BF=>⟨rfl,?_⟩⟩) (fun j hj hn=>?_) (fun j gj obj hj hg=>?_) (fun j ej b1 c1 hj AQ FZ=>?_) (fun b1 B c1 P'=>?_) (fun b1 ho=>?_) (fun b1 B c1 P'=>?_)
   .simp only[not_or]at hj;refine⟨e2 j hj.1,?_⟩;simp only[Mb,fj];rw[Hp.RG _ _ hj.1,Hp.RG _ _ hj.2]
   .simp only[not_or]at hj;rw[e4];refine kd2 _ _ _ BF ?_;intro heq;simp only[jH]at heq;obtain⟨rfl,_⟩:=heq;exact hj.2 (p.hr.inj j id ej ee b1 c1 bcap AQ he FZ hb)
   .simp only[Mb,fj]at hn;rcases hj with rfl|rfl
    .rw[Hp.mz]at hn;cases hn
    rw[Hp.RG _ _ SO,Hp.mz]at hn;cases hn
   .simp only[Mb,fj]at hg;rcases hj with rfl|rfl
    .rw[Hp.mz]at hg;cases hg;exact⟨_,e1,rfl,.inr rfl,DW ext⟩
    rw[Hp.RG _ _ SO,Hp.mz]at hg;cases hg;refine⟨ee,(e2 _ SO).trans he,rfl,.inl (p.hr.gen _ _ he),hk,by simp[hn],zU,?_,?_,?_⟩
    .intro l hl;rw[PU];split
     .rw[DV RF rfl,su];exact DN i hi
     exact DN _ _
    .intro l hl j hj;simp only[PU]at hj ⊢;by_cases T6:i=l
     .simp only[T6,ql]at hj ⊢;subst T6;simp only[DV RF (show AV.cells (.l did g 0 xs.length)=[_] from rfl)]at hj ⊢;rw[PU];split
      .rfl
      exact h1 _ _ _ _
     simp only[T6,j4]at hj ⊢;exact h1 _ _ _ _
    rw[hb];refine⟨hm,by simpa using Zm,cs0,fK,hs,?_⟩;intro l hl j hj;have Ig:l<es.length:=w9;have keep:∀(tw:j<es[l].cells.length),¬(l=i/\j=off)->VC w e' (Bb G g) b (l*k+j) es[l].cells[j] (cs0.getD (l*k+j) undef):=by
     intro tw atQ;refine(hv l Ig j tw).ext ext fun b1 aZ=>⟨rfl,?_⟩;rw[e4];refine kd2 _ _ _ aZ ?_;intro heq;simp only[jH,ul]at heq;have DE:j<k:=by have:=DN l Ig;omega
     have sL:off<k:=by have:=DN i hi;omega
     have d1:=RN (i:=l) DE;have d2:=RN (i:=i) sL;rw[heq]at d1;exact atQ ⟨by rw[<-d1.1,d2.1],by rw[<-d1.2,d2.2]⟩
    simp only[PU]at hj ⊢;by_cases T6:i=l
    .subst T6;simp only[ql]at hj ⊢;simp only[DV RF (show AV.cells (.l did g 0 xs.length)=[_] from rfl)]at hj ⊢;rw[PU];by_cases dh:off=j
     .subst dh;rw[iP rfl];exact .val _ _ oE
     rw[iN dh];exact keep Ou (fun h=>dh h.2.symm)
    simp only[T6,j4]at hj ⊢;exact keep hj (fun h=>T6 h.1.symm)
   .rcases hj with rfl|rfl
    .rw[e1]at AQ;cases AQ;have vk:=(hblk b1 c1 FZ).1;obtain⟨q1,q2,q3⟩:=p.hr.kl _ _ _ vk;refine⟨q1,q3,fun j' JA c' tw s7=>?_⟩;by_cases h:j'=j
     .exact h
     rw[e2 j' h]at tw;have:=p.hr.ko b1 ⟨j',JA,c',tw,s7⟩;rw[vk]at this;cases this
    rw[e2 _ SO,he]at AQ;cases AQ;rw[hb]at FZ;cases FZ;refine⟨p.hr.lt _ _ _ _ he hb,p.hr.nz _ _ _ _ he hb,fun j' JA c' tw s7=>?_⟩;by_cases h:j'=did
    .subst h;rw[e1]at tw;cases tw;have:=p.hr.ko b HL;rw[(hblk b c' s7).1]at this;cases this
    rw[e2 j' h]at tw;exact p.hr.inj _ _ _ _ _ _ _ tw he s7 hb
   .rw[e4]at P';exact p.hr.kl _ _ _ (kd1 _ _ _ P')
   .rw[e4];rcases tX b1 ho with ho|⟨c',ho⟩
    .cases VB:kd b1 with
     |none=>rfl|some q=>have:=p.hr.ko b1 ho;rw[kd1 _ q.1 q.2 VB]at this;cases this
    exact(hblk b1 c' ho).2
   rw[e4]at P' ⊢;have:=p.hr.kk _ _ _ (kd1 _ _ _ P');cases VB:kd B with
   |none=>rfl|some q=>rw[kd1 _ q.1 q.2 VB]at this;cases this
  exact p.ln.step p.fr.size ext e3 fun b1 _ ho=>own_of b1 ho
 generalize pA:cs0.getD (i*k+off) undef=x at Uu main;cases Uu with
 |val _ _ h=>exact h.rE.elim|Mt _ _ a h0=>exact main none e.Rc (fun _ _ _ h=>h) (fun _ _ _ h _=>h) sM ⟨rfl,rfl,a,rfl⟩ rfl fun ext=>⟨rfl,rfl,h0,sM,sM,rfl⟩|Rc _ _ _ b' cap cs q1 q2 q3 q4 q5 q6 q7 q8 q9=>
  refine main (some (b',cap)) (fun b1=>if b1=b' then none else e.Rc b1) (fun b1 B c h=>?_) (fun b1 B c h SO=>?_) ?_ ⟨cap,sM,sM,q5⟩ rfl fun ext=>?_
  .split at h
   .cases h
   exact h
  .rw[iN ?_]
   .exact h
   rintro rfl;rw[q1]at h;cases h;exact SO rfl
  .rintro b1 c1 ⟨⟩;exact⟨q1,sM⟩
  exact⟨rfl,rfl,q4,q7,q8,q6,q5,cs,q2,q3,fun i hi j hj=>.val _ _ (.rC _ _ ((q9 i hi j hj).mono ext.size ext.un ext.same))⟩
theorem akK(p:jC C e G g hp w){did:Nat}{ti:TI}{t:Nat}(hf:ti.size≠0->uz C.P t ti){av:AV}{x:Value}(hx:VR w (UE e) e G av x)(h:(YU ti did g hp av).1):
  Bm C e G g hp w (YU ti did g hp av) (((Instr.loadAt t x).run C.P w).andThen fun v w=>.ok (.value v) w):=by
 cases av with
 |P cs=>obtain⟨b,off,f,rfl,h1,h2,h3,h4,h5⟩:=hx.Si.Si;obtain⟨xv,hr,hv⟩:=qw (C:=C) (hf h.1) h3 h4 (fun i hi=>.rC _ _ (h5 i hi)) h;rw[hr];exact .pure p hv
 |p id g' n i off=>
  simp only[YU]at h ⊢;cases hg:hp.get id with
  |none=>simp only[hg]at h;exact h.elim|some q=>
   obtain⟨g'',ob⟩:=q;obtain⟨_,_,hi⟩:=hx.nj;obtain⟨ee,he,V8,_,jz⟩:=p.hr.live id g'' ob hg;cases ob with
   |mp _=>simp only[hg]at h;exact h.elim|ms _=>simp only[hg]at h;exact h.elim|bd _ _ _=>simp only[hg]at h;exact h.elim|box cs=>
    simp only[hg]at h ⊢;obtain⟨rfl,rfl,rfl,h⟩:=h;obtain⟨hn,h1,b,c,vs,T,hb,hh,hs,hv⟩:=jz;obtain⟨_,hi⟩:=hi ee he V8;obtain rfl:=hi hn b c hb;simp only[gw,cy];obtain⟨xv,hr,hv⟩:=qw (C:=C) (hf h.1) (cs:=cs.drop off) (w:=w) (e:=e) (G:=G) (b:=b) (off:=off) (f:=fun j=>vs.getD (off+j) undef) (fun j hj=>by rw[cell_of_heap hh YH])
     (Cs h1 off) (fun j hj=>by simp only[qY];exact hv _ _) h
    rw[hr];exact .pure p hv
   |own T k es=>
    simp only[hg]at h ⊢;have getb:∀(_:g''=g')(_:n=es.length)(_:i<es.length),∃b bcap cs,ee.Rr=some (b,bcap)/\x=.pointer (some ⟨b,i*k+off,none⟩)/\Cl w b cs T/\cs.size=bcap*k/\i*k+k<=cs.size/\
      (∀i (h:i<es.length) j (h':j<es[i].cells.length),VC w e G b (i*k+j) es[i].cells[j] (cs.getD (i*k+j) undef)):=by
     intro h1 h2 h3;obtain⟨_,hi⟩:=hi ee he oM;obtain⟨hk,hn,zU,DN,q1,hb⟩:=jz;cases OT:ee.Rr with
     |none=>rw[OT]at hb;subst hb;simp at h3|some q=>
      obtain⟨b,bcap⟩:=q;rw[OT]at hb;obtain⟨_,Zm,cs,hh,hs,hv⟩:=hb;have hx:=hi oM b bcap OT;rw[hk]at hx;refine⟨b,bcap,cs,rfl,hx,hh,hs,?_,hv⟩;rw[hs];calc i*k+k=(i+1)*k:=by rw[BV]
       _<=bcap*k:=RW _ oM
    split at h
    .rename_i t' k' xs m9 tB;obtain⟨h1,h2,h3,h4,h5,h6⟩:=h;obtain⟨b,bcap,cs,hb,t8,hh,hs,xB,hv⟩:=getb h1 h2 h3;have hD:=PR h3;rw[hD]at h6 tB ⊢;rw[PR h6]at tB;have DN:=jz.2.2.2.1 i h3;subst t8;have hr:=GZ (hf h5) w b (i*k+off) (fun _=>cs.getD (i*k+off) undef) (fun j hj=>by
      have:=(hf h5).one m9;have:j=0:=oM;subst this;rw[dq];exact hh.KP oM)
     rw[hr];simp only[m9,C9,j4,GQ];rw[<-V8]at*;have:=acY (P:=ee.g=g'/\n=es.length/\i<es.length/\id≠did/\ti.size≠0/\off<es[i].cells.length) p h4 he h3 h6 hb jz tB ⟨cs,hh,rfl⟩;simpa using this
    obtain⟨h1,h2,h3,Jx,h⟩:=h;obtain⟨b,bcap,cs,hb,t8,hh,hs,xB,hv⟩:=getb h1 h2 h3;have hD:=PR h3;rw[hD]at h Jx ⊢;have DN:=jz.2.2.2.1 i h3;subst t8;obtain⟨xv,hr,hv⟩:=qw (C:=C) (hf h.1) (cs:=es[i].cells.drop off) (w:=w) (e:=e) (G:=G) (b:=b) (off:=i*k+off) (f:=fun j=>cs.getD (i*k+off+j) undef)
     (fun j hj=>by rw[hh.KP YH]) (Cs (fun j hj=>jz.2.2.2.2.1 i h3 j hj) off) (fun j hj=>by
      simp only[qY,lX];exact(hv i h3 _ _).Je (Jx _ (gM _))) h
    rw[hr];exact .pure p hv
 |_=>exact h.elim
end
open Go
section
variable{C:Cx}{e:bQ}{G:Nat->Prop}{g:Nat}{hp:Hp}{w:World}{T:vp}
def zH{t el:Nat}(h:(tl T t).ty=.slice el):elemOf T t=el:=by simp[elemOf,h]
def IW{t n el:Nat}(h:(tl T t).ty=.array n el):elemOf T t=el:=by simp[elemOf,h]
def Kl{P:Program}{t el:Nat}{ei:TI}(hu:P.underlying t=some (.slice el))(hf:uz P el ei)(b off n cap:Nat)(k:IntKind)(i:Int)(h0:0<=i)(h1:i<n)(w:World):
  (Instr.indexAt t (.slice (some ⟨b,off,none⟩) n cap) (.int k i)).run P w=.ok (.pointer (some ⟨b,off+i.toNat*ei.size,none⟩)) w:=by
 simp[Instr.indexAt,pP hu,asIntOf,h0,h1,xO hf,Dt]
def aar{P:Program}{t m el:Nat}{ei:TI}(hu:P.underlying t=some (.array m el))(hf:uz P el ei)(b off:Nat)(k:IntKind)(i:Int)(h0:0<=i)(h1:i<m)(w:World):
  (Instr.indexAt t (.pointer (some ⟨b,off,none⟩)) (.int k i)).run P w=.ok (.pointer (some ⟨b,off+i.toNat*ei.size,none⟩)) w:=by
 simp[Instr.indexAt,pP hu,asIntOf,Instr.sureAddr,h0,h1,xO hf,Dt]
def VD.W6{U:Nat->Prop}{cs:List AV}{b off:Nat}{f:Nat->Value}(h1:U b)(h2:b<w.heap.size)(h3:∀j,j<cs.length->w.cell? ⟨b,off+j,none⟩=some (f j))(h4:∀j (h:j<cs.length),cs[j].one=true)(h5:∀j (h:j<cs.length),VD w U cs[j] (f j))(n:Nat):
  VD w U (.P (cs.drop n)) (.pointer (some ⟨b,off+n,none⟩)):=by
 refine .P _ b (off+n) (fun j=>f (n+j)) h1 h2 ?_ ?_ ?_
 .intro j hj;simp at hj;rw[lX];exact h3 _ oM
 .intro j hj;simp only[qY];exact h4 _ _
 intro j hj;simp only[qY];exact h5 _ _
theorem wY(hr:cH w e G hp){id g' n i off:Nat}{x:Value}(hx:VR w (UE e) e G (.p id g' n i off) x)(hh:hp.has id g' n):
  ∃ee b c,e id=some ee/\ee.g=g'/\ee.n=n/\ee.Rr=some (b,c)/\x=.pointer (some ⟨b,i*ee.k+off,none⟩):=by
 obtain⟨_,_,QB⟩:=hx.nj;unfold Hp.has at hh;cases hg:hp.get id with
 |none=>simp only[hg]at hh|some q=>
  obtain⟨g'',ob⟩:=q;obtain⟨ee,he,V8,_,jz⟩:=hr.live id _ _ hg;cases ob with
  |mp _=>simp only[hg]at hh|ms _=>simp only[hg]at hh|bd _ _ _=>simp only[hg]at hh;obtain⟨rfl,rfl⟩:=hh;obtain⟨hn,b,c,_,_,hb,_⟩:=jz;obtain⟨_,hi⟩:=QB ee he V8;exact⟨ee,b,c,he,V8,hn,hb,hi hn b c hb⟩
  |box cs=>simp only[hg]at hh;obtain⟨rfl,rfl⟩:=hh;obtain⟨hn,_,b,c,vs,T,hb,_⟩:=jz;obtain⟨_,hi⟩:=QB ee he V8;exact⟨ee,b,c,he,V8,hn,hb,hi hn b c hb⟩
  |own t k es=>
   simp only[hg]at hh;obtain⟨rfl,rfl,SO⟩:=hh;obtain⟨_,hn,_,_,_,hb⟩:=jz;obtain⟨_,hi⟩:=QB ee he V8;cases OT:ee.Rr with
   |none=>rw[OT]at hb;subst hb;exact absurd rfl SO|some q=>obtain⟨b,c⟩:=q;exact⟨ee,b,c,he,V8,hn,OT,hi hn b c OT⟩
def Kz{id g' n i off Xh:Nat}{x:Value}(hx:VR w (UE e) e G (.p id g' n i off) x){ee:EE}{b c:Nat}(he:e id=some ee)(hn:ee.n=n)(hb:ee.Rr=some (b,c)):VR w (UE e) e G (.p id g' n i Xh) (.pointer (some ⟨b,i*ee.k+Xh,none⟩)):=by
 obtain⟨hG,_,_⟩:=hx.nj;refine .p _ _ _ _ _ _ hG rfl fun SV X6 _=>?_;rw[he]at X6;cases X6;refine⟨oM,fun _ b' c' C6=>?_⟩;rw[hb]at C6;cases C6;rfl
theorem abE(p:jC C e G g hp w)(hT:JE C.P T){t:Nat}{av ai:AV}{x xi:Value}(hx:VR w (UE e) e G av x)(hi:VR w (UE e) e G ai xi)(h:(pb (tl T t) (tl T (elemOf T t)) hp av ai).1):
  Bm C e G g hp w (pb (tl T t) (tl T (elemOf T t)) hp av ai) (((Instr.indexAt t x xi).run C.P w).andThen fun v w=>.ok (.value v) w):=by
 cases av with
 |sl es full=>
  cases ai with
  |lit v=>
   cases v with
   |int k i=>
    obtain⟨rfl,_⟩:=hi.VI;cases qp:(tl T t).ty with
    |slice el=>
     obtain⟨d,hu,hd⟩:=(hT.fit qp sM).under;rw[qp]at hd;cases hd
     rw[zH qp]at h ⊢;simp only[pb,qp,R.val]at h ⊢;obtain⟨h0,h1,h2⟩:=h;have PP:i.toNat<es.length:=oM;have hD:es.getD i.toNat .bad=es[i.toNat]:=by rw[gE,gG PP];rfl
     rw[hD]at h2 ⊢;rcases hx.Rv.Rv with ⟨rfl,_⟩|⟨b,off,cap,k',f,rfl,hb,Mp,_,_,_,zU,hk,hc,oS,hv⟩
     .simp at PP
     have DJ:=hk _ PP;have Wv:=hT.fits (t:=el) oM;rw[Kl hu Wv b off _ cap k i h0 oM];simp only[GQ];refine .pure p (.rC _ _ (.P _ b _ (fun j=>f (i.toNat*k'+j)) hb Mp ?_ (oS _ PP) (hv _ PP)));intro j hj;rw[<-h2,DJ,lX];refine hc _ ?_;calc i.toNat*k'+j<i.toNat*k'+k':=oM
      _=(i.toNat+1)*k':=by rw[BV]
      _<=es.length*k':=RW _ oM
    |_=>simp only[pb,qp]at h;exact h.elim
   |_=>exact h.elim
  |_=>exact h.elim
 |l id g' off len=>
  cases ai with
  |lit v=>
   cases v with
   |int k i=>
    obtain⟨rfl,_⟩:=hi.VI;cases qp:(tl T t).ty with
    |slice el=>
     obtain⟨d,hu,hd⟩:=(hT.fit qp sM).under;rw[qp]at hd;cases hd
     rw[zH qp]at h ⊢;cases hg:hp.get id with
     |none=>simp only[pb,qp,hg]at h;exact h.elim|some q=>
      obtain⟨g'',ob⟩:=q;cases ob with
      |box cs=>simp only[pb,qp,hg]at h;exact h.elim|mp _=>simp only[pb,qp,hg]at h;exact h.elim|ms _=>simp only[pb,qp,hg]at h;exact h.elim|bd _ _ _=>simp only[pb,qp,hg]at h;exact h.elim|own T' k' es=>
       simp only[pb,qp,hg,R.val]at h ⊢;obtain⟨rfl,hl,rfl,h0,h1⟩:=h;obtain⟨hG,_,QB⟩:=hx.UF;obtain⟨ee,he,V8,_,jz⟩:=p.hr.live id _ _ hg;obtain⟨hk,hn,zU,DN,oS,hb⟩:=jz;obtain⟨_,sL⟩:=QB ee he V8;have sL:=sL oM;have Wv:=hT.fits (t:=el) oM;unfold cL at sL;cases OT:ee.Rr with
       |none=>rw[OT]at sL;obtain⟨_,RO,_⟩:=sL;omega
       |some q=>obtain⟨b,bcap⟩:=q;rw[OT]at sL;obtain⟨cap,rfl,_,_⟩:=sL;rw[Kl hu Wv b _ len cap k i h0 h1];simp only[GQ];refine .pure p (.p _ _ _ _ _ _ hG rfl fun SV X6 X0=>?_);rw[he]at X6;cases X6;refine⟨oM,fun _ b' c' SM=>?_⟩;rw[OT]at SM;cases SM;rw[hk];simp[Dl]
    |_=>simp only[pb,qp]at h;exact h.elim
   |_=>exact h.elim
  |_=>exact h.elim
 |p id g' n j off=>
  cases ai with
  |lit v=>
   cases v with
   |int k i=>
    obtain⟨rfl,_⟩:=hi.VI;cases qp:(tl T t).ty with
    |array m el=>
     obtain⟨d,hu,hd⟩:=(hT.fit qp sM).under;rw[qp]at hd;cases hd
     rw[IW qp]at h ⊢;simp only[pb,qp,R.val]at h ⊢;obtain⟨hh,hs,h0,h1⟩:=h;have Wv:=hT.fits (t:=el) hs;obtain⟨ee,b,c,he,V8,hn,hb,rfl⟩:=wY p.hr hx hh;rw[aar hu Wv b _ k i h0 h1,lX];simp only[GQ];exact .pure p (Kz hx he hn hb)
    |_=>simp only[pb,qp]at h;exact h.elim
   |_=>exact h.elim
  |_=>exact h.elim
 |P cs=>
  cases ai with
  |lit v=>
   cases v with
   |int k i=>
    obtain⟨rfl,_⟩:=hi.VI;cases qp:(tl T t).ty with
    |array m el=>
     obtain⟨d,hu,hd⟩:=(hT.fit qp sM).under;rw[qp]at hd;cases hd
     rw[IW qp]at h ⊢;simp only[pb,qp,R.val]at h ⊢;obtain⟨hs,h0,h1⟩:=h;have Wv:=hT.fits (t:=el) hs;obtain⟨b,off,f,rfl,q1,q2,q3,q4,q5⟩:=hx.Si.Si;rw[aar hu Wv b off k i h0 h1];simp only[GQ];exact .pure p (.rC _ _ (VD.W6 q1 q2 q3 q4 q5 _))
    |_=>simp only[pb,qp]at h;exact h.elim
   |_=>exact h.elim
  |_=>exact h.elim
 |_=>exact h.elim
def Ww{P:Program}{t f:Nat}{fs:List (Az)}{a:Array Field}(hu:P.underlying t=some (.struct a))(ha:a.toList.map (fun f=>(f.offset,f.type))=fs)(hf:f<fs.length){ti:TI}(Wv:uz P (fs.getD f (0,0)).2 ti)(hs:ti.size≠0)(b off:Nat)(w:World):
  (Instr.fieldAt t (.pointer (some ⟨b,off,none⟩)) f).run P w=.ok (.pointer (some ⟨b,off+(fs.getD f (0,0)).1,none⟩)) w:=by
 subst ha;have ir:f<a.size:=by simpa using hf
 have e1:(a.toList.map fun f=>(f.offset,f.type)).getD f (0,0)=(a[f].offset,a[f].type):=by simp[gE,ir]
 rw[e1]at Wv ⊢;simp only at Wv ⊢;simp[Instr.fieldAt,pP hu,ir,Instr.sureAddr,fieldPlace,xO Wv,hs,Dt]
theorem apr(p:jC C e G g hp w)(hT:JE C.P T){t f:Nat}{av:AV}{x:Value}(hx:VR w (UE e) e G av x)(h:(ta T t f hp av).1):
  Bm C e G g hp w (ta T t f hp av) (((Instr.fieldAt t x f).run C.P w).andThen fun v w=>.ok (.value v) w):=by
 cases qp:(tl T t).ty with
 |struct fs=>
  obtain⟨d,hu,hd⟩:=(hT.fit qp sM).under;rw[qp]at hd;obtain⟨a,rfl,ha⟩:=hd;simp only[ta,qp]at h ⊢;cases av with
  |P cs=>obtain⟨h1,h2⟩:=h;obtain⟨b,off,f',rfl,q1,q2,q3,q4,q5⟩:=hx.Si.Si;rw[Ww hu ha h1 (hT.fits h2) h2];simp only[GQ];exact .pure p (.rC _ _ (VD.W6 q1 q2 q3 q4 q5 _))
  |p id g' n i off=>obtain⟨h1,h2,h3⟩:=h;obtain⟨ee,b,c,he,V8,hn,hb,rfl⟩:=wY p.hr hx h3;rw[Ww hu ha h1 (hT.fits h2) h2,lX];simp only[GQ];exact .pure p (Kz hx he hn hb)
  |_=>exact h.elim
 |_=>simp only[ta,qp]at h;exact h.elim
theorem ag8{P:Program}{t:Nat}{ti:TI}(hf:uz P t ti)(cs:Array Value)(off:Nat)(hl:off+ti.size<=cs.size)(w:World):
  (part t cs off).run P w=.ok (if ti.agg then .agg (cs.extract off (off+ti.size)) else cs.getD off undef) w:=by
 unfold part;rw[ig,lZ hf,GQ];cases m9:ti.agg with
 |true=>simp only[ql,ig,xO hf,GQ,fX]|false=>have h1:=hf.one m9;have:off<cs.size:=oM;simp[gA,this]
def aag(p:jC C e G g hp w){t:Nat}{ti:TI}(hf:uz C.P t ti){cs:List AV}{vs:Array Value}(hl:cs.length=vs.size)(h1:∀i (h:i<cs.length),cs[i].one=true)(hv:∀i (h:i<cs.length),VR w (UE e) e G cs[i] (vs.getD i undef))(off:Nat)(hs:ti.size≠0)(h:(F2 ti (cs.drop off)).1):
  Bm C e G g hp w (F2 ti (cs.drop off)) (((part t vs off).run C.P w).andThen fun v w=>.ok (.value v) w):=by
 have hle:ti.size<=cs.length-off:=by have:=h.2;simpa using this
 rw[ag8 hf vs off oM];simp only[GQ];have:=arx p hf (cs:=cs.drop off) (cv:=vs.extract off vs.size) xF (Cs h1 off) (fun i hi=>by
  simp only[qY];have jk:i<cs.length-off:=Ks;have e1:(vs.extract off vs.size).getD i undef=vs.getD (off+i) undef:=by rw[gA,gA,Oj,iP oM]
  rw[e1];exact hv _ _) hf.one h
 have e2:(if ti.agg=true then Value.agg ((vs.extract off vs.size).extract 0 ti.size) else(vs.extract off vs.size).getD 0 undef)=
   if ti.agg=true then Value.agg (vs.extract off (off+ti.size)) else vs.getD off undef:=by
  cases ti.agg with
  |true=>
   simp only[ql];congr 1
   rw[Array.extract_extract];congr 1
   omega
  |false=>simp only[C9,j4];rw[gA,gA,Oj,iP oM,dq]
 rw[<-e2];exact this
theorem ali(p:jC C e G g hp w)(hT:JE C.P T){t f:Nat}{av:AV}{x:Value}(hx:VR w (UE e) e G av x)(h:(CM T t f av).1):
  Bm C e G g hp w (CM T t f av) (((Instr.field t x f).run C.P w).andThen fun v w=>.ok (.value v) w):=by
 cases qp:(tl T t).ty with
 |struct fs=>
  obtain⟨d,hu,hd⟩:=(hT.fit qp sM).under;rw[qp]at hd;obtain⟨a,rfl,ha⟩:=hd;simp only[CM,qp]at h ⊢;cases av with
  |agg cs=>
   obtain⟨h1,h2,h3⟩:=h;obtain⟨vs,rfl,hl,q1,q2⟩:=hx.IX;subst ha;have ir:f<a.size:=Cd;have e1:(a.toList.map fun f=>(f.offset,f.type)).getD f (0,0)=(a[f].offset,a[f].type):=by simp[gE,ir]
   rw[e1]at h2 h3 ⊢;simp only at h2 h3 ⊢;have hr:(Instr.field t (.agg vs) f).run C.P w=(part a[f].type vs a[f].offset).run C.P w:=by simp[Instr.field,pP hu,ir,asAgg]
   rw[hr];exact aag p (hT.fits h2) hl q1 q2 _ h2 h3
  |_=>exact h.elim
 |_=>simp only[CM,qp]at h;exact h.elim
theorem ajF(p:jC C e G g hp w)(hT:JE C.P T){t:Nat}{av ai:AV}{x xi:Value}(hx:VR w (UE e) e G av x)(hi:VR w (UE e) e G ai xi)(h:(sX T t av ai).1):
  Bm C e G g hp w (sX T t av ai) (((Instr.index t x xi).run C.P w).andThen fun v w=>.ok (.value v) w):=by
 cases qp:(tl T t).ty with
 |array n el=>
  obtain⟨d,hu,hd⟩:=(hT.fit qp sM).under;rw[qp]at hd;cases hd
  simp only[sX,qp]at h ⊢;cases av with
  |agg cs=>
   cases ai with
   |lit v=>
    cases v with
    |int k i=>
     obtain⟨h0,h1,h2,h3⟩:=h;obtain⟨rfl,_⟩:=hi.VI;obtain⟨vs,rfl,hl,q1,q2⟩:=hx.IX;have hr:(Instr.index t (.agg vs) (.int k i)).run C.P w=(part el vs (i.toNat*(tl T el).size)).run C.P w:=by simp[Instr.index,pP hu,asIntOf,h0,h1,xO (hT.fits h2)]
     rw[hr];exact aag p (hT.fits h2) hl q1 q2 _ h2 h3
    |_=>exact h.elim
   |_=>exact h.elim
  |_=>exact h.elim
 |str=>
  obtain⟨d,hu,hd⟩:=(hT.fit qp sM).under;rw[qp]at hd;cases hd
  simp only[sX,qp]at h ⊢;cases av with
  |lit v=>
   cases v with
   |string s=>
    cases ai with
    |lit v=>
     cases v with
     |int k i=>
      obtain⟨rfl,_⟩:=hi.VI;obtain⟨rfl,_⟩:=hx.VI;obtain⟨h0,h1⟩:=h;have xB:s.data.toList.length=s.size:=rfl;have PP:i.toNat<s.size:=oM;rw[run_index_string w t s k i hu,dX ⟨h0,oM⟩];simp only[GQ,R.val];have e1:s.data.toList.getD i.toNat 0=s[i.toNat]:=by rw[gE,gG oM];rfl
      rw[e1];exact Cu p _ _ _
     |_=>exact h.elim
    |_=>exact h.elim
   |_=>exact h.elim
  |_=>exact h.elim
 |_=>simp only[sX,qp]at h;exact h.elim
end
open Go
section
variable{C:Cx}{e:bQ}{G:Nat->Prop}{g:Nat}{hp:Hp}{w:World}{T:vp}
def VD.sub{U:Nat->Prop}{es:List AV}{full full':Bool}{a:Option Addr}{n cap:Nat}(h:VD w U (.sl es full) (.slice a n cap))(l hh m s:Nat)(h1:l<=hh)(h2:hh<=es.length)(h3:hh<=m)(h4:m<=cap)(hs:l=0\/∀y∈es,y.cells.length=s)(hf:full'=true->m=hh):
  VD w U (.sl ((es.take hh).drop l) full') (sliced a l hh m s):=by
 unfold sliced;rcases h.Rv with ⟨rfl,a',hx⟩|⟨b,off,Og,k,f,hx,hb,Mp,q1,q2,q3,zU,hk,hc,q4,q5⟩
 .cases hx
  have:m=0:=oM;have:hh=0:=oM;have:l=0:=oM
  subst_vars
  simpa using VD.nil full' _
 cases hx
 have hlen:((es.take hh).drop l).length=hh-l:=xF;have vy:∀i (hi:i<((es.take hh).drop l).length),((es.take hh).drop l)[i]=es[l+i]'oM:=by intro i hi;simp
 by_cases kF:m=l
 ·have hle:hh-l=0:=oM;rw[iP kF,<-hlen];exact .sl _ _ b off _ k f hb Mp oM oM (by intro I';have:=hf I';omega) zU
   (fun i hi=>oM) (fun j hj=>by rw[hlen,hle]at hj;omega) (fun i hi=>oM) (fun i hi=>oM)
 rw[iN kF,<-hlen];simp only[rL,Dt];by_cases RO:l=hh
 ·have hle:hh-l=0:=oM;exact .sl _ _ b _ _ k f hb Mp oM oM (by intro I';have:=hf I';omega) zU
   (fun i hi=>oM) (fun j hj=>by rw[hlen,hle]at hj;omega) (fun i hi=>oM) (fun i hi=>oM)
 have Jd:l=0\/k=s:=by
  rcases hs with hs|hs
  ·exact .inl hs
  refine .inr ?_;have h0:l<es.length:=oM;rw[<-hk l h0];exact hs _ (gM h0)
 have RF:off+l*s=off+l*k:=by rcases Jd with rfl|rfl<;>simp
 rw[RF];refine .sl _ _ b _ _ k (fun j=>f (l*k+j)) hb Mp oM oM (by intro I';have:=hf I';omega) zU ?_ ?_ ?_ ?_
 ·intro i hi;rw[vy i hi];exact hk _ _
 ·intro j hj;rw[lX];refine hc _ ?_;rw[hlen]at hj;calc l*k+j<l*k+(hh-l)*k:=oM
   _=hh*k:=by rw[<-Dl];congr 1;omega
   _<=es.length*k:=RW _ h2
 ·intro i hi j hj;simp only[vy i hi]at hj ⊢;exact q4 _ _ _ _
 intro i hi j hj;simp only[vy i hi]at hj ⊢;have:=q5 (l+i) oM j hj;rw[Dl,lX]at this;exact this
def ad7{P:Program}{t el:Nat}(hu:P.underlying t=some (.slice el))(x:Value)(lo hi mx:Option Value)(w:World):
  (Instr.sliceAt t x lo hi mx).run P w=(Instr.slice t x lo hi mx).run P w:=by
 simp[Instr.sliceAt,pP hu]
def VR.tv{es:List AV}{full:Bool}{x:Value}(h:VR w (UE e) e G (.sl es full) x):∃a cap,x=.slice a es.length cap/\es.length<=cap/\(full=true->cap=es.length):=by
 rcases h.Rv.Rv with ⟨rfl,_,rfl⟩|⟨b,off,cap,k,f,rfl,_,_,q1,_,q3,_⟩
 .exact⟨_,_,rfl,lR _,fun _=>rfl⟩
 exact⟨_,_,rfl,q1,q3⟩
def O3(w:World)(e:bQ)(G:Nat->Prop):Option AV->Option Value->Prop
 |none,none=>True|some a,some v=>VR w (UE e) e G a v|_,_=>False
def Zu(hr:cH w e G hp){id g' off len:Nat}{x:Value}(hx:VR w (UE e) e G (.l id g' off len) x){t k:Nat}{es:List AV}(hg:hp.get id=some (g',.own t k es))(hl:es.length=off+len):
  ∃ee,e id=some ee/\ee.g=g'/\ee.n=es.length/\cL ee off len x/\Jh w e G (.own t k es) ee:=by
 obtain⟨_,_,QB⟩:=hx.UF;obtain⟨ee,he,V8,_,jz⟩:=hr.live id _ _ hg;obtain⟨_,sL⟩:=QB ee he V8;exact⟨ee,he,V8,jz.2.1,sL (by rw[jz.2.1];exact hl),jz⟩
theorem cL.shape{ee:EE}{off len:Nat}{x:Value}(h:cL ee off len x):∃a cap,x=.slice a len cap:=by
 unfold cL at h;cases hb:ee.Rr with
 |none=>rw[hb]at h;obtain⟨_,rfl,a,rfl⟩:=h;exact⟨_,_,rfl⟩
 |some q=>obtain⟨b,c⟩:=q;rw[hb]at h;obtain⟨cap,rfl,_⟩:=h;exact⟨_,_,rfl⟩
def vD(p:jC C e G g hp w){id g' n:Nat}{t k:Nat}{es:List AV}(hg:hp.get id=some (g',.own t k es))(hn:n<=es.length){v:AV}{xv:Value}(hv:∀ee b bcap,e id=some ee->ee.Rr=some (b,bcap)->ee.k=k->ee.n=es.length->∀e':bQ,e' id=some ⟨g,some (b,bcap),k,n⟩->VR w (UE e') e' (Bb G g) v xv)(SO:∃ee b bcap,e id=some ee/\ee.Rr=some (b,bcap)){P:Prop}:
  Bm C e G g hp w (P,v,[(id,some (g,.own t k (es.take n)))]) (.ok (.value xv) w):=by
 obtain⟨ee,he,V8,QC,jz⟩:=p.hr.live id _ _ hg;obtain⟨SV,b,bcap,X6,OT⟩:=SO;rw[he]at X6;cases X6;obtain⟨hk,dK,zU,DN,h1,hb⟩:=jz;rw[OT]at hb;obtain⟨hm,Zm,cs,hh,hs,Uu⟩:=hb;have e1:xZ e id (some ⟨g,some (b,bcap),k,n⟩) id=some ⟨g,some (b,bcap),k,n⟩:=nq _ _ _;have tX:∀b1,I2 (xZ e id (some ⟨g,some (b,bcap),k,n⟩)) b1->I2 e b1:=by
  rintro b1 ⟨j,ej,c1,q1,q2⟩;by_cases hj:j=id
  .subst hj;rw[e1]at q1;cases q1;cases q2;exact⟨j,ee,bcap,he,OT⟩
  rw[t_ _ _ hj]at q1;exact⟨j,ej,c1,q1,q2⟩
 have ZQ:∀b1,TT (xZ e id (some ⟨g,some (b,bcap),k,n⟩)) b1->TT e b1:=by
  rintro b1 (ho|⟨B,c1,P',ho⟩)
  .exact .inl (tX _ ho)
  exact .inr ⟨B,c1,P',tX _ ho⟩
 have ext:Z7 w e G w (xZ e id (some ⟨g,some (b,bcap),k,n⟩)) (Bb G g):=by
  refine Z7.mk' (lR _) (fun _ h=>.inl h) rfl (fun b1 _ ho=>ZQ b1 ho) (fun _ _ _=>rfl) fun j ej hj hG=>?_;by_cases Wl:j=id
  .subst Wl;rw[e1]at hj;cases hj;exact absurd hG p.ng
  rw[t_ _ _ Wl]at hj;exact⟨ej,hj,rfl,rfl,.inl ⟨rfl,rfl⟩⟩
 refine⟨_,w,_,rfl,?_,ext,p.ln.step p.fr.size ext rfl fun b1 _ ho=>ZQ b1 ho,p.fr,.inl ⟨_,rfl,hv ee b bcap he OT hk dK _ e1⟩⟩;refine p.hr.step (fun j=>j=id) ext rfl (fun j hj=>⟨t_ _ _ hj,V0⟩) (fun _ _ _ _ _ _ _=>⟨rfl,fun _ _ h=>⟨rfl,h⟩⟩) (fun j hj MU=>?_) (fun j gj obj hj ZX=>?_) (fun j ej b1 c1 hj AQ FZ=>?_)
  p.hr.kl (fun b1 ho=>p.hr.ko b1 (tX _ ho)) p.hr.kk
 .subst hj;simp only[Mb,fj]at MU;rw[Hp.mz]at MU;cases MU
 .subst hj;simp only[Mb,fj]at ZX;rw[Hp.mz]at ZX;cases ZX;refine⟨_,e1,rfl,.inr rfl,rfl,xF,zU,?_,?_,?_⟩
  .intro i hi;simp only[DA];exact DN _ _
  .intro i hi j hj;simp only[DA]at hj ⊢;exact h1 _ _ _ _
  refine⟨hm,xF,cs,hh,hs,fun i hi j hj=>?_⟩;simp only[DA]at hj ⊢;exact(Uu i vT j hj).ext ext fun b1 aZ=>⟨rfl,aZ⟩
 subst hj;rw[e1]at AQ;cases AQ;cases FZ;refine⟨p.hr.lt _ _ _ _ he OT,p.hr.nz _ _ _ _ he OT,fun j' JA c' tw s7=>?_⟩;by_cases h:j'=j
 .exact h
 rw[t_ _ _ h]at tw;exact p.hr.inj _ _ _ _ _ _ _ tw he s7 OT
def amH(p:jC C e G g hp w){t el:Nat}(hu:C.P.underlying t=some (.slice el)){ei:TI}(nE:ei.size≠0->uz C.P el ei){lo hi mx:Option AV}{xl xh xm:Option Value}{av:AV}{x:Value}(hx:VR w (UE e) e G av x)(hl:O3 w e G lo xl)(hh:O3 w e G hi xh)(hm:O3 w e G mx xm)(h:(D9 ei g hp lo hi mx av).1):
  Bm C e G g hp w (D9 ei g hp lo hi mx av) (((Instr.sliceAt t x xl xh xm).run C.P w).andThen fun v w=>.ok (.value v) w):=by
 have TS:C.P.underlying t=some (.slice (C.P.elem t)):=by simp[Program.elem,hu]
 have Zs:C.P.elem t=el:=by simp[Program.elem,hu]
 rw[ad7 hu];unfold D9 at h ⊢;split at h
 case h_1 es full=>
  obtain⟨a,cap,rfl,Zm,Ky⟩:=hx.tv;have Jy:=hx.Rv;split at h
  .obtain⟨rfl⟩:xl=none:=rH;obtain⟨rfl⟩:xh=none:=uk;obtain⟨rfl⟩:xm=none:=yg;have hf:=nE h;rw[run_slice_all _ _ _ _ _ TS,Zs,xO hf];simp only[GQ];refine .pure p (.rC _ _ ?_);have:=Jy.sub (full':=full) 0 es.length cap ei.size (zL _) (lR _) Zm (lR _) (.inl rfl) Ky;simpa using this
  .rename_i kl l;cases xl with
   |none=>exact hl.elim|some vl=>obtain⟨rfl,_⟩:=hl.VI;obtain⟨rfl⟩:xh=none:=uk;obtain⟨rfl⟩:xm=none:=yg;obtain⟨hs,sL,h0,h1⟩:=h;have hf:=nE hs;rw[run_slice_l _ _ _ _ _ TS kl l h0 h1,Zs,xO hf];simp only[GQ];refine .pure p (.rC _ _ ?_);have:=Jy.sub (full':=full) l.toNat es.length cap ei.size oM (lR _) Zm (lR _) (.inr sL) Ky;simpa using this
  .rename_i kh l;cases xh with
   |none=>exact hh.elim|some vl=>obtain⟨rfl,_⟩:=hh.VI;obtain⟨rfl⟩:xl=none:=rH;obtain⟨rfl⟩:xm=none:=yg;obtain⟨hs,h0,h1⟩:=h;have hf:=nE hs;rw[run_slice_h _ _ _ _ _ TS kh l h0 oM,Zs,xO hf];simp only[GQ];refine .pure p (.rC _ _ ?_);have:=Jy.sub (full':=false) 0 l.toNat cap ei.size oM oM oM (lR _) (.inl rfl) sM;simpa using this
  .rename_i kl l kh m;cases xl with
   |none=>exact hl.elim|some vl=>
    cases xh with
    |none=>exact hh.elim|some vh=>obtain⟨rfl,_⟩:=hl.VI;obtain⟨rfl,_⟩:=hh.VI;obtain⟨rfl⟩:xm=none:=yg;obtain⟨hs,sL,h0,h1,h2⟩:=h;have hf:=nE hs;rw[run_slice_lh _ _ _ _ _ TS kl kh l m h0 h1 oM,Zs,xO hf];simp only[GQ];exact .pure p (.rC _ _ (Jy.sub (full':=false) l.toNat m.toNat cap ei.size oM oM oM (lR _) (.inr sL) sM))
  .rename_i kh hv km m;cases xh with
   |none=>exact hh.elim|some vh=>
    cases xm with
    |none=>exact hm.elim|some vm=>obtain⟨rfl,_⟩:=hh.VI;obtain⟨rfl,_⟩:=hm.VI;obtain⟨rfl⟩:xl=none:=rH;obtain⟨hs,h0,rfl,h2⟩:=h;have hf:=nE hs;rw[run_slice_hm _ _ _ _ _ TS kh km hv hv h0 (MB _) oM,Zs,xO hf];simp only[GQ];refine .pure p (.rC _ _ ?_);have:=Jy.sub (full':=true) 0 hv.toNat hv.toNat ei.size oM oM (lR _) oM (.inl rfl) sM;simpa using this
  .rename_i kl l kh hv km m;cases xl with
   |none=>exact hl.elim|some vl=>
    cases xh with
    |none=>exact hh.elim|some vh=>
     cases xm with
     |none=>exact hm.elim|some vm=>obtain⟨rfl,_⟩:=hl.VI;obtain⟨rfl,_⟩:=hh.VI;obtain⟨rfl,_⟩:=hm.VI;obtain⟨hs,sL,h0,h1,rfl,h2⟩:=h;have hf:=nE hs;rw[run_slice_lhm _ _ _ _ _ TS kl kh km l hv hv h0 h1 (MB _) oM,Zs,xO hf];simp only[GQ];exact .pure p (.rC _ _ (Jy.sub (full':=true) l.toNat hv.toNat hv.toNat ei.size oM oM (lR _) oM (.inr sL) sM))
  exact h.elim
 case h_2 id g' off len=>
  split at h
  .rename_i g'' t' k es hg;have base:∀(_:g''=g')(_:es.length=off+len)(_:k=ei.size),uz C.P el ei/\∃ee,e id=some ee/\ee.g=g'/\ee.k=k/\ee.n=es.length/\cL ee off len x:=by intro h1 h2 h3;subst h1;obtain⟨ee,he,V8,hn,sL,jz⟩:=Zu p.hr hx hg h2;exact⟨nE (by rw[<-h3];exact Nat.pos_iff_ne_zero.1 jz.2.2.1),ee,he,V8,jz.1,hn,sL⟩
   have Rr:∀{ee:EE},cL ee off len x->0<len->∃b bcap cap,ee.Rr=some (b,bcap)/\x=.slice (some ⟨b,off*ee.k,none⟩) len cap/\off+cap=bcap/\len<=cap:=by
    intro ee sL hl;unfold cL at sL;cases OT:ee.Rr with
    |none=>rw[OT]at sL;obtain⟨_,RO,_⟩:=sL;omega
    |some q=>obtain⟨b,bcap⟩:=q;rw[OT]at sL;obtain⟨cap,h1,h2,h3⟩:=sL;exact⟨b,bcap,cap,rfl,h1,h2,h3⟩
   obtain⟨hG,wE,QB⟩:=hx.UF;split at h
   .-- whole
    obtain⟨rfl⟩:xl=none:=rH;obtain⟨rfl⟩:xh=none:=uk;obtain⟨rfl⟩:xm=none:=yg;obtain⟨h1,h2,h3,h4⟩:=h;obtain⟨hf,ee,he,V8,hk,hn,sL⟩:=base h1 h2 h3;obtain⟨b,bcap,cap,OT,rfl,FJ,XJ⟩:=Rr sL h4;rw[run_slice_all _ _ _ _ _ TS,Zs,xO hf];simp only[GQ];refine .pure p ?_;unfold sliced;rw[iN oM];simp only[rL,Dt,gw,dq,Oz];exact hx
   .rename_i kl l;cases xl with
    |none=>exact hl.elim|some vl=>obtain⟨rfl,_⟩:=hl.VI;obtain⟨rfl⟩:xh=none:=uk;obtain⟨rfl⟩:xm=none:=yg;obtain⟨h1,h2,h3,h0,h4⟩:=h;obtain⟨hf,ee,he,V8,hk,hn,sL⟩:=base h1 h2 h3;obtain⟨b,bcap,cap,OT,rfl,FJ,XJ⟩:=Rr sL oM;rw[run_slice_l _ _ _ _ _ TS kl l h0 oM,Zs,xO hf];simp only[GQ];refine .pure p ?_;unfold sliced;rw[iN oM];refine .l _ _ _ _ _ hG rfl fun SV X6 X0=>?_;rw[he]at X6;cases X6;refine⟨oM,fun _=>?_⟩;unfold cL;rw[OT];refine⟨cap-l.toNat,?_,oM,oM⟩;simp only[rL,Dt,hk,h3,Dl]
   .rename_i kh l;cases xh with
    |none=>exact hh.elim|some vl=>obtain⟨rfl,_⟩:=hh.VI;obtain⟨rfl⟩:xl=none:=rH;obtain⟨rfl⟩:xm=none:=yg;obtain⟨h1,h2,h3,h0,h4,h5⟩:=h;obtain⟨hf,ee,he,V8,hk,hn,sL⟩:=base h1 h2 h3;obtain⟨b,bcap,cap,OT,rfl,FJ,XJ⟩:=Rr sL h5;rw[run_slice_h _ _ _ _ _ TS kh l h0 oM,Zs,xO hf];simp only[GQ];subst h1;refine vD p hg oM (fun SV b' adE X6 M' tF MU e' h'=>?_) ⟨ee,b,bcap,he,OT⟩;rw[he]at X6;cases X6;rw[OT]at M';cases M';unfold sliced;rw[iN oM];refine .l _ _ _ _ _ (.inr rfl) rfl fun ee'' Po _=>?_;rw[h']at Po;cases Po;refine⟨lR _,fun _=>⟨cap,?_,FJ,oM⟩⟩;simp[Dt,hk]
   .rename_i kl l kh m;cases xl with
    |none=>exact hl.elim|some vl=>
     cases xh with
     |none=>exact hh.elim|some vh=>obtain⟨rfl,_⟩:=hl.VI;obtain⟨rfl,_⟩:=hh.VI;obtain⟨rfl⟩:xm=none:=yg;obtain⟨h1,h2,h3,h0,h4,h5,h6⟩:=h;obtain⟨hf,ee,he,V8,hk,hn,sL⟩:=base h1 h2 h3;obtain⟨b,bcap,cap,OT,rfl,FJ,XJ⟩:=Rr sL oM;rw[run_slice_lh _ _ _ _ _ TS kl kh l m h0 h4 oM,Zs,xO hf];simp only[GQ];subst h1;refine vD p hg oM (fun SV b' adE X6 M' tF MU e' h'=>?_) ⟨ee,b,bcap,he,OT⟩;rw[he]at X6;cases X6;rw[OT]at M';cases M';unfold sliced;rw[iN oM];refine .l _ _ _ _ _ (.inr rfl) rfl fun ee'' Po _=>?_;rw[h']at Po;cases Po;refine⟨uO,fun _=>⟨cap-l.toNat,?_,oM,oM⟩⟩;simp only[rL,Dt,hk,h3,Dl]
   .rename_i kh hv km m;cases xh with
    |none=>exact hh.elim|some vh=>
     cases xm with
     |none=>exact hm.elim|some vm=>obtain⟨rfl,_⟩:=hh.VI;obtain⟨rfl,_⟩:=hm.VI;obtain⟨rfl⟩:xl=none:=rH;obtain⟨h1,h2,h3,rfl,rfl⟩:=h;obtain⟨hf,ee,he,V8,hk,hn,sL⟩:=base h1 h2 h3;obtain⟨a,cap,rfl⟩:=sL.shape;rw[run_slice_hm _ _ _ _ _ TS kh km 0 0 (MB _) (MB _) oM,Zs,xO hf];simp only[GQ];refine .pure p (.rC _ _ ?_);unfold sliced;simpa using VD.nil true _
   exact h.elim
  exact h.elim
 case h_3=>exact h.elim
def Fp(p:jC C e G g hp w)(ob:Prop)(s:ByteArray):Bm C e G g hp w (ob,.lit (.string s),[]) (.ok (.value (.string s)) w):=
 .pure p (.rC _ _ (.lit _ rfl))
def asd(p:jC C e G g hp w){t:Nat}(hu:C.P.underlying t=some .string)(s:ByteArray){lo hi mx:Option AV}{xl xh xm:Option Value}(hl:O3 w e G lo xl)(hh:O3 w e G hi xh)(hm:O3 w e G mx xm)(h:(gZ s lo hi mx).1):
  Bm C e G g hp w (gZ s lo hi mx) (((Instr.sliceAt t (.string s) xl xh xm).run C.P w).andThen fun v w=>.ok (.value v) w):=by
 have xB:s.data.toList.length=s.size:=rfl;have e0:∀lo hi mx,(Instr.sliceAt t (.string s) lo hi mx).run C.P w=(Instr.slice t (.string s) lo hi mx).run C.P w:=fun lo hi mx=>by simp[Instr.sliceAt,pP hu]
 have ex:∀l h:Nat,s.extract l h=strOf ((s.data.toList.take h).drop l):=fun l h=>by rw[Lib.extract_eq,strOf,List.drop_take]
 rw[e0];unfold gZ at h ⊢;split at h
 .obtain⟨rfl⟩:xl=none:=rH;obtain⟨rfl⟩:xh=none:=uk;obtain⟨rfl⟩:xm=none:=yg;have e1:(Instr.slice t (.string s) none none none).run C.P w=.ok (.string (s.extract 0 s.size)) w:=by simp[Instr.slice,Instr.sliceBounds,Instr.sliceBound,asIntOf,pP hu]
  rw[e1,ex,<-xB,Sy,RH];simp only[GQ];exact Fp p _ _
 .rename_i kl l;cases xl with
  |none=>exact hl.elim|some vl=>
   obtain⟨rfl,_⟩:=hl.VI;obtain⟨rfl⟩:xh=none:=uk;obtain⟨rfl⟩:xm=none:=yg;obtain⟨h0,h1⟩:=h;have e1:(Instr.slice t (.string s) (some (.int kl l)) none none).run C.P w=.ok (.string (s.extract l.toNat s.size)) w:=by have hj:0<=l/\l<=(s.size:Int):=⟨h0,h1⟩;simp[Instr.slice,Instr.sliceBounds,Instr.sliceBound,asIntOf,pP hu,hj]
   rw[e1,ex,<-xB,Sy];simp only[GQ];exact Fp p _ _
 .rename_i kh h';cases xh with
  |none=>exact hh.elim|some vl=>
   obtain⟨rfl,_⟩:=hh.VI;obtain⟨rfl⟩:xl=none:=rH;obtain⟨rfl⟩:xm=none:=yg;obtain⟨h0,h1⟩:=h;have e1:(Instr.slice t (.string s) none (some (.int kh h')) none).run C.P w=.ok (.string (s.extract 0 h'.toNat)) w:=by have hj:0<=h'/\h'<=(s.size:Int):=⟨h0,h1⟩;simp[Instr.slice,Instr.sliceBounds,Instr.sliceBound,asIntOf,pP hu,hj]
   rw[e1,ex,RH];simp only[GQ];exact Fp p _ _
 .rename_i kl l kh h';cases xl with
  |none=>exact hl.elim|some vl=>
   cases xh with
   |none=>exact hh.elim|some vh=>obtain⟨rfl,_⟩:=hl.VI;obtain⟨rfl,_⟩:=hh.VI;obtain⟨rfl⟩:xm=none:=yg;obtain⟨h0,h1,h2⟩:=h;rw[run_slice_string w t s kl kh l h' hu h0 h1 oM,ex];simp only[GQ];exact Fp p _ _
 exact h.elim
theorem abu(p:jC C e G g hp w)(hT:JE C.P T){t:Nat}{lo hi mx:Option AV}{xl xh xm:Option Value}{av:AV}{x:Value}(hx:VR w (UE e) e G av x)(hl:O3 w e G lo xl)(hh:O3 w e G hi xh)(hm:O3 w e G mx xm)(h:(P3 T t g hp lo hi mx av).1)(hA:∀n el,(tl T t).ty=.array n el->(V7 n (tl T el) hp lo hi mx av).1->Bm C e G g hp w (V7 n (tl T el) hp lo hi mx av) (((Instr.sliceAt t x xl xh xm).run C.P w).andThen fun v w=>.ok (.value v) w)):
  Bm C e G g hp w (P3 T t g hp lo hi mx av) (((Instr.sliceAt t x xl xh xm).run C.P w).andThen fun v w=>.ok (.value v) w):=by
 cases qp:(tl T t).ty with
 |slice el=>
  obtain⟨d,hu,hd⟩:=(hT.fit qp sM).under;rw[qp]at hd;cases hd
  simp only[P3,qp]at h ⊢;exact amH p hu (fun hs=>hT.fits hs) hx hl hh hm h
 |str=>
  obtain⟨d,hu,hd⟩:=(hT.fit qp sM).under;rw[qp]at hd;cases hd
  simp only[P3,qp]at h ⊢;cases av with
  |lit v=>
   cases v with
   |string s=>obtain⟨rfl,_⟩:=hx.VI;exact asd p hu s hl hh hm h
   |_=>exact h.elim
  |_=>exact h.elim
 |array n el=>simp only[P3,qp]at h ⊢;exact hA n el qp h|_=>simp only[P3,qp]at h;exact h.elim
theorem adu(p:jC C e G g hp w)(hT:JE C.P T){t ty:Nat}{av:AV}{x:Value}(hx:VR w (UE e) e G av x)(h:(Ey T t hp av).1):
  Bm C e G g hp w (Ey T t hp av) (((Builtin.len_ #[t] ty #[x]).run C.P w).andThen fun v w=>.ok (.value v) w):=by
 cases qp:(tl T t).ty with
 |slice el=>
  obtain⟨d,hu,hd⟩:=(hT.fit qp sM).under;rw[qp]at hd;cases hd
  simp only[Ey,qp]at h ⊢;have key:∀a n c,(Builtin.len_ #[t] ty #[.slice a n c]).run C.P w=.ok (goInt n) w:=fun a n c=>o4
  cases av with
  |sl es full=>obtain⟨a,cap,rfl,_⟩:=hx.tv;rw[key];exact Cu p _ _ _
  |l id g' off len=>
   cases hg:hp.get id with
   |none=>simp only[hg]at h;exact h.elim|some q=>
    obtain⟨g'',ob⟩:=q;cases ob with
    |box cs=>simp only[hg]at h;exact h.elim|mp _=>simp only[hg]at h;exact h.elim|ms _=>simp only[hg]at h;exact h.elim|bd _ _ _=>simp only[hg]at h;exact h.elim|own t' k es=>simp only[hg,R.val]at h ⊢;obtain⟨rfl,hl⟩:=h;obtain⟨ee,_,_,_,sL,_⟩:=Zu p.hr hx hg hl;obtain⟨a,cap,rfl⟩:=sL.shape;rw[key];exact Cu p _ _ _
  |_=>exact h.elim
 |str=>
  obtain⟨d,hu,hd⟩:=(hT.fit qp sM).under;rw[qp]at hd;cases hd
  simp only[Ey,qp]at h ⊢;cases av with
  |lit v=>
   cases v with
   |string s=>
    obtain⟨rfl,_⟩:=hx.VI;have:(Builtin.len_ #[t] ty #[.string s]).run C.P w=.ok (goInt s.size) w:=o4
    rw[this];exact Cu p _ _ _
   |_=>exact h.elim
  |_=>exact h.elim
 |array n el=>
  obtain⟨d,hu,hd⟩:=(hT.fit qp sM).under;rw[qp]at hd;cases hd
  simp only[Ey,qp]at h ⊢;have:(Builtin.len_ #[t] ty #[x]).run C.P w=.ok (goInt n) w:=o4
  rw[this];exact Cu p _ _ _
 |_=>simp only[Ey,qp]at h;exact h.elim
end
open Go
theorem b9{f:AV->AV}{el:AV}(h:∀c,(f c).cells=[f c]\/c.one=false)(hc:∀c∈el.cells,c.one=true):(cK f el).cells=el.cells.map f:=by
 cases el with
 |agg cs=>rfl|bad=>have:=hc .bad p9;cases this
 |F1 cs=>have:=hc (.F1 cs) p9;cases this
 |_=>exact(h _).resolve_right (by simp[AV.one])
theorem HR(n:Nat)(hp:Hp)(c:AV):(fz n hp c).cells=[fz n hp c]\/c.one=false:=by
 cases c with
 |agg cs=>exact .inr rfl|bad=>exact .inr rfl|F1 cs=>exact .inr rfl|l id g off len=>
  cases n with
  |zero=>exact .inl rfl|succ n=>refine .inl ?_;simp only[fz];split<;>rfl
 |p id g m i off=>
  cases n with
  |zero=>exact .inl rfl|succ n=>refine .inl ?_;simp only[fz];split<;>rfl
 |fn f cs=>cases n<;>exact .inl rfl
 |Rc t k es=>cases n<;>exact .inl rfl
 |sl es full=>cases n<;>exact .inl rfl
 |lit v=>cases n<;>exact .inl rfl
 |P cs=>cases n<;>exact .inl rfl
 |gl g=>cases n<;>exact .inl rfl
 |tY=>cases n<;>exact .inl rfl
 |anyI k=>cases n<;>exact .inl rfl
 |Ep f cs=>cases n<;>exact .inl rfl
 |Ic id g=>cases n<;>exact .inl rfl
def Nr{n:Nat}{hp:Hp}{el:AV}(hc:∀c∈el.cells,c.one=true):(cK (fz n hp) el).cells=el.cells.map (fz n hp):=
 b9 (HR n hp) hc
theorem o9{n:Nat}{hp:Hp}{c:AV}(h:Xa n hp c):(fz n hp c).one=true:=by
 cases c with
 |agg cs=>cases n<;>exact h.elim
 |bad=>cases n<;>exact h.elim
 |F1 cs=>cases n<;>exact h.elim
 |l id g off len=>
  cases n with
  |zero=>exact h.elim|succ n=>
   simp only[fz,Xa]at h ⊢;split at h
   .rename_i hg;first|rfl|(simp only[hg];rfl)|(rw[hg];rfl)|trace_state
   exact h.elim
 |p id g m i off=>
  cases n with
  |zero=>exact h.elim|succ n=>
   simp only[fz,Xa]at h ⊢;split at h
   .rename_i hg;first|rfl|(simp only[hg];rfl)|(rw[hg];rfl)|trace_state
   .rename_i hg;first|rfl|(simp only[hg];rfl)|(rw[hg];rfl)|trace_state
   exact h.elim
 |_=>cases n<;>rfl
section
variable{C:Cx}{e:bQ}{G:Nat->Prop}{g:Nat}{hp:Hp}{w:World}{T:vp}
def VD.full{U:Nat->Prop}{es:List AV}{full:Bool}{x:Value}(h:VD w U (.sl es full) x):VD w U (.sl es false) x:=by
 rcases h.Rv with ⟨rfl,a,rfl⟩|⟨b,off,cap,k,f,rfl,h1,h2,h3,h4,_,h6,h7,h8,h9,bF⟩
 .exact .nil _ _
 exact .sl _ _ b off cap k f h1 h2 h3 h4 sM h6 h7 h8 h9 bF
theorem m8{U:Nat->Prop}:∀(n:Nat){v:AV}{x:Value},VD w U v x->Xa n hp v->VD w U (fz n hp v) x
 |0,v,x,h,hP=>by
  cases v with
  |sl es full=>exact h.full|lit v=>exact h|P cs=>exact h|gl g=>exact h|tY=>exact h|anyI k=>exact h|Rc t k es=>exact h.rE.elim|_=>exact hP.elim
 |n+1,v,x,h,hP=>by
  cases v with
  |sl es full=>exact h.full|lit v=>exact h|P cs=>exact h|gl g=>exact h|tY=>exact h|anyI k=>exact h|Rc t k es=>exact h.rE.elim|l id g off len=>exact h.Qh.elim|p id g m i off=>exact h.VZ.elim|fn f cs=>
   cases h with
   |fn _ _ vs h1 h2=>refine .fn _ _ _ Cd fun i hi=>?_;simp only[nw];have jk:i<cs.length:=Ks;exact m8 n (h2 i jk) (hP _ (gM jk))
  |_=>exact hP.elim
structure WD(e e':bQ)(D:Nat->Prop):Prop where
 un:∀b,UE e b->UE e' b
 dr:∀id ee b c,D id->e id=some ee->ee.Rr=some (b,c)->UE e' b/\∀b' c',e.Rc b'=some (b,c')->UE e' b'
theorem i8(hr:cH w e G hp){e':bQ}{D:Nat->Prop}(x:WD e e' D):∀(n:Nat){v:AV}{u:Value},VR w (UE e) e G v u->Xa n hp v->(∀i∈qg n hp v,D i)->VD w (UE e') (fz n hp v) u
 |0,v,u,h,hP,_=>by
  cases h with
  |rC _ _ h=>exact m8 0 (h.mono (lR _) (fun b _ hb=>x.un b hb) (fun _ _ _=>rfl)) hP|_=>exact hP.elim
 |n+1,v,u,h,hP,hD=>by
  cases v with
  |l id g' off len=>
   simp only[fz,Xa,qg]at hP hD ⊢;split at hP
   .rename_i g'' t k es hg;obtain⟨rfl,hl,hP⟩:=hP;simp only[hg]at hD ⊢;obtain⟨ee,he,V8,hn,sL,jz⟩:=Zu hr h hg hl;obtain⟨hk,_,zU,DN,h1,hb⟩:=jz;have hlen:((es.drop off).map (cK (fz n hp))).length=len:=xF;unfold cL at sL;cases OT:ee.Rr with
    |none=>rw[OT]at sL hb;obtain⟨rfl,rfl,a,rfl⟩:=sL;subst hb;exact .nil _ _
    |some q=>
     obtain⟨b,bcap⟩:=q;rw[OT]at sL hb;obtain⟨cap,rfl,FJ,XJ⟩:=sL;obtain⟨hm,mu,cs,hh,hs,hv⟩:=hb;obtain⟨hU,cE⟩:=x.dr id ee b bcap (hD id mS) he OT;have vy:∀i (hi:i<((es.drop off).map (cK (fz n hp))).length),((es.drop off).map (cK (fz n hp)))[i]=cK (fz n hp) (es[off+i]' vT):=by intro i hi;simp
     have wE:∀i (hi:i<es.length),∀c∈es[i].cells,c.one=true:=by intro i hi c hc;obtain⟨j,hj,rfl⟩:=G_ hc;exact h1 i hi j hj
     have qp:len=((es.drop off).map (cK (fz n hp))).length:=hlen.symm;conv=>arg 4;rw[qp]
     refine .sl _ _ b _ cap k (fun j=>cs.getD (off*ee.k+j) undef) hU (hr.lt _ _ _ _ he OT) oM oM sM zU ?_ ?_ ?_ ?_
     ·intro i hi;rw[vy i hi,Nr (wE _ _),E3];exact DN _ _
     ·intro j hj;rw[hlen]at hj;refine hh.KP ?_;rw[hs,hk];calc off*k+j<off*k+len*k:=oM
       _=(off+len)*k:=by rw[Dl]
       _<=bcap*k:=RW _ oM
     ·intro i hi j hj;simp only[vy i hi]at hj ⊢;have Ut:off+i<es.length:=by rw[hlen]at hi;omega
      simp only[Nr (wE _ Ut),nw];simp only[Nr (wE _ Ut),E3]at hj;exact o9 (hP _ (gM Ut) _ (gM hj))
     intro i hi j hj;simp only[vy i hi]at hj ⊢;have Ut:off+i<es.length:=by rw[hlen]at hi;omega
     simp only[Nr (wE _ Ut),nw];simp only[Nr (wE _ Ut),E3]at hj;have Uu:=hv (off+i) Ut j hj;have AZ:=hP _ (gM Ut) _ (gM hj);have TP:∀k∈qg n hp es[off+i].cells[j],D k:=fun k hk=>hD k (mC _ (CJ.2 ⟨_,gM Ut,CJ.2 ⟨_,gM hj,hk⟩⟩));have e1:off*ee.k+(i*k+j)=(off+i)*k+j:=by rw[hk,Dl];omega
     simp only[e1];generalize es[off+i].cells[j]=c at Uu AZ TP;generalize cs.getD ((off+i)*k+j) undef=u at Uu;cases Uu with
     |val _ _ Wi=>exact i8 hr x n Wi AZ TP|Mt t' k' a h0=>cases n<;>exact .nil _ _
     |Rc t' k' xs b' Og F8 q1 q2 q3 q4 q5 q6 q7 q8 q9=>
      have vY:fz n hp (.Rc t' k' xs)=.sl xs false:=fV;rw[vY];refine .sl _ _ b' 0 Og k' (fun j=>F8.getD j undef) (cE b' _ q1) (hr.kl _ _ _ q1).1 q5 q6 sM q4 q7 ?_ q8 ?_
      ·intro j hj;rw[cy];refine q2.KP ?_;rw[q3];exact tL hj (RW _ q5)
      intro i hi j hj;exact(q9 i hi j hj).mono (lR _) (fun b _ hb=>x.un b hb) (fun _ _ _=>rfl)
   exact hP.elim
  |p id g' m i off=>
   simp only[fz,Xa,qg]at hP hD ⊢;obtain⟨_,_,QB⟩:=h.nj;split at hP
   ·rename_i g'' cs hg;obtain⟨rfl,rfl,rfl,hP⟩:=hP;simp only[hg]at hD ⊢;obtain⟨ee,he,V8,_,jz⟩:=hr.live id _ _ hg;obtain⟨hn,h1,b,c,vs,t,hb,hh,hs,hv⟩:=jz;obtain⟨_,QB⟩:=QB ee he V8;obtain rfl:=QB hn b c hb;obtain⟨hU,_⟩:=x.dr id ee b c (hD id mS) he hb;refine .P _ b _ (fun j=>vs.getD (0*ee.k+off+j) undef) hU (hr.lt _ _ _ _ he hb) ?_ ?_ ?_
    ·intro j hj;refine cell_of_heap hh ?_;simp at hj;omega
    ·intro j hj;simp only[nw,qY];exact o9 (hP _ (gM _))
    intro j hj;simp only[nw,qY,gw,cy];have tw:off+j<cs.length:=YH;exact i8 hr x n (hv _ tw) (hP _ (gM _)) fun k hk=>hD k (mC _ (CJ.2 ⟨_,gM tw,hk⟩))
   ·rename_i g'' t k es hg;obtain⟨rfl,rfl,hi,hP⟩:=hP;simp only[hg]at hD ⊢;rw[PR hi]at hP hD ⊢;obtain⟨ee,he,V8,_,jz⟩:=hr.live id _ _ hg;obtain⟨hk,hn,zU,DN,h1,hb⟩:=jz;cases OT:ee.Rr with
    |none=>rw[OT]at hb;subst hb;simp at hi|some q=>
     obtain⟨b,bcap⟩:=q;rw[OT]at hb;obtain⟨hm,mu,cs,hh,hs,hv⟩:=hb;obtain⟨_,QB⟩:=QB ee he V8;obtain rfl:=QB hn b bcap OT;obtain⟨hU,cE⟩:=x.dr id ee b bcap (hD id mS) he OT;have xB:i*k+k<=cs.size:=by
      rw[hs];calc i*k+k=(i+1)*k:=by rw[BV]
       _<=bcap*k:=RW _ oM
     refine .P _ b _ (fun j=>cs.getD (i*ee.k+off+j) undef) hU (hr.lt _ _ _ _ he OT) ?_ ?_ ?_
     ·intro j hj;refine hh.KP ?_;have:=DN i hi;simp at hj;rw[hk];omega
     ·intro j hj;simp only[nw,qY];exact o9 (hP _ (gM _))
     intro j hj;simp only[nw,qY];have tw:off+j<es[i].cells.length:=YH;have Uu:=hv i hi (off+j) tw;have AZ:=hP _ (gM tw);have TP:∀k∈qg n hp es[i].cells[off+j],D k:=fun k hk=>hD k (mC _ (CJ.2 ⟨_,gM tw,hk⟩));have e1:i*ee.k+off+j=i*k+(off+j):=by rw[hk];omega
     simp only[e1];generalize es[i].cells[off+j]=c at Uu AZ TP;generalize cs.getD (i*k+(off+j)) undef=u at Uu;cases Uu with
     |val _ _ Wi=>exact i8 hr x n Wi AZ TP|Mt t' k' a h0=>cases n<;>exact .nil _ _
     |Rc t' k' xs b' Og F8 q1 q2 q3 q4 q5 q6 q7 q8 q9=>
      have vY:fz n hp (.Rc t' k' xs)=.sl xs false:=fV;rw[vY];refine .sl _ _ b' 0 Og k' (fun j=>F8.getD j undef) (cE b' _ q1) (hr.kl _ _ _ q1).1 q5 q6 sM q4 q7 ?_ q8 ?_
      ·intro j hj;rw[cy];refine q2.KP ?_;rw[q3];exact tL hj (RW _ q5)
      intro i hi j hj;exact(q9 i hi j hj).mono (lR _) (fun b _ hb=>x.un b hb) (fun _ _ _=>rfl)
   exact hP.elim
  |fn f cs=>
   have key:∃vs:Array Value,u=.func (.func f) #[] vs/\cs.length=vs.size/\∀i (h:i<cs.length),VR w (UE e) e G cs[i] (vs.getD i undef):=by
    cases h with
    |rC _ _ h=>cases h with|fn _ _ vs h1 h2=>exact⟨vs,rfl,h1,fun i hi=>.rC _ _ (h2 i hi)⟩
    |fn _ _ vs h1 h2=>exact⟨vs,rfl,h1,h2⟩
   obtain⟨vs,rfl,q1,q2⟩:=key;refine .fn _ _ _ US fun i hi=>?_;simp only[nw];have jk:i<cs.length:=Ks;exact i8 hr x n (q2 i jk) (hP _ (gM jk)) fun k hk=>hD k (CJ.2 ⟨_,gM jk,hk⟩)
  |sl es full=>exact(h.Rv.mono (lR _) (fun b _ hb=>x.un b hb) (fun _ _ _=>rfl)).full|lit v=>obtain⟨rfl,h1⟩:=h.VI;exact .lit _ h1
  |P cs=>exact h.Si.mono (lR _) (fun b _ hb=>x.un b hb) (fun _ _ _=>rfl)|gl g=>rw[h.Cc];exact .gl _|tY=>cases h with|rC _ _ h=>cases h;exact .tY _ _
  |anyI k=>cases h with|rC _ _ h=>cases h;exact .anyI _ _
  |Rc t k es=>exact h.rE.elim|_=>exact hP.elim
theorem lw(hr:cH w e G hp){e':bQ}{D:Nat->Prop}(x:WD e e' D){v:AV}{u:Value}(h:VR w (UE e) e G v u)(hP:fi hp v)(hD:∀i∈xz hp v,D i):VD w (UE e') (In hp v) u:=by
 cases v with
 |agg cs=>
  obtain⟨vs,rfl,hl,q1,q2⟩:=h.IX;refine .agg _ _ w9 ?_ ?_
  .intro i hi;simp only[nw];exact o9 (hP _ (gM _))
  intro i jk;simp only[nw];have tg:i<cs.length:=j3;exact i8 hr x 4 (q2 i tg) (hP _ (gM tg)) fun j hj=>hD j (CJ.2 ⟨_,gM tg,hj⟩)
 |_=>exact i8 hr x 4 h (hP _ mS) fun j hj=>hD j (CJ.2 ⟨_,mS,hj⟩)
theorem at4(hr:cH w e G hp){e':bQ}{D:Nat->Prop}(x:WD e e' D){v:AV}{u:Value}(h:VR w (UE e) e G v u)(hP:pj hp v)(hD:∀i∈ui hp v,D i):VD w (UE e') (mH hp v) u:=by
 cases v with
 |F1 cs=>obtain⟨vs,rfl,q1,q3⟩:=h.oJ;refine .F1 _ _ US fun i jk=>?_;simp only[nw];have tg:i<cs.length:=j3;exact lw hr x (q3 i tg) (hP _ (gM tg)) fun j hj=>hD j (CJ.2 ⟨_,gM tg,hj⟩)
 |_=>exact lw hr x h hP hD
def WD.qq(hr:cH w e G hp)(ids:List Nat):WD e (nO e ids) (·∈ids):=
 ⟨fun b hb=>⟨hb.1,fun ho=>hb.2 ho.nO⟩,fun id _ _ _ hi he hb=>⟨UE.dropped hr he hb hi,fun _ _ hk=>UE.adx hr he hb hi hk⟩⟩
end
open Go
structure Qw(w w':World):Prop where
 os:w'.os=w.os
 tape:w'.tape=w.tape
 output:w'.output=w.output
 size:w.heap.size<=w'.heap.size
 same:∀b,b<w.heap.size->w'.heap[b]?=w.heap[b]?
 drawn:w.drawn<=w'.drawn
def Qw.refl(w:World):Qw w w:=⟨rfl,rfl,rfl,lR _,fun _ _=>rfl,lR _⟩
def Tq(w:World)(o:Obj)(b:Nat)(hb:b<w.heap.size):(w.heap.push o)[b]?=w.heap[b]?:=by rw[Array.getElem?_push,iN oM]
def Qw.alloc(w:World)(o:Obj):Qw w (w.alloc o):=
 ⟨rfl,rfl,rfl,by show _<=(w.heap.push o).size;simp,fun b hb=>Tq w o b hb,lR _⟩
def Qw.Jp(w:World)(o:Obj):Qw w (w.drew.alloc o):=
 ⟨rfl,rfl,rfl,by show _<=(w.heap.push o).size;simp,fun b hb=>Tq w o b hb,ug _⟩
def sg(w:World)(o:Obj):(w.alloc o).heap[w.heap.size]?=some o:=by show(w.heap.push o)[w.heap.size]?=some o;simp
def Ar(w:World)(o:Obj):(w.alloc o).heap.size=w.heap.size+1:=by show(w.heap.push o).size=_;simp
section
variable{C:Cx}{e:bQ}{G:Nat->Prop}{g:Nat}{hp:Hp}{w:World}{T:vp}
def OL.grow(h:OL C w){w':World}(x:Qw w w'):OL C w':=
 ⟨x.os.trans h.os,x.tape.trans h.tape,x.output.trans h.output,Jz h.size x.size,
  fun b hb hl=>(x.same b (tL hb h.size)).trans (h.same b hb hl),Jz h.drawn x.drawn⟩
theorem Dv(p:jC C e G g hp w){w':World}(x:Qw w w'){did:Nat}{ee:EE}(hg:ee.g=g)(hblk:∀b c,ee.Rr=some (b,c)->w.heap.size<=b/\b<w'.heap.size){ob:Ob}(ho:Z7 w e G w' (xZ e did (some ee)) (Bb G g)->Jh w' (xZ e did (some ee)) (Bb G g) ob ee){v:AV}{xv:Value}{P:Prop}(hv:VR w' (UE (xZ e did (some ee))) (xZ e did (some ee)) (Bb G g) v xv):
  Bm C e G g hp w (P,v,[(did,some (g,ob))]) (.ok (.value xv) w'):=by
 subst hg;have e1:xZ e did (some ee) did=some ee:=nq _ _ _;have tX:∀b1,b1<w.heap.size->I2 (xZ e did (some ee)) b1->I2 e b1:=by
  rintro b1 PP ⟨j,ej,c1,q1,q2⟩;by_cases hj:j=did
  .subst hj;rw[e1]at q1;cases q1;have:=(hblk _ _ q2).1;omega
  rw[t_ _ _ hj]at q1;exact⟨j,ej,c1,q1,q2⟩
 have ZQ:∀b1,b1<w.heap.size->TT (xZ e did (some ee)) b1->TT e b1:=by
  rintro b1 PP (ho|⟨B,c1,P',ho⟩)
  .exact .inl (tX _ PP ho)
  exact .inr ⟨B,c1,P',tX _ (p.hr.kl _ _ _ P').2.1 ho⟩
 have ext:Z7 w e G w' (xZ e did (some ee)) (Bb G ee.g):=by
  refine Z7.mk' x.size (fun _ h=>.inl h) rfl ZQ (fun b hb _=>x.same b hb) fun j ej hj hG=>?_;by_cases Wl:j=did
  .subst Wl;rw[e1]at hj;cases hj;exact absurd hG p.ng
  rw[t_ _ _ Wl]at hj;exact⟨ej,hj,rfl,rfl,.inl ⟨rfl,rfl⟩⟩
 refine⟨_,w',_,rfl,?_,ext,p.ln.step p.fr.size ext rfl ZQ,p.fr.grow x,.inl ⟨xv,rfl,hv⟩⟩;refine p.hr.step (fun j=>j=did) ext rfl (fun j hj=>⟨t_ _ _ hj,V0⟩)
  (fun j ej b1 c1 _ AQ FZ=>⟨x.same b1 (p.hr.lt _ _ _ _ AQ FZ),fun b2 c2 BF=>⟨x.same b2 (p.hr.kl _ _ _ BF).1,BF⟩⟩) (fun j hj MU=>?_) (fun j gj obj hj ZX=>?_) (fun j ej b1 c1 hj AQ FZ=>?_)
  (fun b1 B c1 P'=>⟨tL (p.hr.kl _ _ _ P').1 x.size,tL (p.hr.kl _ _ _ P').2.1 x.size,(p.hr.kl _ _ _ P').2.2⟩) (fun b1 ho=>?_) p.hr.kk
 .subst hj;simp only[Mb,fj]at MU;rw[Hp.mz]at MU;cases MU
 .subst hj;simp only[Mb,fj]at ZX;rw[Hp.mz]at ZX;cases ZX;exact⟨ee,e1,rfl,.inr rfl,ho ext⟩
 .subst hj;rw[e1]at AQ;cases AQ;obtain⟨q1,q2⟩:=hblk b1 c1 FZ;refine⟨q2,Kp p.ln p.fr q1,fun j' JA c' tw s7=>?_⟩;by_cases h:j'=j
  .exact h
  rw[t_ _ _ h]at tw;have:=p.hr.lt _ _ _ _ tw s7;omega
 cases hk:e.Rc b1 with
 |none=>exact hk|some q=>have PP:=(p.hr.kl _ q.1 q.2 hk).1;have:=p.hr.ko b1 (tX b1 PP ho);rw[hk]at this;cases this
def Z7.new(p:jC C e G g hp w){w':World}(x:Qw w w'){did:Nat}{ee:EE}(hg:ee.g=g)(hblk:∀b c,ee.Rr=some (b,c)->w.heap.size<=b):
  Z7 w e G w' (xZ e did (some ee)) (Bb G g):=by
 have e1:xZ e did (some ee) did=some ee:=nq _ _ _;have tX:∀b1,b1<w.heap.size->I2 (xZ e did (some ee)) b1->I2 e b1:=by
  rintro b1 PP ⟨j,ej,c1,q1,q2⟩;by_cases hj:j=did
  .subst hj;rw[e1]at q1;cases q1;have:=(hblk _ _ q2);omega
  rw[t_ _ _ hj]at q1;exact⟨j,ej,c1,q1,q2⟩
 refine Z7.mk' x.size (fun _ h=>.inl h) rfl (fun b1 PP ho=>?_) (fun b hb _=>x.same b hb) fun j ej hj hG=>?_
 .rcases ho with ho|⟨B,c1,P',ho⟩
  .exact .inl (tX _ PP ho)
  exact .inr ⟨B,c1,P',tX _ (p.hr.kl _ _ _ P').2.1 ho⟩
 by_cases Wl:j=did
 .subst Wl;rw[e1]at hj;cases hj;rw[hg]at hG;exact absurd hG p.ng
 rw[t_ _ _ Wl]at hj;exact⟨ej,hj,rfl,rfl,.inl ⟨rfl,rfl⟩⟩
def sO(p:jC C e G g hp w){w':World}(x:Qw w w'){did:Nat}{ee:EE}(hg:ee.g=g)(hblk:∀b c,ee.Rr=some (b,c)->w.heap.size<=b/\b<w'.heap.size){ob:Ob}(ho:Jh w' (xZ e did (some ee)) (Bb G g) ob ee){v:AV}{xv:Value}{P:Prop}(hv:VR w' (UE (xZ e did (some ee))) (xZ e did (some ee)) (Bb G g) v xv):
  Bm C e G g hp w (P,v,[(did,some (g,ob))]) (.ok (.value xv) w'):=Dv p x hg hblk (fun _=>ho) hv
def asb(p:jC C e G g hp w){did t k:Nat}(hk:k≠0):
  Bm C e G g hp w (k≠0,.l did g 0 0,[(did,some (g,.own t k []))]) (.ok (.value (.slice none 0 0)) w):=by
 refine sO p (Qw.refl w) (ee:=⟨g,none,k,0⟩) rfl sM ?_ ?_
 .exact⟨rfl,rfl,oM,sM,sM,rfl⟩
 refine .l _ _ _ _ _ (.inr rfl) rfl fun ee he _=>?_;rw[nq]at he;cases he;exact⟨lR _,fun _=>⟨rfl,rfl,none,rfl⟩⟩
theorem KR{v:AV}{x:Value}(hx:VR w (UE e) e G v x)(h1:∀c∈v.cells,c.one=true):
  x.cells.size=v.cells.length/\(∀i (h:i<v.cells.length),VR w (UE e) e G v.cells[i] (x.cells.getD i undef))/\∀u∈x.cells,u.oneCell'=true:=by
 cases v with
 |agg cs=>obtain⟨vs,rfl,hl,q1,q2⟩:=hx.IX;refine⟨hl.symm,q2,fun u hu=>?_⟩;obtain⟨i,hi,rfl⟩:=yx.1 hu;have h1:=(q2 i (by rw[hl];exact hi)).Gg (q1 i (by rw[hl];exact hi));have jk:i<vs.size:=hi;rw[gA,LS jk]at h1;exact h1
 |bad=>have:=h1 .bad p9;cases this
 |F1 cs=>have:=h1 (.F1 cs) p9;cases this
 |_=>
  have h2:=hx.Gg rfl;have hc:x.cells=#[x]:=by cases x<;>first|rfl|cases h2
  rw[hc];refine⟨rfl,fun i hi=>?_,fun u hu=>by simp at hu;subst hu;exact h2⟩;have PL:i=0:=by simp[AV.cells]at hi;omega
  subst PL;simpa[AV.cells] using hx
theorem KE{U:Nat->Prop}{v:AV}{x:Value}(hx:VD w U v x)(h1:∀c∈v.cells,c.one=true):
  x.cells.size=v.cells.length/\(∀i (h:i<v.cells.length),VD w U v.cells[i] (x.cells.getD i undef))/\∀u∈x.cells,u.oneCell'=true:=by
 cases hv:v with
 |agg cs=>
  subst hv;cases hx with
  |agg _ vs hl q1 q2=>refine⟨hl.symm,q2,fun u hu=>?_⟩;obtain⟨i,hi,rfl⟩:=yx.1 hu;have h1:=(q2 i (by rw[hl];exact hi)).Gg (q1 i (by rw[hl];exact hi));have jk:i<vs.size:=hi;rw[gA,LS jk]at h1;exact h1
 |bad=>subst hv;have:=h1 .bad p9;cases this
 |F1 cs=>subst hv;have:=h1 (.F1 cs) p9;cases this
 |_=>
  have h2:=hx.Gg (by rw[hv];rfl);have hc:x.cells=#[x]:=by cases x<;>first|rfl|cases h2
  rw[hc];refine⟨rfl,fun i hi=>?_,fun u hu=>by simp at hu;subst hu;exact h2⟩;have PL:i=0:=by simp[AV.cells]at hi;omega
  subst PL;rw[hv]at hx;simpa[AV.cells] using hx
def aax(p:jC C e G g hp w){did t:Nat}{v:AV}{x:Value}(hx:VR w (UE e) e G v x)(h1:∀c∈v.cells,c.one=true/\c.Je=true){P:Prop}:
  Bm C e G g hp w (P,.p did g 0 0 0,[(did,some (g,.box v.cells))]) (.ok (.value (.pointer (some ⟨w.heap.size,0,none⟩))) (w.alloc (.cells x.cells t))):=by
 obtain⟨hs,hv,_⟩:=KR hx fun c hc=>(h1 c hc).1;have ext:=Z7.new p (Qw.alloc w (.cells x.cells t)) (did:=did) (ee:=⟨g,some (w.heap.size,0),0,0⟩) rfl (by rintro b c ⟨⟩;exact lR _);refine sO p (Qw.alloc w _) (ee:=⟨g,some (w.heap.size,0),0,0⟩) rfl Rl ?_ ?_
 .refine⟨rfl,fun j hj=>(h1 _ (gM hj)).1,w.heap.size,0,x.cells,t,rfl,sg w _,hs,fun j hj=>(hv j hj).ext ext⟩
 refine .p _ _ _ _ _ _ (.inr rfl) rfl fun ee he _=>?_;rw[nq]at he;cases he;refine⟨lR _,fun _ b c hb=>?_⟩;cases hb
 simp
theorem Ge{P:Program}{t:Nat}{ti:TI}(hf:uz P t ti)(U:Nat->Prop):VD w U ti.OR ti.H3/\(∀c∈ti.OR.cells,c.one=true)/\ti.OR.cells.length=ti.size:=by
 have hz:∀z:ZC,VD w U z.av z.val/\z.av.one=true/\z.av.cells=[z.av]:=by intro z;cases z<;>first|exact⟨.lit _ rfl,rfl,rfl⟩|exact⟨.nil _ _,rfl,rfl⟩
 unfold TI.OR TI.H3;cases m9:ti.agg with
 |true=>
  simp only[ql];refine⟨.agg _ _ sM ?_ ?_,?_,?_⟩
  .intro i hi;simp only[nw];exact(hz _).2.1
  .intro i hi;simp only[nw];have jk:i<ti.zs.length:=Ks;have:(ti.zs.map ZC.val).toArray.getD i undef=(ti.zs[i]).val:=by simp[gA,jk]
   rw[this];exact(hz _).1
  .intro c hc;simp only[AV.cells,A2]at hc;obtain⟨z,_,rfl⟩:=hc;exact(hz z).2.1
  simp only[AV.cells,E3];exact hf.len
 |false=>
  simp only[C9,j4];have h1:=hf.one m9;have hl:=hf.len
  match Kf:ti.zs with
  |[z]=>
   refine⟨(hz z).1,?_,?_⟩
   .rw[(hz z).2.2];intro c hc;simp at hc;subst hc;exact(hz z).2.1
   rw[(hz z).2.2,h1];rfl
  |[]=>rw[Kf,h1]at hl;cases hl
  |_::_::_=>rw[Kf,h1]at hl;simp at hl
theorem ahk(ti:TI):∀c∈ti.OR.cells,c.Je=true:=by
 have hz:∀z:ZC,z.av.Je=true/\z.av.cells=[z.av]:=by intro z;cases z<;>exact⟨rfl,rfl⟩
 unfold TI.OR;cases ti.agg with
 |true=>intro c hc;simp only[ql,AV.cells,A2]at hc;obtain⟨z,_,rfl⟩:=hc;exact(hz z).1
 |false=>
  simp only[C9,j4];split
  .rw[(hz _).2];intro c hc;simp at hc;subst hc;exact(hz _).1
  intro c hc;simp[AV.cells]at hc;subst hc;rfl
def Eg{P:Program}{t:Nat}{ti:TI}(hf:uz P t ti)(w:World):
  (Instr.alloc t true (.tuple #[])).run P w=.ok (.pointer (some ⟨w.heap.size,0,none⟩)) (w.alloc (.cells ti.H3.cells t)):=by
 unfold Instr.alloc;rw[ig,ZW hf,GQ];simp[newVar,newRow]
def afx(p:jC C e G g hp w)(hT:JE C.P T){did t:Nat}(h:(tl T t).size≠0){P:Prop}:
  Bm C e G g hp w (P,.p did g 0 0 0,[(did,some (g,.box (tl T t).OR.cells))]) (((Instr.alloc t true (.tuple #[])).run C.P w).andThen fun v w=>.ok (.value v) w):=by
 have hf:=hT.fits h;obtain⟨h1,h2,_⟩:=Ge (w:=w) hf (UE e);rw[Eg hf,GQ];exact aax p (.rC _ _ h1) fun c hc=>⟨h2 c hc,ahk _ c hc⟩
def ahY{P:Program}(t:Nat)(v:Value)(w:World):
  (Instr.box t v).run P w=.ok (.pointer (some ⟨w.heap.size,0,none⟩)) (w.alloc (.cells v.cells t)):=by
 simp[Instr.box,newVar,newRow]
def anQ{z:Array Value}{n k:Nat}(hz:z.size=k){i j:Nat}(hi:i<n)(hj:j<k):(madeCells z (n*k)).getD (i*k+j) undef=z.getD j undef:=by have PP:=m7 hi hj;have tK:=(RN (i:=i) hj).2;simp only[madeCells,gA,Array.getElem?_map,Array.getElem?_range,PP,ql,rL,jw,hz,tK];have:j<z.size:=oM;simp[this]
def afY(p:jC C e G g hp w)(hT:JE C.P T){did t el:Nat}(ht:(tl T t).ty=.slice el){kl kc:IntKind}{l c:Int}(h0:0<=l)(h1:l<=c)(Yg:c*(tl T el).bytes<=140737488355328)(ru:c<=9223372036854775807)(hs:(tl T el).size≠0){P:Prop}:
  Bm C e G g hp w (P,.l did g 0 l.toNat,[(did,some (g,.own el (tl T el).size (List.replicate l.toNat (tl T el).OR)))])
   (((Instr.makeSlice t (.int kl l) (.int kc c)).run C.P w).andThen fun v w=>.ok (.value v) w):=by
 obtain⟨d,hu,hd⟩:=(hT.fit ht sM).under;rw[ht]at hd;cases hd
 have hf:=hT.fits hs;obtain⟨i,hi,xB,Sk,hz⟩:=hf.info;obtain⟨v1,v2,v3⟩:=Ge (w:=w) hf (UE e);obtain⟨c1,_,_⟩:=KE v1 v2;have zJ:(tl T el).H3.cells.size=(tl T el).size:=by rw[c1,v3]
 rw[run_make (P:=C.P) w t el i _ hu hi hz kl kc l c h0 h1 (by rw[Sk,Int.mul_comm];omega) ru,GQ,xB];have ext:=Z7.new p (Qw.alloc w (.cells (madeCells (tl T el).H3.cells (c.toNat*(tl T el).size)) el)) (did:=did)
  (ee:=⟨g,some (w.heap.size,c.toNat),(tl T el).size,l.toNat⟩) rfl (by rintro b c ⟨⟩;exact lR _)
 refine sO p (Qw.alloc w _) (ee:=⟨g,some (w.heap.size,c.toNat),(tl T el).size,l.toNat⟩) rfl Rl ?_ ?_
 .refine⟨rfl,sM,oM,?_,?_,?_⟩
  .intro i hi;simp only[Jr];exact v3
  .intro i hi j hj;simp only[Jr]at hj ⊢;exact v2 _ (gM _)
  refine⟨?_,xF,_,.of (sg w _),size_madeCells _ _,?_⟩
  .simp only[maxLen];omega
  intro i hi j hj;simp only[Jr]at hj ⊢;have jk:i<c.toNat:=vT;rw[anQ zJ jk (by rw[<-v3];exact hj)];have hd:VD w (UE e) (tl T el).OR.cells[j] ((tl T el).H3.cells.getD j undef):=(KE v1 v2).2.1 j hj;exact .val _ _ (.rC _ _ (hd.mono ext.size ext.un ext.same))
 refine .l _ _ _ _ _ (.inr rfl) rfl fun ee he _=>?_;rw[nq]at he;cases he;refine⟨sM,fun _=>⟨c.toNat,sM,sM,oM⟩⟩
end
open Go
def cH.congr{w:World}{e:bQ}{G G':Nat->Prop}{hp hp':Hp}(h:cH w e G hp)(hg:∀g,G g↔G' g)(hh:∀i,hp'.get i=hp.get i):cH w e G' hp':=by have:G=G':=funext fun g=>propext (hg g);subst this;exact⟨fun i hi=>h.dead i ((hh i).symm.trans hi),fun i g ob hi=>h.live i g ob ((hh i).symm.trans hi),h.inj,h.lt,h.nz,h.kl,h.ko,h.kk⟩
section
variable{C:Cx}{e:bQ}{G:Nat->Prop}{g:Nat}{hp:Hp}{w:World}{T:vp}
theorem aqq(hr:cH w e G hp){e':bQ}{D:Nat->Prop}(x:WD e e' D)(n:Nat){B c:Nat}{v:AV}{u:Value}(h:VC w e G B c v u)(hP:Xa n hp v)(hD:∀i∈qg n hp v,D i)(cE:∀b',e.Rc b'=some (B,c)->UE e' b'):VD w (UE e') (fz n hp v) u:=by
 cases h with
 |val _ _ Wi=>exact i8 hr x n Wi hP hD|Mt t' k' a h0=>cases n<;>exact .nil _ _
 |Rc t' k' xs b' Og F8 q1 q2 q3 q4 q5 q6 q7 q8 q9=>
  have vY:fz n hp (.Rc t' k' xs)=.sl xs false:=fV;rw[vY];refine .sl _ _ b' 0 Og k' (fun j=>F8.getD j undef) (cE b' q1) (hr.kl _ _ _ q1).1 q5 q6 sM q4 q7 ?_ q8 ?_
  .intro j hj;rw[cy];refine q2.KP ?_;rw[q3];exact tL hj (RW _ q5)
  intro i hi j hj;exact(q9 i hi j hj).mono (lR _) (fun b _ hb=>x.un b hb) (fun _ _ _=>rfl)
theorem ack{c:AV}(h:Kr hp c):(vZ hp c).one=true:=by
 cases c with
 |l id g off len=>
  have hh:=o9 (n:=1) (hp:=hp) (c:=.l id g off len) h;simp only[Kr,Xa]at h;cases hg:hp.get id with
  |none=>simp only[hg]at h|some q=>
   obtain⟨g',ob⟩:=q;cases ob with
   |box cs=>simp only[hg]at h|mp _=>simp only[hg]at h|ms _=>simp only[hg]at h|bd _ _ _=>simp only[hg]at h|own t k es=>
    simp only[vZ,hg];split
    .rfl
    exact hh
 |bad=>exact h.elim|agg=>exact h.elim|F1=>exact h.elim|Rc=>exact h.elim|_=>rfl
theorem atT(c:AV):(vZ hp c).cells=[vZ hp c]\/c.one=false:=by
 cases c with
 |agg cs=>exact .inr rfl|bad=>exact .inr rfl|F1 cs=>exact .inr rfl|l id g off len=>
  refine .inl ?_;simp only[vZ];split
  .split
   .rfl
   rcases HR 1 hp (.l id g off len)with h|h
   .exact h
   cases h
  rfl
 |_=>exact .inl rfl
def j5{el:AV}(hc:∀c∈el.cells,c.one=true):(cK (vZ hp) el).cells=el.cells.map (vZ hp):=b9 atT hc
def O7{c:AV}(h:Kr hp c):c.one=true:=by cases c<;>first|rfl|exact h.elim
theorem kD{hp':Hp}{c:AV}(h:∀i∈JR c,hp'.get i=hp.get i):vZ hp' c=vZ hp c/\(Kr hp' c↔Kr hp c):=by
 cases c with
 |l id g off len=>
  have h1:=h id (by simp[JR]);refine⟨?_,?_⟩
  .simp only[vZ,h1];split
   .split
    .have:∀e:AV,cK (fz 0 hp') e=cK (fz 0 hp) e:=by
      intro e;have hf:∀c,fz 0 hp' c=fz 0 hp c:=Pn;cases e<;>simp only[cK,hf]
      congr 1
      exact zT fun c _=>hf c
     congr 1
     exact zT fun c _=>this c
    simp only[fz,h1];split
    .congr 1
     refine zT fun e _=>?_;have hf:∀c,fz 0 hp' c=fz 0 hp c:=Pn;cases e<;>simp only[cK,hf]
     congr 1
     exact zT fun c _=>hf c
    rfl
   rfl
  have hf:∀c,Xa 0 hp' c=Xa 0 hp c:=Pn;simp only[Kr,Xa,h1,hf]
 |_=>exact⟨rfl,HO⟩
theorem iu(hr:cH w e G hp){id gi t k:Nat}{es es':List AV}{D:List Nat}(A:Nat->Nat->Prop)(hg:hp.get id=some (gi,.own t k es))(hid:id∉D)(hlen:es'.length=es.length)(Fh:∀i (h:i<es'.length),es'[i].cells.length=k)(hc:∀i (h:i<es.length) (h':i<es'.length) j (hj:j<es[i].cells.length) (tw:j<es'[i].cells.length),(es'[i].cells[j]=es[i].cells[j])\/
   (A i j/\∃qJ,qJ∈D/\JR es[i].cells[j]=[qJ]/\Kr hp es[i].cells[j]/\es'[i].cells[j]=vZ hp es[i].cells[j]))(hD:∀qJ∈D,∃i j,∃(h:i<es.length) (h':i<es'.length) (hj:j<es[i].cells.length) (tw:j<es'[i].cells.length),JR es[i].cells[j]=[qJ])(ge:∀qJ∈D,∀i j i' j' (h:i<es.length) (hj:j<es[i].cells.length) (h':i'<es.length) (tw:j'<es[i'].cells.length),A i j->A i' j'->JR es[i].cells[j]=[qJ]->JR es[i'].cells[j']=[qJ]->i=i'/\j=j'):
  ∃e',cH w e' G ((id,some (gi,.own t k es'))::qq D++hp)/\Z7 w e G w e' G/\e'.z=e.z/\(∀b,TT e' b->TT e b)/\(∀b,UE e b->UE e' b)/\(∀j,j∉D->e' j=e j):=by
 classical
 obtain⟨ee,he,V8,QC,jz⟩:=hr.live id _ _ hg;obtain⟨hk,hn,zU,DN,h1,rm⟩:=jz;cases OT:ee.Rr with
 |none=>
  rw[OT]at rm;subst rm;have asG:D=[]:=by
   cases D with
   |nil=>rfl|cons d D=>obtain⟨i,_,h,_⟩:=hD d mS;simp at h
  subst asG;have fg:es'=[]:=Ha (by simpa using hlen);subst fg;refine⟨e,hr.congr (fun _=>HO) fun i=>?_,Z7.refl _ _ _,rfl,fun _ h=>h,fun _ h=>h,fun _ _=>rfl⟩;simp only[qq,FV,Mb,fj];by_cases h:i=id
  .subst h;rw[Hp.mz,hg]
  rw[Hp.RG _ _ h]
 |some q=>
  obtain⟨B,bcap⟩:=q;rw[OT]at rm;obtain⟨hm,Zm,cs,hh,hs,hv⟩:=rm;let AtC:Nat->Nat->Prop:=fun b c=>∃qJ,qJ∈D/\∃SV cap,e qJ=some SV/\SV.Rr=some (b,cap)/\∃i j,∃(h:i<es.length)(hj:j<es[i].cells.length),A i j/\c=i*k+j/\∃g' len,es[i].cells[j]=.l qJ g' 0 len
  let kd:Nat->Option (Az):=fun b=>if h:∃c,AtC b c then some (B,Classical.choose h) else match e.Rc b with
   |some (B',c')=>if I2 (nO e D) B' then some (B',c') else none|none=>none
  have atu:∀b c c',AtC b c->AtC b c'->c=c':=by rintro b c c' ⟨d,hd,ed,cap,h1,h2,i,j,hi,hj,hA,rfl,g1,l1,NE⟩ ⟨d',Uh,gK,Og,oS,D8,i',j',jk,tw,vj,rfl,g2,l2,Ac⟩;have:=hr.inj d d' ed gK b cap Og h1 oS h2 D8;subst this;obtain⟨rfl,rfl⟩:=ge d hd i j i' j' hi hj jk tw hA vj (by rw[NE];rfl) (by rw[Ac];rfl);rfl
  have kd1:∀b c,AtC b c->kd b=some (B,c):=by intro b c h;have hex:∃c,AtC b c:=⟨c,h⟩;simp only[kd];rw[dX hex,atu b _ c (vB hex) h]
  have kdobj:∀b c,AtC b c->I2 e b:=by rintro b c ⟨d,_,ed,cap,h1,h2,_⟩;exact⟨d,ed,cap,h1,h2⟩
  have kd2:∀b B' c',e.Rc b=some (B',c')->I2 (nO e D) B'->kd b=some (B',c'):=by
   intro b B' c' h ho;have hn:¬∃c,AtC b c:=by rintro⟨c,hc⟩;have:=hr.ko b (kdobj b c hc);rw[h]at this;cases this
   simp only[kd];rw[sD hn,h];simp only[iP ho]
  have kd3:∀b B' c',kd b=some (B',c')->(AtC b c'/\B'=B)\/(e.Rc b=some (B',c')/\I2 (nO e D) B'):=by
   intro b B' c' h;simp only[kd]at h;split at h
   .rename_i hex;simp only[Kh,jH]at h;obtain⟨rfl,rfl⟩:=h;exact .inl ⟨vB hex,rfl⟩
   split at h
   .rename_i B'' c'' tF;split at h
    .rename_i ho;cases h
     exact .inr ⟨tF,ho⟩
    cases h
   cases h
  generalize VB:kd=SF at kd1 kd2 kd3;clear VB kd;have g8:I2 (nO e D) B:=⟨id,ee,bcap,by rw[KF hid];exact he,OT⟩;let e':bQ:=⟨fun j=>if j∈D then none else e j,e.z,SF⟩
  have ed:∀j,e' j=nO e D j:=fun j=>rfl;have tX:∀b,I2 e' b↔I2 (nO e D) b:=fun b=>HO;have own_of:∀b,TT e' b->TT e b:=by
   rintro b (ho|⟨B',c',tF,ho⟩)
   .exact .inl ((tX b).1 ho).nO
   rcases kd3 _ _ _ tF with ⟨h,_⟩|⟨h,h'⟩
   .exact .inl (kdobj _ _ h)
   exact .inr ⟨B',c',h,h'.nO⟩
  have aQ:∀b,UE e b->UE e' b:=fun b hb=>⟨hb.1,fun ho=>hb.2 (own_of b ho)⟩;have ext:Z7 w e G w e' G:=Z7.mk' (lR _) (fun _ h=>h) rfl (fun b _ ho=>own_of b ho) (fun _ _ _=>rfl) fun j ej hj _=>⟨ej,(JG hj).2,rfl,rfl,.inl ⟨rfl,rfl⟩⟩;have Z4:∀b,I2 e' b->e'.Rc b=none:=by
   intro b ho;cases tF:e'.Rc b with
   |none=>rfl|some q=>
    obtain⟨B',c'⟩:=q;obtain⟨j,ej,cj,hj,FZ⟩:=ho;obtain⟨UD,hj⟩:=JG hj;rcases kd3 _ _ _ tF with ⟨⟨d,hd,gK,cap,h1,h2,_⟩,_⟩|⟨h,_⟩
    .have:=hr.inj j d ej gK b cj cap hj h1 FZ h2;subst this;exact absurd hd UD
    have:=hr.ko b ⟨j,ej,cj,hj,FZ⟩;rw[h]at this;cases this
  have vy:∀i,Hp.get ((id,some (gi,.own t k es'))::qq D++hp) i=if i=id then some (gi,.own t k es') else if i∈D then none else hp.get i:=by
   intro i;by_cases h:i=id
   .subst h;rw[Mb,Hp.mz,iP rfl]
   rw[Mb,Hp.RG _ _ h,iN h];exact wx D hp i
  refine⟨e',?_,ext,rfl,own_of,aQ,fun j hj=>by show(if j∈D then none else e j)=_;rw[iN hj]⟩;refine hr.step (fun j=>j=id\/j∈D) ext rfl (fun j hj=>?_) (fun j ej b1 c1 hj AQ FZ=>⟨rfl,fun b2 c2 BF=>⟨rfl,?_⟩⟩) (fun j hj dK=>?_) (fun j gj obj hj ZX=>?_) (fun j ej b1 c1 hj AQ FZ=>?_)
   (fun b1 B1 c1 P'=>?_) Z4 (fun b1 B1 c1 P'=>?_)
  .simp only[not_or]at hj;refine⟨by rw[ed,KF hj.2],?_⟩;rw[vy,iN hj.1,iN hj.2]
  .simp only[not_or]at hj;exact kd2 _ _ _ BF ⟨j,ej,c1,by rw[KF hj.2];exact AQ,FZ⟩
  .rw[vy]at dK;rcases hj with rfl|hj
   .rw[iP rfl]at dK;cases dK
   show(if j∈D then none else e j)=none;rw[iP hj]
  .rw[vy]at ZX;by_cases ZJ:j=id
   .subst ZJ;rw[iP rfl]at ZX;cases ZX
    refine⟨ee,by rw[ed,KF hid];exact he,V8,QC,hk,oM,zU,Fh,?_,?_⟩
    .intro i hi j' tw;have jk:i<es.length:=oM;have Se:j'<es[i].cells.length:=by rw[DN i jk];rw[Fh i hi]at tw;exact tw
     rcases hc i jk hi j' Se tw with h|⟨hA,qJ,oA,Lq,hP,h⟩
     .rw[h];exact h1 _ _ _ _
     rw[h];exact ack hP
    rw[OT];refine⟨hm,oM,cs,hh,hs,fun i hi j' tw=>?_⟩;have jk:i<es.length:=oM;have Se:j'<es[i].cells.length:=by rw[DN i jk];rw[Fh i hi]at tw;exact tw
    have Uu:=hv i jk j' Se;rcases hc i jk hi j' Se tw with h|⟨hA,qJ,oA,Lq,hP,h⟩
    .rw[h];exact Uu.ext ext fun b1 aZ=>⟨rfl,kd2 _ _ _ aZ g8⟩
    rw[h];generalize VJ:es[i].cells[j']=cell at Uu Lq hP;cases cell with
    |l id'' g'' off len=>
     simp only[JR,bD,iG]at Lq;subst Lq;simp only[Kr,Xa]at hP;split at hP
     .rename_i g3 t3 k3 es3 Gc;obtain⟨rfl,d_,hP⟩:=hP;have Wi:=Uu.Je rfl;obtain⟨e3,P9,au3,ajc,cA,arL⟩:=Zu hr Wi Gc d_;simp only[vZ,Gc];by_cases RF:off=0
      .subst RF;rw[iP rfl];obtain⟨N1,_,Uz,arZ,Zr,By⟩:=arL;unfold cL at cA;cases IB:e3.Rr with
       |none=>rw[IB]at cA By;obtain⟨_,rfl,a,pA⟩:=cA;subst By;rw[pA];exact .Mt _ _ a Uz
       |some q3=>
        obtain⟨b3,bcap3⟩:=q3;rw[IB]at cA By;obtain⟨cap3,pA,anW,auy⟩:=cA;obtain⟨WF,auE,cs3,ai9,eF,yR⟩:=By;have Nc:∀i (hi:i<es3.length),∀c∈es3[i].cells,c.one=true:=by intro i hi c hc;obtain⟨j,hj,rfl⟩:=G_ hc;exact Zr i hi j hj
        rw[pA];have ajw:(es3.map (cK (fz 0 hp))).length=len:=xF;have qp:len=(es3.map (cK (fz 0 hp))).length:=ajw.symm;rw[gw];conv=>arg 7;rw[qp]
        refine .Rc _ _ _ b3 cap3 cs3 (kd1 _ _ ⟨_,oA,e3,bcap3,P9,IB,i,j',jk,Se,hA,rfl,_,_,VJ⟩) ai9 (by rw[eF,<-anW,cy]) Uz oM oM ?_ ?_ ?_
        .intro a ha;have fR:a<es3.length:=VM;simp only[nw];rw[Nr (Nc a fR),E3];exact arZ _ _
        .intro a ha c Zp;have fR:a<es3.length:=VM;simp only[nw,Nr (Nc a fR)]at Zp ⊢;exact o9 (hP _ (gM fR) _ (gM _))
        intro a ha c Zp;have fR:a<es3.length:=VM;simp only[nw,Nr (Nc a fR)]at Zp ⊢;have abm:c<es3[a].cells.length:=by simpa using Zp
        refine aqq hr (D:=fun _=>False) ⟨aQ,fun _ _ _ _ h=>h.elim⟩ 0 (yR a fR c abm) (hP _ (gM fR) _ (gM _)) (by
         intro i hi;generalize es3[a].cells[c]=y at hi;cases y<;>simp[qg]at hi) fun b' C6=>?_
        refine⟨(hr.kl _ _ _ C6).2.2,?_⟩;rintro(ho|⟨B',c',tF,ho⟩)
        .have:=hr.ko b' (((tX b').1 ho).nO);rw[C6]at this;cases this
        rcases kd3 _ _ _ tF with ⟨h,_⟩|⟨h,h'⟩
        .have:=hr.ko b' (kdobj _ _ h);rw[C6]at this;cases this
        rw[C6]at h;cases h
        obtain⟨j,ej,cj,hj,FZ⟩:=h';obtain⟨UD,hj⟩:=JG hj;have:=hr.inj j _ ej e3 b3 cj bcap3 hj P9 FZ IB;subst this;exact UD oA
      rw[iN RF];refine .val _ _ (.rC _ _ (i8 hr (D:=fun j=>j=id'') ⟨aQ,?_⟩ 1 Wi (by simp only[Xa,Gc];exact⟨trivial,d_,hP⟩) ?_))
      .rintro a ea ba ca rfl JV RV;rw[P9]at JV;cases JV;have nokid:∀c,¬AtC ba c:=by rintro c ⟨d,hd,gK,cap,h1,h2,i',j'',tg,anv,vj,rfl,g4,l4,EJ⟩;have:=hr.inj d _ gK e3 ba cap ca h1 P9 h2 RV;subst this;obtain⟨rfl,rfl⟩:=ge d hd i' j'' i j' tg anv jk Se vj hA (by rw[EJ];rfl) (by rw[VJ];rfl);rw[VJ]at EJ;simp only[AV.l.injEq]at EJ;exact RF EJ.2.2.1
       have notobj:¬I2 (nO e D) ba:=by rintro⟨j,ej,cj,hj,FZ⟩;obtain⟨UD,hj⟩:=JG hj;have:=hr.inj j _ ej e3 ba cj ca hj P9 FZ RV;subst this;exact UD oA
       refine⟨⟨hr.nz _ _ _ _ P9 RV,?_⟩,fun b' c' C6=>⟨(hr.kl _ _ _ C6).2.2,?_⟩⟩
       .rintro(ho|⟨B',c',tF,ho⟩)
        .exact notobj ho
        rcases kd3 _ _ _ tF with ⟨h,_⟩|⟨h,h'⟩
        .exact nokid _ h
        have:=hr.ko ba ⟨_,e3,ca,P9,RV⟩;rw[h]at this;cases this
       rintro(ho|⟨B',c'',tF,ho⟩)
       .have:=hr.ko b' (((tX b').1 ho).nO);rw[C6]at this;cases this
       rcases kd3 _ _ _ tF with ⟨h,_⟩|⟨h,h'⟩
       .have:=hr.ko b' (kdobj _ _ h);rw[C6]at this;cases this
       rw[C6]at h;cases h
       exact notobj h'
      intro a ha;simp only[qg,Gc,rX]at ha;rcases ha with rfl|ha
      .rfl
      simp only[CJ]at ha;obtain⟨y,hy,y',an0,ha⟩:=ha;have:=hP y hy y' an0;cases y'<;>simp[qg]at ha
     exact hP.elim
    |_=>cases Lq
   rw[iN ZJ]at ZX;rcases hj with hj|hj
   .exact absurd hj ZJ
   rw[iP hj]at ZX;cases ZX
  .obtain⟨UD,AQ⟩:=JG AQ;refine⟨hr.lt _ _ _ _ AQ FZ,hr.nz _ _ _ _ AQ FZ,fun j' JA c' tw s7=>?_⟩;obtain⟨_,tw⟩:=JG tw;exact hr.inj _ _ _ _ _ _ _ tw AQ s7 FZ
  .rcases kd3 _ _ _ P' with ⟨h,rfl⟩|⟨h,_⟩
   .exact⟨hr.u7 (kdobj _ _ h),hr.lt _ _ _ _ he OT,hr.BO (kdobj _ _ h)⟩
   exact hr.kl _ _ _ h
  rcases kd3 _ _ _ P' with ⟨h,rfl⟩|⟨_,h⟩
  .exact Z4 B1 ((tX B1).2 g8)
  exact Z4 B1 ((tX B1).2 h)
end
open Go
section
variable{C:Cx}{e:bQ}{G:Nat->Prop}{g:Nat}{hp:Hp}{w:World}{T:vp}
theorem qA{P:Program}{b off t:Nat}{fz:Az}:∀(vs:List Value)(i:Nat)(cur:Array Value)(w:World),w.heap[b]?=some (.cells cur t fz)->NF fz cur.size/\(fz=(0,0)\/t=5)->off+i+vs.length<=cur.size->(∀v∈vs,v.oneCell'=true)->
  (storeCells ⟨b,off,none⟩ vs i).run P w=.ok () (w.setRow b (cur.toList.take (off+i)++vs++cur.toList.drop (off+i+vs.length)).toArray)
 |[],i,cur,w,hg,_,_,_=>by simp only[storeCells,MP,N9,dq,pH,Array.toArray_toList];rw[setRow_self w b cur t fz hg];rfl|v::So,i,cur,w,hg,hn,hl,h1=>by
  have hi:off+i<cur.size:=by simp at hl;omega
  have ut:(⟨b,off,none⟩:Addr).add i=⟨b,off+i,none⟩:=by unfold Addr.add;split<;>simp_all
  have iS:Cl w b cur t:=⟨fz,hg,hn⟩;have VV:(store ((⟨b,off,none⟩:Addr).add i) v).run P w=.ok () (w.setRow b (cur.setIfInBounds (off+i) v)):=by rw[ut,run_store P w _ v _ (h1 v sM),iS.KP hi];simp[iS.frozen hi,setCell_eq_setRow w b (off+i) cur t fz v hg]
  have ih:=qA (P:=P) (off:=off) So (i+1) (cur.setIfInBounds (off+i) v) (w.setRow b (cur.setIfInBounds (off+i) v)) (setRow_heap w b cur _ t _ hg) dB (by simp at hl ⊢;omega) (fun x hx=>h1 x (by simp[hx]));simp only[storeCells,ig,VV,GQ,ih,setRow_setRow];congr 3
  have e:=list_seg_step cur.toList (off+i) v So (by simp at hl ⊢;omega);simpa[Array.toList_setIfInBounds,lX] using e
def Dz{P:Program}{t:Nat}{ti:TI}(hf:uz P t ti){b off:Nat}{cur:Array Value}{T':Nat}(hh:Cl w b cur T'){x:Value}(hs:x.cells.size=ti.size)(h1:∀u∈x.cells,u.oneCell'=true)(hl:off+ti.size<=cur.size):
  (Instr.storeAt t (.pointer (some ⟨b,off,none⟩)) x).run P w=.ok () (w.setRow b (cur.toList.take off++x.cells.toList++cur.toList.drop (off+ti.size)).toArray):=by
 unfold Instr.storeAt Instr.sureAddr storeVar;rw[ig,fX,GQ,ig,xO hf,GQ];have SO:¬(x.cells.size≠ti.size):=oM;rw[iN SO];obtain⟨fz,hh,hn⟩:=hh;have:=qA (P:=P) (off:=off) x.cells.toList 0 cur w hh hn xF Cd;rw[this];simp[hs]
def Cl.setRow{w:World}{b t:Nat}{cs F8:Array Value}(h:Cl w b cs t)(hs:F8.size=cs.size):Cl (w.setRow b F8) b F8 t:=by obtain⟨fz,hh,hn⟩:=h;exact⟨fz,setRow_heap w b cs F8 t fz hh,by rw[hs];exact hn⟩
def Uv{cur vs:List Value}{off j:Nat}(hl:off+vs.length<=cur.length):
  (cur.take off++vs++cur.drop (off+vs.length)).toArray.getD j undef=if off<=j/\j<off+vs.length then vs.getD (j-off) undef else cur.toArray.getD j undef:=by
 simp only[gA,n_,gE];by_cases h1:j<off
 .rw[iN oM,Z5,fd xF,qL,iP h1]
 by_cases h2:j<off+vs.length
 .rw[iP ⟨oM,h2⟩,fd xF,Ga xF];congr 2
  simp;omega
 rw[iN oM,Ga xF,BY];congr 2
 simp;omega
def lj{cs vs:List AV}{off j:Nat}(hl:off+vs.length<=cs.length)(hj:j<(Wj cs off vs).length):
  (Wj cs off vs)[j]=if h:off<=j/\j<off+vs.length then vs[j-off]'oM else cs[j]'(by unfold Wj at hj;simp at hj;omega):=by
 unfold Wj at hj ⊢;have Se:j<cs.length:=YH;by_cases h1:j<off
 ·rw[sD oM];simp only[Z5];rw[Tx xF,DA]
 by_cases h2:j<off+vs.length
 ·rw[dX ⟨oM,h2⟩,Tx xF,Mg xF];congr 1
  simp;omega
 rw[sD oM,Mg xF,qY];congr 1
 simp;omega
def TL{cs vs:List AV}{off:Nat}(hl:off+vs.length<=cs.length):(Wj cs off vs).length=cs.length:=by unfold Wj;simp;omega
def Z7.write{id:Nat}{ee:EE}{b c:Nat}(he:e id=some ee)(hb:ee.Rr=some (b,c))(cs:Array Value):
  Z7 w e G (w.setRow b cs) e (Bb G g):=by
 refine Z7.mk' sM (fun _ h=>.inl h) rfl (fun _ _ h=>h) (fun b' _ hu=>lQ w b b' cs ?_) fun _ SV h _=>⟨SV,h,rfl,rfl,.inl ⟨rfl,rfl⟩⟩;rintro rfl;exact hu (.inl ⟨id,ee,c,he,hb⟩)
def mR(p:jC C e G g hp w){id:Nat}{ee:EE}{b c:Nat}(he:e id=some ee)(hb:ee.Rr=some (b,c))(cs:Array Value){ob:Ob}(ho:Jh (w.setRow b cs) e (Bb G g) ob ee){P:Prop}{v:AV}{nx:Next}(RK:(∃xv,nx=.value xv/\VR (w.setRow b cs) (UE e) e (Bb G g) v xv)\/(nx=.skip/\v=.bad)):
  cH (w.setRow b cs) e (Bb G g) ((id,some (ee.g,ob))::hp)/\Bm C e G g hp w (P,v,[(id,some (ee.g,ob))]) (.ok nx (w.setRow b cs)):=by
 have ext:=Z7.write (w:=w) (g:=g) (G:=G) he hb cs;have HL:I2 e b:=⟨id,ee,c,he,hb⟩;have key:cH (w.setRow b cs) e (Bb G g) ((id,some (ee.g,ob))::hp):=by
  refine p.hr.step (fun j=>j=id) ext rfl (fun j hj=>⟨rfl,Hp.RG _ _ hj⟩) (fun j ej b1 c1 hj AQ FZ=>⟨lQ w b b1 cs ?_,fun b2 c2 BF=>⟨lQ w b b2 cs ?_,BF⟩⟩)
   (fun j hj hn=>by subst hj;rw[Hp.mz]at hn;cases hn) (fun j gj obj hj hg=>by subst hj;rw[Hp.mz]at hg;cases hg;exact⟨ee,he,rfl,.inl (p.hr.gen _ _ he),ho⟩)
   (fun j ej b1 c1 hj AQ FZ=>?_) (fun b1 B c1 P'=>by simpa using p.hr.kl b1 B c1 P') p.hr.ko p.hr.kk
  .rintro rfl;exact hj (p.hr.inj j id ej ee b1 c1 c AQ he FZ hb)
  .rintro rfl;have:=p.hr.ko b2 HL;rw[BF]at this;cases this
  subst hj;rw[he]at AQ;cases AQ;rw[hb]at FZ;cases FZ;exact⟨by simpa using p.hr.lt _ _ _ _ he hb,p.hr.nz _ _ _ _ he hb,fun j' JA c' tw s7=>p.hr.inj _ _ _ _ _ _ _ tw he s7 hb⟩
 refine⟨key,nx,_,e,rfl,key,ext,p.ln.step p.fr.size ext rfl (fun _ _ h=>h),p.fr.step p.ln rfl rfl rfl sM (fun b' _ hu=>lQ w b b' cs ?_),RK⟩;rintro rfl;exact hu (.inl HL)
def ahf(p:jC C e G g hp w)(hT:JE C.P T){t id g' off:Nat}{x xa:Value}{v:AV}{cs:List AV}(hx:VR w (UE e) e G v x)(ha:VR w (UE e) e G (.p id g' 0 0 off) xa)(hg:hp.get id=some (g',.box cs))(L4:(tl T t).size≠0)(hs:v.cells.length=(tl T t).size)(h1:∀c∈v.cells,c.one=true)(hl:off+(tl T t).size<=cs.length){P:Prop}:
  Bm C e G g hp w (P,.bad,[(id,some (g',.box (Wj cs off v.cells)))]) (((Instr.storeAt t xa x).run C.P w).andThen fun _ w=>.ok .skip w):=by
 have hf:=hT.fits L4;obtain⟨ee,he,V8,_,jz⟩:=p.hr.live id _ _ hg;obtain⟨hn,q1,b,c,vs,T',hb,hh,xB,hv⟩:=jz;obtain⟨_,_,QB⟩:=ha.nj;obtain⟨_,QB⟩:=QB ee he V8;obtain rfl:=QB hn b c hb;obtain⟨c1,c2,c3⟩:=KR hx h1;have Ik:=Dz (w:=w) hf (.of hh) (c1.trans hs) c3 (off:=0*ee.k+off) oM;subst V8;rw[Ik,GQ];refine(mR p he hb _ ?_ (.inr ⟨rfl,rfl⟩)).2;have ext:=Z7.write (w:=w) (g:=g) (G:=G) he hb (vs.toList.take (0*ee.k+off)++x.cells.toList++vs.toList.drop (0*ee.k+off+(tl T t).size)).toArray;have hle:off+v.cells.length<=cs.length:=oM;refine⟨hn,?_,b,c,_,T',hb,setRow_heap w b vs _ T' (0,0) hh,?_,?_⟩
 .intro j hj;rw[lj hle hj];split
  .exact h1 _ (gM _)
  exact q1 _ _
 .rw[TL hle];simp;omega
 intro j hj;refine VR.ext ext ?_;rw[lj hle hj];have e1:(0*ee.k+off+(tl T t).size)=0*ee.k+off+x.cells.toList.length:=xF;rw[e1,Uv xF];have e2:x.cells.toList.length=v.cells.length:=by simp[c1]
 simp only[gw,cy,e2];split
 .have:=c2 (j-off) oM;rw[gA]at this;rw[gE];simpa using this
 have:=hv j (by rw[TL hle]at hj;exact hj);simpa using this
def r_{k off:Nat}{el v:AV}(hk:el.cells.length=k)(hl:off+v.cells.length<=k):(TG k el off v).cells=Wj el.cells off v.cells:=by
 unfold TG;split
 .rename_i h;obtain⟨rfl,h2⟩:=h;simp only[Wj,Td,fj,cy];rw[Db oM,MP]
 rfl
theorem ado(p:jC C e G g hp w)(hT:JE C.P T){t id g' i off T' k:Nat}{x xa:Value}{v:AV}{es:List AV}(hx:VR w (UE e) e G v x)(ha:VR w (UE e) e G (.p id g' es.length i off) xa)(hg:hp.get id=some (g',.own T' k es))(hi:i<es.length)(L4:(tl T t).size≠0)(hs:v.cells.length=(tl T t).size)(EO:off+(tl T t).size<=k)(h1:∀c∈v.cells,c.one=true){P:Prop}:
  ∃w',((Instr.storeAt t xa x).run C.P w).andThen (fun _ w=>.ok .skip w)=.ok Next.skip w'/\cH w' e (Bb G g) ((id,some (g',.own T' k (es.set i (TG k (es.getD i .bad) off v))))::hp)/\Z7 w e G w' e (Bb G g)/\ke C w' e (Bb G g)/\OL C w':=by
 obtain⟨ee,he,V8,QC,jz⟩:=p.hr.live id _ _ hg;obtain⟨tF,hn,zU,DN,q1,hb⟩:=jz;have hf:=hT.fits (t:=t) L4;cases OT:ee.Rr with
 |none=>rw[OT]at hb;subst hb;simp at hi|some q=>
  obtain⟨b,bcap⟩:=q;rw[OT]at hb;obtain⟨hm,mu,cs,hh,xB,hv⟩:=hb;obtain⟨_,_,QB⟩:=ha.nj;obtain⟨_,QB⟩:=QB ee he V8;obtain rfl:=QB hn b bcap OT;obtain⟨c1,c2,c3⟩:=KR hx h1;have W7:i*k+k<=cs.size:=by
   rw[xB];calc i*k+k=(i+1)*k:=by rw[BV]
    _<=bcap*k:=RW _ oM
  have nE:i*ee.k+off+(tl T t).size<=cs.size:=by rw[tF];omega
  have Ik:=Dz (w:=w) hf hh (by rw[c1];exact hs) c3 nE;rw[Ik,GQ];subst V8;rw[PR hi];have bB:(TG k es[i] off v).cells=Wj es[i].cells off v.cells:=r_ (DN i hi) oM;have hle:off+v.cells.length<=es[i].cells.length:=by rw[DN i hi];omega
  have hwr:=mR (P:=P) (v:=.bad) p he OT (cs.toList.take (i*ee.k+off)++x.cells.toList++cs.toList.drop (i*ee.k+off+(tl T t).size)).toArray (ob:=.own T' k (es.set i (TG k es[i] off v))) ?_ (.inr ⟨rfl,rfl⟩)
  .obtain⟨h1,nx,w',e',r1,r2,r3,r4,r5,r6⟩:=hwr;have ext:=Z7.write (w:=w) (g:=g) (G:=G) he OT (cs.toList.take (i*ee.k+off)++x.cells.toList++cs.toList.drop (i*ee.k+off+(tl T t).size)).toArray;refine⟨_,rfl,h1,ext,?_,?_⟩
   .exact p.ln.step p.fr.size ext rfl (fun _ _ h=>h)
   cases r1;exact r5
  have ext:=Z7.write (w:=w) (g:=g) (G:=G) he OT (cs.toList.take (i*ee.k+off)++x.cells.toList++cs.toList.drop (i*ee.k+off+(tl T t).size)).toArray;have elem:∀j (hj:j<(es.set i (TG k es[i] off v)).length),(es.set i (TG k es[i] off v))[j]=if i=j then TG k es[i] off v else es[j]' Ou:=fun j hj=>by rw[PU]
  refine⟨tF,by simp[hn],zU,?_,?_,?_⟩
  ·intro j hj;rw[elem j hj];split
   ·rw[bB,TL hle];exact DN i hi
   exact DN _ _
  ·intro j hj l hl;simp only[elem j hj]at hl ⊢;by_cases U7:i=j
   ·simp only[U7,ql]at hl ⊢;subst U7;simp only[bB]at hl ⊢;rw[lj hle hl];split
    ·exact h1 _ (gM _)
    exact q1 _ _ _ _
   simp only[U7,j4]at hl ⊢;exact q1 _ _ _ _
  rw[OT];refine⟨hm,by simpa using mu,_,hh.setRow ?_,?_,?_⟩
  ·have H7:x.cells.size=(tl T t).size:=by rw[c1];exact hs
   simp[H7];omega
  ·have H7:x.cells.size=(tl T t).size:=by rw[c1];exact hs
   simp[H7];omega
  intro j hj l hl;have e1:(i*ee.k+off+(tl T t).size)=i*ee.k+off+x.cells.toList.length:=by simp[c1,hs]
  have e2:x.cells.toList.length=v.cells.length:=by simp[c1]
  have e5:i*ee.k+off+x.cells.toList.length<=cs.toList.length:=by rw[<-e1];simpa using nE
  have val:∀j l,l<k->(cs.toList.take (i*ee.k+off)++x.cells.toList++cs.toList.drop (i*ee.k+off+(tl T t).size)).toArray.getD (j*k+l) undef=
    if j=i/\off<=l/\l<off+v.cells.length then x.cells.getD (l-off) undef else cs.getD (j*k+l) undef:=by
   intro j l SR;rw[e1,Uv e5,e2,tF];by_cases ZJ:j=i
   ·subst ZJ;by_cases hr:off<=l/\l<off+v.cells.length
    ·rw[iP ⟨oM,oM⟩,iP ⟨rfl,hr⟩];have e3:j*k+l-(j*k+off)=l-off:=oM;rw[e3];simp[gE,gA]
    rw[iN oM,iN (by rintro⟨_,h⟩;exact hr h)]
   rw[iN ?_,iN (by rintro⟨h,_⟩;exact ZJ h)];intro⟨h1,h2⟩;apply ZJ
   have d1:=(RN (i:=j) SR).1;have:(j*k+l) / k=i:=by apply Nat.div_eq_of_lt_le<;>(try rw[BV])<;>omega
   omega
  have tw:j<es.length:=Ou;have old:∀(Ig:l<es[j].cells.length),VC (w.setRow b (cs.toList.take (i*ee.k+off)++x.cells.toList++cs.toList.drop (i*ee.k+off+(tl T t).size)).toArray) e (Bb G g) b (j*k+l) es[j].cells[l] (cs.getD (j*k+l) undef):=by intro Ig;refine(hv j tw l Ig).ext ext fun b1 aZ=>⟨lQ w b b1 _ ?_,aZ⟩;rintro rfl;have:=p.hr.ko b1 ⟨id,ee,bcap,he,OT⟩;rw[aZ]at this;cases this
  simp only[elem j hj]at hl ⊢;by_cases U7:i=j
  ·subst U7;simp only[ql]at hl ⊢;simp only[bB]at hl ⊢;have SR:l<k:=by rw[TL hle,DN i hi]at hl;exact hl
   rw[val i l SR,lj hle hl];by_cases hr:off<=l/\l<off+v.cells.length
   ·rw[iP ⟨rfl,hr⟩,dX hr];exact .val _ _ ((c2 (l-off) oM).ext ext)
   rw[iN (by rintro⟨_,h⟩;exact hr h),sD hr];exact old _
  simp only[U7,j4]at hl ⊢;have SR:l<k:=by have:=DN j tw;omega
  have IU:=(val j l SR).trans (iN (by rintro⟨h,_⟩;exact U7 h.symm));rw[IU];exact old hl
theorem uu(c:AV):JR c=[]/\(∀hp,vZ hp c=c)\/∃id,JR c=[id]:=by
 cases c with
 |l id g off len=>exact .inr ⟨id,rfl⟩|_=>exact .inl ⟨rfl,fun _=>rfl⟩
theorem qF:∀{cs:List AV},(cs.flatMap JR).Nodup->∀{i j:Nat}(hi:i<cs.length)(hj:j<cs.length){id:Nat},JR cs[i]=[id]->JR cs[j]=[id]->i=j
 |[],_,i,_,hi,_,_,_,_=>yr|c::cs,h,i,j,hi,hj,id,h1,h2=>by
  rw[kA,vI]at h;obtain⟨_,h4,h5⟩:=h
  match i,j with
  |0,0=>rfl|0,j+1=>simp only[E6]at h1;simp only[Qe]at h2;exact absurd rfl (h5 id (by rw[h1];simp) id (CJ.2 ⟨_,gM Ou,by rw[h2];simp⟩))|i+1,0=>simp only[E6]at h2;simp only[Qe]at h1;exact absurd rfl (h5 id (by rw[h2];simp) id (CJ.2 ⟨_,gM Ks,by rw[h1];simp⟩))|i+1,j+1=>simp only[Qe]at h1 h2;rw[qF h4 Ks Ou h1 h2]
theorem alT(p:jC C e G g hp w)(hT:JE C.P T){t:Nat}{v av:AV}{x xa:Value}(hx:VR w (UE e) e G v x)(ha:VR w (UE e) e G av xa)(h:(dc (tl T t) hp v av).1):
  Bm C e G g hp w (dc (tl T t) hp v av) (((Instr.storeAt t xa x).run C.P w).andThen fun _ w=>.ok .skip w):=by
 cases av with
 |p id g' n i off=>
  simp only[dc]at h ⊢;cases hg:hp.get id with
  |none=>simp only[hg]at h;exact h.elim|some q=>
   obtain⟨g'',ob⟩:=q;cases ob with
   |mp _=>simp only[hg]at h;exact h.elim|ms _=>simp only[hg]at h;exact h.elim|bd _ _ _=>simp only[hg]at h;exact h.elim|box cs=>simp only[hg]at h ⊢;obtain⟨rfl,rfl,rfl,h0,h1,h2,h3⟩:=h;exact ahf p hT hx ha hg h0 h1 (fun c hc=>(h2 c hc).1) h3
   |own T' k es=>
    simp only[hg]at h ⊢;obtain⟨rfl,rfl,hi,L4,hs,EO,hP,Z3,hid⟩:=h;have wE:∀c∈v.cells,c.one=true:=fun c hc=>O7 (hP c hc);obtain⟨w',Ik,IA,ext1,ln1,fr1⟩:=ado (P:=True) p hT hx ha hg hi L4 hs EO wE;rw[Ik];obtain⟨_,_,_,_,jz⟩:=p.hr.live id _ _ hg;have DN:=jz.2.2.2.1;rw[PR hi]at IA ⊢;have hle:off+v.cells.length<=es[i].cells.length:=by rw[DN i hi];omega
    have Qi:(cK (vZ hp) v).cells=v.cells.map (vZ hp):=j5 wE;have bB:(TG k es[i] off v).cells=Wj es[i].cells off v.cells:=r_ (DN i hi) oM;have XM:off+(cK (vZ hp) v).cells.length<=es[i].cells.length:=by rw[Qi,E3];exact hle
    have Jv:(TG k es[i] off (cK (vZ hp) v)).cells=Wj es[i].cells off (cK (vZ hp) v).cells:=r_ (DN i hi) (by rw[Qi,E3];omega);have agree:∀c∈v.cells,vZ ((id,some (g'',Ob.own T' k (es.set i (TG k es[i] off v))))::hp) c=vZ hp c/\(Kr ((id,some (g'',Ob.own T' k (es.set i (TG k es[i] off v))))::hp) c↔Kr hp c):=by intro c hc;exact kD fun a fR=>Hp.RG _ _ (fun h=>hid (CJ.2 ⟨c,hc,h ▸ fR⟩))
    have e1:(es.set i (TG k es[i] off v))[i]' Ks=TG k es[i] off v:=sM
    have e2:(es.set i (TG k es[i] off (cK (vZ hp) v)))[i]' Ks=TG k es[i] off (cK (vZ hp) v):=sM
    have e3:∀a (ha:a<es.length),a≠i->(es.set i (TG k es[i] off v))[a]' VM=es[a]/\(es.set i (TG k es[i] off (cK (vZ hp) v)))[a]' VM=es[a]:=by intro a ha SO;exact⟨by rw[PU,iN (FX SO)],by rw[PU,iN (FX SO)]⟩
    have key:=iu IA (fun a b=>a=i/\off<=b/\b<off+v.cells.length) (es':=es.set i (TG k es[i] off (cK (vZ hp) v))) (D:=v.cells.flatMap JR) (Hp.mz _ _ _) hid sM;refine Exists.elim (key ?_ ?_ ?_ ?_) ?_
    ·intro a ha;have fR:a<es.length:=VM;by_cases Co:a=i
     ·subst Co;rw[e2,Jv,TL XM];exact DN _ _
     rw[(e3 a fR Co).2];exact DN _ _
    ·intro a ha qh j hj tw;have fR:a<es.length:=VM;by_cases Co:a=i
     ·subst Co;simp only[e1,e2,bB,Jv]at hj tw ⊢;rw[lj hle hj,lj XM tw];have tf:(cK (vZ hp) v).cells.length=v.cells.length:=by rw[Qi,E3]
      by_cases hr:off<=j/\j<off+v.cells.length
      ·rw[dX hr,dX (by rw[tf];exact hr)];have VJ:(cK (vZ hp) v).cells[j-off]'(by rw[tf];omega)=vZ hp (v.cells[j-off]'oM):=by simp only[Qi,nw]
       rw[VJ];have BM:v.cells[j-off]'oM∈v.cells:=gM _
       rcases uu (v.cells[j-off]'oM)with ⟨_,h2⟩|⟨qJ,h2⟩
       ·exact .inl (h2 hp)
       exact .inr ⟨⟨trivial,hr⟩,qJ,CJ.2 ⟨_,BM,by rw[h2];simp⟩,h2,(agree _ BM).2.2 (hP _ BM),(agree _ BM).1.symm⟩
      rw[sD hr,sD (by rw[tf];exact hr)];exact .inl rfl
     simp only[(e3 a fR Co).1,(e3 a fR Co).2];exact .inl trivial
    ·intro qJ oA;obtain⟨c,hc,oA⟩:=CJ.1 oA;obtain⟨m,hm,rfl⟩:=G_ hc;refine⟨i,off+m,Ks,Ks,?_⟩;simp only[e1,e2,bB,Jv];refine⟨by rw[TL hle];omega,by rw[TL XM];omega,?_⟩;rw[lj hle (by rw[TL hle];omega),dX ⟨oM,oM⟩];have:off+m-off=m:=oM;simp only[this];rcases uu v.cells[m]with ⟨h1,_⟩|⟨id2,h1⟩
     ·rw[h1]at oA;cases oA
     rw[h1]at oA ⊢;simp at oA;rw[oA]
    ·rintro qJ oA a j a' j' ha hj fR tw ⟨rfl,aZ,Wx⟩ ⟨rfl,QM,aeX⟩ h1 h2;refine⟨rfl,?_⟩;simp only[e1,bB]at hj tw h1 h2;rw[lj hle hj,dX ⟨aZ,Wx⟩]at h1;rw[lj hle tw,dX ⟨QM,aeX⟩]at h2;have:=qF Z3 _ _ h1 h2;omega
    rintro e' ⟨a1,a2,a3,a4,a5,a6⟩;refine⟨_,w',e',rfl,a1.congr (fun _=>HO) fun j=>?_,ext1.trans a2,?_,fr1,.inr ⟨rfl,rfl⟩⟩
    ·simp only[Mb];by_cases hj:j=id
     ·subst hj;rw[Hp.mz,Hp.mz]
     rw[Hp.RG _ _ hj,Hp.RG _ _ hj];unfold qq;rw[wx,wx,Hp.RG _ _ hj]
    exact⟨a3.trans ln1.tI,ln1.BA,ln1.ext.trans a2,fun b hb=>ln1.jR b (a4 b hb)⟩
 |_=>exact h.elim
end
open Go Go.Great
section
variable{C:Cx}{e:bQ}{G:Nat->Prop}{g:Nat}{hp:Hp}{w:World}{T:vp}
def aiB{n:Nat}{ps:List (Nat×Operand)}(h:HY n ps=true)(f:Operand->Value):
  ps.map (fun p=>(p.1,f p.2))=((ps.map fun p=>f p.2).zipIdx 0).map fun x=>(x.2,x.1):=by
 have h':ps.map (·.1)=List.range n:=by simpa[HY] using h
 have hn:ps.length=n:=by have:=rD List.length h';simpa using this
 apply te
 intro i;by_cases hi:i<ps.length
 .have:ps[i].1=i:=by have:=rD (fun l=>l[i]?) h';simp only[YO,gG hi,rL,List.getElem?_range (show i<n by omega)]at this;simpa using this
  simp[hi,this]
 simp[hi]
def alg{vs:List Value}{k:Nat}(hk:0<k)(hv:∀v∈vs,v.cells.size=k){i j:Nat}(hi:i<vs.length)(hj:j<k):
  ((vs.flatMap fun v=>v.cells.toList).toArray).getD (i*k+j) undef=vs[i].cells.getD j undef:=by
 rw[gA,n_,flat_get hk vs hv,(RN (i:=i) hj).1,(RN (i:=i) hj).2,gG hi];simp[gA]
theorem alG{vs:List Value}{k:Nat}(hv:∀v∈vs,v.cells.size=k):(vs.flatMap fun v=>v.cells.toList).length=vs.length*k:=by
 induction vs with
 |nil=>simp|cons v vs ih=>have h1:=hv v mS;rw[kA,aL,ih fun u hu=>hv u (mC _ hu),dO,BV];simp[h1];omega
def aqP(p:jC C e G g hp w)(hT:JE C.P T){did t n el:Nat}(ht:(tl T t).ty=.slice el){ps:Array (Nat×Operand)}{ev:Operand->AV}{xv:Operand->Value}(T7:∀q∈ps,VR w (UE e) e G (ev q.2) (xv q.2))(h1:HY n ps.toList=true)(h2:(tl T el).size≠0)(h3:n*(tl T el).size<=16777216)(h4:∀v∈ps.toList.map fun q=>ev q.2,v.cells.length=(tl T el).size/\∀c∈v.cells,c.one=true/\c.Je=true){P:Prop}:
  Bm C e G g hp w (P,.l did g 0 n,[(did,some (g,.own el (tl T el).size (ps.toList.map fun q=>ev q.2)))])
   (((Instr.buildSlice t n (ps.map fun q=>(q.1,xv q.2))).run C.P w).andThen fun v w=>.ok (.value v) w):=by
 obtain⟨d,hu,hd⟩:=(hT.fit ht sM).under;rw[ht]at hd;cases hd
 have hf:=hT.fits h2;obtain⟨ie,hi,xB,Sk,hz⟩:=hf.info;obtain⟨v1,v2,v3⟩:=Ge (w:=w) hf (UE e);have hn:ps.toList.length=n:=by
  have h':ps.toList.map (·.1)=List.range n:=by simpa[HY] using h1
  have:=rD List.length h';simpa using this
 have qc:∀q∈ps.toList,VR w (UE e) e G (ev q.2) (xv q.2)/\(∀c∈(ev q.2).cells,c.one=true)/\(ev q.2).cells.length=(tl T el).size:=by intro q hq;obtain⟨s1,s2⟩:=h4 _ (A2.2 ⟨q,hq,rfl⟩);exact⟨T7 q (by simpa using hq),fun c hc=>(s2 c hc).1,s1⟩
 have qI:∀v∈ps.toList.map fun q=>xv q.2,v.cells.size=(tl T el).size:=by intro v hv;obtain⟨q,hq,rfl⟩:=A2.1 hv;obtain⟨d1,d2,d3⟩:=qc q hq;rw[(KR d1 d2).1,d3]
 have sQ:0<(tl T el).size:=oM;have zJ:(tl T el).H3.cells.size=(tl T el).size:=by rw[(KE v1 v2).1,v3]
 have PK:(ps.toList.map fun q=>xv q.2).length=n:=dB;have Ik:∃cells:Array Value,(Instr.buildSlice t n (ps.map fun q=>(q.1,xv q.2))).run C.P w=.ok (.slice (some ⟨w.heap.size,0,none⟩) n n) (w.alloc (.cells cells el))/\
   cells=((ps.toList.map fun q=>xv q.2).flatMap fun v=>v.cells.toList).toArray:=by
  by_cases Sn:n=0
  .subst Sn;have Ja:ps.toList=[]:=Ha hn;have OV:ps=#[]:=by rw[<-Array.toList_eq_nil_iff];exact Ja
   subst OV;refine⟨#[],?_,sM⟩
   simp[Instr.buildSlice,pP hu,xO hf,Instr.fill,newRow,Array.range_zero']
  refine⟨_,?_,rfl⟩;refine run_buildSlice w t el n _ _ ie _ hu hi hz (by rw[xB];omega) (by rw[xB];exact Nat.mul_ne_zero Sn h2) ?_;rw[xB,Jb,aiB h1];exact fill_whole sQ _ _ qI (by simp[PK])
 obtain⟨cells,Ik,vJ⟩:=Ik;rw[Ik,GQ];have hlen:(ps.toList.map fun q=>ev q.2).length=n:=dB;have LF:cells.size=n*(tl T el).size:=by rw[vJ,Nn,alG qI,PK]
 refine Dv p (Qw.alloc w _) (ee:=⟨g,some (w.heap.size,n),(tl T el).size,n⟩) rfl Rl (fun ext=>?_) ?_
 ·refine⟨rfl,hlen.symm,sQ,?_,?_,?_⟩
  ·intro i hi;simp only[nw];exact(qc _ (gM _)).2.2
  ·intro i hi j hj;simp only[nw]at hj ⊢;exact(qc _ (gM _)).2.1 _ (gM _)
  refine⟨?_,by rw[hlen];exact lR _,cells,.of (sg w _),LF,?_⟩
  ·simp only[maxLen];have:n<=n*(tl T el).size:=Nat.le_mul_of_pos_right n sQ;omega
  intro i hi j hj;have jk:i<ps.toList.length:=Ks;simp only[nw]at hj ⊢;obtain⟨d1,d2,d3⟩:=qc _ (gM jk);have tw:j<(tl T el).size:=by rw[<-d3];exact hj
  have e2:cells.getD (i*(tl T el).size+j) undef=(xv (ps.toList[i]).2).cells.getD j undef:=by rw[vJ,alg sQ qI (by rw[PK];omega) tw];simp
  rw[e2];exact .val _ _ (((KR d1 d2).2.1 j hj).ext ext)
 refine .l _ _ _ _ _ (.inr rfl) rfl fun ee he _=>?_;rw[nq]at he;cases he;exact⟨sM,fun _=>⟨n,sM,sM,lR _⟩⟩
def Wb(w:World)(e:bQ)(G:Nat->Prop)(cs:List AV)(cells:Array Value):Prop:=
 cs.length=cells.size/\(∀i (h:i<cs.length),cs[i].one=true)/\∀i (h:i<cs.length),VR w (UE e) e G cs[i] (cells.getD i undef)
theorem zN{place:Nat->Option (Az)}{ev:Operand->AV}{xv:Operand->Value}{o:Nat->Nat}{size:Nat}:
  ∀(ps:List (Nat×Operand))(cs:List AV)(cells:Array Value),Wb w e G cs cells->cs.length=size->
   (∀q∈ps,VR w (UE e) e G (ev q.2) (xv q.2))->
   (∀q∈ps,∃sz,place q.1=some (o q.1,sz)/\(ev q.2).cells.length=sz/\o q.1+sz<=size/\∀c∈(ev q.2).cells,c.one=true)->
   ∃r,Instr.fill place cells (ps.map fun q=>(q.1,xv q.2))=some r/\Wb w e G (ps.foldl (fun cs q=>Wj cs (o q.1) (ev q.2).cells) cs) r
 |[],cs,cells,h,_,_,_=>⟨cells,rfl,h⟩|q::ps,cs,cells,h,hl,hv,hp=>by
  obtain⟨sz,h1,h2,h3,h4⟩:=hp q mS;obtain⟨c1,c2,c3⟩:=KR (hv q mS) h4;obtain⟨k1,k2,k3⟩:=h;generalize RF:o q.1=off at*;obtain⟨g1,g2⟩:=foldl_set off (xv q.2).cells.toList 0 cells;have NM:off+(ev q.2).cells.length<=cs.length:=oM;have aos:Wb w e G (Wj cs off (ev q.2).cells) (((xv q.2).cells.toList.zipIdx 0).foldl (fun cs (x:Value×Nat)=>cs.setIfInBounds (off+x.2) x.1) cells):=by
   refine⟨by rw[TL NM,g1,k1],?_,?_⟩
   .intro i hi;rw[lj NM hi];split
    .exact h4 _ (gM _)
    exact k2 _ _
   intro i hi;have jk:i<cs.length:=by rw[TL NM]at hi;exact hi
   have hr:(((xv q.2).cells.toList.zipIdx 0).foldl (fun cs (x:Value×Nat)=>cs.setIfInBounds (off+x.2) x.1) cells).getD i undef=
     if off<=i/\i<off+(ev q.2).cells.length then(xv q.2).cells.getD (i-off) undef else cells.getD i undef:=by
    rw[gA,g2 i];simp only[dq,Dr,c1];by_cases QB:off<=i/\i<off+(ev q.2).cells.length
    .rw[iP ⟨QB.1,QB.2,oM⟩,iP QB,gA,CO]
    rw[iN oM,iN QB,gA]
   rw[hr,lj NM hi];split
   .exact c2 _ _
   exact k3 _ jk
  obtain⟨r,IA,w6⟩:=zN ps _ _ aos (by rw[TL NM];exact hl) (fun q' h'=>hv q' (mC _ h')) (fun q' h'=>hp q' (mC _ h'));refine⟨r,?_,by rw[Xi,RF];exact w6⟩;simp only[b_];unfold Instr.fill;simp only[h1];rw[iN xF,<-IA];congr 1
  rw[<-Array.foldl_toList,Array.toList_zipIdx]
def ae2{P:Program}(a:Array Field)(h:∀f∈a,(P.info? f.type).isSome=true):
  ∃places,a.toList.mapM (fun f=>(P.info? f.type).map fun i=>(f.offset,i.size))=some places/\∀i (hi:i<a.size) j,P.info? a[i].type=some j->places[i]?=some (a[i].offset,j.size):=by
 have key:∀l:List Field,(∀f∈l,(P.info? f.type).isSome=true)->∃places,l.mapM (fun f=>(P.info? f.type).map fun i=>(f.offset,i.size))=some places/\
   ∀i (hi:i<l.length) j,P.info? l[i].type=some j->places[i]?=some (l[i].offset,j.size):=by
  intro l;induction l with
  |nil=>intro _;exact⟨[],rfl,fun i hi=>yr⟩|cons f l ih=>
   intro hl;obtain⟨ps,h1,h2⟩:=ih fun f hf=>hl f (mC _ hf);obtain⟨j0,K0⟩:=Option.isSome_iff_exists.1 (hl f mS);refine⟨(f.offset,j0.size)::ps,?_,?_⟩
   .simp[List.mapM_cons,K0,h1]
   intro i hi j hj;cases i with
   |zero=>simp at hj;rw[K0]at hj;cases hj;rfl
   |succ i=>simpa using h2 i Ks j Ou
 obtain⟨ps,h1,h2⟩:=key a.toList (fun f hf=>h f (by simpa using hf));exact⟨ps,h1,fun i hi j hj=>by
  have:=h2 i Ks j Ou;rw[this];simp⟩
def aqh(p:jC C e G g hp w)(hT:JE C.P T){t:Nat}{fs:List (Az)}(ht:(tl T t).ty=.struct fs){ps:Array (Nat×Operand)}{ev:Operand->AV}{xv:Operand->Value}(T7:∀q∈ps,VR w (UE e) e G (ev q.2) (xv q.2))(h:∀q∈ps.toList,q.1<fs.length/\(tl T (fs.getD q.1 (0,0)).2).size≠0/\(ev q.2).cells.length=(tl T (fs.getD q.1 (0,0)).2).size/\(fs.getD q.1 (0,0)).1+(tl T (fs.getD q.1 (0,0)).2).size<=(tl T t).size/\(∀c∈(ev q.2).cells,c.one=true)){P:Prop}:
  Bm C e G g hp w (P,.agg (ps.toList.foldl (fun cs q=>Wj cs (fs.getD q.1 (0,0)).1 (ev q.2).cells) ((tl T t).zs.map ZC.av)),[])
   (((Instr.build t (ps.map fun q=>(q.1,xv q.2))).run C.P w).andThen fun v w=>.ok (.value v) w):=by
 have I':=hT.fit ht sM;obtain⟨d,hu,hd,m9⟩:=I'.desc;rw[ht]at hd;obtain⟨a,rfl,ha⟩:=hd;have m9:(tl T t).agg=true:=m9;obtain⟨it,hit,xB,_,hz⟩:=I'.info;obtain⟨v1,v2,v3⟩:=Ge (w:=w) I' (UE e);obtain⟨c1,c2,_⟩:=KE v1 v2;have nK:(tl T t).OR.cells=(tl T t).zs.map ZC.av:=by unfold TI.OR;rw[m9];rfl
 obtain⟨places,hp1,hp2⟩:=ae2 a (I'.aum a hu);obtain⟨r,IA,w6⟩:=zN (w:=w) (e:=e) (G:=G) (place:=fun x=>places[x]?) (ev:=ev) (xv:=xv) (o:=fun i=>(fs.getD i (0,0)).1) (size:=(tl T t).size) ps.toList ((tl T t).zs.map ZC.av) (tl T t).H3.cells
  (by rw[<-nK];exact⟨c1.symm,fun i hi=>v2 _ (gM _),fun i hi=>.rC _ _ (c2 i hi)⟩) (by rw[<-nK];exact v3) (fun q hq=>T7 q (by simpa using hq)) (by
   intro q hq;obtain⟨q1,q2,q3,q4,q5⟩:=h q hq;subst ha;have NN:q.1<a.size:=US;have e1:(a.toList.map fun f=>(f.offset,f.type)).getD q.1 (0,0)=(a[q.1].offset,a[q.1].type):=by simp[gE,NN]
   rw[e1]at q2 q3 q4;show ∃sz,(fun x=>places[x]?) q.1=some ((((a.toList.map fun f=>(f.offset,f.type)).getD q.1 (0,0)).1),sz)/\(ev q.2).cells.length=sz/\((a.toList.map fun f=>(f.offset,f.type)).getD q.1 (0,0)).1+sz<=_/\_;rw[e1];obtain⟨j,hj,Xg,_⟩:=(hT.fits q2).info;refine⟨j.size,hp2 q.1 NN j hj,by rw[Xg];exact q3,by rw[Xg];exact q4,q5⟩)
 have Ik:=run_build (P:=C.P) w t (ps.map fun q=>(q.1,xv q.2)) r (by
  unfold Program.built;simp only[hit,hu,hz,hp1];have e2:(places.toArray[·]?)=fun x:Nat=>places[x]?:=by funext x;simp
  rw[e2,Jb];exact IA)
 rw[Ik,GQ];obtain⟨s1,s2,s3⟩:=w6;exact .pure p (.agg _ _ s1 s2 s3)
def as7(p:jC C e G g hp w)(hT:JE C.P T){t n el:Nat}(ht:(tl T t).ty=.array n el){ps:Array (Nat×Operand)}{ev:Operand->AV}{xv:Operand->Value}(T7:∀q∈ps,VR w (UE e) e G (ev q.2) (xv q.2))(h:∀q∈ps.toList,q.1<n/\(tl T el).size≠0/\(ev q.2).cells.length=(tl T el).size/\q.1*(tl T el).size+(tl T el).size<=(tl T t).size/\(∀c∈(ev q.2).cells,c.one=true)){P:Prop}(qp:ps.toList≠[]):
  Bm C e G g hp w (P,.agg (ps.toList.foldl (fun cs q=>Wj cs (q.1*(tl T el).size) (ev q.2).cells) ((tl T t).zs.map ZC.av)),[])
   (((Instr.build t (ps.map fun q=>(q.1,xv q.2))).run C.P w).andThen fun v w=>.ok (.value v) w):=by
 have I':=hT.fit ht sM;obtain⟨d,hu,hd,m9⟩:=I'.desc;rw[ht]at hd;obtain rfl:d=.array n el:=hd;have m9:(tl T t).agg=true:=m9;obtain⟨it,hit,xB,_,hz⟩:=I'.info;obtain⟨v1,v2,v3⟩:=Ge (w:=w) I' (UE e);obtain⟨c1,c2,_⟩:=KE v1 v2;have nK:(tl T t).OR.cells=(tl T t).zs.map ZC.av:=by unfold TI.OR;rw[m9];rfl
 obtain⟨q0,Gq⟩:=s_ _ qp;obtain⟨j,hj,Xg,_⟩:=(hT.fits (h q0 Gq).2.1).info;obtain⟨r,IA,w6⟩:=zN (w:=w) (e:=e) (G:=G) (place:=fun i=>some (i*j.size,j.size)) (ev:=ev) (xv:=xv) (o:=fun i=>i*(tl T el).size) (size:=(tl T t).size) ps.toList ((tl T t).zs.map ZC.av) (tl T t).H3.cells
  (by rw[<-nK];exact⟨c1.symm,fun i hi=>v2 _ (gM _),fun i hi=>.rC _ _ (c2 i hi)⟩) (by rw[<-nK];exact v3) (fun q hq=>T7 q (by simpa using hq)) (by
   intro q hq;obtain⟨q1,q2,q3,q4,q5⟩:=h q hq;exact⟨j.size,by rw[Xg],by rw[Xg];exact q3,by rw[Xg];exact q4,q5⟩)
 have Ik:=run_build (P:=C.P) w t (ps.map fun q=>(q.1,xv q.2)) r (by
  unfold Program.built;simp only[hit,hu,hz,hj];rw[Jb];exact IA)
 rw[Ik,GQ];obtain⟨s1,s2,s3⟩:=w6;exact .pure p (.agg _ _ s1 s2 s3)
end
open Go Go.Great
section
variable{C:Cx}{e:bQ}{G:Nat->Prop}{g:Nat}{hp:Hp}{w:World}{T:vp}
structure Src(w:World)(e:bQ)(G:Nat->Prop)(ys:List AV)(k:Nat)(x:Value)(news:List Value):Prop where
 len:news.length=ys.length*k
 at_:ys.length=0\/∃b off cap,x=.slice (some ⟨b,off,none⟩) ys.length cap/\∀j v,news[j]?=some v->w.cell? ((⟨b,off,none⟩:Addr).add j)=some v
 shape:∃a cap,x=.slice a ys.length cap
 lens:∀i (h:i<ys.length),ys[i].cells.length=k
 one:∀i (h:i<ys.length) j (h':j<ys[i].cells.length),ys[i].cells[j].one=true
 pk:∀i (h:i<ys.length) j (h':j<ys[i].cells.length),VR w (UE e) e G ys[i].cells[j] (news.getD (i*k+j) undef)
def V3{n:Nat}(f:Nat->Value){b off:Nat}(hc:∀j,j<n->w.cell? ⟨b,off+j,none⟩=some (f j)):
  ∀j v,((List.range n).map f)[j]?=some v->w.cell? ((⟨b,off,none⟩:Addr).add j)=some v:=by
 intro j v hj;by_cases h:j<n
 .simp[h]at hj;subst hj;rw[Dt];exact hc j h
 simp[h]at hj
def MS{n:Nat}(f:Nat->Value){j:Nat}(h:j<n):((List.range n).map f).getD j undef=f j:=by simp[gE,h]
theorem gy(hr:cH w e G hp){v:AV}{x:Value}(hx:VR w (UE e) e G v x)(h:HN hp v){ys:List AV}(hs:Ym hp v=some ys){k:Nat}(zU:0<k)(hk:∀y∈ys,y.cells.length=k)(Jx:∀y∈ys,∀c∈y.cells,c.Je=true):∃news,Src w e G ys k x news:=by
 have lens:∀i (h:i<ys.length),ys[i].cells.length=k:=fun i hi=>hk _ (gM hi);cases v with
 |sl es full=>
  simp only[Ym,Kh]at hs;subst hs;rcases hx.Rv.Rv with ⟨rfl,a,rfl⟩|⟨b,off,cap,k',f,rfl,hb,Mp,_,_,_,ace,tF,hc,oS,hv⟩
  .exact⟨[],sM,.inl rfl,⟨_,_,rfl⟩,fun i hi=>yr,fun i hi=>yr,fun i hi=>yr⟩
  by_cases he:es=[]
  .subst he;exact⟨[],sM,.inl rfl,⟨_,_,rfl⟩,fun i hi=>yr,fun i hi=>yr,fun i hi=>yr⟩
  have h0:0<es.length:=bt.2 he;have DJ:k'=k:=by rw[<-tF 0 h0,lens 0 h0]
  subst DJ;refine⟨(List.range (es.length*k')).map f,sM,.inr ⟨b,off,cap,rfl,V3 f hc⟩,⟨_,_,rfl⟩,lens,oS,fun i hi j hj=>?_⟩;rw[MS f (m7 hi (by have:=lens i hi;omega))];exact .rC _ _ (hv i hi j hj)
 |l id g' off len=>
  simp only[HN,Ym]at h hs;cases hg:hp.get id with
  |none=>simp only[hg]at h|some q=>
   obtain⟨g'',ob⟩:=q;cases ob with
   |box cs=>simp only[hg]at h|mp _=>simp only[hg]at h|ms _=>simp only[hg]at h|bd _ _ _=>simp only[hg]at h|own t k' es=>
    simp only[hg]at h hs;obtain⟨rfl,hl⟩:=h;cases hs
    obtain⟨ee,he,V8,hn,sL,jz⟩:=Zu hr hx hg hl;obtain⟨tF,_,ace,DN,h1,hb⟩:=jz;have hlen:(es.drop off).length=len:=xF;obtain⟨a,Og,pm⟩:=sL.shape;unfold cL at sL;by_cases hz:len=0
    .refine⟨[],by simp[hlen,hz],.inl (by rw[hlen];exact hz),⟨a,Og,by rw[hlen];exact pm⟩,lens,fun i hi=>oM,fun i hi=>oM⟩
    cases OT:ee.Rr with
    |none=>rw[OT]at sL;omega|some q=>
     obtain⟨b,bcap⟩:=q;rw[OT]at sL hb;obtain⟨cap,rfl,FJ,XJ⟩:=sL;obtain⟨hm,mu,cs,hh,hs,hv⟩:=hb;have DJ:k'=k:=by rw[<-DN off oM];have:=lens 0 oM;rw[qY]at this;simpa using this
     subst DJ;have hc:∀j,j<(es.drop off).length*k'->w.cell? ⟨b,off*ee.k+j,none⟩=some (cs.getD (off*ee.k+j) undef):=by
      intro j hj;rw[hlen]at hj;refine hh.KP ?_;rw[hs,tF];calc off*k'+j<off*k'+len*k':=oM
       _=(off+len)*k':=by rw[Dl]
       _<=bcap*k':=RW _ oM
     refine⟨(List.range ((es.drop off).length*k')).map (fun j=>cs.getD (off*ee.k+j) undef),sM,.inr ⟨b,off*ee.k,cap,by rw[hlen],V3 _ hc⟩,⟨_,_,by rw[hlen]⟩,lens,?_,?_⟩
     .intro i hi j hj;simp only[qY]at hj ⊢;exact h1 _ _ _ _
     intro i hi j hj;rw[MS _ (m7 hi (by have:=lens i hi;omega))];have rN:=Jx _ (gM hi) _ (gM hj);simp only[qY]at hj rN ⊢;have:=(hv (off+i) vT j hj).Je rN;rw[Dl,lX]at this;rw[tF];exact this
 |_=>cases hs
def Src.Gg{ys:List AV}{k:Nat}{x:Value}{news:List Value}(h:Src w e G ys k x news)(hk:0<k):∀u∈news,u.oneCell'=true:=by
 intro u hu;obtain⟨p,hp,rfl⟩:=G_ hu;have JW:p<ys.length*k:=by rw[<-h.len];exact hp
 have hi:p / k<ys.length:=(LH hk).2 JW;have hj:p % k<ys[p / k].cells.length:=by rw[h.lens _ hi];exact yh _ hk
 have h1:=(h.pk _ hi _ hj).Gg (h.one _ hi _ hj);have e1:p / k*k+p % k=p:=by rw[XZ];exact Nat.div_add_mod p k
 rw[e1,gE,gG hp]at h1;exact h1
def ahl{P:Program}{w:World}(t ty:Nat){el:Nat}{i:TypeInfo}(ht:P.underlying t=some (.slice el))(hi:P.info? el=some i)(b sLen sCap:Nat){cur:Array Value}(hg:Cl w b cur el)(a:Addr)(m c:Nat)(news:List Value)(hl:news.length=m*i.size)(OW:∀j u,news[j]?=some u->w.cell? (a.add j)=some u)(h1:∀u∈news,u.oneCell'=true)(If:sLen+m<=sCap)(nE:sLen*i.size+news.length<=cur.size):
  (Builtin.append_ #[t,t] ty #[.slice (some ⟨b,0,none⟩) sLen sCap,.slice (some a) m c]).run P w=
   .ok (.slice (some ⟨b,0,none⟩) (sLen+m) sCap) (w.setRow b (cur.toList.take (sLen*i.size)++news++cur.toList.drop (sLen*i.size+news.length)).toArray):=by
 obtain⟨fz,hg,hn⟩:=hg;have hf:=run_firstCells_some (P:=P) w i.size m a m c news hl OW;have VV:=qA (P:=P) (off:=sLen*i.size) news 0 cur w hg hn (by simpa using nE) h1;simp only[dq]at VV;simp[Builtin.append_,pP ht,sizeOf,typeInfo,hi,Builtin.lenOf,If,hf,Rw,VV]
def Kj{P:Program}{t el:Nat}{ei:TI}(hu:P.underlying t=some (.slice el))(hf:uz P el ei)(ty:Nat)(a a':Option Addr)(n cap Og:Nat)(hn:n<=cap)(w:World):
  (Builtin.append_ #[t,t] ty #[.slice a n cap,.slice a' 0 Og]).run P w=.ok (.slice a n cap) w:=by
 cases a<;>cases a'<;>simp[Builtin.append_,pP hu,xO hf,Builtin.lenOf,hn,Builtin.firstCells,loadCells,loadCellsFrom,storeCells]
theorem pG{P:Program}{t el:Nat}{ei:TI}(hu:P.underlying t=some (.slice el))(hf:uz P el ei)(ty:Nat){a:Option Addr}{n cap m:Nat}{x:Value}{ys:List AV}{news olds:List Value}(ho:olds.length=n*ei.size)(hold:∀j v,olds[j]?=some v->∀ad,a=some ad->w.cell? (ad.add j)=some v)(Ja:a=none->n=0/\cap=0)(hs:Src w e G ys ei.size x news)(hm:ys.length=m)(SI:0<m)(Zm:cap<n+m)(ru:n+m<=9223372036854775807)(VU:(n+m)*ei.bytes<=140737488355328):
  ∃nc zs,n+m<=nc/\nc<=maxLen/\zs.length=(nc-(n+m))*ei.size/\(Builtin.append_ #[t,t] ty #[.slice a n cap,x]).run P w=
   .ok (.slice (some ⟨w.heap.size,0,none⟩) (n+m) nc) (w.drew.alloc (.cells (olds++news++zs).toArray el)):=by
 obtain⟨ie,hi,xB,Yg,hz⟩:=hf.info;obtain⟨b,off,Og,hx,hc⟩:=hs.at_.resolve_left oM;have zJ:(ei.H3).cells.size=ei.size:=by obtain⟨v1,v2,v3⟩:=Ge (w:=w) hf (fun _=>True);rw[(KE v1 v2).1,v3]
 subst hx;rw[hm];have fo:news.length=m*ie.size:=by rw[xB,hs.len,hm]
 refine⟨grownCap w (n+m) cap el,(Builtin.zeroCells ei.H3.cells (grownCap w (n+m) cap el-(n+m))).toList,grownCap_ge _ _ _ _,Qv _ _ _ _ (by simp only[maxLen];omega),?_,?_⟩
 ·rw[Dr,JH,zJ]
 cases a with
 |none=>
  obtain⟨rfl,rfl⟩:=Ja rfl;have X1:olds=[]:=Ha oM;subst X1;have:=run_append_nil (P:=P) w t ty el ie _ hu hi hz ⟨b,off,none⟩ m Og news fo hc SI oM (by rw[Yg];simp only[cy]at VU;omega);simp only[cy,fj];rw[this];congr 3
  apply Array.ext'
  simp
 |some ad=>
  have:=run_append_grow (P:=P) w t ty el ie _ hu hi hz ad n cap olds (by rw[xB];exact ho) (fun j v hj=>hold j v hj ad rfl) ⟨b,off,none⟩ m Og news fo hc Zm oM
   (I_ oM (by rw[Yg];exact VU))
  rw[this];congr 3
  apply Array.ext'
  simp
def iB{olds news zs:List Value}{n m k i j:Nat}(ho:olds.length=n*k)(hn:news.length=m*k)(hi:i<n+m)(hj:j<k):
  ((olds++news++zs).toArray).getD (i*k+j) undef=if i<n then olds.getD (i*k+j) undef else news.getD ((i-n)*k+j) undef:=by
 rw[gA,n_];by_cases h:i<n
 .rw[iP h,Z5,fd (by rw[ho];exact m7 h hj),gE]
 rw[iN h];have h1:n*k<=i*k+j:=Jz (RW _ oM) (WA _ _);have h2:i*k+j<(n+m)*k:=m7 hi hj;have h3:(i-n)*k=i*k-n*k:=Nat.sub_mul i n k;have h4:n*k<=i*k:=RW _ oM;rw[fd (by rw[aL,ho,hn,<-Dl];exact h2),Ga oM,gE,ho];congr 2
 omega
def jP{es ys:List AV}{k n m:Nat}{olds news zs:List Value}(ho:olds.length=n*k)(Yf:news.length=m*k)(hn:es.length=n)(hm:ys.length=m)(qp:∀i (h:i<es.length),es[i].cells.length=k)(gH:∀i (h:i<ys.length),ys[i].cells.length=k){R:Nat->AV->Value->Prop}(Uy:∀i (h:i<es.length) j (h':j<es[i].cells.length),R (i*k+j) es[i].cells[j] (olds.getD (i*k+j) undef))(HE:∀i (h:i<ys.length) j (h':j<ys[i].cells.length),R ((n+i)*k+j) ys[i].cells[j] (news.getD (i*k+j) undef)):
  ∀i (h:i<(es++ys).length) j (h':j<(es++ys)[i].cells.length),R (i*k+j) (es++ys)[i].cells[j] (((olds++news++zs).toArray).getD (i*k+j) undef):=by
 intro i hi j hj;have jk:i<n+m:=vT;by_cases h:i<es.length
 .have hg:(es++ys)[i]=es[i]:=Tx h;simp only[hg]at hj ⊢;rw[iB ho Yf jk (by have:=qp i h;omega),iP oM];exact Uy i h j hj
 have hg:(es++ys)[i]=ys[i-es.length]' vT:=Mg oM
 simp only[hg]at hj ⊢;have PP:i-es.length<ys.length:=vT;rw[iB ho Yf jk (by have:=gH _ PP;omega),iN oM];subst hn;have:=HE _ PP j hj;rw[Nat.add_sub_cancel' oM]at this;exact this
def KB{es ys:List AV}{k:Nat}(h1:∀i (h:i<es.length),es[i].cells.length=k)(h2:∀i (h:i<ys.length),ys[i].cells.length=k):
  ∀i (h:i<(es++ys).length),(es++ys)[i].cells.length=k:=by
 intro i hi;rw[List.getElem_append];split
 .exact h1 _ _
 exact h2 _ _
def Vn{es ys:List AV}(h1:∀i (h:i<es.length) j (h':j<es[i].cells.length),es[i].cells[j].one=true)(h2:∀i (h:i<ys.length) j (h':j<ys[i].cells.length),ys[i].cells[j].one=true):
  ∀i (h:i<(es++ys).length) j (h':j<(es++ys)[i].cells.length),(es++ys)[i].cells[j].one=true:=by
 intro i hi j hj;by_cases h:i<es.length
 .have hg:(es++ys)[i]=es[i]:=Tx h;simp only[hg]at hj ⊢;exact h1 _ _ _ _
 have hg:(es++ys)[i]=ys[i-es.length]' vT:=Mg oM
 simp only[hg]at hj ⊢;exact h2 _ _ _ _
theorem XW:∀{ys:List AV},(uo ys).Nodup->∀{i i' j j':Nat}(hi:i<ys.length)(jk:i'<ys.length)(hj:j<ys[i].cells.length)(tw:j'<ys[i'].cells.length){id:Nat},JR ys[i].cells[j]=[id]->JR ys[i'].cells[j']=[id]->i=i'/\j=j'
 |[],_,i,_,_,_,hi,_,_,_,_,_,_=>yr|y::ys,h,i,i',j,j',hi,jk,hj,tw,id,h1,h2=>by
  unfold uo at h;rw[kA,vI]at h;obtain⟨h3,h4,h5⟩:=h
  match i,i' with
  |0,0=>refine⟨rfl,?_⟩;simp only[E6]at h1 h2 hj tw;exact qF h3 hj tw h1 h2|0,i'+1=>simp only[E6]at h1 hj;simp only[Qe]at h2 tw;exact absurd rfl (h5 id (CJ.2 ⟨_,gM hj,by rw[h1];simp⟩) id (CJ.2 ⟨_,gM j3,CJ.2 ⟨_,gM tw,by rw[h2];simp⟩⟩))|i+1,0=>simp only[E6]at h2 tw;simp only[Qe]at h1 hj;exact absurd rfl (h5 id (CJ.2 ⟨_,gM tw,by rw[h2];simp⟩) id (CJ.2 ⟨_,gM Ks,CJ.2 ⟨_,gM hj,by rw[h1];simp⟩⟩))|i+1,i'+1=>simp only[Qe]at h1 h2 hj tw;obtain⟨h6,h7⟩:=XW (ys:=ys) h4 Ks j3 hj tw h1 h2;exact⟨by rw[h6],h7⟩
def akL{id gi t k:Nat}{es ys:List AV}(hr:cH w e G ((id,some (gi,.own t k (es++ys)))::hp))(hid:id∉uo ys)(hP:∀y∈ys,∀c∈y.cells,Kr hp c)(Z3:(uo ys).Nodup):
  ∃e',cH w e' G ((id,some (gi,.own t k (es++ys.map (cK (vZ hp)))))::qq (uo ys)++hp)/\Z7 w e G w e' G/\e'.z=e.z/\(∀b,TT e' b->TT e b):=by
 obtain⟨_,_,_,_,jz⟩:=hr.live id _ _ (Hp.mz _ _ _);have DN:=jz.2.2.2.1;have wE:∀y∈ys,∀c∈y.cells,c.one=true:=fun y hy c hc=>O7 (hP y hy c hc);have agree:∀y∈ys,∀c∈y.cells,vZ ((id,some (gi,Ob.own t k (es++ys)))::hp) c=vZ hp c/\(Kr ((id,some (gi,Ob.own t k (es++ys)))::hp) c↔Kr hp c):=by intro y hy c hc;exact kD fun a fR=>Hp.RG _ _ (fun h=>hid (CJ.2 ⟨y,hy,CJ.2 ⟨c,hc,h ▸ fR⟩⟩))
 have e1:∀i (h:i<(es++ys).length),es.length<=i->∃h':i-es.length<ys.length,(es++ys)[i]=ys[i-es.length]:=by intro i h hle;have PP:i-es.length<ys.length:=lM;exact⟨PP,Mg hle⟩
 have e2:∀i (h:i<(es++ys.map (cK (vZ hp))).length),es.length<=i->∃h':i-es.length<ys.length,(es++ys.map (cK (vZ hp)))[i]=cK (vZ hp) ys[i-es.length]:=by intro i h hle;have PP:i-es.length<ys.length:=lM;exact⟨PP,by rw[Mg hle];simp⟩
 have key:=iu hr (fun a _=>es.length<=a) (es':=es++ys.map (cK (vZ hp))) (D:=uo ys) (Hp.mz _ _ _) hid sM;refine Exists.elim (key ?_ ?_ ?_ ?_) ?_
 .intro a ha;have fR:a<(es++ys).length:=VM;by_cases hle:es.length<=a
  .obtain⟨h1,h2⟩:=e2 a ha hle;obtain⟨h3,h4⟩:=e1 a fR hle;rw[h2,j5 (wE _ (gM _)),E3,<-h4];exact DN a fR
  rw[Tx oM];have:=DN a fR;rw[Tx oM]at this;exact this
 .intro a ha fR j hj tw;by_cases hle:es.length<=a
  .obtain⟨h1,h2⟩:=e2 a fR hle;obtain⟨h3,h4⟩:=e1 a ha hle;have hy:=gM h3;simp only[h2,h4]at hj tw ⊢;have VJ:(cK (vZ hp) ys[a-es.length]).cells[j]=vZ hp (ys[a-es.length].cells[j]):=by simp only[j5 (wE _ hy),nw]
   rw[VJ];have BM:=gM hj;rcases uu (ys[a-es.length].cells[j])with ⟨_,h5⟩|⟨qJ,h5⟩
   .exact .inl (h5 hp)
   exact .inr ⟨hle,qJ,CJ.2 ⟨_,hy,CJ.2 ⟨_,BM,by rw[h5];simp⟩⟩,h5,(agree _ hy _ BM).2.2 (hP _ hy _ BM),(agree _ hy _ BM).1.symm⟩
  have h2:(es++ys.map (cK (vZ hp)))[a]=es[a]'oM:=Tx oM
  have h4:(es++ys)[a]=es[a]'oM:=Tx oM
  simp only[h2,h4];exact .inl trivial
 ·intro qJ oA;obtain⟨y,hy,oA⟩:=CJ.1 oA;obtain⟨c,hc,oA⟩:=CJ.1 oA;obtain⟨i,hi,rfl⟩:=G_ hy;obtain⟨j,hj,rfl⟩:=G_ hc;have g1:(es++ys)[es.length+i]' xF=ys[i]:=by rw[Mg oM];simp
  have g2:(es++ys.map (cK (vZ hp)))[es.length+i]' xF=cK (vZ hp) ys[i]:=by rw[Mg oM];simp
  refine⟨es.length+i,j,xF,xF,?_⟩;simp only[g1,g2];refine⟨hj,by rw[j5 (wE _ hy),E3];exact hj,?_⟩;rcases uu (ys[i].cells[j])with ⟨h5,_⟩|⟨id2,h5⟩
  ·rw[h5]at oA;cases oA
  rw[h5]at oA ⊢;simp at oA;rw[oA]
 ·intro qJ oA a j a' j' ha hj fR tw hA vj h1 h2;obtain⟨q1,q2⟩:=e1 a ha hA;obtain⟨q3,q4⟩:=e1 a' fR vj;simp only[q2]at hj h1;simp only[q4]at tw h2;obtain⟨q5,q6⟩:=XW Z3 q1 q3 hj tw h1 h2;exact⟨oM,q6⟩
 rintro e' ⟨a1,a2,a3,a4,_,_⟩;refine⟨e',a1.congr (fun _=>HO) fun j=>?_,a2,a3,a4⟩;simp only[Mb];by_cases hj:j=id
 ·subst hj;rw[Hp.mz,Hp.mz]
 rw[Hp.RG _ _ hj,Hp.RG _ _ hj];unfold qq;rw[wx,wx,Hp.RG _ _ hj]
def Bm.attach{id gi t k:Nat}{es ys:List AV}{P:Prop}{v:AV}{res:Result Next}(h:Bm C e G g hp w (P,v,[(id,some (gi,.own t k (es++ys)))]) res)(hid:id∉uo ys)(hP:∀y∈ys,∀c∈y.cells,Kr hp c)(Z3:(uo ys).Nodup){Q:Prop}:Bm C e G g hp w (Q,v,(id,some (gi,.own t k (es++ys.map (cK (vZ hp)))))::qq (uo ys)) res:=by
 obtain⟨nx,w',e',r1,r2,r3,r4,r5,r6⟩:=h;obtain⟨e'',a1,a2,a3,a4⟩:=akL r2 hid hP Z3;refine⟨nx,w',e'',r1,a1,r3.trans a2,⟨a3.trans r4.tI,r4.BA,r4.ext.trans a2,fun b hb=>r4.jR b (a4 b hb)⟩,r5,?_⟩;rcases r6 with ⟨xv,h1,h2⟩|h
 .exact .inl ⟨xv,h1,h2.ext a2⟩
 exact .inr h
def yn{c:AV}(h:Kr hp c):c.Je=true:=by cases c<;>first|rfl|exact h.elim
def abG(p:jC C e G g hp w){t el did ty:Nat}{ei:TI}(hu:C.P.underlying t=some (.slice el))(hf:uz C.P el ei)(hs:ei.size≠0){a:Option Addr}{x:Value}{ys:List AV}{news:List Value}(JY:Src w e G ys ei.size x news)(VU:ys.length*ei.bytes<=140737488355328)(ru:ys.length<=9223372036854775807){P:Prop}:
  Bm C e G g hp w (P,.l did g 0 ys.length,[(did,some (g,.own el ei.size ys))]) (((Builtin.append_ #[t,t] ty #[.slice a 0 0,x]).run C.P w).andThen fun v w=>.ok (.value v) w):=by
 have sQ:0<ei.size:=oM;by_cases hm:ys.length=0
 ·have hy:ys=[]:=Ha hm;subst hy;obtain⟨a',Og,rfl⟩:=JY.shape;have Ik:=Kj (P:=C.P) hu hf ty a a' 0 0 Og (lR _) w;simp only[N9]at Ik ⊢;rw[Ik,GQ];refine sO p (Qw.refl w) (ee:=⟨g,none,ei.size,0⟩) rfl sM ?_ ?_
  ·exact⟨rfl,rfl,sQ,sM,sM,rfl⟩
  refine .l _ _ _ _ _ (.inr rfl) rfl fun ee he _=>?_;rw[nq]at he;cases he;exact⟨lR _,fun _=>⟨rfl,rfl,a,rfl⟩⟩
 obtain⟨nc,zs,h1,h2,h3,Ik⟩:=pG (P:=C.P) (w:=w) hu hf ty (a:=a) (n:=0) (cap:=0) (olds:=[]) sM sM (fun _=>⟨rfl,rfl⟩) JY rfl oM oM oM (by simpa using VU);rw[Ik,GQ];simp only[cy]at h1 h3 ⊢;refine Dv p (Qw.Jp w _) (ee:=⟨g,some (w.heap.size,nc),ei.size,ys.length⟩) rfl (by rintro b c ⟨⟩;exact⟨lR _,by rw[show(w.drew.alloc _).heap.size=w.heap.size+1 from Ar w.drew _];omega⟩) (fun x2=>?_) ?_
 ·refine⟨rfl,rfl,sQ,JY.lens,JY.one,h2,h1,_,(.of (sg w.drew _)),?_,?_⟩
  ·rw[Nn,aL,aL,JY.len,h3,N9,cy,<-Dl];congr 1;omega
  intro i hi j hj;have:=jP (R:=fun _ v x=>VR w (UE e) e G v x) (es:=[]) (ys:=ys) (zs:=zs) (olds:=[]) (n:=0) (m:=ys.length) sM JY.len rfl rfl sM JY.lens sM JY.pk i Ks j Ou;exact .val _ _ (VR.ext x2 (by simpa using this))
 refine .l _ _ _ _ _ (.inr rfl) rfl fun ee he _=>?_;rw[nq]at he;cases he;refine⟨sM,fun _=>⟨nc,sM,sM,h1⟩⟩
def akW(p:jC C e G g hp w){t el did ty:Nat}{ei:TI}(hu:C.P.underlying t=some (.slice el))(hf:uz C.P el ei)(hs:ei.size≠0){es ys:List AV}{xd x:Value}{news:List Value}(hd:VR w (UE e) e G (.sl es true) xd)(fg:∀y∈es,y.cells.length=ei.size)(Jx:∀y∈es,∀c∈y.cells,c.Je=true)(JY:Src w e G ys ei.size x news)(Rz:0<ys.length)(VU:(es.length+ys.length)*ei.bytes<=140737488355328)(ru:es.length+ys.length<=9223372036854775807){P:Prop}:
  Bm C e G g hp w (P,.l did g 0 (es.length+ys.length),[(did,some (g,.own el ei.size (es++ys)))]) (((Builtin.append_ #[t,t] ty #[xd,x]).run C.P w).andThen fun v w=>.ok (.value v) w):=by
 have sQ:0<ei.size:=oM;obtain⟨olds,V4⟩:=gy p.hr hd (show HN hp (.sl es true) from trivial) rfl sQ fg Jx;obtain⟨a,cap,rfl,_,Ky⟩:=hd.tv;obtain rfl:cap=es.length:=Ky rfl;have hold:∀j v,olds[j]?=some v->∀ad,a=some ad->w.cell? (ad.add j)=some v:=by
  intro j v hj ad mW;rcases V4.at_ with h0|⟨b,off,cap,hx,hc⟩
  ·have hl:=V4.len;rw[h0,gw]at hl;have:olds=[]:=Ha hl;subst this;simp at hj
  cases hx
  cases mW
  exact hc j v hj
 have Ja:a=none->es.length=0/\es.length=0:=by
  intro hn;rcases V4.at_ with h0|⟨b,off,cap,hx,hc⟩
  ·exact⟨h0,h0⟩
  cases hx;cases hn
 obtain⟨nc,zs,h1,h2,h3,Ik⟩:=pG (P:=C.P) (w:=w) hu hf ty (a:=a) (n:=es.length) (cap:=es.length) (olds:=olds) V4.len hold Ja JY rfl Rz oM ru VU;rw[Ik,GQ];refine Dv p (Qw.Jp w _) (ee:=⟨g,some (w.heap.size,nc),ei.size,es.length+ys.length⟩) rfl (by rintro b c ⟨⟩;exact⟨lR _,by rw[show(w.drew.alloc _).heap.size=w.heap.size+1 from Ar w.drew _];omega⟩) (fun x2=>?_) ?_
 ·refine⟨rfl,sM,sQ,KB V4.lens JY.lens,Vn V4.one JY.one,h2,Cd,_,(.of (sg w.drew _)),?_,?_⟩
  ·rw[Nn,aL,aL,V4.len,JY.len,h3,<-Dl,<-Dl];congr 1;omega
  intro i hi j hj;have:=jP (R:=fun _ v x=>VR w (UE e) e G v x) (es:=es) (ys:=ys) (zs:=zs) (olds:=olds) (n:=es.length) (m:=ys.length) V4.len JY.len rfl rfl V4.lens JY.lens V4.pk JY.pk i hi j hj;exact .val _ _ (VR.ext x2 this)
 refine .l _ _ _ _ _ (.inr rfl) rfl fun ee he _=>?_;rw[nq]at he;cases he;refine⟨sM,fun _=>⟨nc,sM,sM,h1⟩⟩
theorem agw(p:jC C e G g hp w){t el id ty g':Nat}{ei:TI}(hu:C.P.underlying t=some (.slice el))(hf:uz C.P el ei)(hs:ei.size≠0){es ys:List AV}{xd x:Value}{news:List Value}(hd:VR w (UE e) e G (.l id g' 0 es.length) xd)(hg:hp.get id=some (g',.own el ei.size es))(JY:Src w e G ys ei.size x news)(VU:(es.length+ys.length)*ei.bytes<=140737488355328)(ru:es.length+ys.length<=9223372036854775807){P:Prop}:
  Bm C e G g hp w (P,.l id g' 0 (es.length+ys.length),[(id,some (g',.own el ei.size (es++ys)))]) (((Builtin.append_ #[t,t] ty #[xd,x]).run C.P w).andThen fun v w=>.ok (.value v) w):=by
 classical
 have sQ:0<ei.size:=oM;obtain⟨ee,he,V8,hn,sL,jz⟩:=Zu p.hr hd hg oM;have P6:=p.hr.gen id ee he;obtain⟨hk,_,_,qp,q1,hb⟩:=jz;by_cases hm:ys.length=0
 ·-- nothing new
  have hy:ys=[]:=Ha hm;subst hy;obtain⟨a',Og,rfl⟩:=JY.shape;have Ik:(Builtin.append_ #[t,t] ty #[xd,.slice a' 0 Og]).run C.P w=.ok xd w:=by
   have Zm:∃a cap,xd=.slice a es.length cap/\es.length<=cap:=by
    unfold cL at sL;cases OT:ee.Rr with
    |none=>rw[OT]at sL;obtain⟨_,h0,a,rfl⟩:=sL;exact⟨a,0,by rw[h0],oM⟩
    |some q=>obtain⟨b,bc⟩:=q;rw[OT]at sL;obtain⟨cap,rfl,_,hc⟩:=sL;exact⟨_,cap,rfl,hc⟩
   obtain⟨a,cap,rfl,hc⟩:=Zm;exact Kj hu hf ty a a' es.length cap Og hc w
  simp only[N9]at Ik ⊢;rw[Ik,GQ];simp only[MP,dq];have x1:=Z7.wide w e G g;refine⟨_,w,e,rfl,p.hr.wide.congr (fun _=>HO) fun j=>?_,x1,p.ln.wide g,p.fr,.inl ⟨xd,rfl,hd.ext x1⟩⟩;simp only[Mb,fj];by_cases hj:j=id
  ·subst hj;rw[Hp.mz,hg]
  rw[Hp.RG _ _ hj]
 have Rz:0<ys.length:=oM;have grow:∀(a:Option Addr)(cap:Nat)(olds:List Value),xd=.slice a es.length cap->cap<es.length+ys.length->olds.length=es.length*ei.size->
   (∀j v,olds[j]?=some v->∀ad,a=some ad->w.cell? (ad.add j)=some v)->(a=none->es.length=0/\cap=0)->
   ((∀b bcap,ee.Rr=some (b,bcap)->∀i (h:i<es.length) j (h':j<es[i].cells.length),VC w e G b (i*ei.size+j) es[i].cells[j] (olds.getD (i*ei.size+j) undef))/\(ee.Rr=none->es=[]))->
   Bm C e G g hp w (P,.l id g' 0 (es.length+ys.length),[(id,some (g',.own el ei.size (es++ys)))]) (((Builtin.append_ #[t,t] ty #[xd,x]).run C.P w).andThen fun v w=>.ok (.value v) w):=by
  rintro a cap olds rfl Zm r1 r2 r3 ⟨r5,r6⟩;obtain⟨nc,zs,h1,h2,h3,Ik⟩:=pG (P:=C.P) (w:=w) hu hf ty (a:=a) (n:=es.length) (cap:=cap) (olds:=olds) r1 r2 r3 JY rfl Rz Zm ru VU;rw[Ik,GQ];have Pr:=Qw.Jp w (.cells (olds++news++zs).toArray el);have xB:(w.drew.alloc (.cells (olds++news++zs).toArray el)).heap.size=w.heap.size+1:=Ar w.drew _;generalize hW:w.drew.alloc (.cells (olds++news++zs).toArray el)=w' at Pr xB;have tq:w'.heap[w.heap.size]?=some (.cells (olds++news++zs).toArray el (0,0)):=by rw[<-hW];exact sg w.drew _
  let kd:Nat->Option (Az):=fun b=>match e.Rc b with
   |some (B,c)=>if(∃cap,ee.Rr=some (B,cap)) then some (w.heap.size,c) else some (B,c)|none=>none
  have kd1:∀b B c,kd b=some (B,c)->∃B0,e.Rc b=some (B0,c)/\((∃cap,ee.Rr=some (B0,cap))/\B=w.heap.size\/(¬(∃cap,ee.Rr=some (B0,cap))/\B=B0)):=by
   intro b B c h;simp only[kd]at h;split at h
   ·rename_i B0 c0 zU;split at h
    ·rename_i hx;simp only[Kh,jH]at h;obtain⟨rfl,rfl⟩:=h;exact⟨_,zU,.inl ⟨hx,rfl⟩⟩
    rename_i hx;simp only[Kh,jH]at h;obtain⟨rfl,rfl⟩:=h;exact⟨_,zU,.inr ⟨hx,rfl⟩⟩
   cases h
  have kd2:∀b B c,e.Rc b=some (B,c)->¬(∃cap,ee.Rr=some (B,cap))->kd b=some (B,c):=by intro b B c h hx;simp only[kd,h,iN hx]
  have kd3:∀b B c cap,e.Rc b=some (B,c)->ee.Rr=some (B,cap)->kd b=some (w.heap.size,c):=by intro b B c cap h hx;simp only[kd,h,iP (show ∃cap,ee.Rr=some (B,cap) from⟨cap,hx⟩)]
  have kd4:∀b,e.Rc b=none->kd b=none:=by intro b h;simp only[kd,h]
  generalize VB:kd=SF at kd1 kd2 kd3 kd4;clear VB kd;generalize hE:(⟨fun j=>if j=id then some ⟨g',some (w.heap.size,nc),ei.size,es.length+ys.length⟩ else e j,e.z,SF⟩:bQ)=e';have e1:e' id=some ⟨g',some (w.heap.size,nc),ei.size,es.length+ys.length⟩:=by subst hE;simp
  have e2:∀j,j≠id->e' j=e j:=by intro j hj;subst hE;simp[hj]
  have e3:e'.z=e.z:=by subst hE;rfl
  have e4:e'.Rc=SF:=by subst hE;rfl
  have tX:∀b,I2 e' b->b=w.heap.size\/(I2 e b/\¬∃cap,ee.Rr=some (b,cap)):=by
   rintro b ⟨j,ej,c,h1,h2⟩;by_cases hj:j=id
   ·subst hj;rw[e1]at h1;cases h1;cases h2;exact .inl rfl
   rw[e2 j hj]at h1;refine .inr ⟨⟨j,ej,c,h1,h2⟩,?_⟩;rintro⟨Og,h3⟩;exact hj (p.hr.inj _ _ _ _ _ _ _ h1 he h2 h3)
  have ZQ:∀b,b<w.heap.size->TT e' b->TT e b:=by
   rintro b PP (ho|⟨B,c,tF,ho⟩)
   ·rcases tX b ho with rfl|⟨h,_⟩
    ·omega
    exact .inl h
   rw[e4]at tF;obtain⟨B0,h1,h2⟩:=kd1 _ _ _ tF;rcases h2 with ⟨⟨Og,h2⟩,rfl⟩|⟨h2,rfl⟩
   ·exact .inr ⟨B0,c,h1,⟨id,ee,Og,he,h2⟩⟩
   rcases tX B ho with rfl|⟨h,_⟩
   ·have:=(p.hr.kl _ _ _ h1).2.1;omega
   exact .inr ⟨B,c,h1,h⟩
  have ext:Z7 w e G w' e' (Bb G g):=by
   refine Z7.mk' Pr.size (fun _ h=>.inl h) e3 ZQ (fun b hb _=>Pr.same b hb) fun j ej hj hG=>?_;by_cases Wl:j=id
   ·subst Wl;rw[e1]at hj;cases hj;exact⟨ee,he,V8,hk,.inr (by rw[hn];show es.length<es.length+ys.length;omega)⟩
   rw[e2 j Wl]at hj;exact⟨ej,hj,rfl,rfl,.inl ⟨rfl,rfl⟩⟩
  refine⟨_,w',e',rfl,?_,ext,p.ln.step p.fr.size ext e3 ZQ,p.fr.grow Pr,.inl ⟨_,rfl,?_⟩⟩
  ·refine p.hr.step (fun j=>j=id) ext e3 (fun j hj=>⟨e2 j hj,V0⟩) (fun j ej b1 c1 hj AQ FZ=>⟨Pr.same b1 (p.hr.lt _ _ _ _ AQ FZ),fun b2 c2 BF=>⟨Pr.same b2 (p.hr.kl _ _ _ BF).1,?_⟩⟩)
    (fun j hj dK=>by subst hj;simp only[Mb,fj]at dK;rw[Hp.mz]at dK;cases dK) (fun j gj obj hj ZX=>?_) (fun j ej b1 c1 hj AQ FZ=>?_) (fun b1 B c1 P'=>?_) (fun b1 ho=>?_) (fun b1 B c1 P'=>?_)
   ·rw[e4];refine kd2 _ _ _ BF ?_;rintro⟨Og,h⟩;exact hj (p.hr.inj _ _ _ _ _ _ _ AQ he FZ h)
   ·subst hj;simp only[Mb,fj]at ZX;rw[Hp.mz]at ZX;cases ZX;refine⟨_,e1,rfl,.inl (by rw[<-V8];exact P6),rfl,sM,sQ,KB qp JY.lens,Vn q1 JY.one,h2,Cd,_,(.of tq),?_,?_⟩
    ·rw[Nn,aL,aL,r1,JY.len,h3,<-Dl,<-Dl];congr 1;omega
    refine jP (R:=fun c v x=>VC w' e' (Bb G g) w.heap.size c v x) (zs:=zs) r1 JY.len rfl rfl qp JY.lens (fun i hi j hj=>?_) (fun i hi j hj=>.val _ _ ((JY.pk i hi j hj).ext ext));cases OT:ee.Rr with
    |none=>have:=r6 OT;subst this;simp at hi|some q=>obtain⟨b,bcap⟩:=q;refine(r5 b bcap OT i hi j hj).ext ext fun b1 aZ=>⟨Pr.same b1 (p.hr.kl _ _ _ aZ).1,?_⟩;rw[e4];exact kd3 _ _ _ bcap aZ OT
   ·subst hj;rw[e1]at AQ;cases AQ;cases FZ;refine⟨oM,Kp p.ln p.fr (lR _),fun j' JA c' tw s7=>?_⟩;by_cases h:j'=j
    ·exact h
    rw[e2 j' h]at tw;have:=p.hr.lt _ _ _ _ tw s7;omega
   ·rw[e4]at P';obtain⟨B0,h1,h2⟩:=kd1 _ _ _ P';obtain⟨q1,q2,q3⟩:=p.hr.kl _ _ _ h1;refine⟨oM,?_,q3⟩;rcases h2 with ⟨_,rfl⟩|⟨_,rfl⟩<;>omega
   ·rw[e4];rcases tX b1 ho with rfl|⟨h,_⟩
    ·refine kd4 _ ?_;cases P':e.Rc w.heap.size with
     |none=>rfl|some q=>have:=(p.hr.kl _ q.1 q.2 P').1;omega
    exact kd4 _ (p.hr.ko _ h)
   rw[e4]at P' ⊢;obtain⟨B0,h1,h2⟩:=kd1 _ _ _ P';rcases h2 with ⟨_,rfl⟩|⟨_,rfl⟩
   ·refine kd4 _ ?_;cases P':e.Rc w.heap.size with
    |none=>rfl|some q=>have:=(p.hr.kl _ q.1 q.2 P').1;omega
   exact kd4 _ (p.hr.kk _ _ _ h1)
  refine .l _ _ _ _ _ (.inl (by rw[<-V8];exact P6)) rfl fun SV X6 _=>?_;rw[e1]at X6;cases X6;exact⟨sM,fun _=>⟨nc,sM,sM,h1⟩⟩
 unfold cL at sL;cases OT:ee.Rr with
 |none=>rw[OT]at sL hb;obtain⟨_,h0,a,rfl⟩:=sL;subst hb;exact grow a 0 [] rfl oM sM sM (fun _=>⟨rfl,rfl⟩) ⟨fun _ _ h=>(by rw[OT]at h;cases h),fun _=>rfl⟩
 |some q=>
  obtain⟨b,bcap⟩:=q;rw[OT]at sL hb;obtain⟨cap,rfl,FJ,XJ⟩:=sL;obtain⟨CY,mu,cs,hh,xB,hv⟩:=hb;simp only[cy]at FJ;subst FJ;have nE:es.length*ei.size<=cs.size:=by rw[xB];exact RW _ mu
  by_cases If:es.length+ys.length<=cap
  ·obtain⟨b',Xh,Og,Jy,Zp⟩:=JY.at_.resolve_left oM;obtain⟨ie,hi,zA,_,_⟩:=hf.info;have agP:es.length*ei.size+news.length<=cs.size:=by rw[JY.len,xB,<-Dl];exact RW _ If
   have Ik:=ahl (P:=C.P) t ty hu hi b es.length cap hh ⟨b',Xh,none⟩ ys.length Og news (by rw[zA];exact JY.len) Zp (JY.Gg sQ) If (by rw[zA];exact agP);rw[<-Jy]at Ik;simp only[gw];rw[Ik,GQ,zA];have HL:I2 e b:=⟨id,ee,cap,he,OT⟩;generalize qW:(cs.toList.take (es.length*ei.size)++news++cs.toList.drop (es.length*ei.size+news.length)).toArray=F8;have e1:xZ e id (some ⟨g',some (b,cap),ei.size,es.length+ys.length⟩) id=some ⟨g',some (b,cap),ei.size,es.length+ys.length⟩:=nq _ _ _;have tX:∀b1,I2 (xZ e id (some ⟨g',some (b,cap),ei.size,es.length+ys.length⟩)) b1->I2 e b1:=by
    rintro b1 ⟨j,ej,c1,q1,q2⟩;by_cases hj:j=id
    ·subst hj;rw[e1]at q1;cases q1;cases q2;exact HL
    rw[t_ _ _ hj]at q1;exact⟨j,ej,c1,q1,q2⟩
   have ZQ:∀b1,TT (xZ e id (some ⟨g',some (b,cap),ei.size,es.length+ys.length⟩)) b1->TT e b1:=by
    rintro b1 (ho|⟨B,c1,P',ho⟩)
    ·exact .inl (tX _ ho)
    exact .inr ⟨B,c1,P',tX _ ho⟩
   have aab:∀b',¬TT e b'->(w.setRow b F8).heap[b']?=w.heap[b']?:=fun b' NC=>lQ w b b' F8 (by rintro rfl;exact NC (.inl HL));have ext:Z7 w e G (w.setRow b F8) (xZ e id (some ⟨g',some (b,cap),ei.size,es.length+ys.length⟩)) (Bb G g):=by
    refine Z7.mk' sM (fun _ h=>.inl h) rfl (fun b1 _ ho=>ZQ b1 ho) (fun b' _ NC=>aab b' NC) fun j ej hj hG=>?_;by_cases Wl:j=id
    ·subst Wl;rw[e1]at hj;cases hj;exact⟨ee,he,V8,hk,.inr (by rw[hn];show es.length<es.length+ys.length;omega)⟩
    rw[t_ _ _ Wl]at hj;exact⟨ej,hj,rfl,rfl,.inl ⟨rfl,rfl⟩⟩
   have kidne:∀b2 B2 c2,e.Rc b2=some (B2,c2)->b2≠b:=by rintro b2 B2 c2 BF rfl;have:=p.hr.ko b2 HL;rw[BF]at this;cases this
   refine⟨_,_,_,rfl,?_,ext,p.ln.step p.fr.size ext rfl (fun b1 _ ho=>ZQ b1 ho),p.fr.step p.ln rfl rfl rfl sM (fun b' _ NC=>aab b' NC),.inl ⟨_,rfl,?_⟩⟩
   ·refine p.hr.step (fun j=>j=id) ext rfl (fun j hj=>⟨t_ _ _ hj,V0⟩)
     (fun j ej b1 c1 hj AQ FZ=>⟨lQ w b b1 F8 ?_,fun b2 c2 BF=>⟨lQ w b b2 F8 (kidne _ _ _ BF),BF⟩⟩)
     (fun j hj dK=>by subst hj;simp only[Mb,fj]at dK;rw[Hp.mz]at dK;cases dK) (fun j gj obj hj ZX=>?_) (fun j ej b1 c1 hj AQ FZ=>?_)
     (fun b1 B c1 P'=>by simpa using p.hr.kl b1 B c1 P') (fun b1 ho=>p.hr.ko b1 (tX _ ho)) p.hr.kk
    ·rintro rfl;exact hj (p.hr.inj _ _ _ _ _ _ _ AQ he FZ OT)
    ·subst hj;simp only[Mb,fj]at ZX;rw[Hp.mz]at ZX;cases ZX;refine⟨_,e1,rfl,.inl (by rw[<-V8];exact P6),rfl,sM,sQ,KB qp JY.lens,Vn q1 JY.one,CY,by simpa using If,_,hh.setRow ?_,?_,?_⟩
     ·subst qW;simp only[Nn,aL,Hh,DT,Dr];omega
     ·subst qW;simp only[Nn,aL,Hh,DT,Dr];omega
     subst qW;have r1:(cs.toList.take (es.length*ei.size)).length=es.length*ei.size:=xF;refine jP (R:=fun c v x=>VC _ _ (Bb G g) b c v x) r1 JY.len rfl rfl qp JY.lens (fun i tg j tw=>?_) (fun i hi j hj=>.val _ _ ((JY.pk i hi j hj).ext ext));have PP:i*ei.size+j<es.length*ei.size:=m7 tg (by have:=qp i tg;omega);rw[gE,qL,iP PP,CO,<-gA];exact(hv i tg j tw).ext ext fun b1 aZ=>⟨lQ w b b1 _ (kidne _ _ _ aZ),aZ⟩
    subst hj;rw[e1]at AQ;cases AQ;cases FZ;refine⟨by simpa using p.hr.lt _ _ _ _ he OT,p.hr.nz _ _ _ _ he OT,fun j' JA c' tw s7=>?_⟩;by_cases h:j'=j
    ·exact h
    rw[t_ _ _ h]at tw;exact p.hr.inj _ _ _ _ _ _ _ tw he s7 OT
   refine .l _ _ _ _ _ (.inl (by rw[<-V8];exact P6)) rfl fun SV X6 _=>?_;rw[e1]at X6;cases X6;exact⟨sM,fun _=>⟨cap,sM,sM,If⟩⟩
  refine grow (some ⟨b,0*ee.k,none⟩) cap ((List.range (es.length*ei.size)).map fun j=>cs.getD j undef) rfl oM sM ?_ sM ⟨?_,fun h=>by rw[OT]at h;cases h⟩
  ·rintro j v hj ad ⟨⟩;refine V3 (b:=b) (off:=0*ee.k) _ (fun j hj=>?_) j v hj;rw[gw,cy];exact hh.KP oM
  intro b0 bcap0 ov i jk j hj;rw[OT]at ov;cases ov;rw[MS _ (m7 jk (by have:=qp i jk;omega))];exact hv i jk j hj
theorem ab8(p:jC C e G g hp w)(hT:JE C.P T){t ty did el:Nat}(tW:(tl T t).ty=.slice el){d x:AV}{xd xx:Value}(hd:VR w (UE e) e G d xd)(hx:VR w (UE e) e G x xx)(h:(nL T t did g hp d x).1):
  Bm C e G g hp w (nL T t did g hp d x) (((Builtin.append_ #[t,t] ty #[xd,xx]).run C.P w).andThen fun v w=>.ok (.value v) w):=by
 obtain⟨dd,hu,K2⟩:=(hT.fit tW sM).under;rw[tW]at K2;cases K2;have qp:elemOf T t=el:=by simp[elemOf,tW]
 simp only[nL,qp]at h ⊢;cases hs:Ym hp x with
 |none=>simp only[hs]at h;exact h.elim|some ys=>
  simp only[hs]at h ⊢;cases d with
  |sl es full=>
   cases full with
   |false=>exact h.elim|true=>
    simp only at h ⊢;by_cases LD:es.length=0
    ·rw[iP LD]at h ⊢;obtain rfl:es=[]:=Ha LD;obtain⟨⟨h1,h2,h3,h4,h5⟩,h6,h7,h8⟩:=h;obtain⟨news,JY⟩:=gy p.hr hx h1 hs oM h3 fun y hy c hc=>yn (h4 y hy c hc);obtain⟨a,cap,Gh,_,Ky⟩:=hd.tv;obtain rfl:cap=0:=Ky rfl;subst Gh;have:=abG (P:=True) (ty:=ty) p hu (hT.fits h2) h2 (did:=did) (a:=a) JY h7 h8;exact Bm.attach (Q:=True) (es:=[]) this h6 h4 h5
    rw[iN LD]at h ⊢;by_cases V6:ys.length=0
    ·rw[iP V6]at h ⊢;obtain rfl:ys=[]:=Ha V6;obtain⟨h1,h2,h3,h4,h5⟩:=h;obtain⟨news,JY⟩:=gy p.hr hx h1 hs oM h3 fun y hy c hc=>yn (h4 y hy c hc);obtain⟨a',Og,rfl⟩:=JY.shape;have FF:=hd.Rv.full;obtain⟨a,cap,Gh,Zm,_⟩:=hd.tv;subst Gh;rw[show([]:List AV).length=0 from rfl,Kj (P:=C.P) hu (hT.fits h2) ty a a' _ cap Og Zm w,GQ];exact Bm.pure p (.rC _ _ FF)
    rw[iN V6]at h ⊢;obtain⟨⟨h1,h2,h3,h4,h5⟩,h6,⟨h9,bF⟩,h7,h8⟩:=h;obtain⟨news,JY⟩:=gy p.hr hx h1 hs oM h3 fun y hy c hc=>yn (h4 y hy c hc);have:=akW (P:=True) (ty:=ty) p hu (hT.fits h2) h2 (did:=did) hd h9 bF JY oM h7 h8;exact Bm.attach (Q:=True) this h6 h4 h5
  |l id g' off len=>
   simp only at h ⊢;cases hg:hp.get id with
   |none=>simp only[hg]at h;exact h.elim|some q=>
    obtain⟨g'',ob⟩:=q;cases ob with
    |box cs=>simp only[hg]at h;exact h.elim|mp _=>simp only[hg]at h;exact h.elim|ms _=>simp only[hg]at h;exact h.elim|bd _ _ _=>simp only[hg]at h;exact h.elim|own e' k es=>simp only[hg]at h ⊢;obtain⟨⟨h1,h2,h3,h4,h5⟩,h6,rfl,rfl,rfl,rfl,rfl,h7,h8⟩:=h;obtain⟨news,JY⟩:=gy p.hr hx h1 hs oM h3 fun y hy c hc=>yn (h4 y hy c hc);exact Bm.attach (Q:=True) (agw (P:=True) (ty:=ty) p hu (hT.fits h2) h2 hd hg JY h7 h8) h6 h4 h5
  |_=>exact h.elim
end
open Go Go.Great
section
variable{C:Cx}{e:bQ}{G:Nat->Prop}{g:Nat}{hp:Hp}{w:World}{T:vp}
def as9{P:Program}{t:Nat}{ti:TI}(hf:uz P t ti)(h:ti.size=1):(P.info? t).map (·.size)=some 1:=by obtain⟨i,h1,h2,_⟩:=hf.info;simp[h1,h2,h]
def cH.alX{hp':Hp}(h:cH w e G hp)(hh:∀i,hp'.get i=hp.get i):cH w e G hp':=h.congr (fun _=>HO) hh
theorem aoX{P:Program}(w:World)(dT sT ty elem:TypeId)(b o dLen dCap:Nat)(a:Addr)(sLen sCap:Nat)(cur:Array Value)(t:TypeId)(cs:List Value)(hu:P.underlying dT=some (.slice elem))(hs:(P.info? elem).map (·.size)=some 1)(hg:Cl w b cur t)(hn:cs.length=Nat.min sLen dLen)(JY:∀j v,cs[j]?=some v->w.cell? (a.add j)=some v)(nE:o+cs.length<=cur.size)(h1:∀v∈cs,v.oneCell'=true):
  (Builtin.copy_ #[dT,sT] ty #[.slice (some ⟨b,o,none⟩) dLen dCap,.slice (some a) sLen sCap]).run P w=
   .ok (goInt cs.length) (w.setRow b (cur.toList.take o++cs++cur.toList.drop (o+cs.length)).toArray):=by
 obtain⟨fz,hg,Vq⟩:=hg;have hl:=run_loadCells_list (P:=P) w a cs JY;have VV:=qA (P:=P) (off:=o) cs 0 cur w hg Vq (by simpa using nE) h1;cases hq:P.info? elem with
 |none=>simp[hq]at hs|some i=>
  have hi:i.size=1:=by simpa[hq] using hs
  simp[Builtin.copy_,pP hu,Builtin.lenOf,Builtin.firstCells,sizeOf,typeInfo,hq,hi,<-hn,hl,VV]
def ahv(p:jC C e G g hp w)(hT:JE C.P T){t st ty:Nat}{d x:AV}{xd xx:Value}(hd:VR w (UE e) e G d xd)(hx:VR w (UE e) e G x xx)(h:(JK T t hp d x).1):
  Bm C e G g hp w (JK T t hp d x) (((Builtin.copy_ #[t,st] ty #[xd,xx]).run C.P w).andThen fun v w=>.ok (.value v) w):=by
 unfold JK at h ⊢;split at h
 ·rename_i el id g' off len ys tW hs;split at h
  ·rename_i g'' t' k es hg;obtain⟨rfl,hl,rfl,fg,NM,h1,h2,h0⟩:=h;obtain⟨dd,hu,K2⟩:=(hT.fit tW sM).under;rw[tW]at K2;cases K2;have hf:=hT.fits (t:=el) oM;have aX:=as9 hf fg;obtain⟨ee,he,V8,hn,sL,jz⟩:=Zu p.hr hd hg hl;obtain⟨hk,_,zU,DN,q1,hb⟩:=jz;obtain⟨news,JY⟩:=gy p.hr hx NM hs (k:=1) oM h1 fun y hy c hc=>(h2 y hy c hc).2;obtain⟨a,cap,pm⟩:=JY.shape;have pt:news.length=ys.length:=by rw[JY.len];omega
   unfold cL at sL;cases OT:ee.Rr with
   |none=>rw[OT]at sL;omega|some q=>
    obtain⟨b,bcap⟩:=q;rw[OT]at sL hb;obtain⟨dcap,rfl,FJ,XJ⟩:=sL;obtain⟨hm,mu,cs,hh,xB,hv⟩:=hb;have HL:I2 e b:=⟨id,ee,bcap,he,OT⟩;generalize hN:min ys.length len=N;have Ik:(Builtin.copy_ #[t,st] ty #[.slice (some ⟨b,off*ee.k,none⟩) len dcap,xx]).run C.P w=
      .ok (goInt N) (w.setRow b (cs.toList.take (off*ee.k)++news.take N++cs.toList.drop (off*ee.k+N)).toArray):=by
     by_cases hz:N=0
     ·subst pm;rw[run_copy_none w t st ty el _ _ _ _ _ _ hu aX (by show min ys.length len=0;omega)];subst hz;simp only[Td,MP,dq,pH,Array.toArray_toList];obtain⟨fz,hh,_⟩:=hh;rw[setRow_self w b cs t' fz hh];rfl
     obtain⟨b',Xh,Og,Jy,Zp⟩:=JY.at_.resolve_left oM;have hlen:(news.take N).length=N:=xF;have:=aoX (P:=C.P) w t st ty el b (off*ee.k) len dcap ⟨b',Xh,none⟩ ys.length Og cs t' (news.take N) hu aX hh (by rw[hlen];exact hN.symm) (fun j v hj=>Zp j v (by
      rw[qL]at hj;split at hj
      ·exact hj
      cases hj)) (by rw[hlen,xB,hk];omega) (fun v hv=>JY.Gg oM v (Cz hv))
     rw[hlen,<-Jy]at this;exact this
    rw[Ik,GQ];have hlen:(news.take N).length=N:=xF;have P':ee.k=1:=hk;subst V8;refine(mR p he OT _ ?_ (.inl ⟨_,rfl,.rC _ _ (.lit _ rfl)⟩)).2;generalize qW:(cs.toList.take (off*ee.k)++news.take N++cs.toList.drop (off*ee.k+N)).toArray=F8;have ext:=Z7.write (w:=w) (g:=g) (G:=G) he OT F8;have CA:(es.take off++ys.take N++es.drop (off+N)).length=es.length:=xF;have get1:∀i (hi:i<(es.take off++ys.take N++es.drop (off+N)).length),∃(_:i<es.length),(off<=i/\i<off+N/\∃(h':i-off<ys.length),(es.take off++ys.take N++es.drop (off+N))[i]=ys[i-off]/\F8.getD i undef=news.getD (i-off) undef)\/
      ((es.take off++ys.take N++es.drop (off+N))[i]=es[i]'oM/\F8.getD i undef=cs.getD i undef):=by
     intro i hi;have Wd:i<es.length:=oM;refine⟨Wd,?_⟩;have pB:F8.getD i undef=if off<=i/\i<off+N then(news.take N).getD (i-off) undef else cs.getD i undef:=by rw[<-qW,P',B3];have:=Uv (cur:=cs.toList) (vs:=news.take N) (off:=off) (j:=i) (by rw[hlen,Dr,xB];omega);rw[hlen]at this;rw[this]
     by_cases hr:off<=i/\i<off+N
     ·left
      have hy:i-off<ys.length:=oM;refine⟨hr.1,hr.2,hy,?_,?_⟩
      ·rw[Tx xF,Mg xF,DA];congr 1
       simp;omega
      rw[pB,iP hr,gE,gE,qL,iP oM]
     right
     refine⟨?_,by rw[pB,iN hr]⟩;by_cases h1:i<off
     ·rw[Tx xF,Tx xF,DA]
     rw[Mg xF,qY];congr 1
     simp;omega
    refine⟨hk,by rw[hn,CA],zU,?_,?_,?_⟩
    ·intro i hi;obtain⟨Wd,⟨_,_,h',h3,_⟩|⟨h3,_⟩⟩:=get1 i hi
     ·rw[h3];exact JY.lens _ h'
     rw[h3];exact DN _ _
    ·intro i hi j hj;obtain⟨Wd,⟨_,_,h',h3,_⟩|⟨h3,_⟩⟩:=get1 i hi
     ·simp only[h3]at hj ⊢;exact JY.one _ h' _ _
     simp only[h3]at hj ⊢;exact q1 _ _ _ _
    rw[OT];refine⟨hm,by rw[CA];exact mu,F8,hh.setRow ?_,?_,?_⟩
    ·rw[<-qW,xB,P'];simp only[Nn,aL,Hh,DT,Dr];omega
    ·rw[<-qW,P'];simp only[Nn,aL,Hh,DT,Dr];omega
    intro i hi j hj;obtain⟨Wd,⟨h5,h6,h',h3,h4⟩|⟨h3,h4⟩⟩:=get1 i hi
    ·have K0:j=0:=by simp only[h3]at hj;have:=JY.lens _ h';omega
     subst K0;simp only[B3,dq,h4,h3];have:=JY.pk _ h' 0 (by rw[JY.lens _ h'];omega);simp only[B3,dq]at this;exact .val _ _ (this.ext ext)
    have K0:j=0:=by simp only[h3]at hj;have:=DN _ Wd;omega
    subst K0;simp only[B3,dq,h4,h3];have:=hv _ Wd 0 (by rw[DN _ Wd];omega);simp only[B3,dq]at this;refine this.ext ext fun b1 aZ=>⟨lQ w b b1 F8 ?_,aZ⟩;rintro rfl;have:=p.hr.ko b1 HL;rw[aZ]at this;cases this
  exact h.elim
 exact h.elim
def KT{z:Array Value}{n k:Nat}(hz:z.size=k){i j:Nat}(hi:i<n)(hj:j<k):(Builtin.zeroCells z n).toList.getD (i*k+j) undef=z.getD j undef:=by have PP:=m7 hi hj;have tK:=(RN (i:=i) hj).2;simp only[Builtin.zeroCells,gE,CO,Array.getElem?_map,Array.getElem?_range,hz,PP,ql,rL,jw,tK,gA];have:j<z.size:=oM;simp[this]
def afy(p:jC C e G g hp w)(hT:JE C.P T){t ty:Nat}{d:AV}{xd:Value}(hd:VR w (UE e) e G d xd)(h:(B4 T t hp d).1):
  Bm C e G g hp w (B4 T t hp d) (((Builtin.clear_ #[t] ty #[xd]).run C.P w).andThen fun v w=>.ok (.value v) w):=by
 unfold B4 at h ⊢;split at h
 ·rename_i el id g' off len tW;split at h
  ·rename_i g'' t' k es hg;obtain⟨rfl,hl,Nz⟩:=h;obtain⟨dd,hu,K2⟩:=(hT.fit tW sM).under;rw[tW]at K2;cases K2;obtain⟨ee,he,V8,hn,sL,jz⟩:=Zu p.hr hd hg hl;obtain⟨hk,_,zU,DN,q1,hb⟩:=jz;have hf:=hT.fits (t:=el) oM;obtain⟨v1,v2,v3⟩:=Ge (w:=w) hf (UE e);obtain⟨c1,c2,c3⟩:=KE v1 v2;have Gw:∀w' e' G',VR w' (UE e') e' G' (.F1 []) (.tuple #[]):=fun w' e' G'=>.rC _ _ (.F1 [] #[] rfl (fun i hi=>yr))
   by_cases hz:len=0
   ·obtain⟨a,cap,rfl⟩:=sL.shape;subst hz;have Ik:(Builtin.clear_ #[t] ty #[.slice a 0 cap]).run C.P w=.ok (.tuple #[]) w:=by cases a<;>simp[Builtin.clear_,pP hu]
    rw[Ik,GQ];have x1:=Z7.wide w e G g;refine⟨_,w,e,rfl,p.hr.wide.alX fun j=>?_,x1,p.ln.wide g,p.fr,.inl ⟨_,rfl,Gw _ _ _⟩⟩;simp only[Mb,fj,List.replicate_zero,MP];by_cases hj:j=id
    ·subst hj;rw[Hp.mz,hg,DZ oM]
    rw[Hp.RG _ _ hj]
   unfold cL at sL;cases OT:ee.Rr with
   |none=>rw[OT]at sL;omega|some q=>
    obtain⟨b,bcap⟩:=q;rw[OT]at sL hb;obtain⟨cap,rfl,FJ,XJ⟩:=sL;obtain⟨hm,mu,cs,hh,xB,hv⟩:=hb;have HL:I2 e b:=⟨id,ee,bcap,he,OT⟩;have zJ:(tl T el).H3.cells.size=k:=by rw[c1,v3,Nz]
    have qE:(Builtin.zeroCells (tl T el).H3.cells len).toList.length=len*k:=by rw[Dr,JH,zJ]
    have nE:off*k+len*k<=cs.size:=by rw[xB,<-Dl];exact RW _ oM
    obtain⟨fz,fK,Vq⟩:=hh;have hh:Cl w b cs t':=⟨fz,fK,Vq⟩;have VV:=qA (P:=C.P) (off:=off*ee.k) (Builtin.zeroCells (tl T el).H3.cells len).toList 0 cs w fK Vq (by rw[hk,qE];omega) (by
     intro v aob;obtain⟨i,hi,rfl⟩:=G_ aob;have T6:i<len*k:=by rw[<-qE];exact hi
     have e1:i / k*k+i % k=i:=by rw[XZ];exact Nat.div_add_mod i k
     have:=KT (n:=len) zJ (i:=i / k) (j:=i % k) ((LH zU).2 T6) (yh _ zU);rw[e1,gE,gG hi]at this;simp only[jw]at this;rw[this];have PP:i % k<(tl T el).H3.cells.size:=by rw[zJ];exact yh _ zU
     rw[gA,LS PP];exact c3 _ (Array.getElem_mem _))
    have Ik:(Builtin.clear_ #[t] ty #[.slice (some ⟨b,off*ee.k,none⟩) len cap]).run C.P w=
      .ok (.tuple #[]) (w.setRow b (cs.toList.take (off*ee.k)++(Builtin.zeroCells (tl T el).H3.cells len).toList++cs.toList.drop (off*ee.k+len*k)).toArray):=by
     match len,hz with
     |n+1,_=>simp[Builtin.clear_,pP hu,ZW hf,VV,qE]
    rw[Ik,GQ];subst V8;refine(mR p he OT _ ?_ (.inl ⟨_,rfl,Gw _ _ _⟩)).2;generalize qW:(cs.toList.take (off*ee.k)++(Builtin.zeroCells (tl T el).H3.cells len).toList++cs.toList.drop (off*ee.k+len*k)).toArray=F8;have ext:=Z7.write (w:=w) (g:=g) (G:=G) he OT F8;have CA:(es.take off++List.replicate len (tl T el).OR).length=es.length:=xF;have get1:∀i (hi:i<(es.take off++List.replicate len (tl T el).OR).length),∃(_:i<es.length),((es.take off++List.replicate len (tl T el).OR)[i]=(tl T el).OR/\∀j,j<k->F8.getD (i*k+j) undef=(tl T el).H3.cells.getD j undef)\/
      ((es.take off++List.replicate len (tl T el).OR)[i]=es[i]'oM/\∀j,j<k->F8.getD (i*k+j) undef=cs.getD (i*k+j) undef):=by
     intro i hi;have Wd:i<es.length:=oM;refine⟨Wd,?_⟩;have pB:∀c,F8.getD c undef=if off*k<=c/\c<off*k+len*k then(Builtin.zeroCells (tl T el).H3.cells len).toList.getD (c-off*k) undef else cs.getD c undef:=by intro c;rw[<-qW,hk];have:=Uv (cur:=cs.toList) (vs:=(Builtin.zeroCells (tl T el).H3.cells len).toList) (off:=off*k) (j:=c) (by rw[qE,Dr];omega);rw[qE]at this;rw[this]
     by_cases hr:i<off
     ·right
      refine⟨by rw[Tx xF,DA],fun j hj=>?_⟩;rw[pB,iN];have:i*k+j<off*k:=m7 hr hj;omega
     left
     refine⟨by rw[Mg xF];simp,fun j hj=>?_⟩;have h1:off*k<=i*k:=RW _ oM;have h2:i*k+j<(off+len)*k:=m7 oM hj;rw[Dl]at h2;rw[pB,iP ⟨oM,h2⟩];have h3:i*k+j-off*k=(i-off)*k+j:=by rw[Nat.sub_mul];omega
     rw[h3];exact KT zJ oM hj
    refine⟨hk,by rw[hn,CA],zU,?_,?_,?_⟩
    ·intro i hi;obtain⟨Wd,⟨h3,_⟩|⟨h3,_⟩⟩:=get1 i hi
     ·rw[h3,v3,Nz]
     rw[h3];exact DN _ _
    ·intro i hi j hj;obtain⟨Wd,⟨h3,_⟩|⟨h3,_⟩⟩:=get1 i hi
     ·simp only[h3]at hj ⊢;exact v2 _ (gM _)
     simp only[h3]at hj ⊢;exact q1 _ _ _ _
    rw[OT];refine⟨hm,by rw[CA];exact mu,F8,hh.setRow ?_,?_,?_⟩
    ·rw[<-qW,hk];simp only[Nn,aL,Hh,DT,Dr,JH,zJ];omega
    ·rw[<-qW,hk];simp only[Nn,aL,Hh,DT,Dr,JH,zJ];omega
    intro i hi j hj;obtain⟨Wd,⟨h3,h4⟩|⟨h3,h4⟩⟩:=get1 i hi
    ·have DE:j<k:=by simp only[h3,v3]at hj;omega
     have tw:j<(tl T el).OR.cells.length:=oM;rw[h4 j DE];simp only[h3];exact .val _ _ (.rC _ _ ((c2 j tw).mono ext.size ext.un ext.same))
    have DE:j<k:=by simp only[h3]at hj;have:=DN _ Wd;omega
    rw[h4 j DE];simp only[h3]at hj ⊢;refine(hv _ Wd j hj).ext ext fun b1 aZ=>⟨lQ w b b1 F8 ?_,aZ⟩;rintro rfl;have:=p.hr.ko b1 HL;rw[aZ]at this;cases this
  exact h.elim
 exact h.elim
theorem lH:∀{ys:List AV}{bs:List UInt8},bytesOf ys=some bs->∃ns:List Int,ys=ns.map (fun n=>.lit (.int .u8 n))/\bs=ns.map fun n=>UInt8.ofNat n.toNat
 |[],bs,h=>by simp only[bytesOf,Kh]at h;subst h;exact⟨[],rfl,rfl⟩|y::ys,bs,h=>by
  unfold bytesOf at h;split at h
  .rename_i heq;cases heq
  .rename_i n heq;cases heq
   cases hb:bytesOf ys with
   |none=>rw[hb]at h;cases h
   |some bs'=>rw[hb]at h;simp only[rL,Kh]at h;obtain⟨ns,h1,h2⟩:=lH hb;subst h1 h2 h;exact⟨_::ns,rfl,rfl⟩
  cases h
theorem asB(ns:List Int):∀s:ByteArray,ns.foldl (fun r n=>r.push (UInt8.ofNat n.toNat)) s=⟨(s.data.toList++ns.map fun n=>UInt8.ofNat n.toNat).toArray⟩:=by
 induction ns with
 |nil=>intro s;cases s;simp
 |cons n ns ih=>
  intro s;rw[Xi,ih];congr 1
  cases s
  simp[ByteArray.push]
def asj(p:jC C e G g hp w){src dst el:Nat}(hs:C.P.underlying src=some (.slice el))(he:C.P.underlying el=some (.int .u8))(hd:C.P.underlying dst=some .string){v:AV}{x:Value}(hx:VR w (UE e) e G v x){ys:List AV}(Es:Ym hp v=some ys)(NM:HN hp v){bs:List UInt8}(hb:bytesOf ys=some bs){P:Prop}:
  Bm C e G g hp w (P,.lit (.string (strOf bs)),[]) (((convert src dst x).run C.P w).andThen fun v w=>.ok (.value v) w):=by
 obtain⟨ns,rfl,rfl⟩:=lH hb;obtain⟨news,JY⟩:=gy p.hr hx NM Es (k:=1) oM (by
  intro y hy;obtain⟨n,_,rfl⟩:=A2.1 hy;rfl) (by
  intro y hy c hc;obtain⟨n,_,rfl⟩:=A2.1 hy;simp only[AV.cells,iT]at hc;subst hc;rfl)
 obtain⟨a,cap,rfl⟩:=JY.shape;rw[run_convert_bytes_string w src dst el a _ cap hs he hd];have OW:news=ns.map (Value.int .u8):=by
  apply te
  intro i;by_cases hi:i<ns.length
  .have h0:=JY.pk i Ks 0 p9;simp only[nw,AV.cells,List.getElem_singleton,B3,dq]at h0;obtain⟨h1,_⟩:=h0.VI;have QB:i<news.length:=by rw[JY.len];simpa using hi
   rw[gE,gG QB]at h1;simp only[jw]at h1;rw[gG QB,h1];simp[hi]
  rw[Zo (by rw[JY.len];simp;omega),Zo xF]
 have Ik:(Conv.bytesToString (.slice a (ns.map fun n=>AV.lit (.int .u8 n)).length cap)).run C.P w=.ok (.string (strOf (ns.map fun n=>UInt8.ofNat n.toNat))) w:=by
  cases a with
  |none=>
   have:ns=[]:=by
    rcases JY.at_ with h|⟨b,off,Og,h,_⟩
    .simpa using h
    cases h
   subst this;simp[Conv.bytesToString,strOf,ByteArray.empty,ByteArray.emptyWithCapacity];rfl
  |some ad=>
   have hl:=run_loadCells_list (P:=C.P) w ad news (fun j v hj=>by
    rcases JY.at_ with h|⟨b,off,Og,h,hc⟩
    ·rw[Zo (by rw[JY.len,h];omega)]at hj;cases hj
    cases h;exact hc j v hj)
   rw[JY.len,B3,OW]at hl;rw[run_bytesToString w ad _ cap ns hl,asB];rfl
 rw[Ik,GQ];exact .pure p (.rC _ _ (.lit _ rfl))
def ahr{P:Program}(w:World)(d:Nat){t:Nat}{z:ZC}{td:TypeDesc}(hu:P.underlying t=some td)(hz:z.eqs td){a b:AV}{x y:Value}{U:Nat->Prop}{e:bQ}{G:Nat->Prop}(ha:VR w U e G a x)(hb:VR w U e G b y)(h:(sW z a b).1):(Op.equalIn (d+1) t x y).run P w=.ok (sW z a b).2 w:=by
 unfold sW at h ⊢;split at h
 .obtain⟨rfl,_⟩:=ha.VI;obtain⟨rfl,_⟩:=hb.VI;obtain⟨k,rfl⟩:=hz;subst h;rw[run_equalIn_int w d t _ k _ _ hu];rfl
 .obtain⟨rfl,_⟩:=ha.VI;obtain⟨rfl,_⟩:=hb.VI;cases hz
  rw[run_equalIn_bool w d t _ _ hu]
 .obtain⟨rfl,_⟩:=ha.VI;obtain⟨rfl,_⟩:=hb.VI;cases hz
  rw[run_equalIn_string w d t _ _ hu,sK,sK];congr 1
  rw[VY];simp
 exact h.elim
def ZU{P:Program}(w:World){t o:Nat}{z:ZC}{td:TypeDesc}(hu:P.underlying t=some td)(hz:z.eqs td){cs:Array Value}(PP:o<cs.size):(part t cs o).run P w=.ok (cs.getD o undef) w:=by
 unfold part isAgg;rw[ig,ig,pP hu];cases z<;>first|exact hz.elim|skip
 .obtain⟨k,rfl⟩:=hz;simp[PP,gA]
 .cases hz;simp[PP,gA]
 cases hz;simp[PP,gA]
theorem Hq:∀{zs:List ZC}{az bs:List AV},(Ix zs az bs).1->az.length=zs.length/\bs.length=zs.length
 |[],[],[],_=>⟨rfl,rfl⟩|z::zs,a::az,b::bs,h=>by obtain⟨h1,h2⟩:=Hq h.2;exact⟨by simp[h1],by simp[h2]⟩
 |[],_::_,_,h=>h.elim|[],[],_::_,h=>h.elim|_::_,[],_,h=>h.elim|_::_,_::_,[],h=>h.elim
theorem kE:∀{z1 z2:List ZC}{az bs:List AV},(Ix (z1++z2) az bs).1->∃a1 a2 b1 b2,az=a1++a2/\bs=b1++b2/\(Ix z1 a1 b1).1/\(Ix z2 a2 b2).1/\(Ix (z1++z2) az bs).2=((Ix z1 a1 b1).2&&(Ix z2 a2 b2).2)
 |[],z2,az,bs,h=>⟨[],az,[],bs,rfl,rfl,trivial,h,by simp[Ix]⟩|z::z1,z2,a::az,b::bs,h=>by obtain⟨h1,h2⟩:=h;obtain⟨a1,a2,b1,b2,rfl,rfl,k1,k2,k3⟩:=kE (z1:=z1) h2;refine⟨a::a1,a2,b::b1,b2,rfl,rfl,⟨h1,k1⟩,k2,?_⟩;have e1:(Ix ((z::z1)++z2) (a::(a1++a2)) (b::(b1++b2))).2=((sW z a b).2&&(Ix (z1++z2) (a1++a2) (b1++b2)).2):=rfl;have e2:(Ix (z::z1) (a::a1) (b::b1)).2=((sW z a b).2&&(Ix z1 a1 b1).2):=rfl;rw[e1,e2,k3,Ji]
 |_::_,_,[],_,h=>h.elim|_::_,_,_::_,[],h=>h.elim
theorem aqC{P:Program}(w:World){U:Nat->Prop}{e:bQ}{G:Nat->Prop}{n o:Nat}{fs:List Field}{zs:List ZC}(hF:Fb P n o fs zs):∀(d:Nat)(az bs:List AV)(xs ys:Array Value),n<=d->
  (∀i (h:i<az.length),VR w U e G az[i] (xs.getD (o+i) undef))->(∀i (h:i<bs.length),VR w U e G bs[i] (ys.getD (o+i) undef))->o+az.length<=xs.size->o+bs.length<=ys.size->
  (Ix zs az bs).1->(Op.eqFields (d+1) xs ys fs).run P w=.ok (Ix zs az bs).2 w:=by
 induction hF with
 |nil n o=>intro d az bs xs ys _ _ _ _ _ h;cases az<;>cases bs<;>first|exact h.elim|simp[Op.eqFields,Ix]
 |one n o f fs z zs td f1 f2 f3 f4 _ ih=>
  intro d az bs xs ys hd ha hb NE Ac h;cases az with
  |nil=>exact h.elim|cons a az=>cases bs with
   |nil=>exact h.elim|cons b bs=>
    obtain⟨h1,h2⟩:=h;have a0:=ha 0 sM;have b0:=hb 0 sM;simp only[E6,dq]at a0 b0;have po:o<xs.size:=by simp at NE;omega
    have XR:o<ys.size:=by simp at Ac;omega
    have ih:=ih d az bs xs ys hd
     (fun i hi=>by have:=ha (i+1) Ks;simp only[Qe]at this;rw[show o+1+i=o+(i+1) from by omega];exact this)
     (fun i hi=>by have:=hb (i+1) Ks;simp only[Qe]at this;rw[show o+1+i=o+(i+1) from by omega];exact this)
     (by simp at NE;omega) (by simp at Ac;omega) h2
    have heq:=ahr w d f3 f4 a0 b0 h1;unfold Op.eqFields;rw[iP f1,ig,f2,ZU w f3 f4 po,GQ,ig,ZU w f3 f4 XR,GQ,ig,heq,GQ];unfold Ix;cases hr:(sW z a b).2 with
    |true=>simp only[Y5,C9,j4,Q2];exact ih|false=>simp
 |sub n o f fs z1 z2 i f1 f2 f3 f4 f5 f6 _ _ ih1 ih2=>
  intro d az bs xs ys hd ha hb NE Ac h;obtain⟨a1,a2,b1,b2,rfl,rfl,k1,k2,k3⟩:=kE h;obtain⟨la,lb⟩:=Hq k1;rw[k3];obtain⟨d,rfl⟩:∃d',d=d'+1:=⟨d-1,oM⟩;simp only[aL]at NE Ac;have Cy:∀cs:Array Value,(part f.type cs o).run P w=.ok (.agg (cs.extract o (o+z1.length))) w:=by intro cs;unfold part isAgg;simp[pP f3,sizeOf,typeInfo,f5,f6,Result.andThen]
  have hex:∀(cs:Array Value)(i:Nat),i<z1.length->o+z1.length<=cs.size->(cs.extract o (o+z1.length)).getD (0+i) undef=cs.getD (o+i) undef:=by intro cs i hi hle;rw[gA,gA,Oj,cy,iP oM]
  have q1:=ih1 d a1 b1 (xs.extract o (o+z1.length)) (ys.extract o (o+z1.length)) oM
   (fun i hi=>by
    have:=ha i xF;rw[Tx hi]at this;rw[hex xs i oM oM];exact this)
   (fun i hi=>by
    have:=hb i xF;rw[Tx hi]at this;rw[hex ys i oM oM];exact this)
   xF xF k1
  have q2:=ih2 (d+1) a2 b2 xs ys hd
   (fun i hi=>by
    have:=ha (a1.length+i) xF;rw[Mg oM]at this;simp only[MM]at this;rw[show o+z1.length+i=o+(a1.length+i) from by omega];exact this)
   (fun i hi=>by
    have:=hb (b1.length+i) xF;rw[Mg oM]at this;simp only[MM]at this;rw[show o+z1.length+i=o+(b1.length+i) from by omega];exact this)
   oM oM k2
  unfold Op.eqFields;rw[iP f1,ig,f2,Cy,GQ,ig,Cy,GQ,ig,run_equalIn_agg w (d+1) f.type _ _ f3 f4,q1,GQ];cases hr:(Ix z1 a1 b1).2 with
  |true=>simp only[Y5,C9,j4,Q2];exact q2|false=>simp
def adD(p:jC C e G g hp w)(hT:JE C.P T)(op:BinOp){t:Nat}{x y:Operand}{az bs:List AV}{xa xb:Value}(ha:VR w (UE e) e G (.agg az) xa)(hb:VR w (UE e) e G (.agg bs) xb)(h:(YJ op (tl T t) az bs).1):
  Bm C e G g hp w (YJ op (tl T t) az bs) (((do eqGuard op t x y xa xb;let v<-binOp op t xa xb;Pure.pure (Next.value v)):Sem Next).run C.P w):=by
 obtain⟨xs,rfl,IQ,_,nQ⟩:=ha.IX;obtain⟨ys,rfl,I5,_,oU⟩:=hb.IX;have main:(tl T t).eq=true->(Ix (tl T t).zs az bs).1->(eqGuard op t x y (.agg xs) (.agg ys)).run C.P w=.ok () w/\(Op.equalIn 10000 t (.agg xs) (.agg ys)).run C.P w=.ok (Ix (tl T t).zs az bs).2 w:=by
  intro h1 h3;have nE:uz C.P t (tl T t):=by
   rcases hT t with h|h
   .rw[h]at h1;cases h1
   exact h
  obtain⟨q1,q2,q3,q4⟩:=nE.eqs h1;obtain⟨k1,k2⟩:=Hq h3;refine⟨run_eqGuard_agg w op t x y xs ys q3,?_⟩;rw[run_equalIn_agg w 9999 t xs ys q1 q2];exact aqC w (U:=UE e) (e:=e) (G:=G) q4 9998 az bs xs ys oM (fun i hi=>by rw[cy];exact nQ i hi) (fun i hi=>by rw[cy];exact oU i hi) oM oM h3
 cases op<;>simp only[YJ,R.no,R.val]at h ⊢
 case eql=>
  obtain⟨h1,h2⟩:=main h.1 h.2;rw[ig,h1,GQ,ig,run_eql_struct,h2];simp only[GQ,fX];exact re p _ _
 case neq=>
  obtain⟨h1,h2⟩:=main h.1 h.2;rw[ig,h1,GQ,ig,run_neq_struct,h2];simp only[GQ,fX];exact re p _ _
 all_goals exact h.elim
end
end Go.Sym
