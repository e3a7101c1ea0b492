/- Lemmas towards scriptLines_card: no conditions of their own beyond those that each one states. -/
import Derived.Test.YtokkbonoplbiaaaGreatDoorA3
import Derived.Lay
import Derived.HandedShaped
import Derived.Shelf.Vars
set_option linter.all false
set_option linter.unusedSimpArgs false
set_option linter.unusedVariables false
set_option linter.deprecated false
namespace Go.Proofs.YtokkbonoplbiaaaGreatDoor
open Go Go.Sym
open Go.Deep Go.ChangeShapes Go.WideShapes Go.ChangeAt Go.RowKit
section
variable {P:Program} {W:World} {t e:TypeId}
theorem laid_lits {g fuel n:Nat} {nm:String} {ls:List Lit} {cs:Array Value} {p:List MemPlace} {enc:TypeId×Value->Unit} {spare:Nat->Bool} {held:Bool} {val:Lit->Value} (hg:P.globalNamed nm=some g) (ht:P.underlying t=some (.array n e)) (hc:P.cellsOf e=1) (hct:P.cellsOf t=n)
  (hone:∀(m:Nat) (xs:List Value) (x:DataW Unit×List MemPlace) (l:Lit),DataW.trod enc P W 0 spare held m e xs=some x->x.1= .lit l->xs=[val l])
  (hv:W.var? P nm=some cs) (hd:DataW.trod enc P W 0 spare held fuel t cs.toList=some (.agg (ls.map .lit),p)) (hn:ls.length=n):cs=(ls.map val).toArray/\∃t' fz,W.heap[g]?=some (.cells cs t' fz):=by
 obtain⟨xs,m,_,ex,hcl,hl,hel⟩:=DataW.trod_array ht hd
 rw[hct] at hcl
 have e3:(xs.map (·.1))=ls.map .lit:=(DataW.agg.inj (Prod.mk.inj ex).1).symm
 refine⟨?_,?_⟩
 ·apply Array.toList_inj.1
  apply List.ext_getElem
  ·simp at hcl ⊢;omega
  ·intro i h1 h2
   simp only[List.length_map] at h2
   have hE:=hel i (by omega)
   rw[hc,Nat.mul_one,List.getElem?_eq_getElem (by omega)] at hE
   have e4:(xs.map (·.1))[i]?=(ls.map fun n=>(DataW.lit n:DataW Unit))[i]?:=by rw[e3]
   rw[List.getElem?_map,List.getElem?_map,List.getElem?_eq_getElem (by omega:i<xs.length),List.getElem?_eq_getElem (by simpa using h2)] at e4
   simp only[Option.map_some,Option.some.injEq] at e4
   have h5:=hone m _ _ _ hE e4
   have h6:((cs.toList.drop i).take 1)[0]?=some (val (ls[i]'(by simpa using h2))):=by rw[h5];rfl
   have h7:cs.toList[i]?=some (val (ls[i]'(by simpa using h2))):=by simpa using h6
   rw[List.getElem?_eq_getElem h1] at h7
   simpa using h7
 ·unfold World.var? at hv
  rw[hg] at hv
  simp only[Option.bind_some] at hv
  split at hv
  ·rename_i cs' t' fz hh
   cases hv;exact⟨_,_,hh⟩
  ·cases hv
theorem one_str {enc:TypeId×Value->Unit} {spare:Nat->Bool} {held:Bool} (he:P.underlying e=some .string) (m:Nat) (xs:List Value) (x:DataW Unit×List MemPlace) (l:Lit) (h:DataW.trod enc P W 0 spare held m e xs=some x) (hl:x.1= .lit l):xs=[l.value]:=by
 obtain⟨s,rfl,rfl,_⟩:=DataW.trod_string he h
 simp only[DataW.lit.injEq] at hl
 subst hl
 simp[Lit.value]
theorem one_int {enc:TypeId×Value->Unit} {spare:Nat->Bool} {held:Bool} {k:IntKind} (he:P.underlying e=some (.int k)) (m:Nat) (xs:List Value) (x:DataW Unit×List MemPlace) (l:Lit) (h:DataW.trod enc P W 0 spare held m e xs=some x) (hl:x.1= .lit l):xs=[l.value]:=by
 obtain⟨s,rfl,rfl,_⟩:=DataW.trod_int he h
 simp only[DataW.lit.injEq] at hl
 subst hl
 simp[Lit.value]
theorem vd_lits {U:Nat->Prop} (hU:∀b,U b) {g:Nat} {cs:Array Value} {t':TypeId} {fz:Nat×Nat} {vs:List AV} (hh:W.heap[g]?=some (.cells cs t' fz)) (hl:vs.length=cs.size)
  (h1:∀j (hj:j<vs.length),(vs[j]).one=true) (h2:∀j (hj:j<vs.length),VD W U vs[j] (cs[j]'(by omega))):VD W U (.ptI vs) (.pointer (some ⟨g,0,none⟩)):=by
 refine .ptI _ g 0 (fun i=>cs.getD i undef) (hU _) (Array.getElem?_eq_some_iff.1 hh).1 ?_ ?_ ?_
 ·intro j hj
  rw[Nat.zero_add]
  simp only[World.cell?,hh]
  rw[Array.getElem?_eq_getElem (by omega),Array.getD_eq_getD_getElem?,Array.getElem?_eq_getElem (by omega)]
  rfl
 ·intro j hj
  exact h1 j hj
 ·intro j hj
  have:=h2 j hj
  rw[Array.getD_eq_getD_getElem?,Array.getElem?_eq_getElem (by omega)]
  exact this
end
theorem Tryz.own:ownKnob Tryz.prog.godebug=none:=by kernel_rfl
theorem Tryz.laidOut:laidOutB Tryz.prog=true:=by kernel_rfl
def nmV:List (String×Nat×Nat):=[("baggage/script.plain",0,124),("baggage/script.faults",1,144),("baggage/script.revisions",2,147),("internal/strconv.uint64pow10",6,193),("strconv.ErrSyntax",7,102),("strconv.ErrRange",8,102)]
theorem nmV_ok:∀x∈nmV,Tryz.prog.globalNamed x.1=some x.2.1/\(Tryz.prog.globals[x.2.1]?).map (·.type)=some x.2.2:=by
 intro x hx
 simp only[nmV,List.mem_cons,List.not_mem_nil,or_false] at hx
 rcases hx with rfl|rfl|rfl|rfl|rfl|rfl<;>exact⟨by kernel_rfl,by kernel_rfl⟩
theorem plain_eq:(Rows.laid_baggage_script_plain:DataW Unit)= .agg ((plainB.map fun z=>Lit.string z.data.toList).map .lit):=by kernel_rfl
theorem faults_eq:(Rows.laid_baggage_script_faults:DataW Unit)= .agg ((faultsB.map fun z=>Lit.string z.data.toList).map .lit):=by kernel_rfl
theorem revs_eq:(Rows.laid_baggage_script_revisions:DataW Unit)= .agg ((revsB.map fun z=>Lit.string z.data.toList).map .lit):=by kernel_rfl
theorem pow10_eq:(Rows.laid_internal_strconv_uint64pow10:DataW Unit)= .agg ((pow10.map fun z=>Lit.int .u64 z).map .lit):=by kernel_rfl
section
variable {W:World}
def LaidG (W:World) (nm:String) (d:DataW Unit):Prop:=
 ∃g t cs fuel p,Tryz.prog.globalNamed nm=some g/\(Tryz.prog.globals[g]?).map (·.type)=some t/\W.var? Tryz.prog nm=some cs/\DataW.trod (fun _=>()) Tryz.prog W 0 (fun _=>true) false fuel t cs.toList=some (d,p)
theorem strs_of {nm:String} {g t n:Nat} {l:List ByteArray} (hx:(nm,g,t)∈nmV) (ht:Tryz.prog.underlying t=some (.array n 9)) (hct:Tryz.prog.cellsOf t=n) (hl:l.length=n)
  (h:LaidG W nm (.agg ((l.map fun z=>Lit.string z.data.toList).map .lit))):VD W (UE env0) (.ptI (l.map S)) (.pointer (some ⟨g,0,none⟩)):=by
 obtain⟨a,b,cs,fuel,p,h1,h2,h3,h4⟩:=h
 obtain⟨e1,e2⟩:=nmV_ok _ hx
 simp only at e1 e2
 obtain rfl:=Option.some.inj (e1.symm.trans h1)
 obtain rfl:=Option.some.inj (e2.symm.trans h2)
 obtain⟨hcs,t',fz,hh⟩:=laid_lits (val:=Lit.value) e1 ht (by kernel_rfl) hct (one_str (by kernel_rfl)) h3 h4 (by simp[hl])
 subst hcs
 refine vd_lits UE_all hh (by simp) (fun j hj=>by simp[S,AV.one]) fun j hj=>?_
 simp only[List.getElem_map,List.map_map,List.getElem_toArray,Function.comp,Lit.value,S]
 exact .lit _ rfl
theorem pow_of (h:LaidG W "internal/strconv.uint64pow10" (.agg ((pow10.map fun z=>Lit.int .u64 z).map .lit))):∃t' fz,W.heap[6]?=some (.cells (pow10.map fun z=>Value.int .u64 z).toArray t' fz):=by
 obtain⟨a,b,cs,fuel,p,h1,h2,h3,h4⟩:=h
 obtain⟨e1,e2⟩:=nmV_ok ("internal/strconv.uint64pow10",6,193) (by simp[nmV])
 simp only at e1 e2
 obtain rfl:=Option.some.inj (e1.symm.trans h1)
 obtain rfl:=Option.some.inj (e2.symm.trans h2)
 obtain⟨hcs,t',fz,hh⟩:=laid_lits (val:=Lit.value) (n:=20) e1 (show Tryz.prog.underlying 193=some (.array 20 173) by kernel_rfl) (by kernel_rfl) (by kernel_rfl) (one_int (k:= .u64) (by kernel_rfl)) h3 h4 (by kernel_rfl)
 subst hcs
 exact⟨t',fz,hh⟩
theorem ifn_of {nm:String} {g:Nat} {n:String} {d:DataW Unit} (hx:(nm,g,102)∈nmV) (h:LaidG W nm (.iface n d)):VD W (UE env0) (.ptI [.ifn]) (.pointer (some ⟨g,0,none⟩)):=by
 obtain⟨a,b,cs,fuel,p,h1,h2,h3,h4⟩:=h
 obtain⟨e1,e2⟩:=nmV_ok _ hx
 simp only at e1 e2
 obtain rfl:=Option.some.inj (e1.symm.trans h1)
 obtain rfl:=Option.some.inj (e2.symm.trans h2)
 obtain⟨f',u,v,hcs,_,_⟩:=iface_of_trod Tryz.underlying102 h4
 have hv:=World.var?_cell h1 h3 0
 rw[Array.eq_one_of_toList hcs] at hv
 have hv:W.cell? ⟨g,0,none⟩=some (.iface u v):=by simpa using hv
 refine .ptI _ g 0 (fun _=> .iface u v) (UE_all _) (cell_spot hv).2 ?_ (by intro j hj;simp at hj;subst hj;rfl) ?_
 ·intro j hj
  simp at hj;subst hj;exact hv
 ·intro j hj
  simp at hj;subst hj;exact .ifn _ _
theorem max_of (h:W.ShapedOpen Tryz.prog):VD W (UE env0) (.ptI [.anyI .i64]) (.pointer (some ⟨3,0,none⟩)):=by
 obtain⟨m,hm⟩:=Go.Proofs.cell_of_shapedOpen_int (P:=Tryz.prog) (w:=W) (g:=3) (t:=3) (zero:=#[.int .i64 0]) (k:= .i64) h (of_decide_eq_true (by kernel_rfl)) (by kernel_rfl) rfl (by kernel_rfl) (by kernel_rfl) (by kernel_rfl)
 refine .ptI _ 3 0 (fun _=> .int .i64 m) (UE_all _) (cell_spot hm).2 ?_ (by intro j hj;simp at hj;subst hj;rfl) ?_
 ·intro j hj
  simp at hj;subst hj;exact hm
 ·intro j hj
  simp at hj;subst hj;exact .anyI _ _
end
def laidB:List (String×DataW Unit):=[("math/bits.deBruijn32tab",Rows.laid_math_bits_deBruijn32tab),("math/bits.deBruijn64tab",Rows.laid_math_bits_deBruijn64tab),("internal/strconv.uint64pow10",Rows.laid_internal_strconv_uint64pow10),("unicode/utf8.acceptRanges",Rows.laid_unicode_utf8_acceptRanges),("strconv.ErrRange",Rows.laid_strconv_ErrRange),("strconv.ErrSyntax",Rows.laid_strconv_ErrSyntax),("baggage/script.faults",Rows.laid_baggage_script_faults),("baggage/script.revisions",Rows.laid_baggage_script_revisions),("baggage/script.plain",Rows.laid_baggage_script_plain),("unicode/utf8.first",Rows.laid_unicode_utf8_first)]
theorem gok_of {W:World} (h0:VD W (UE env0) (.ptI (plainB.map S)) (.pointer (some ⟨0,0,none⟩))) (h1:VD W (UE env0) (.ptI (faultsB.map S)) (.pointer (some ⟨1,0,none⟩))) (h2:VD W (UE env0) (.ptI (revsB.map S)) (.pointer (some ⟨2,0,none⟩)))
  (h3:VD W (UE env0) (.ptI [.anyI .i64]) (.pointer (some ⟨3,0,none⟩))) (h6:∃t' fz,W.heap[6]?=some (.cells (pow10.map fun z=>Value.int .u64 z).toArray t' fz))
  (h7:VD W (UE env0) (.ptI [.ifn]) (.pointer (some ⟨7,0,none⟩))) (h8:VD W (UE env0) (.ptI [.ifn]) (.pointer (some ⟨8,0,none⟩))):GOk tab W (UE env0):=by
 obtain⟨t6,fz6,h6⟩:=h6
 refine⟨?_,?_⟩
 ·intro g cs hg
  simp only[tab,tabGl,glu] at hg
  split at hg
  ·rename_i e;subst e;cases hg;exact h0
  split at hg
  ·rename_i e;subst e;cases hg;exact h1
  split at hg
  ·rename_i e;subst e;cases hg;exact h2
  split at hg
  ·rename_i e;subst e;cases hg;exact h3
  split at hg
  ·rename_i e;subst e;cases hg
   refine vd_lits UE_all h6 (by simp) (fun j hj=>by simp[AV.one]) fun j hj=>?_
   simp only[List.getElem_map,List.getElem_toArray]
   exact .lit _ rfl
  split at hg
  ·rename_i e;subst e;cases hg;exact h7
  split at hg
  ·rename_i e;subst e;cases hg;exact h8
  ·cases hg
 ·intro p hp
  simp only[tab,tabFull,List.mem_singleton] at hp
  subst hp
  exact⟨UE_all _,(Array.getElem?_eq_some_iff.1 h6).1,t6,fz6,h6⟩
theorem gok_B {W:World} (hs:W.ShapedOpen Tryz.prog) (h:laidMetH Tryz.prog laidB W):GOk tab W (UE env0):=by
 rw[MakeChecks.laidMetH_plain _ _ _ (by kernel_rfl)] at h
 obtain⟨ps,⟨_,_,_,_,_,_,_,_,_,_,⟨_,_,_,_,_,_,_,_,_,_,⟨a2,t2,c2,f2,p2,q2,hg2,ht2,hv2,hd2,⟨_,_,_,_,_,_,_,_,_,_,⟨a4,t4,c4,f4,p4,q4,hg4,ht4,hv4,hd4,⟨a5,t5,c5,f5,p5,q5,hg5,ht5,hv5,hd5,⟨a6,t6,c6,f6,p6,q6,hg6,ht6,hv6,hd6,⟨a7,t7,c7,f7,p7,q7,hg7,ht7,hv7,hd7,⟨a8,t8,c8,f8,p8,q8,hg8,ht8,hv8,hd8,_,_⟩,_⟩,_⟩,_⟩,_⟩,_⟩,_⟩,_⟩,_⟩,_,_⟩:=h
 rw[pow10_eq] at hd2
 rw[faults_eq] at hd6
 rw[revs_eq] at hd7
 rw[plain_eq] at hd8
 exact gok_of (strs_of (n:=13) (t:=124) (by simp[nmV]) (by kernel_rfl) (by kernel_rfl) (by kernel_rfl) ⟨_,_,_,_,_,hg8,ht8,hv8,hd8⟩) (strs_of (n:=7) (t:=144) (by simp[nmV]) (by kernel_rfl) (by kernel_rfl) (by kernel_rfl) ⟨_,_,_,_,_,hg6,ht6,hv6,hd6⟩)
  (strs_of (n:=6) (t:=147) (by simp[nmV]) (by kernel_rfl) (by kernel_rfl) (by kernel_rfl) ⟨_,_,_,_,_,hg7,ht7,hv7,hd7⟩) (max_of hs) (pow_of ⟨_,_,_,_,_,hg2,ht2,hv2,hd2⟩)
  (ifn_of (by simp[nmV]) ⟨_,_,_,_,_,hg5,ht5,hv5,hd5⟩) (ifn_of (by simp[nmV]) ⟨_,_,_,_,_,hg4,ht4,hv4,hd4⟩)
set_option maxRecDepth 100000 in
theorem laid_B (os:Os) (args:Array Value):laidMetH Tryz.prog laidB ((World.laidAll Tryz.prog os laidB).forCall (fun _ _=>0) ⟨#[],args,[]⟩).memory:=by
 rw[MakeChecks.laidMetH_plain _ _ _ (by kernel_rfl)]
 exact laidMet_laidAll _ (by kernel_rfl) (by kernel_rfl)
section
variable {H:Type} {enc:TypeId×Value->H}
theorem handed_of {a:Assume} {C:Checked} {os:Os} {f:FuncId} {fn:Func} {s:ChangeSpec} {conds:List PathCond} {X:World->Prop}
  (hX:∀w w':World,w.heap=w'.heap->X w->X w')
  (own:ownKnob C.prog.godebug=none) (started:os.Started) (noInit:C.prog.inits.idxOf? f=none) (hfn:C.prog.funcs[f]?=some fn)
  (wit:∃(w:World) (tape:Tape) (i:Input),w.os=os/\(w.forCall tape i).Shaped C.prog/\i.vars=[]/\Input.okWide C.prog (w.forCall tape i) .any w.heap.size f i/\
   ((s.pre enc C.prog fn conds false (w.forCall tape i).memory i.args/\X (w.forCall tape i).memory)/\sizedMet enc C.prog fn (OpenSpec.ofChange s) false (w.forCall tape i).memory i.args)/\a.holds C.prog (lone (Frame.enter C.prog f i.args .normal) [] (w.forCall tape i)))
  (law:∀(W:World) (base:Nat) (args:Array Value) (ds gs:List (DataW H)) (before:List MemPlace),W.ShapedOpen C.prog->X W->
   (∀(j:Nat) t v,fn.params[j]?=some t->args[j]?=some v->Value.okWide C.prog W .any base t v)->
   DataW.Whole enc C.prog fn.params.toList s.vars false W args.toList ds gs before->
   Calls C.prog f args W fun e W'=>∃v,e= .returned v/\s.post enc C.prog fn false true false false W args v W'):
  ReturnsInHanded a C os f .any (fun w args=>(s.pre enc C.prog fn conds false w args/\X w)/\sizedMet enc C.prog fn (OpenSpec.ofChange s) false w args) (s.post enc C.prog fn false true false false):=by
 refine returnsInHanded_of_calls own started noInit wit fun w tape i _ hsh _ hok hpre _=>?_
 obtain⟨_,_,_,fn',hfn',_,_,_,_,hval⟩:=hok
 obtain rfl:fn'=fn:=Option.some.inj (hfn'.symm.trans hfn)
 obtain⟨⟨⟨ds,gs,before,hw,_⟩,hx⟩,_⟩:=hpre
 refine(law (w.forCall tape i) w.heap.size i.args ds gs before hsh (hX _ _ (by rfl) hx) hval (DataW.Whole.of_heap (w':=w.forCall tape i) (by rfl) hw)).mono ?_
 rintro e W' ⟨v,rfl,hp⟩
 exact ChangeSpec.post_blind hp
end
def modI (x n:Int):Int:=if n<1 then 0 else x % n
def I64 (x:Int):Prop:=-9223372036854775808<=x/\x<=9223372036854775807
theorem getD_memI {l:List Int} {n:Nat} (h:n<l.length):l.getD n 0∈l:=by
 rw[List.getD_eq_getElem?_getD,List.getElem?_eq_getElem h];exact List.getElem_mem h
theorem mod_sat (x n:Int) (hx:I64 x) (hn':n<=9223372036854775807):SatG Tryz.prog tab 14 [] [I x,I n] [] (I (modI x n)):=by
 obtain⟨hx,hx'⟩:=hx
 have h1:¬n<1->modI x n=if x.tmod n<0 then x.tmod n+n else x.tmod n:=by
  intro h
  rw[modI,if_neg h]
  by_cases hx0:x<0
  ·rw[Int.tmod_eq_emod]
   have:=Int.emod_nonneg x (b:=n) (by omega)
   have:=Int.emod_lt_of_pos x (b:=n) (by omega)
   have hnn:(n.natAbs:Int)=n:=by omega
   split<;>split<;>omega
  ·have hx1:0<=x:=by omega
   have:=Int.tmod_nonneg n hx1
   rw[if_neg (by omega),Int.tmod_eq_emod_of_nonneg hx1]
 have h2:¬n<1->-n<x.tmod n/\x.tmod n<n:=by
  intro h
  have:=Int.tmod_lt_of_pos x (b:=n) (by omega)
  have:=Int.lt_tmod_of_pos x (b:=n) (by omega)
  omega
 refine uFN Tryz.func14 Tryz.ntmps14 ?_;intro w e X hC
 repeat refine uA ?_
 refine uW ?_;refine condP _ rfl (fun h=>?_) (fun h=>?_)
 ·repeat refine uA ?_
  (refine awp_ret (ret1 uRT ?_);try rfl)
  simp only[go_sem,Nat.reduceAdd,Nat.reduceSub,Nat.reduceMul,Nat.reduceLT,Nat.reduceEqDiff,Nat.reduceBEq,Nat.reduceLeDiff,Int.reduceToNat,↓reduceIte,Int.reduceEq,Int.reduceLT,Int.reduceLE,Int.reduceAdd,Int.reduceSub,Int.reduceNeg,reduceCtorEq,modI,if_pos h]
 ·obtain⟨h3,h4⟩:=h2 h
  repeat refine uA ?_
  refine uW ?_;refine condP _ rfl (fun e=>?_) (fun e=>?_)
  ·repeat refine uA ?_
   (refine awp_ret (ret1 uRT ?_);try rfl)
   simp only[go_sem,Nat.reduceAdd,Nat.reduceSub,Nat.reduceMul,Nat.reduceLT,Nat.reduceEqDiff,Nat.reduceBEq,Nat.reduceLeDiff,Int.reduceToNat,↓reduceIte,Int.reduceEq,Int.reduceLT,Int.reduceLE,Int.reduceAdd,Int.reduceSub,Int.reduceNeg,reduceCtorEq,h1 h,if_pos e]
  ·repeat refine uA ?_
   (refine awp_ret (ret1 uRT ?_);try rfl)
   simp only[go_sem,Nat.reduceAdd,Nat.reduceSub,Nat.reduceMul,Nat.reduceLT,Nat.reduceEqDiff,Nat.reduceBEq,Nat.reduceLeDiff,Int.reduceToNat,↓reduceIte,Int.reduceEq,Int.reduceLT,Int.reduceLE,Int.reduceAdd,Int.reduceSub,Int.reduceNeg,reduceCtorEq,h1 h,if_neg e]
def nxs (l:List Int) (a k:Nat):Nat:=min (a+k) l.length
theorem nxs_get {l:List Int} {a i:Nat}:l.getD (nxs l a i) 0=l.getD (a+i) 0:=by
 unfold nxs
 by_cases h:a+i<l.length
 ·rw[Nat.min_eq_left (by omega)]
 ·rw[Nat.min_eq_right (by omega),List.getD_eq_getElem?_getD,List.getD_eq_getElem?_getD,List.getElem?_eq_none (by omega),List.getElem?_eq_none (by omega)]
def Fits (l:List Int):Prop:=l.length<=2000/\∀x∈l,I64 x
theorem Fits.get {l:List Int} (hf:Fits l) (a:Nat):I64 (l.getD a 0):=by
 by_cases h:a<l.length
 ·exact hf.2 _ (getD_memI h)
 ·rw[List.getD_eq_getElem?_getD,List.getElem?_eq_none (by omega)];exact⟨by decide,by decide⟩
abbrev srcB (l:List Int) (a:Nat):Hp:=[(0,some (0, .box [IS l,I a]))]
theorem raw_sat (l:List Int) (a:Nat) (hf:Fits l) (ha:a<=l.length):
  SatG Tryz.prog tab 51 (srcB l a) [.ptO 0 0 0 0 0] (srcB l (nxs l a 1)) (I (l.getD a 0)):=by
 have hl1:=hf.1
 refine uFN Tryz.func51 Tryz.ntmps51 ?_;intro w e X hC
 repeat refine uA ?_
 refine uK ?_
 refine uW ?_;refine condP _ rfl (fun e=>?_) (fun e=>?_)
 ·have h:l.length<=a:=by omega
  repeat refine uA ?_
  (refine awp_ret (retB1 rfl uTS uTS ?_ ?_);all_goals (first|refine uS ?_|exact uX|skip))
  ·rw[List.getD_eq_getElem?_getD,List.getElem?_eq_none h];rfl
  ·rw[show nxs l a 1=a by unfold nxs;omega]
 ·have h:a<l.length:=by omega
  repeat refine uA ?_
  have e1:(a:Int)+1 - 1=(a:Int):=by omega
  refine uK1 (uI @e1 (ints_getD h)) ?_
  (refine awp_ret (retB1 rfl uTS uTS ?_ ?_);all_goals (first|refine uS ?_|exact uX|skip))
  ·rw[show nxs l a 1=a+1 by unfold nxs;omega];rfl
theorem n_sat (l:List Int) (a:Nat) (n:Int) (hf:Fits l) (ha:a<=l.length) (hn:n<=9223372036854775807):
  SatG Tryz.prog tab 23 (srcB l a) [.ptO 0 0 0 0 0,I n] (srcB l (nxs l a 1)) (I (modI (l.getD a 0) n)):=by
 refine uFN Tryz.func23 Tryz.ntmps23 ?_;intro w e X hC
 repeat refine uA ?_
 refine uR ?_;intro K hK
 refine callL rfl ((raw_sat l a hf ha)) uTS uTS uTS uTS uTS ?_;refine uS ?_
 refine callF uTS ((mod_sat (l.getD a 0) n (hf.get a) hn)) uTS uTS uTS ?_;refine uS ?_
 refine hK _ ?_;clear hK K
 (refine awp_ret (retB1 rfl uTS uTS ?_ ?_);all_goals (first|refine uS ?_|exact uX|skip))
theorem modI_lt {x n:Int} (h:1<=n):0<=modI x n/\modI x n<n:=by
 unfold modI
 rw[if_neg (by omega)]
 exact⟨Int.emod_nonneg _ (by omega),Int.emod_lt_of_pos _ (by omega)⟩
end Go.Proofs.YtokkbonoplbiaaaGreatDoor
