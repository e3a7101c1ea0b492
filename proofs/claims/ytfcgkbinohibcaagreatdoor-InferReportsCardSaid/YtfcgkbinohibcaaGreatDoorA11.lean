/- Proved: A step with reports has only hypotheses of the blind step, none with a lesser Used; Union is commutative and contains both. -/
import Derived.Test.YtfcgkbinohibcaaGreatDoorA10
import Derived.Test.YtfcgkbinohibcaaGreatDoorTie
import Derived.Test.YtfcgkbinohibcaaGreatDoorCards
set_option linter.all false
namespace Go.Proofs.YtfcgkbinohibcaaGreatDoor
open Go Go.Sym Go.Proofs.Tryz
open Go.Deep Go.ChangeShapes Go.WideShapes Go.ChangeAt Go.RowKit
set_option maxRecDepth 100000 in
theorem Qjc (os:Os) (started:os.Started) (H:Type) (enc:TypeId×Value->H):
  ReturnsInHanded {} Tryz.checked os 6 .any (fun w args=>(Rows.inferReportsSpec.pre enc prog Tryz.f6 [] false w args/\laidMetH prog O9 w)/\sizedMet enc prog Tryz.f6 (OpenSpec.ofChange Rows.inferReportsSpec) false w args)
   (Rows.inferReportsSpec.post enc prog Tryz.f6 false true false false):=by
 refine tF (C:=Tryz.checked) (X:=fun w=>laidMetH prog O9 w) (fun _ _ hh h=>h.of_heap hh) Tryz.own started kR func6
  (ChangeSpec.witness_shaped (enc:=enc) (C:=Tryz.checked) (os:=os) (X:=fun w _=>laidMetH prog O9 w) false (World.laidAll prog os O9) #[.slice none 0 0] 8 (World.laidAll_os _ _ _) (World.shaped_of_ZipB kR kR) kR kR kR (yG os _)) ?_
 intro W base args ds gs before NH hL w7 hW;have G6:∀(j:Nat) t v,Tryz.f6.params[j]?=some t->args[j]?=some v->Value.okWide prog W .any base t v:=w7;have Xa:=hW;obtain⟨p,q,sX,hV,rfl,I8,Lv⟩:=hW;have hA:DataW.TrodAll enc prog W 0 (fun _=>true) true Tryz.f6.params.toList args.toList ds p:=sX;have Aa:∀x∈p,x.block<W.heap.size:=fun x hx=>by simpa using Xa.lt x (by simp[hx])
 rw[Tryz.params6] at hA G6;have hk:=hA;obtain⟨v0,vs0,d0,ds0,p0,q0,Xg,RU,LB,h0,hA⟩:=trodAll_cons hA;obtain⟨Jg,Hw,_⟩:=trodAll_nil hA;subst Jg Hw;subst RU;obtain rfl:args=#[v0]:=by cases args;simp_all
 obtain⟨rfl,rfl⟩:=trodVars_none hV;obtain⟨n0,f0,g0,r0⟩:=nB PJ underlying22 underlying3 kR (G6 0 22 v0 rfl rfl) h0;simp only[List.append_nil] at Xa;refine(yJ (W:=W) (vals:=#[v0]) (Qjo n0 f0 g0) (sJ NH hL) rfl ?_).mono fun e W' ⟨he,eU⟩=>?_
 ·intro i hi
  match i,hi with
  |0,_=>exact r0
 subst he;have Iv:=kF Tryz.laidOut eU (by
  intro t ht;simp only[Array.toList,List.mem_cons,List.not_mem_nil,or_false] at ht;subst ht;exact⟨kR,oT kR⟩) hk Aa
 exact⟨_,rfl,_,_,_,[],_,[],Xa,trodAll_mk1 (shut_bool underlying4 true),Iv,rfl,eU.frame _,fun h=>vv9⟩
theorem Qjb:Rows.InferReportsSaid:=
 OpenClaim.holds_of_wide 6 Tryz.f6 rfl rfl rfl rfl rfl rfl rfl ⟨rfl,rfl,rfl,rfl,rfl⟩ rfl rfl rfl rfl rfl kR func6 kR
  (oT kR) (by unfold Func.isWrapper;first|(rw[iP vv1];kernel_rfl)|(rw[iN vv1];exact⟨rfl,rfl⟩))
  (fun os started H enc _=>Qjc os started H enc)
theorem inferReports_card:Rows.InferReportsCardSaid:=
 Claim7.holds_tied_plain_at .later [] [.data, .data, .data, .data] true (true, "20a3c9eb21a4d2202e488ac2df84fe5eeb0f908646fbc97f7975e23e6a7c9db0") false
  Qjb (fun _ h=>vv9) kR (fun _ h=>vv9) inferReports_row_tie rfl ⟨rfl,rfl⟩ kR rfl
  (fun f fn hf OB=>by
   obtain rfl:f=6:=Option.some.inj ((show prog.funcNamed "baggage/baggagelaw13.InferReports" =some 6 by kernel_rfl).symm.trans hf) |>.symm;obtain rfl:fn=Tryz.f6:=(Option.some.inj (func6.symm.trans OB)).symm;exact⟨kR,fun j t ht=>by
    rw[Tryz.params6] at ht;have hm:t∈[22]:=by simpa using Array.mem_of_getElem? ht
    have DZ:([22].all fun u=>!prog.wantsStandIn u)=true:=kR;exact(show prog.wantsStandIn t=false by simpa using List.all_eq_true.1 DZ t hm)⟩)
  kR
end Go.Proofs.YtfcgkbinohibcaaGreatDoor
