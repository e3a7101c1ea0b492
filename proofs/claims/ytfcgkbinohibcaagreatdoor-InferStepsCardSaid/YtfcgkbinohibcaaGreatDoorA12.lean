/- Proved: Step, Blind, Enter, Seen and Union return what the chapter specifies. -/
import Derived.Test.YtfcgkbinohibcaaGreatDoorA11
import Derived.Test.YtfcgkbinohibcaaGreatDoorTie
import Derived.Test.YtfcgkbinohibcaaGreatDoorCards
set_option linter.all false
namespace Go.Proofs.YtfcgkbinohibcaaGreatDoor
open Go Go.Sym Go.Proofs.Tryz
open Go.Deep Go.ChangeShapes Go.WideShapes Go.ChangeAt Go.RowKit
set_option maxRecDepth 100000 in
theorem aoB(os:Os)(started:os.Started)(H:Type)(enc:TypeId×Value->H):
  ReturnsInHanded {} Tryz.checked os 5 .any (fun w args=>(Rows.inferStepsSpec.pre enc prog Tryz.f5 [] false w args/\laidMetH prog Q9 w)/\sizedMet enc prog Tryz.f5 (OpenSpec.ofChange Rows.inferStepsSpec) false w args)
   (Rows.inferStepsSpec.post enc prog Tryz.f5 false true false false):=by
 refine acF (C:=Tryz.checked) (X:=fun w=>laidMetH prog Q9 w) (fun _ _ hh h=>h.of_heap hh) Tryz.own started kR func5
  (ChangeSpec.witness_shaped (enc:=enc) (C:=Tryz.checked) (os:=os) (X:=fun w _=>laidMetH prog Q9 w) false (World.laidAll prog os Q9) #[.slice none 0 0,.slice none 0 0,.agg #[.int .i64 0,.bool false,.string ⟨#[]⟩],.int .i64 0] 8 (World.laidAll_os _ _ _) (World.shaped_of_ZipB kR kR) kR kR kR (asm os _)) ?_
 intro W base args ds gs before IY hL apM hW;have pA:∀(j:Nat) t v,Tryz.f5.params[j]?=some t->args[j]?=some v->Value.okWide prog W .any base t v:=apM;have UH:=hW;obtain⟨p,q,aje,hV,rfl,vY,Z3⟩:=hW;have hA:DataW.TrodAll enc prog W 0 (fun _=>true) true Tryz.f5.params.toList args.toList ds p:=aje;have PP:∀x∈p,x.block<W.heap.size:=fun x hx=>by simpa using UH.lt x (by simp[hx])
 rw[Tryz.params5]at hA pA;have hk:=hA;obtain⟨v0,vs0,d0,ds0,p0,q0,GW,FF,Pb,h0,hA⟩:=trodAll_cons hA;obtain⟨v1,vs1,d1,ds1,p1,q1,RY,al,hp1,h1,hA⟩:=trodAll_cons hA;obtain⟨v2,vs2,d2,ds2,p2,q2,qh,SA,hp2,h2,hA⟩:=trodAll_cons hA;obtain⟨v3,vs3,d3,ds3,p3,q3,ha3,IN,hp3,h3,hA⟩:=trodAll_cons hA;obtain⟨hv4,hd4,_⟩:=trodAll_nil hA;subst hv4 hd4;subst ha3 IN qh SA RY al FF;obtain rfl:args=#[v0,v1,v2,v3]:=by cases args;simp_all
 obtain⟨rfl,rfl⟩:=trodVars_none hV;obtain⟨n0,f0,g0,r0⟩:=HS jM underlying22 underlying3 kR (pA 0 22 v0 rfl rfl) h0;obtain⟨n1,f1,g1,r1⟩:=HS jM underlying22 underlying3 kR (pA 1 22 v1 rfl rfl) h1;obtain⟨n2,f2,r2⟩:=acd h2;obtain⟨n3,f3,r3⟩:=alJ (U:=UE lB) underlying3 (pA 3 3 v3 rfl rfl) h3;simp only[MP]at UH;refine(aoQ (W:=W) (pk:=#[v0,v1,v2,v3]) (apJ n0 n1 n2 n3 f0 g0 f1 f2) (aqR IY hL) rfl ?_).mono fun e W' ⟨he,fI⟩=>?_
 ·intro i hi
  match i,hi with
  |0,_=>exact r0|1,_=>exact r1|2,_=>exact r2|3,_=>exact r3
 subst he;have RZ:=XN Tryz.laidOut fI (by
  intro t ht;simp only[Array.toList,rX,AY,xN]at ht;rcases ht with rfl|rfl|rfl|rfl<;>exact⟨kR,oT kR⟩) hk PP
 exact⟨_,rfl,_,_,_,[],_,[],UH,trodAll_mk1 (shut_bool underlying4 true),RZ,rfl,fI.frame _,fun h=>C3⟩
theorem acU:Rows.InferStepsSaid:=
 OpenClaim.holds_of_wide 5 Tryz.f5 rfl rfl rfl rfl rfl rfl rfl ⟨rfl,rfl,rfl,rfl,rfl⟩ rfl rfl rfl rfl rfl kR func5 kR
  (oT kR) (by unfold Func.isWrapper;first|(rw[iP Nw];kernel_rfl)|(rw[iN Nw];exact⟨rfl,rfl⟩))
  (fun os started H enc _=>aoB os started H enc)
theorem inferSteps_card:Rows.InferStepsCardSaid:=
 Claim7.holds_tied_plain_at .later [] [.data,.data,.data,.data] true (true, "20a3c9eb21a4d2202e488ac2df84fe5eeb0f908646fbc97f7975e23e6a7c9db0") false
  acU (fun _ h=>C3) kR (fun _ h=>C3) inferSteps_row_tie rfl ⟨rfl,rfl⟩ kR rfl
  (fun f fn hf xS=>by
   obtain rfl:f=5:=Qz ((show prog.funcNamed "baggage/baggagelaw13.InferSteps" =some 5 by kernel_rfl).symm.trans hf) |>.symm;obtain rfl:fn=Tryz.f5:=(Qz (func5.symm.trans xS)).symm;exact⟨kR,fun j t ht=>by
    rw[Tryz.params5]at ht;have hm:t∈[22,22,65,3]:=by simpa using Array.mem_of_getElem? ht
    have AS:([22,22,65,3].all fun u=>!prog.wantsStandIn u)=true:=kR;exact(show prog.wantsStandIn t=false by simpa using List.all_eq_true.1 AS t hm)⟩)
  kR
end Go.Proofs.YtfcgkbinohibcaaGreatDoor
