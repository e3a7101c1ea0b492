/- Proved: Has, Places, Sure, At and Same return what the chapter specifies. -/
import Derived.Test.YtfcgkbinohibcaaGreatDoorA11
import Derived.Test.YtfcgkbinohibcaaGreatDoorTie
import Derived.Test.YtfcgkbinohibcaaGreatDoorCards
set_option linter.all false
namespace Go.Proofs.YtfcgkbinohibcaaGreatDoor
open Go Go.Sym Go.Proofs.Tryz
open Go.Deep Go.ChangeShapes Go.WideShapes Go.ChangeAt Go.RowKit
set_option maxRecDepth 100000 in
theorem QjY (os:Os) (started:os.Started) (H:Type) (enc:TypeId×Value->H):
  ReturnsInHanded {} Tryz.checked os 7 .any (fun w args=>(Rows.inferAsksSpec.pre enc prog f7 [] false w args/\laidMetH prog O9 w)/\sizedMet enc prog f7 (OpenSpec.ofChange Rows.inferAsksSpec) false w args)
   (Rows.inferAsksSpec.post enc prog f7 false true false false):=by
 refine tF (C:=Tryz.checked) (X:=fun w=>laidMetH prog O9 w) (fun _ _ hh h=>h.of_heap hh) Tryz.own started kR func7
  (ChangeSpec.witness_shaped (enc:=enc) (C:=Tryz.checked) (os:=os) (X:=fun w _=>laidMetH prog O9 w) false (World.laidAll prog os O9) #[.slice none 0 0, .int .i64 0, .int .i64 0] 8 (World.laidAll_os _ _ _) (World.shaped_of_ZipB kR kR) kR kR kR (yG os _)) ?_
 intro W base args ds gs before NH hL w7 hW;have G6:∀(j:Nat) t v,f7.params[j]?=some t->args[j]?=some v->Value.okWide prog W .any base t v:=w7;have Xa:=hW;obtain⟨p,q,sX,hV,rfl,I8,Lv⟩:=hW;have hA:DataW.TrodAll enc prog W 0 (fun _=>true) true f7.params.toList args.toList ds p:=sX;have Aa:∀x∈p,x.block<W.heap.size:=fun x hx=>by simpa using Xa.lt x (by simp[hx])
 rw[Tryz.params7] at hA G6;have hk:=hA;obtain⟨v0,vs0,d0,ds0,p0,q0,Xg,RU,LB,h0,hA⟩:=trodAll_cons hA;obtain⟨v1,vs1,d1,ds1,p1,q1,eP,Hw,hp1,h1,hA⟩:=trodAll_cons hA;obtain⟨v2,vs2,d2,ds2,p2,q2,GT,EU,hp2,h2,hA⟩:=trodAll_cons hA;obtain⟨KO,Ow,_⟩:=trodAll_nil hA;subst KO Ow;subst GT EU eP Hw RU;obtain rfl:args=#[v0,v1,v2]:=by cases args;simp_all
 obtain⟨rfl,rfl⟩:=trodVars_none hV;obtain⟨n0,f0,g0,r0⟩:=nB PJ underlying22 underlying3 kR (G6 0 22 v0 rfl rfl) h0;obtain⟨n1,f1,r1⟩:=Qh5 (U:=UE Ip) underlying3 (G6 1 3 v1 rfl rfl) h1;obtain⟨n2,f2,r2⟩:=Qh5 (U:=UE Ip) underlying3 (G6 2 3 v2 rfl rfl) h2;simp only[List.append_nil] at Xa;refine(yJ (W:=W) (vals:=#[v0,v1,v2]) (Qji n0 n1 n2 f0 g0) (sJ NH hL) rfl ?_).mono fun e W' ⟨he,eU⟩=>?_
 ·intro i hi
  match i,hi with
  |0,_=>exact r0|1,_=>exact r1|2,_=>exact r2
 subst he;have Iv:=kF Tryz.laidOut eU (by
  intro t ht;simp only[Array.toList,List.mem_cons,List.not_mem_nil,or_false] at ht;rcases ht with rfl|rfl|rfl<;>exact⟨kR,oT kR⟩) hk Aa
 exact⟨_,rfl,_,_,_,[],_,[],Xa,trodAll_mk1 (shut_bool underlying4 true),Iv,rfl,eU.frame _,fun h=>vx0⟩
theorem QjX:Rows.InferAsksSaid:=
 OpenClaim.holds_of_wide 7 f7 rfl rfl rfl rfl rfl rfl rfl ⟨rfl,rfl,rfl,rfl,rfl⟩ rfl rfl rfl rfl rfl kR func7 kR
  (oT kR) (by unfold Func.isWrapper;first|(rw[iP vv1];kernel_rfl)|(rw[iN vv1];exact⟨rfl,rfl⟩))
  (fun os started H enc _=>QjY os started H enc)
theorem inferAsks_card:Rows.InferAsksCardSaid:=
 Claim7.holds_tied_plain_at .later [] [.data, .data, .data, .data] true (true, "20a3c9eb21a4d2202e488ac2df84fe5eeb0f908646fbc97f7975e23e6a7c9db0") false
  QjX (fun _ h=>vx0) kR (fun _ h=>vx0) inferAsks_row_tie rfl ⟨rfl,rfl⟩ kR rfl
  (fun f fn hf OB=>by
   obtain rfl:f=7:=Option.some.inj ((show prog.funcNamed "baggage/baggagelaw13.InferAsks" =some 7 by kernel_rfl).symm.trans hf) |>.symm;obtain rfl:fn=f7:=(Option.some.inj (func7.symm.trans OB)).symm;exact⟨kR,fun j t ht=>by
    rw[Tryz.params7] at ht;have hm:t∈[22,3,3]:=by simpa using Array.mem_of_getElem? ht
    have DZ:([22,3,3].all fun u=>!prog.wantsStandIn u)=true:=kR;exact(show prog.wantsStandIn t=false by simpa using List.all_eq_true.1 DZ t hm)⟩)
  kR
end Go.Proofs.YtfcgkbinohibcaaGreatDoor
