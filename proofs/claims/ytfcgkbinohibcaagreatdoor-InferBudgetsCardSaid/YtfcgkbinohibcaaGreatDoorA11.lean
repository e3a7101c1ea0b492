/- Proved: With the budget 0 exactly the true plant is left, and it stays with a greater budget. -/
import Derived.Test.YtfcgkbinohibcaaGreatDoorA10
import Derived.Test.YtfcgkbinohibcaaGreatDoorTie
import Derived.Test.YtfcgkbinohibcaaGreatDoorCards
set_option linter.all false
namespace Go.Proofs.YtfcgkbinohibcaaGreatDoor
open Go Go.Sym
open Go.Deep Go.ChangeShapes Go.WideShapes Go.ChangeAt Go.RowKit
set_option maxRecDepth 100000 in
theorem xO (os:Os) (started:os.Started) (H:Type) (enc:TypeId×Value->H):
  ReturnsInHanded {} Tryz.checked os 4 .any (fun w args=>(Rows.inferBudgetsSpec.pre enc Tryz.prog Tryz.f4 [] false w args/\laidMetH Tryz.prog O9 w)/\sizedMet enc Tryz.prog Tryz.f4 (OpenSpec.ofChange Rows.inferBudgetsSpec) false w args)
   (Rows.inferBudgetsSpec.post enc Tryz.prog Tryz.f4 false true false false):=by
 refine tF (C:=Tryz.checked) (X:=fun w=>laidMetH Tryz.prog O9 w) (fun _ _ hh h=>h.of_heap hh) Tryz.own started kR Tryz.func4
  (ChangeSpec.witness_shaped (enc:=enc) (C:=Tryz.checked) (os:=os) (X:=fun w _=>laidMetH Tryz.prog O9 w) false (World.laidAll Tryz.prog os O9) #[.slice none 0 0] 8 (World.laidAll_os _ _ _) (World.shaped_of_ZipB kR kR) kR kR kR (yG os _)) ?_
 intro W base args ds gs before NH hL w7 hW;have G6:∀(j:Nat) t v,Tryz.f4.params[j]?=some t->args[j]?=some v->Value.okWide Tryz.prog W .any base t v:=w7;have Xa:=hW;obtain⟨p,q,sX,hV,rfl,I8,Lv⟩:=hW;have hA:DataW.TrodAll enc Tryz.prog W 0 (fun _=>true) true Tryz.f4.params.toList args.toList ds p:=sX;have Aa:∀x∈p,x.block<W.heap.size:=fun x hx=>by simpa using Xa.lt x (by simp[hx])
 rw[Tryz.params4] at hA G6;have hk:=hA;obtain⟨v0,vs0,d0,ds0,p0,q0,Xg,RU,LB,h0,hA⟩:=trodAll_cons hA;obtain⟨Jg,Hw,_⟩:=trodAll_nil hA;subst Jg Hw;subst RU;obtain rfl:args=#[v0]:=by cases args;simp_all
 obtain⟨rfl,rfl⟩:=trodVars_none hV;obtain⟨n0,f0,g0,r0⟩:=nB PJ Tryz.underlying22 Tryz.underlying3 kR (G6 0 22 v0 rfl rfl) h0;simp only[List.append_nil] at Xa;refine(yJ (W:=W) (vals:=#[v0]) (oX n0 f0 g0) (sJ NH hL) rfl ?_).mono fun e W' ⟨he,eU⟩=>?_
 ·intro i hi
  match i,hi with
  |0,_=>exact r0
 subst he;have Iv:=kF Tryz.laidOut eU (by
  intro t ht;simp only[Array.toList,List.mem_cons,List.not_mem_nil,or_false] at ht;subst ht;exact⟨kR,oT kR⟩) hk Aa
 exact⟨_,rfl,_,_,_,[],_,[],Xa,trodAll_mk1 (shut_bool Tryz.underlying4 true),Iv,rfl,eU.frame _,fun h=>by cases h⟩
theorem xN:Rows.InferBudgetsSaid:=
 OpenClaim.holds_of_wide 4 Tryz.f4 rfl rfl rfl rfl rfl rfl rfl ⟨rfl,rfl,rfl,rfl,rfl⟩ rfl rfl rfl rfl rfl kR Tryz.func4 kR
  (oT kR) (by unfold Func.isWrapper;first|(rw[iP (by decide+kernel)];kernel_rfl)|(rw[iN (by decide+kernel)];exact⟨rfl,rfl⟩))
  (fun os started H enc _=>xO os started H enc)
theorem inferBudgets_card:Rows.InferBudgetsCardSaid:=
 Claim7.holds_tied_plain_at .later [] [.data, .data, .data, .data] true (true, "20a3c9eb21a4d2202e488ac2df84fe5eeb0f908646fbc97f7975e23e6a7c9db0") false
  xN (fun _ h=>by cases h) kR (fun _ h=>by cases h) inferBudgets_row_tie rfl ⟨rfl,rfl⟩ kR rfl
  (fun f fn hf OB=>by
   obtain rfl:f=4:=Option.some.inj ((show Tryz.prog.funcNamed "baggage/baggagelaw13.InferBudgets" =some 4 by kernel_rfl).symm.trans hf) |>.symm;obtain rfl:fn=Tryz.f4:=(Option.some.inj (Tryz.func4.symm.trans OB)).symm;exact⟨kR,fun j t ht=>by
    rw[Tryz.params4] at ht;have hm:t∈[22]:=by simpa using Array.mem_of_getElem? ht
    have DZ:([22].all fun u=>!Tryz.prog.wantsStandIn u)=true:=kR;exact(show Tryz.prog.wantsStandIn t=false by simpa using List.all_eq_true.1 DZ t hm)⟩)
  kR
end Go.Proofs.YtfcgkbinohibcaaGreatDoor
