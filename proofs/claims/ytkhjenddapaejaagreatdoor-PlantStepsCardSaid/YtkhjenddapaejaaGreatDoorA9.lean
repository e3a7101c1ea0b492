/- Proved: PlantSteps as its tied card: Step returns what the chapter specifies for valid layouts and plants, several ticks one after another, and for arbitrary commands and faults. Conditions: none -/
import Derived.Test.YtkhjenddapaejaaGreatDoorA8
import Derived.Test.YtkhjenddapaejaaGreatDoorTie
import Derived.Test.YtkhjenddapaejaaGreatDoorCards
set_option linter.all false
set_option linter.unusedSimpArgs false
set_option linter.unusedVariables false
set_option linter.deprecated false
namespace Go.Proofs.YtkhjenddapaejaaGreatDoor
open Go Go.Sym Go.Deep Go.ChangeShapes Go.WideShapes Go.ChangeAt Go.RowKit
set_option maxRecDepth 100000 in
theorem plantSteps_lifted (os:Os) (started:os.Started) (H:Type) (enc:TypeId×Value->H):
  ReturnsInHanded {} Tryz.checked os 3 .any (fun w args=>(Rows.plantStepsSpec.pre enc Tryz.prog Tryz.f3 [] false w args/\laidMetH Tryz.prog laidB w)/\sizedMet enc Tryz.prog Tryz.f3 (OpenSpec.ofChange Rows.plantStepsSpec) false w args)
   (Rows.plantStepsSpec.post enc Tryz.prog Tryz.f3 false true false false):=by
 refine returnsInHanded_of_change_and (C:=Tryz.checked) (X:=fun w _=>laidMetH Tryz.prog laidB w) (fun _ _ _ hh h=>h.of_heap hh) Tryz.own started (by kernel_rfl) Tryz.func3
  (ChangeSpec.witness_shaped (enc:=enc) (C:=Tryz.checked) (os:=os) (X:=fun w _=>laidMetH Tryz.prog laidB w) false (World.doorLaid Tryz.prog 24 os) #[.slice none 0 0, .slice none 0 0, .slice none 0 0] 8 rfl (World.shaped_of_RefB (by kernel_rfl) (by kernel_rfl)) (by kernel_rfl) (by kernel_rfl) (by kernel_rfl) (door_B os _)) ?_
 intro W base args ds gs before hval0 hW _ _ hL _
 have hval:∀(j:Nat) t v,Tryz.f3.params[j]?=some t->args[j]?=some v->Value.okWide Tryz.prog W .any base t v:=hval0
 have hW':=hW
 obtain⟨p,q,hA0,hV,rfl,hfz,hnd⟩:=hW
 have hA:DataW.TrodAll enc Tryz.prog W 0 (fun _=>true) true Tryz.f3.params.toList args.toList ds p:=hA0
 have hlt:∀x∈p,x.block<W.heap.size:=fun x hx=>by simpa using hW'.lt x (by simp[hx])
 rw[Tryz.params3] at hA hval
 have hk:=hA
 obtain⟨v0,vs0,d0,ds0,p0,q0,ha0,hd0,hp0,h0,hA⟩:=trodAll_cons hA
 obtain⟨v1,vs1,d1,ds1,p1,q1,ha1,hd1,hp1,h1,hA⟩:=trodAll_cons hA
 obtain⟨v2,vs2,d2,ds2,p2,q2,ha2,hd2,hp2,h2,hA⟩:=trodAll_cons hA
 obtain⟨hv3,hd3,_⟩:=trodAll_nil hA
 subst hv3 hd3
 subst ha2 hd2 ha1 hd1 hd0
 obtain rfl:args=#[v0,v1,v2]:=by cases args;simp_all
 obtain⟨rfl,rfl⟩:=trodVars_none hV
 obtain⟨n0,f0,g0,r0⟩:=arg_ints UE_all Tryz.underlying22 Tryz.underlying3 (by kernel_rfl) (hval 0 22 v0 rfl rfl) h0
 obtain⟨n1,f1,g1,r1⟩:=arg_ints UE_all Tryz.underlying22 Tryz.underlying3 (by kernel_rfl) (hval 1 22 v1 rfl rfl) h1
 obtain⟨n2,f2,r2⟩:=arg_faults (hval 2 23 v2 rfl rfl) h2
 simp only[List.append_nil] at hW'
 refine(law_any (W:=W) (vals:=#[v0,v1,v2]) (steps_law n0 n1 n2 f0 g0 f1 f2 awake_sat) (gok_B hL) rfl ?_).mono fun e W' ⟨he,hbelow⟩=>?_
 ·intro i hi
  match i,hi with
  |0,_=>exact r0
  |1,_=>exact r1
  |2,_=>exact r2
 subst he
 have hargs:=trodAll_below Tryz.laidOut hbelow (by
  intro t ht
  simp only[Array.toList,List.mem_cons,List.not_mem_nil,or_false] at ht
  rcases ht with rfl|rfl|rfl<;>exact⟨by kernel_rfl,of_decide_eq_true (by kernel_rfl)⟩) hk hlt
 exact⟨_,rfl,_,_,_,[],_,[],hW',trodAll_mk1 (shut_bool Tryz.underlying4 true),hargs,rfl,hbelow.frame _,fun h=>by cases h⟩
theorem plantSteps_holds:Rows.PlantStepsSaid:=
 OpenClaim.holds_of_wide 3 Tryz.f3 rfl rfl rfl rfl rfl rfl rfl ⟨rfl,rfl,rfl,rfl,rfl⟩ rfl rfl rfl rfl rfl (by kernel_rfl) Tryz.func3 (by kernel_rfl)
  (of_decide_eq_true (by kernel_rfl)) (by unfold Func.isWrapper;first|(rw[if_pos (by decide+kernel)];kernel_rfl)|(rw[if_neg (by decide+kernel)];exact⟨rfl,rfl⟩))
  (fun os started H enc _=>plantSteps_lifted os started H enc)
theorem plantSteps_card:Rows.PlantStepsCardSaid:=
 Claim7.holds_tied_plain_at .later [] [.data, .data, .data] true (true, "261926b1cc7e105bd5f690b8e52d7453fbbe05af0b5f8aad728093eb60b1c156") false
  plantSteps_holds (fun _ h=>by cases h) (by kernel_rfl) (fun _ h=>by cases h) plantSteps_row_tie rfl ⟨rfl,rfl⟩ (by kernel_rfl) rfl
  (fun f fn hf hfn=>by
   obtain rfl:f=3:=Option.some.inj ((show Tryz.prog.funcNamed "baggage/baggagelaw11.PlantSteps" =some 3 by kernel_rfl).symm.trans hf) |>.symm
   obtain rfl:fn=Tryz.f3:=(Option.some.inj (Tryz.func3.symm.trans hfn)).symm
   exact⟨by kernel_rfl,fun j t ht=>by
    rw[Tryz.params3] at ht
    have hm:t∈[22,22,23]:=by simpa using Array.mem_of_getElem? ht
    have hall:([22,22,23].all fun u=>!Tryz.prog.wantsStandIn u)=true:=by kernel_rfl
    exact(show Tryz.prog.wantsStandIn t=false by simpa using List.all_eq_true.1 hall t hm)⟩)
  (by kernel_rfl)
end Go.Proofs.YtkhjenddapaejaaGreatDoor
