/- Proved: PlantEnters as its tied card: New, Enter, Where, Bags, Bound and Same return what the chapter specifies. Conditions: none -/
import Derived.Test.YtkhjenddapaejaaGreatDoorA8
import Derived.Test.YtkhjenddapaejaaGreatDoorTie
import Derived.Test.YtkhjenddapaejaaGreatDoorCards
set_option linter.all false
set_option linter.unusedSimpArgs false
set_option linter.unusedVariables false
set_option linter.deprecated false
namespace Go.Proofs.YtkhjenddapaejaaGreatDoor
open Go Go.Sym Go.Deep Go.ChangeShapes Go.WideShapes Go.ChangeAt Go.RowKit
set_option maxRecDepth 100000 in
theorem plantEnters_lifted (os:Os) (started:os.Started) (H:Type) (enc:TypeId×Value->H):
  ReturnsInHanded {} Tryz.checked os 9 .any (fun w args=>(Rows.plantEntersSpec.pre enc Tryz.prog Tryz.f9 [] false w args/\laidMetH Tryz.prog laidB w)/\sizedMet enc Tryz.prog Tryz.f9 (OpenSpec.ofChange Rows.plantEntersSpec) false w args)
   (Rows.plantEntersSpec.post enc Tryz.prog Tryz.f9 false true false false):=by
 refine returnsInHanded_of_change_and (C:=Tryz.checked) (X:=fun w _=>laidMetH Tryz.prog laidB w) (fun _ _ _ hh h=>h.of_heap hh) Tryz.own started (by kernel_rfl) Tryz.func9
  (ChangeSpec.witness_shaped (enc:=enc) (C:=Tryz.checked) (os:=os) (X:=fun w _=>laidMetH Tryz.prog laidB w) false (World.doorLaid Tryz.prog 24 os) #[.slice none 0 0, .int .i64 0, .int .i64 0, .int .i64 0, .agg #[.slice none 0 0, .slice none 0 0]] 8 rfl (World.shaped_of_RefB (by kernel_rfl) (by kernel_rfl)) (by kernel_rfl) (by kernel_rfl) (by kernel_rfl) (door_B os _)) ?_
 intro W base args ds gs before hval0 hW _ _ hL _
 have hval:∀(j:Nat) t v,Tryz.f9.params[j]?=some t->args[j]?=some v->Value.okWide Tryz.prog W .any base t v:=hval0
 have hW':=hW
 obtain⟨p,q,hA0,hV,rfl,hfz,hnd⟩:=hW
 have hA:DataW.TrodAll enc Tryz.prog W 0 (fun _=>true) true Tryz.f9.params.toList args.toList ds p:=hA0
 have hlt:∀x∈p,x.block<W.heap.size:=fun x hx=>by simpa using hW'.lt x (by simp[hx])
 rw[Tryz.params9] at hA hval
 have hk:=hA
 obtain⟨v0,vs0,d0,ds0,p0,q0,ha0,hd0,hp0,h0,hA⟩:=trodAll_cons hA
 obtain⟨v1,vs1,d1,ds1,p1,q1,ha1,hd1,hp1,h1,hA⟩:=trodAll_cons hA
 obtain⟨v2,vs2,d2,ds2,p2,q2,ha2,hd2,hp2,h2,hA⟩:=trodAll_cons hA
 obtain⟨v3,vs3,d3,ds3,p3,q3,ha3,hd3,hp3,h3,hA⟩:=trodAll_cons hA
 obtain⟨v4,vs4,d4,ds4,p4,q4,ha4,hd4,hp4,h4,hA⟩:=trodAll_cons hA
 obtain⟨hv5,hd5,_⟩:=trodAll_nil hA
 subst hv5 hd5
 subst ha4 hd4 ha3 hd3 ha2 hd2 ha1 hd1 hd0
 obtain rfl:args=#[v0,v1,v2,v3,v4]:=by cases args;simp_all
 obtain⟨rfl,rfl⟩:=trodVars_none hV
 obtain⟨n0,f0,g0,r0⟩:=arg_ints UE_all Tryz.underlying22 Tryz.underlying3 (by kernel_rfl) (hval 0 22 v0 rfl rfl) h0
 obtain⟨n1,f1,r1⟩:=arg_int (U:=UE env0) Tryz.underlying3 (hval 1 3 v1 rfl rfl) h1
 obtain⟨n2,f2,r2⟩:=arg_int (U:=UE env0) Tryz.underlying3 (hval 2 3 v2 rfl rfl) h2
 obtain⟨n3,f3,r3⟩:=arg_int (U:=UE env0) Tryz.underlying3 (hval 3 3 v3 rfl rfl) h3
 obtain⟨n4,f4,r4⟩:=arg_layout h4
 simp only[List.append_nil] at hW'
 refine(law_any (W:=W) (vals:=#[v0,v1,v2,v3,v4]) (enters_law n0 n1 n2 n3 n4 f0 g0 ⟨f4.1,f4.2.1,fun x hx=>(f4.2.2 x hx).1⟩ awake_sat) (gok_B hL) rfl ?_).mono fun e W' ⟨he,hbelow⟩=>?_
 ·intro i hi
  match i,hi with
  |0,_=>exact r0
  |1,_=>exact r1
  |2,_=>exact r2
  |3,_=>exact r3
  |4,_=>exact r4
 subst he
 have hargs:=trodAll_below Tryz.laidOut hbelow (by
  intro t ht
  simp only[Array.toList,List.mem_cons,List.not_mem_nil,or_false] at ht
  rcases ht with rfl|rfl|rfl|rfl|rfl<;>exact⟨by kernel_rfl,of_decide_eq_true (by kernel_rfl)⟩) hk hlt
 exact⟨_,rfl,_,_,_,[],_,[],hW',trodAll_mk1 (shut_bool Tryz.underlying4 true),hargs,rfl,hbelow.frame _,fun h=>by cases h⟩
theorem plantEnters_holds:Rows.PlantEntersSaid:=
 OpenClaim.holds_of_wide 9 Tryz.f9 rfl rfl rfl rfl rfl rfl rfl ⟨rfl,rfl,rfl,rfl,rfl⟩ rfl rfl rfl rfl rfl (by kernel_rfl) Tryz.func9 (by kernel_rfl)
  (of_decide_eq_true (by kernel_rfl)) (by unfold Func.isWrapper;first|(rw[if_pos (by decide+kernel)];kernel_rfl)|(rw[if_neg (by decide+kernel)];exact⟨rfl,rfl⟩))
  (fun os started H enc _=>plantEnters_lifted os started H enc)
theorem plantEnters_card:Rows.PlantEntersCardSaid:=
 Claim7.holds_tied_plain_at .later [] [.data, .data, .data] true (true, "261926b1cc7e105bd5f690b8e52d7453fbbe05af0b5f8aad728093eb60b1c156") false
  plantEnters_holds (fun _ h=>by cases h) (by kernel_rfl) (fun _ h=>by cases h) plantEnters_row_tie rfl ⟨rfl,rfl⟩ (by kernel_rfl) rfl
  (fun f fn hf hfn=>by
   obtain rfl:f=9:=Option.some.inj ((show Tryz.prog.funcNamed "baggage/baggagelaw11.PlantEnters" =some 9 by kernel_rfl).symm.trans hf) |>.symm
   obtain rfl:fn=Tryz.f9:=(Option.some.inj (Tryz.func9.symm.trans hfn)).symm
   exact⟨by kernel_rfl,fun j t ht=>by
    rw[Tryz.params9] at ht
    have hm:t∈[22,3,3,3,30]:=by simpa using Array.mem_of_getElem? ht
    have hall:([22,3,3,3,30].all fun u=>!Tryz.prog.wantsStandIn u)=true:=by kernel_rfl
    exact(show Tryz.prog.wantsStandIn t=false by simpa using List.all_eq_true.1 hall t hm)⟩)
  (by kernel_rfl)
end Go.Proofs.YtkhjenddapaejaaGreatDoor
