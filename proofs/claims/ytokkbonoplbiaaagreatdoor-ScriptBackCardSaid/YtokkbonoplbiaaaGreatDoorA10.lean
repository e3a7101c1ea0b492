/- Proved: the law ScriptBack of the program's chapter 42 gives true for every input; no condition is asked of the input. -/
import Derived.Test.YtokkbonoplbiaaaGreatDoorA9
import Derived.Test.YtokkbonoplbiaaaGreatDoorTie
import Derived.Test.YtokkbonoplbiaaaGreatDoorCards
set_option linter.all false
set_option linter.unusedSimpArgs false
set_option linter.unusedVariables false
set_option linter.deprecated false
namespace Go.Proofs.YtokkbonoplbiaaaGreatDoor
open Go Go.Sym
open Go.Deep Go.ChangeShapes Go.WideShapes Go.ChangeAt Go.RowKit
set_option maxRecDepth 100000 in
theorem scriptBack_lifted (os:Os) (started:os.Started) (H:Type) (enc:TypeId×Value->H):
  ReturnsInHanded {} Tryz.checked os 5 .any (fun w args=>(Rows.scriptBackSpec.pre enc Tryz.prog Tryz.f5 [] false w args/\laidMetH Tryz.prog laidB w)/\sizedMet enc Tryz.prog Tryz.f5 (OpenSpec.ofChange Rows.scriptBackSpec) false w args)
   (Rows.scriptBackSpec.post enc Tryz.prog Tryz.f5 false true false false):=by
 refine handed_of (C:=Tryz.checked) (X:=fun w=>laidMetH Tryz.prog laidB w) (fun _ _ hh h=>h.of_heap hh) Tryz.own started (by kernel_rfl) Tryz.func5
  (ChangeSpec.witness_shaped (enc:=enc) (C:=Tryz.checked) (os:=os) (X:=fun w _=>laidMetH Tryz.prog laidB w) false (World.laidAll Tryz.prog os laidB) #[.slice none 0 0, .string ⟨#[]⟩] 8 (World.laidAll_os _ _ _) (World.shaped_of_ZipB (by kernel_rfl) (by kernel_rfl)) (by kernel_rfl) (by kernel_rfl) (by kernel_rfl) (laid_B os _)) ?_
 intro W base args ds gs before hsh hL hval0 hW
 have hval:∀(j:Nat) t v,Tryz.f5.params[j]?=some t->args[j]?=some v->Value.okWide Tryz.prog W .any base t v:=hval0
 have hW':=hW
 obtain⟨p,q,hA0,hV,rfl,hfz,hnd⟩:=hW
 have hA:DataW.TrodAll enc Tryz.prog W 0 (fun _=>true) true Tryz.f5.params.toList args.toList ds p:=hA0
 have hlt:∀x∈p,x.block<W.heap.size:=fun x hx=>by simpa using hW'.lt x (by simp[hx])
 rw[Tryz.params5] at hA hval
 have hk:=hA
 obtain⟨v0,vs0,d0,ds0,p0,q0,ha0,hd0,hp0,h0,hA⟩:=trodAll_cons hA
 obtain⟨v1,vs1,d1,ds1,p1,q1,ha1,hd1,hp1,h1,hA⟩:=trodAll_cons hA
 obtain⟨hv2,hd2,_⟩:=trodAll_nil hA
 subst hv2 hd2
 subst ha1 hd1 hd0
 obtain rfl:args=#[v0,v1]:=by cases args;simp_all
 obtain⟨rfl,rfl⟩:=trodVars_none hV
 obtain⟨n0,f0,g0,r0⟩:=arg_ints UE_all Tryz.underlying31 Tryz.underlying3 (by kernel_rfl) (hval 0 31 v0 rfl rfl) h0
 obtain⟨n1,f1,r1⟩:=arg_bs (hval 1 9 v1 rfl rfl) h1
 simp only[List.append_nil] at hW'
 refine(law_any (W:=W) (vals:=#[v0,v1]) (back_law n0 n1 f0 g0 f1) (gok_B hsh hL) rfl ?_).mono fun e W' ⟨he,hbelow⟩=>?_
 ·intro i hi
  match i,hi with
  |0,_=>exact r0
  |1,_=>exact r1
 subst he
 have hargs:=trodAll_below Tryz.laidOut hbelow (by
  intro t ht
  simp only[Array.toList,List.mem_cons,List.not_mem_nil,or_false] at ht
  rcases ht with rfl|rfl<;>exact⟨by kernel_rfl,of_decide_eq_true (by kernel_rfl)⟩) hk hlt
 exact⟨_,rfl,_,_,_,[],_,[],hW',trodAll_mk1 (shut_bool Tryz.underlying4 true),hargs,rfl,hbelow.frame _,fun h=>by cases h⟩
theorem scriptBack_holds:Rows.ScriptBackSaid:=
 OpenClaim.holds_of_wide 5 Tryz.f5 rfl rfl rfl rfl rfl rfl rfl ⟨rfl,rfl,rfl,rfl,rfl⟩ rfl rfl rfl rfl rfl (by kernel_rfl) Tryz.func5 (by kernel_rfl)
  (of_decide_eq_true (by kernel_rfl)) (by unfold Func.isWrapper;first|(rw[if_pos (by decide+kernel)];kernel_rfl)|(rw[if_neg (by decide+kernel)];exact⟨rfl,rfl⟩))
  (fun os started H enc _=>scriptBack_lifted os started H enc)
theorem scriptBack_card:Rows.ScriptBackCardSaid:=
 Claim7.holds_tied_plain_at .later [] [.data, .data, .data, .data, .sentinel, .sentinel, .data, .data, .data, .pinned] true (true, "0348bd027a86ff34215b7af5c74872ab6d0df613c62f48e1b012cb07a043b13f") true
  scriptBack_holds (fun _ h=>by cases h) (by kernel_rfl) (fun _ h=>by cases h) scriptBack_row_tie rfl ⟨rfl,rfl⟩ (by kernel_rfl) rfl
  (fun f fn hf hfn=>by
   obtain rfl:f=5:=Option.some.inj ((show Tryz.prog.funcNamed "baggage/baggagelaw42.ScriptBack" =some 5 by kernel_rfl).symm.trans hf) |>.symm
   obtain rfl:fn=Tryz.f5:=(Option.some.inj (Tryz.func5.symm.trans hfn)).symm
   exact⟨by kernel_rfl,fun j t ht=>by
    rw[Tryz.params5] at ht
    have hm:t∈[31,9]:=by simpa using Array.mem_of_getElem? ht
    have hall:([31,9].all fun u=>!Tryz.prog.wantsStandIn u)=true:=by kernel_rfl
    exact(show Tryz.prog.wantsStandIn t=false by simpa using List.all_eq_true.1 hall t hm)⟩)
  (by kernel_rfl)
end Go.Proofs.YtokkbonoplbiaaaGreatDoor
