/- Proved: the law ScriptLimits of the program's chapter 42 gives true for every input; no condition is asked of the input. -/
import Derived.Test.YtokkbonoplbiaaaGreatDoorA8
import Derived.Test.YtokkbonoplbiaaaGreatDoorTie
import Derived.Test.YtokkbonoplbiaaaGreatDoorCards
set_option linter.all false
set_option linter.unusedSimpArgs false
set_option linter.unusedVariables false
set_option linter.deprecated false
namespace Go.Proofs.YtokkbonoplbiaaaGreatDoor
open Go Go.Sym
open Go.Deep Go.ChangeShapes Go.WideShapes Go.ChangeAt Go.RowKit
set_option maxRecDepth 100000 in
theorem scriptLimits_lifted (os:Os) (started:os.Started) (H:Type) (enc:TypeId×Value->H):
  ReturnsInHanded {} Tryz.checked os 6 .any (fun w args=>(Rows.scriptLimitsSpec.pre enc Tryz.prog Tryz.f6 [] false w args/\laidMetH Tryz.prog laidB w)/\sizedMet enc Tryz.prog Tryz.f6 (OpenSpec.ofChange Rows.scriptLimitsSpec) false w args)
   (Rows.scriptLimitsSpec.post enc Tryz.prog Tryz.f6 false true false false):=by
 refine handed_of (C:=Tryz.checked) (X:=fun w=>laidMetH Tryz.prog laidB w) (fun _ _ hh h=>h.of_heap hh) Tryz.own started (by kernel_rfl) Tryz.func6
  (ChangeSpec.witness_shaped (enc:=enc) (C:=Tryz.checked) (os:=os) (X:=fun w _=>laidMetH Tryz.prog laidB w) false (World.laidAll Tryz.prog os laidB) #[.int .i64 0, .int .i64 0] 8 (World.laidAll_os _ _ _) (World.shaped_of_ZipB (by kernel_rfl) (by kernel_rfl)) (by kernel_rfl) (by kernel_rfl) (by kernel_rfl) (laid_B os _)) ?_
 intro W base args ds gs before hsh hL hval0 hW
 have hval:∀(j:Nat) t v,Tryz.f6.params[j]?=some t->args[j]?=some v->Value.okWide Tryz.prog W .any base t v:=hval0
 have hW':=hW
 obtain⟨p,q,hA0,hV,rfl,hfz,hnd⟩:=hW
 have hA:DataW.TrodAll enc Tryz.prog W 0 (fun _=>true) true Tryz.f6.params.toList args.toList ds p:=hA0
 have hlt:∀x∈p,x.block<W.heap.size:=fun x hx=>by simpa using hW'.lt x (by simp[hx])
 rw[Tryz.params6] at hA hval
 have hk:=hA
 obtain⟨v0,vs0,d0,ds0,p0,q0,ha0,hd0,hp0,h0,hA⟩:=trodAll_cons hA
 obtain⟨v1,vs1,d1,ds1,p1,q1,ha1,hd1,hp1,h1,hA⟩:=trodAll_cons hA
 obtain⟨hv2,hd2,_⟩:=trodAll_nil hA
 subst hv2 hd2
 subst ha1 hd1 hd0
 obtain rfl:args=#[v0,v1]:=by cases args;simp_all
 obtain⟨rfl,rfl⟩:=trodVars_none hV
 obtain⟨n0,f0,r0⟩:=arg_int (U:=UE env0) Tryz.underlying3 (hval 0 3 v0 rfl rfl) h0
 obtain⟨n1,f1,r1⟩:=arg_int (U:=UE env0) Tryz.underlying3 (hval 1 3 v1 rfl rfl) h1
 simp only[List.append_nil] at hW'
 refine(law_any (W:=W) (vals:=#[v0,v1]) (limits_sat n0 n1 f0 f1) (gok_B hsh hL) rfl ?_).mono fun e W' ⟨he,hbelow⟩=>?_
 ·intro i hi
  match i,hi with
  |0,_=>exact r0
  |1,_=>exact r1
 subst he
 have hargs:=trodAll_below Tryz.laidOut hbelow (by
  intro t ht
  simp only[Array.toList,List.mem_cons,List.not_mem_nil,or_false] at ht
  rcases ht with rfl|rfl<;>exact⟨by kernel_rfl,of_decide_eq_true (by kernel_rfl)⟩) hk hlt
 exact⟨_,rfl,_,_,_,[],_,[],hW',trodAll_mk1 (shut_bool Tryz.underlying4 true),hargs,rfl,hbelow.frame _,fun h=>by cases h⟩
theorem scriptLimits_holds:Rows.ScriptLimitsSaid:=
 OpenClaim.holds_of_wide 6 Tryz.f6 rfl rfl rfl rfl rfl rfl rfl ⟨rfl,rfl,rfl,rfl,rfl⟩ rfl rfl rfl rfl rfl (by kernel_rfl) Tryz.func6 (by kernel_rfl)
  (of_decide_eq_true (by kernel_rfl)) (by unfold Func.isWrapper;first|(rw[if_pos (by decide+kernel)];kernel_rfl)|(rw[if_neg (by decide+kernel)];exact⟨rfl,rfl⟩))
  (fun os started H enc _=>scriptLimits_lifted os started H enc)
theorem scriptLimits_card:Rows.ScriptLimitsCardSaid:=
 Claim7.holds_tied_plain_at .later [] [.data, .data, .data, .data, .sentinel, .sentinel, .data, .data, .data, .pinned] true (true, "0348bd027a86ff34215b7af5c74872ab6d0df613c62f48e1b012cb07a043b13f") true
  scriptLimits_holds (fun _ h=>by cases h) (by kernel_rfl) (fun _ h=>by cases h) scriptLimits_row_tie rfl ⟨rfl,rfl⟩ (by kernel_rfl) rfl
  (fun f fn hf hfn=>by
   obtain rfl:f=6:=Option.some.inj ((show Tryz.prog.funcNamed "baggage/baggagelaw42.ScriptLimits" =some 6 by kernel_rfl).symm.trans hf) |>.symm
   obtain rfl:fn=Tryz.f6:=(Option.some.inj (Tryz.func6.symm.trans hfn)).symm
   exact⟨by kernel_rfl,fun j t ht=>by
    rw[Tryz.params6] at ht
    have hm:t∈[3,3]:=by simpa using Array.mem_of_getElem? ht
    have hall:([3,3].all fun u=>!Tryz.prog.wantsStandIn u)=true:=by kernel_rfl
    exact(show Tryz.prog.wantsStandIn t=false by simpa using List.all_eq_true.1 hall t hm)⟩)
  (by kernel_rfl)
end Go.Proofs.YtokkbonoplbiaaaGreatDoor
