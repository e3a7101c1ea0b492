/- Proved: the law ScriptLines of the program's chapter 42 gives true for every input; no condition is asked of the input. -/
import Derived.Test.YtokkbonoplbiaaaGreatDoorA11
import Derived.Test.YtokkbonoplbiaaaGreatDoorTie
import Derived.Test.YtokkbonoplbiaaaGreatDoorCards
set_option linter.all false
set_option linter.unusedSimpArgs false
set_option linter.unusedVariables false
set_option linter.deprecated false
namespace Go.Proofs.YtokkbonoplbiaaaGreatDoor
open Go Go.Sym
open Go.Deep Go.ChangeShapes Go.WideShapes Go.ChangeAt Go.RowKit
set_option maxRecDepth 100000 in
theorem scriptLines_lifted (os:Os) (started:os.Started) (H:Type) (enc:TypeId×Value->H):
  ReturnsInHanded {} Tryz.checked os 3 .any (fun w args=>(Rows.scriptLinesSpec.pre enc Tryz.prog Tryz.f3 [] false w args/\laidMetH Tryz.prog laidB w)/\sizedMet enc Tryz.prog Tryz.f3 (OpenSpec.ofChange Rows.scriptLinesSpec) false w args)
   (Rows.scriptLinesSpec.post enc Tryz.prog Tryz.f3 false true false false):=by
 refine handed_of (C:=Tryz.checked) (X:=fun w=>laidMetH Tryz.prog laidB w) (fun _ _ hh h=>h.of_heap hh) Tryz.own started (by kernel_rfl) Tryz.func3
  (ChangeSpec.witness_shaped (enc:=enc) (C:=Tryz.checked) (os:=os) (X:=fun w _=>laidMetH Tryz.prog laidB w) false (World.laidAll Tryz.prog os laidB) #[.agg #[.int .i64 0, .slice none 0 0, .slice none 0 0, .bool false, .int .i64 0, .int .i64 0, .int .i64 0, .int .i64 0, .int .i64 0, .bool false, .string ⟨#[]⟩, .int .i64 0, .int .i64 0, .string ⟨#[]⟩, .int .i64 0, .string ⟨#[]⟩, .int .i64 0, .int .i64 0, .int .i64 0, .string ⟨#[]⟩, .int .i64 0, .string ⟨#[]⟩, .int .i64 0], .string ⟨#[]⟩, .slice none 0 0, .int .i64 0, .int .u8 0] 8 (World.laidAll_os _ _ _) (World.shaped_of_ZipB (by kernel_rfl) (by kernel_rfl)) (by kernel_rfl) (by kernel_rfl) (by kernel_rfl) (laid_B os _)) ?_
 intro W base args ds gs before hsh hL hval0 hW
 have hval:∀(j:Nat) t v,Tryz.f3.params[j]?=some t->args[j]?=some v->Value.okWide Tryz.prog W .any base t v:=hval0
 have hW':=hW
 obtain⟨p,q,hA0,hV,rfl,hfz,hnd⟩:=hW
 have hA:DataW.TrodAll enc Tryz.prog W 0 (fun _=>true) true Tryz.f3.params.toList args.toList ds p:=hA0
 have hlt:∀x∈p,x.block<W.heap.size:=fun x hx=>by simpa using hW'.lt x (by simp[hx])
 rw[Tryz.params3] at hA hval
 have hk:=hA
 obtain⟨v0,vs0,d0,ds0,p0,q0,ha0,hd0,hp0,h0,hA⟩:=trodAll_cons hA
 obtain⟨v1,vs1,d1,ds1,p1,q1,ha1,hd1,hp1,h1,hA⟩:=trodAll_cons hA
 obtain⟨v2,vs2,d2,ds2,p2,q2,ha2,hd2,hp2,h2,hA⟩:=trodAll_cons hA
 obtain⟨v3,vs3,d3,ds3,p3,q3,ha3,hd3,hp3,h3,hA⟩:=trodAll_cons hA
 obtain⟨v4,vs4,d4,ds4,p4,q4,ha4,hd4,hp4,h4,hA⟩:=trodAll_cons hA
 obtain⟨hv5,hd5,_⟩:=trodAll_nil hA
 subst hv5 hd5
 subst ha4 hd4 ha3 hd3 ha2 hd2 ha1 hd1 hd0
 obtain rfl:args=#[v0,v1,v2,v3,v4]:=by cases args;simp_all
 obtain⟨rfl,rfl⟩:=trodVars_none hV
 obtain⟨n0,f0,r0⟩:=arg_act h0
 obtain⟨n1,f1,r1⟩:=arg_bs (hval 1 9 v1 rfl rfl) h1
 obtain⟨n2,f2,g2,r2⟩:=arg_ints UE_all Tryz.underlying31 Tryz.underlying3 (by kernel_rfl) (hval 2 31 v2 rfl rfl) h2
 obtain⟨n3,f3,r3⟩:=arg_int (U:=UE env0) Tryz.underlying3 (hval 3 3 v3 rfl rfl) h3
 obtain⟨n4,r4⟩:=arg_u8 (hval 4 5 v4 rfl rfl) h4
 simp only[List.append_nil] at hW'
 refine(law_any (W:=W) (vals:=#[v0,v1,v2,v3,v4]) (lines_law n0 n1 n2 n3 n4 f0 f1 f2 g2 f3) (gok_B hsh hL) rfl ?_).mono fun e W' ⟨he,hbelow⟩=>?_
 ·intro i hi
  match i,hi with
  |0,_=>exact r0
  |1,_=>exact r1
  |2,_=>exact r2
  |3,_=>exact r3
  |4,_=>exact r4
 subst he
 have hargs:=trodAll_below Tryz.laidOut hbelow (by
  intro t ht
  simp only[Array.toList,List.mem_cons,List.not_mem_nil,or_false] at ht
  rcases ht with rfl|rfl|rfl|rfl|rfl<;>exact⟨by kernel_rfl,of_decide_eq_true (by kernel_rfl)⟩) hk hlt
 exact⟨_,rfl,_,_,_,[],_,[],hW',trodAll_mk1 (shut_bool Tryz.underlying4 true),hargs,rfl,hbelow.frame _,fun h=>by cases h⟩
theorem scriptLines_holds:Rows.ScriptLinesSaid:=
 OpenClaim.holds_of_wide 3 Tryz.f3 rfl rfl rfl rfl rfl rfl rfl ⟨rfl,rfl,rfl,rfl,rfl⟩ rfl rfl rfl rfl rfl (by kernel_rfl) Tryz.func3 (by kernel_rfl)
  (of_decide_eq_true (by kernel_rfl)) (by unfold Func.isWrapper;first|(rw[if_pos (by decide+kernel)];kernel_rfl)|(rw[if_neg (by decide+kernel)];exact⟨rfl,rfl⟩))
  (fun os started H enc _=>scriptLines_lifted os started H enc)
theorem scriptLines_card:Rows.ScriptLinesCardSaid:=
 Claim7.holds_tied_plain_at .later [] [.data, .data, .data, .data, .sentinel, .sentinel, .data, .data, .data, .pinned] true (true, "0348bd027a86ff34215b7af5c74872ab6d0df613c62f48e1b012cb07a043b13f") true
  scriptLines_holds (fun _ h=>by cases h) (by kernel_rfl) (fun _ h=>by cases h) scriptLines_row_tie rfl ⟨rfl,rfl⟩ (by kernel_rfl) rfl
  (fun f fn hf hfn=>by
   obtain rfl:f=3:=Option.some.inj ((show Tryz.prog.funcNamed "baggage/baggagelaw42.ScriptLines" =some 3 by kernel_rfl).symm.trans hf) |>.symm
   obtain rfl:fn=Tryz.f3:=(Option.some.inj (Tryz.func3.symm.trans hfn)).symm
   exact⟨by kernel_rfl,fun j t ht=>by
    rw[Tryz.params3] at ht
    have hm:t∈[30,9,31,3,5]:=by simpa using Array.mem_of_getElem? ht
    have hall:([30,9,31,3,5].all fun u=>!Tryz.prog.wantsStandIn u)=true:=by kernel_rfl
    exact(show Tryz.prog.wantsStandIn t=false by simpa using List.all_eq_true.1 hall t hm)⟩)
  (by kernel_rfl)
end Go.Proofs.YtokkbonoplbiaaaGreatDoor
