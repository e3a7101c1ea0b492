/- Lemmas towards plantSteps_card: no conditions of their own beyond those that each one states. -/
import Derived.Test.YtkhjenddapaejaaGreatDoorA7
set_option linter.all false
set_option linter.unusedSimpArgs false
set_option linter.unusedVariables false
set_option linter.deprecated false
namespace Go.Proofs.YtkhjenddapaejaaGreatDoor
open Go Go.Sym Go.Deep Go.ChangeShapes Go.WideShapes Go.ChangeAt Go.RowKit
theorem rows_enc {α:Type} {enc:α->List AV} {R:List AV->Prop} (hR:∀r,R r->∃x,r=enc x):∀{rows:List (List AV)},(∀r∈rows,R r)->∃xs:List α,rows=xs.map enc
 |[],_=>⟨[],rfl⟩
 |r::rows,h=>by
  obtain⟨x,rfl⟩:=hR r (h r List.mem_cons_self)
  obtain⟨xs,rfl⟩:=rows_enc hR (rows:=rows) fun q hq=>h q (List.mem_cons_of_mem _ hq)
  exact⟨x::xs,rfl⟩
section
variable {H:Type} {enc:TypeId×Value->H} {W:World}
abbrev RI (avs:List AV):Prop:=∃n:Int,(-9223372036854775808<=n/\n<=9223372036854775807)/\avs=[I n]
set_option maxRecDepth 100000 in
theorem rd_int:Rds enc Tryz.prog W (UE env0) 3 RI:= .int Tryz.underlying3
abbrev RT (avs:List AV):Prop:=∃x:T3,avs=[I x.a,I x.b,I x.c]
set_option maxRecDepth 100000 in
theorem rd_three {avs:List AV} (h:RsApp [RI,RI,RI] avs):RT avs:=by
 obtain⟨_,_,⟨a,_,rfl⟩,⟨_,_,⟨b,_,rfl⟩,⟨_,_,⟨c,_,rfl⟩,rfl,rfl⟩,rfl⟩,rfl⟩:=h
 exact⟨⟨a,b,c⟩,rfl⟩
set_option maxRecDepth 100000 in
theorem rd_fault:Rds enc Tryz.prog W (UE env0) 76 RT:=(Rds.struct Tryz.underlying76 (.cons rd_int (.cons rd_int (.cons rd_int .nil))) (by kernel_rfl) (by kernel_rfl)).mono fun _ h=>rd_three h
set_option maxRecDepth 100000 in
theorem arg_faults {v:Value} {d:DataW H} {ps:List MemPlace} (hval:Value.okWide Tryz.prog W .any 0 23 v) (hd:DataW.Trod enc Tryz.prog W 0 (fun _=>true) true 23 v d ps):∃zs:List T3,zs.length<=9223372036854775807/\VD W (UE env0) (.sl (t3s zs) false) v:=by
 obtain⟨avs,⟨rows,hl,hr,rfl⟩,hc⟩:=arg_rd_slice Tryz.underlying23 hval hd (Rds.sl (k:=3) UE_all Tryz.underlying23 (by kernel_rfl) (by decide) rd_fault)
 obtain⟨xs,rfl⟩:=rows_enc (enc:=fun x:T3=>[I x.a,I x.b,I x.c]) (fun _ h=>h) hr
 refine⟨xs,by simpa using hl,?_⟩
 have:=(hc.at_ 0 (by simp)).2
 rw[List.map_map] at this
 exact this
end
end Go.Proofs.YtkhjenddapaejaaGreatDoor
