/- Lemmas towards plantEnters_card: no conditions of their own beyond those that each one states. -/
import Derived.Test.YtkhjenddapaejaaGreatDoorA7
set_option linter.all false
set_option linter.unusedSimpArgs false
set_option linter.unusedVariables false
set_option linter.deprecated false
namespace Go.Proofs.YtkhjenddapaejaaGreatDoor
open Go Go.Sym Go.Deep Go.ChangeShapes Go.WideShapes Go.ChangeAt Go.RowKit
theorem rows_enc {α:Type} {enc:α->List AV} {R:List AV->Prop} (hR:∀r,R r->∃x,r=enc x):∀{rows:List (List AV)},(∀r∈rows,R r)->∃xs:List α,rows=xs.map enc
 |[],_=>⟨[],rfl⟩
 |r::rows,h=>by
  obtain⟨x,rfl⟩:=hR r (h r List.mem_cons_self)
  obtain⟨xs,rfl⟩:=rows_enc hR (rows:=rows) fun q hq=>h q (List.mem_cons_of_mem _ hq)
  exact⟨x::xs,rfl⟩
section
variable {H:Type} {enc:TypeId×Value->H} {W:World}
abbrev RI (avs:List AV):Prop:=∃n:Int,(-9223372036854775808<=n/\n<=9223372036854775807)/\avs=[I n]
set_option maxRecDepth 100000 in
theorem rd_int:Rds enc Tryz.prog W (UE env0) 3 RI:= .int Tryz.underlying3
abbrev RT (avs:List AV):Prop:=∃x:T3,avs=[I x.a,I x.b,I x.c]
set_option maxRecDepth 100000 in
theorem rd_three {avs:List AV} (h:RsApp [RI,RI,RI] avs):RT avs:=by
 obtain⟨_,_,⟨a,_,rfl⟩,⟨_,_,⟨b,_,rfl⟩,⟨_,_,⟨c,_,rfl⟩,rfl,rfl⟩,rfl⟩,rfl⟩:=h
 exact⟨⟨a,b,c⟩,rfl⟩
set_option maxRecDepth 100000 in
theorem rd_device:Rds enc Tryz.prog W (UE env0) 104 RT:=(Rds.struct Tryz.underlying104 (.cons rd_int (.cons rd_int (.cons rd_int .nil))) (by kernel_rfl) (by kernel_rfl)).mono fun _ h=>rd_three h
abbrev RN (avs:List AV):Prop:=∃x:Nd,(x.ex.length<=9223372036854775807/\(∀z∈x.ex,-9223372036854775808<=z/\z<=9223372036854775807)/\(-9223372036854775808<=x.ln/\x.ln<=9223372036854775807))/\avs=[S x.nm,I x.kd,I x.ln,I x.zn,IS x.ex]
set_option maxRecDepth 100000 in
theorem rd_node:Rds enc Tryz.prog W (UE env0) 49 RN:=
 (Rds.struct Tryz.underlying49 (.cons (Rds.str Tryz.underlying9) (.cons rd_int (.cons rd_int (.cons rd_int (.cons (Rds.ints UE_all Tryz.underlying22 Tryz.underlying3 (by kernel_rfl)) .nil))))) (by kernel_rfl) (by kernel_rfl)).mono fun avs h=>by
  obtain⟨_,_,⟨s,_,rfl⟩,⟨_,_,⟨b,_,rfl⟩,⟨_,_,⟨c,hc,rfl⟩,⟨_,_,⟨z,_,rfl⟩,⟨_,_,⟨zs,h1,h2,rfl⟩,rfl,rfl⟩,rfl⟩,rfl⟩,rfl⟩,rfl⟩:=h
  exact⟨⟨s,b,c,z,zs⟩,⟨h1,h2,hc⟩,rfl⟩
set_option maxRecDepth 100000 in
theorem arg_layout {v:Value} {d:DataW H} {ps:List MemPlace} (hd:DataW.Trod enc Tryz.prog W 0 (fun _=>true) true 30 v d ps):∃y:Ly,(y.nodes.length<=9223372036854775807/\y.devs.length<=9223372036854775807/\∀x∈y.nodes,x.ex.length<=9223372036854775807/\(∀z∈x.ex,-9223372036854775808<=z/\z<=9223372036854775807)/\(-9223372036854775808<=x.ln/\x.ln<=9223372036854775807))/\VD W (UE env0) y.av v:=by
 obtain⟨avs,h,hv⟩:=arg_rd_struct (t:=30) (by rw[show Tryz.prog.cellsOf 30=2 by kernel_rfl];decide) (fun fuel cs x hx=>by obtain⟨_,_,_,_,h,_⟩:=DataW.trod_struct Tryz.underlying30 hx;exact h) hd
  (Rds.struct Tryz.underlying30 (.cons (Rds.sl (k:=5) UE_all Tryz.underlying27 (by kernel_rfl) (by decide) rd_node) (.cons (Rds.sl (k:=3) UE_all Tryz.underlying28 (by kernel_rfl) (by decide) rd_device) .nil)) (by kernel_rfl) (by kernel_rfl))
 obtain⟨_,_,⟨rs,hl1,h1,rfl⟩,⟨_,_,⟨qs,hl2,h2,rfl⟩,rfl,rfl⟩,rfl⟩:=h
 obtain⟨qs,rfl⟩:=rows_enc (enc:=fun x:T3=>[I x.a,I x.b,I x.c]) (fun _ h=>h) h2
 have h3:∃xs:List Nd,(∀x∈xs,x.ex.length<=9223372036854775807/\(∀z∈x.ex,-9223372036854775808<=z/\z<=9223372036854775807)/\(-9223372036854775808<=x.ln/\x.ln<=9223372036854775807))/\rs=xs.map fun x=>[S x.nm,I x.kd,I x.ln,I x.zn,IS x.ex]:=by
  clear hv hl1
  induction rs with
  |nil=>exact⟨[],by simp,rfl⟩
  |cons r rs ih=>
   obtain⟨x,hx,rfl⟩:=h1 r List.mem_cons_self
   obtain⟨xs,hxs,rfl⟩:=ih fun q hq=>h1 q (List.mem_cons_of_mem _ hq)
   refine⟨x::xs,fun z hz=>?_,rfl⟩
   rcases List.mem_cons.1 hz with rfl|hz
   ·exact hx
   ·exact hxs z hz
 obtain⟨xs,hxs,rfl⟩:=h3
 refine⟨⟨xs,qs⟩,⟨by simpa using hl1,by simpa using hl2,hxs⟩,?_⟩
 rw[List.map_map,List.map_map] at hv
 exact hv
end
end Go.Proofs.YtkhjenddapaejaaGreatDoor
