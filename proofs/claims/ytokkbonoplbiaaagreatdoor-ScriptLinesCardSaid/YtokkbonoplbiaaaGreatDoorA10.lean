/- Lemmas towards scriptLines_card: no conditions of their own beyond those that each one states. -/
import Derived.Test.YtokkbonoplbiaaaGreatDoorA9
import Derived.ChangeMaps5
set_option linter.all false
set_option linter.unusedSimpArgs false
set_option linter.unusedVariables false
set_option linter.deprecated false
namespace Go.Proofs.YtokkbonoplbiaaaGreatDoor
open Go Go.Sym
open Go.Deep Go.ChangeShapes Go.WideShapes Go.ChangeAt Go.RowKit Go.Scr
theorem rows_enc {α:Type} {q:α->Prop} {enc:α->List AV} {R:List AV->Prop} (hR:∀r,R r->∃x,q x/\r=enc x):∀{rows:List (List AV)},(∀r∈rows,R r)->∃xs:List α,(∀x∈xs,q x)/\rows=xs.map enc
 |[],_=>⟨[],by simp,rfl⟩
 |r::rows,h=>by
  obtain⟨x,hx,rfl⟩:=hR r (h r List.mem_cons_self)
  obtain⟨xs,hxs,rfl⟩:=rows_enc hR (rows:=rows) fun q hq=>h q (List.mem_cons_of_mem _ hq)
  refine⟨x::xs,fun z hz=>?_,rfl⟩
  rcases List.mem_cons.1 hz with rfl|hz
  ·exact hx
  ·exact hxs z hz
structure MxA (x:Acx):Prop where
 mv:x.mv.length<=9223372036854775807
 gl:x.gl.length<=9223372036854775807
 tx:x.txt.length<=9223372036854775807
 rc:x.rev.flt.car.length<=9223372036854775807
 rs:x.rev.flt.suf.length<=9223372036854775807
 fc:x.flt.car.length<=9223372036854775807
 fs:x.flt.suf.length<=9223372036854775807
theorem str_back (s:ByteArray):strOf s.data.toList=s:=by
 cases s;rfl
section
variable {H:Type} {enc:TypeId×Value->H} {W:World}
abbrev RI (avs:List AV):Prop:=∃n:Int,(-9223372036854775808<=n/\n<=9223372036854775807)/\avs=[I n]
abbrev RB (avs:List AV):Prop:=∃b:Bool,avs=[B b]
abbrev RS (avs:List AV):Prop:=∃s:Bs,s.length<=9223372036854775807/\avs=[S (strOf s)]
set_option maxRecDepth 100000 in
theorem rd_int:Rds enc Tryz.prog W (UE env0) 3 RI:= .int Tryz.underlying3
theorem rd_bool:Rds enc Tryz.prog W (UE env0) 4 RB:=fun fuel cs x hx=>by
 obtain⟨b,rfl,_⟩:=DataW.trod_bool Tryz.underlying4 hx
 exact⟨_,⟨b,rfl⟩, .one rfl (.lit _ rfl)⟩
theorem rd_str:Rds enc Tryz.prog W (UE env0) 9 RS:=(Rds.str Tryz.underlying9).mono fun _ h=>by
 obtain⟨s,h1,rfl⟩:=h
 refine⟨s.data.toList,?_,by rw[str_back]⟩
 have:s.data.toList.length=s.size:=rfl
 rw[this]
 unfold maxLen at h1
 omega
abbrev RW (avs:List AV):Prop:=∃x:Flaw,avs=[I x.k,I x.n,I x.w]
set_option maxRecDepth 100000 in
theorem rd_flaw:Rds enc Tryz.prog W (UE env0) 79 RW:=(Rds.struct Tryz.underlying79 (.cons rd_int (.cons rd_int (.cons rd_int .nil))) (by kernel_rfl) (by kernel_rfl)).mono fun _ h=>by
 obtain⟨_,_,⟨a,_,rfl⟩,⟨_,_,⟨b,_,rfl⟩,⟨_,_,⟨c,_,rfl⟩,rfl,rfl⟩,rfl⟩,rfl⟩:=h
 exact⟨⟨a,b,c⟩,rfl⟩
abbrev RWs (avs:List AV):Prop:=∃l:List Flaw,l.length<=9223372036854775807/\avs=[.sl (flaws l) false]
set_option maxRecDepth 100000 in
theorem rd_flaws:Rds enc Tryz.prog W (UE env0) 22 RWs:=(Rds.sl (k:=3) UE_all Tryz.underlying22 (by kernel_rfl) (by decide) rd_flaw).mono fun _ h=>by
 obtain⟨rows,hl,hr,rfl⟩:=h
 obtain⟨xs,-,rfl⟩:=rows_enc (q:=fun _=>True) (enc:=fun x:Flaw=>[I x.k,I x.n,I x.w]) (fun _ ⟨x,h⟩=>⟨x,trivial,h⟩) hr
 rw[List.length_map] at hl
 refine⟨xs,hl,?_⟩
 rw[List.map_map]
 rfl
set_option maxRecDepth 100000 in
theorem rd_plate:Rds enc Tryz.prog W (UE env0) 24 (RsApp [RI,RI,RI]):=Rds.struct Tryz.underlying24 (.cons rd_int (.cons rd_int (.cons rd_int .nil))) (by kernel_rfl) (by kernel_rfl)
set_option maxRecDepth 100000 in
theorem rd_flight:Rds enc Tryz.prog W (UE env0) 26 (RsApp [RS,RI,RS,RI]):=Rds.struct Tryz.underlying26 (.cons rd_str (.cons rd_int (.cons rd_str (.cons rd_int .nil)))) (by kernel_rfl) (by kernel_rfl)
set_option maxRecDepth 100000 in
theorem rd_rev:Rds enc Tryz.prog W (UE env0) 28 (RsApp [RI,RI,RsApp [RS,RI,RS,RI]]):=Rds.struct Tryz.underlying28 (.cons rd_int (.cons rd_int (.cons rd_flight .nil))) (by kernel_rfl) (by kernel_rfl)
def actC (x:Acx):List AV:=[I x.k, .sl (flaws x.mv) false, .sl (flaws x.gl) false,B x.lost,I x.plt.l,I x.plt.a,I x.plt.s,I x.node,I x.img,B x.clr,S (strOf x.txt),I x.rev.k,I x.rev.amt,S (strOf x.rev.flt.car),I x.rev.flt.num,S (strOf x.rev.flt.suf),I x.rev.flt.day,I x.dev,I x.con,S (strOf x.flt.car),I x.flt.num,S (strOf x.flt.suf),I x.flt.day]
abbrev RA (avs:List AV):Prop:=∃x:Acx,MxA x/\avs=actC x
set_option maxRecDepth 100000 in
theorem rd_act:Rds enc Tryz.prog W (UE env0) 30 RA:=
 (Rds.struct Tryz.underlying30 (.cons rd_int (.cons rd_flaws (.cons rd_flaws (.cons rd_bool (.cons rd_plate (.cons rd_int (.cons rd_int (.cons rd_bool (.cons rd_str (.cons rd_rev (.cons rd_int (.cons rd_int (.cons rd_flight .nil))))))))))))) (by kernel_rfl) (by kernel_rfl)).mono fun avs h=>by
  obtain⟨_,_,⟨k,_,rfl⟩,⟨_,_,⟨mv,h1,rfl⟩,⟨_,_,⟨gl,h2,rfl⟩,⟨_,_,⟨lo,rfl⟩,⟨_,_,hp,⟨_,_,⟨nd,_,rfl⟩,⟨_,_,⟨im,_,rfl⟩,⟨_,_,⟨cl,rfl⟩,⟨_,_,⟨tx,h3,rfl⟩,⟨_,_,hr,⟨_,_,⟨dv,_,rfl⟩,⟨_,_,⟨cn,_,rfl⟩,⟨_,_,hf,rfl,rfl⟩,rfl⟩,rfl⟩,rfl⟩,rfl⟩,rfl⟩,rfl⟩,rfl⟩,rfl⟩,rfl⟩,rfl⟩,rfl⟩,rfl⟩:=h
  obtain⟨_,_,⟨pa,_,rfl⟩,⟨_,_,⟨pb,_,rfl⟩,⟨_,_,⟨pc,_,rfl⟩,rfl,rfl⟩,rfl⟩,rfl⟩:=hp
  obtain⟨_,_,⟨rk,_,rfl⟩,⟨_,_,⟨ra,_,rfl⟩,⟨_,_,⟨_,_,⟨c1,h4,rfl⟩,⟨_,_,⟨n1,_,rfl⟩,⟨_,_,⟨s1,h5,rfl⟩,⟨_,_,⟨d1,_,rfl⟩,rfl,rfl⟩,rfl⟩,rfl⟩,rfl⟩,rfl,rfl⟩,rfl⟩,rfl⟩:=hr
  obtain⟨_,_,⟨c2,h6,rfl⟩,⟨_,_,⟨n2,_,rfl⟩,⟨_,_,⟨s2,h7,rfl⟩,⟨_,_,⟨d2,_,rfl⟩,rfl,rfl⟩,rfl⟩,rfl⟩,rfl⟩:=hf
  exact⟨⟨k,mv,gl,lo,⟨pa,pb,pc⟩,nd,im,cl,tx,⟨rk,ra,⟨c1,n1,s1,d1⟩⟩,dv,cn,⟨c2,n2,s2,d2⟩⟩,⟨h1,h2,h3,h4,h5,h6,h7⟩,rfl⟩
variable {v:Value} {d:DataW H} {ps:List MemPlace}
set_option maxRecDepth 100000 in
theorem arg_act (hd:DataW.Trod enc Tryz.prog W 0 (fun _=>true) true 30 v d ps):∃x:Acx,MxA x/\VD W (UE env0) x.av v:=by
 obtain⟨avs,⟨x,h1,rfl⟩,hv⟩:=arg_rd_struct (t:=30) (by rw[show Tryz.prog.cellsOf 30=23 by kernel_rfl];decide) (fun fuel cs x hx=>by obtain⟨_,_,_,_,h,_⟩:=DataW.trod_struct Tryz.underlying30 hx;exact h) hd rd_act
 exact⟨x,h1,hv⟩
set_option maxRecDepth 100000 in
theorem arg_bs (hval:Value.okWide Tryz.prog W .any 0 9 v) (hd:DataW.Trod enc Tryz.prog W 0 (fun _=>true) true 9 v d ps):∃s:Bs,s.length<=9223372036854775807/\VD W (UE env0) (S (strOf s)) v:=by
 obtain⟨s,rfl,_,hs⟩:=Go.ChangeMaps.open_string Tryz.underlying9 hval hd
 refine⟨s.data.toList,?_,by rw[str_back];exact .lit _ rfl⟩
 have:s.data.toList.length=s.size:=rfl
 rw[this]
 unfold maxLen at hs
 omega
set_option maxRecDepth 100000 in
theorem arg_u8 (hval:Value.okWide Tryz.prog W .any 0 5 v) (hd:DataW.Trod enc Tryz.prog W 0 (fun _=>true) true 5 v d ps):∃c:UInt8,VD W (UE env0) (Uc c) v:=by
 obtain⟨n,rfl,_,_,hw⟩:=open_int Tryz.underlying5 hval hd
 have h1:(decide (IntKind.min .u8<=n)&&decide (n<=IntKind.max .u8))=true:=hw
 have e1:IntKind.min .u8=0:=by decide
 have e2:IntKind.max .u8=255:=by decide
 rw[e1,e2] at h1
 simp only[Bool.and_eq_true,decide_eq_true_eq] at h1
 refine⟨UInt8.ofNat n.toNat,?_⟩
 have e:((UInt8.ofNat n.toNat).toNat:Int)=n:=by
  have:(UInt8.ofNat n.toNat).toNat=n.toNat % 256:=by simp
  omega
 show VD W (UE env0) (.lit (.int .u8 ((UInt8.ofNat n.toNat).toNat:Nat))) _
 rw[e]
 exact .lit _ rfl
end
end Go.Proofs.YtokkbonoplbiaaaGreatDoor
