/-
  SYM, part 30: the call of a function that is lent one box.
-/
import Derived.Test.YtmjlnndnpdbagaaSym29
set_option linter.all false
set_option linter.unusedSimpArgs false
set_option linter.unusedVariables false
set_option linter.deprecated false
namespace Go.Sym
open Go

theorem callL {P : Program} {f : FuncId} {g did : Nat} {hp : Hp} {id g' : Nat} {cs vs cs' : List AV} {r : AV} {K : AV → List Up → Prop} (hg : hp.get id = some (g', .box cs)) (hs : SnP hp vs) (hc : SnP1 hp cs)
    (hd : id ∉ vs.flatMap refs2 ++ cs.flatMap refs1) (h : Sat P f (.ptO 0 0 0 0 0 :: vs.map (snap2 hp)) [cs.map (snap1 hp)] r [cs'])
    (hK : K r ((id, some (g', .box cs')) :: drops (vs.flatMap refs2 ++ cs.flatMap refs1))) : CallK P f g did hp (.ptO id g' 0 0 0 :: vs) K :=
  ⟨r, _, .lent id g' cs vs r cs' hg hs.all hc.all hd h, hK⟩

theorem callB {P : Program} {f : FuncId} {g did : Nat} {hp : Hp} {vs cs' : List AV} {K : AV → List Up → Prop} (hs : SnP hp vs) (h : SatN P f (vs.map (snap2 hp)) cs')
    (hK : K (.ptO did g 0 0 0) ((did, some (g, .box cs')) :: drops (vs.flatMap refs2))) : CallK P f g did hp vs K :=
  ⟨_, _, .new vs cs' hs.all h, hK⟩

end Go.Sym
