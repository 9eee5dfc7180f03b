/- What this claim is proved with: no condition. -/
import Derived.Test.YtnbhdacpogplgaaGreatDoorPvTermM
import Derived.Test.YtnbhdacpogplgaaGreatDoorPvTermE
set_option linter.unusedVariables false
set_option linter.unusedSimpArgs false
namespace Go.Proofs.YtnbhdacpogplgaaGreatDoor
open Go Go.RowKit
def rC (ws:List Int):Prop:=ws.length<=9223372036854775807/\∀ v∈ws,0<=v/\v<=4294967295
def tV (op n:Int) (ws:List Int):Int:=if op=1 then n else (ws[n.toNat]?).getD 0
theorem M8 {op n:Int} {ws:List Int} (hn:0<=n/\n<=4294967295) (hw:rC ws):0<=tV op n ws/\tV op n ws<=4294967295:=by
 unfold tV
 split
 ·exact hn
 ·cases h:ws[n.toNat]? with
  | none=>simp
  | some v=>exact hw.2 v (List.mem_of_getElem? h)
namespace T
def bo (ws:List Int):T->Option Int
 | .leaf o n=>some (tV o n ws)
 | .one o _ a=>(a.bo ws).map (CE o)
 | .two o _ a b=>(a.bo ws).bind fun x=>(b.bo ws).bind fun y=>mM o x y
def Wf:T->Prop
 | .leaf _ n=>0<=n/\n<=4294967295
 | .one _ n a=>(0<=n/\n<=4294967295)/\a.Wf
 | .two _ n a b=>(0<=n/\n<=4294967295)/\a.Wf/\b.Wf
theorem eL {ws:List Int} (hw:rC ws):∀ {t:T} {v:Int},t.Wf->t.bo ws=some v->0<=v/\v<=4294967295
 | .leaf o n,v,h,hv=>by simp only[bo,Option.some.injEq] at hv; subst hv; exact M8 h hw
 | .one o n a,v,h,hv=>by
  simp only[bo,Option.map_eq_some_iff] at hv
  obtain⟨x,hx,rfl⟩:=hv
  have:=eL hw h.2 hx
  exact GY this.1 this.2
 | .two o n a b,v,h,hv=>by
  simp only[bo,Option.bind_eq_some_iff] at hv
  obtain⟨x,hx,y,hy,hv⟩:=hv
  have h1:=eL hw h.2.1 hx
  have h2:=eL hw h.2.2 hy
  exact Rg h1 h2 hv
end T
def Zf (o:Option Int):Value:=.tuple #[.int .u32 (o.getD 0),.bool o.isSome]
end Go.Proofs.YtnbhdacpogplgaaGreatDoor
