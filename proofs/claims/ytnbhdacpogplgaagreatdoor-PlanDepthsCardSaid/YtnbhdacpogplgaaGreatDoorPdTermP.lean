/- What this claim is proved with: no condition. -/
import Derived.Test.YtnbhdacpogplgaaGreatDoorPdTermM
import Derived.Test.YtnbhdacpogplgaaGreatDoorPdTermE
set_option linter.unusedVariables false
set_option linter.unusedSimpArgs false
namespace Go.Proofs.YtnbhdacpogplgaaGreatDoor
open Go Go.RowKit
def tU (ws:List Int):Prop:=ws.length<=9223372036854775807/\∀ v∈ws,0<=v/\v<=4294967295
def zQ (op n:Int) (ws:List Int):Int:=if op=1 then n else (ws[n.toNat]?).getD 0
theorem E5 {op n:Int} {ws:List Int} (hn:0<=n/\n<=4294967295) (hw:tU ws):0<=zQ op n ws/\zQ op n ws<=4294967295:=by
 unfold zQ
 split
 ·exact hn
 ·cases h:ws[n.toNat]? with
  | none=>simp
  | some v=>exact hw.2 v (List.mem_of_getElem? h)
namespace T
def kR (ws:List Int):T->Option Int
 | .leaf o n=>some (zQ o n ws)
 | .one o _ a=>(a.kR ws).map (IS o)
 | .two o _ a b=>(a.kR ws).bind fun x=>(b.kR ws).bind fun y=>Qg o x y
def Wf:T->Prop
 | .leaf _ n=>0<=n/\n<=4294967295
 | .one _ n a=>(0<=n/\n<=4294967295)/\a.Wf
 | .two _ n a b=>(0<=n/\n<=4294967295)/\a.Wf/\b.Wf
theorem mw {ws:List Int} (hw:tU ws):∀ {t:T} {v:Int},t.Wf->t.kR ws=some v->0<=v/\v<=4294967295
 | .leaf o n,v,h,hv=>by simp only[kR,Option.some.injEq] at hv; subst hv; exact E5 h hw
 | .one o n a,v,h,hv=>by
  simp only[kR,Option.map_eq_some_iff] at hv
  obtain⟨x,hx,rfl⟩:=hv
  have:=mw hw h.2 hx
  exact IT this.1 this.2
 | .two o n a b,v,h,hv=>by
  simp only[kR,Option.bind_eq_some_iff] at hv
  obtain⟨x,hx,y,hy,hv⟩:=hv
  have h1:=mw hw h.2.1 hx
  have h2:=mw hw h.2.2 hy
  exact IU h1 h2 hv
end T
end Go.Proofs.YtnbhdacpogplgaaGreatDoor
