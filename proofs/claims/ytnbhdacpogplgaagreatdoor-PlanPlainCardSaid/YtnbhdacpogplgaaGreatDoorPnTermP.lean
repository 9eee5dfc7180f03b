/- What this claim is proved with: no condition. -/
import Derived.Test.YtnbhdacpogplgaaGreatDoorPnTermM
import Derived.Test.YtnbhdacpogplgaaGreatDoorPnTermE
set_option linter.unusedVariables false
set_option linter.unusedSimpArgs false
namespace Go.Proofs.YtnbhdacpogplgaaGreatDoor
open Go Go.RowKit
def qk (ws:List Int):Prop:=ws.length<=9223372036854775807/\∀ v∈ws,0<=v/\v<=4294967295
def vL (op n:Int) (ws:List Int):Int:=if op=1 then n else (ws[n.toNat]?).getD 0
theorem AL {op n:Int} {ws:List Int} (hn:0<=n/\n<=4294967295) (hw:qk ws):0<=vL op n ws/\vL op n ws<=4294967295:=by
 unfold vL
 split
 ·exact hn
 ·cases h:ws[n.toNat]? with
  | none=>simp
  | some v=>exact hw.2 v (List.mem_of_getElem? h)
namespace T
def iY (ws:List Int):T->Option Int
 | .leaf o n=>some (vL o n ws)
 | .one o _ a=>(a.iY ws).map (DJ o)
 | .two o _ a b=>(a.iY ws).bind fun x=>(b.iY ws).bind fun y=>K2 o x y
def Wf:T->Prop
 | .leaf _ n=>0<=n/\n<=4294967295
 | .one _ n a=>(0<=n/\n<=4294967295)/\a.Wf
 | .two _ n a b=>(0<=n/\n<=4294967295)/\a.Wf/\b.Wf
theorem kh {ws:List Int} (hw:qk ws):∀ {t:T} {v:Int},t.Wf->t.iY ws=some v->0<=v/\v<=4294967295
 | .leaf o n,v,h,hv=>by simp only[iY,Option.some.injEq] at hv; subst hv; exact AL h hw
 | .one o n a,v,h,hv=>by
  simp only[iY,Option.map_eq_some_iff] at hv
  obtain⟨x,hx,rfl⟩:=hv
  have:=kh hw h.2 hx
  exact DK this.1 this.2
 | .two o n a b,v,h,hv=>by
  simp only[iY,Option.bind_eq_some_iff] at hv
  obtain⟨x,hx,y,hy,hv⟩:=hv
  have h1:=kh hw h.2.1 hx
  have h2:=kh hw h.2.2 hy
  exact DL h1 h2 hv
end T
end Go.Proofs.YtnbhdacpogplgaaGreatDoor
