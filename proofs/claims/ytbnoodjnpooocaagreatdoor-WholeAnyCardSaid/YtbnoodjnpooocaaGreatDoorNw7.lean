/- What this claim is proved with: no condition. -/
import Derived.Test.YtbnoodjnpooocaaGreatDoorNw6
import Derived.Test.YtbnoodjnpooocaaGreatDoorNw2
import Derived.Deep.Slices
import Derived.Below
import Derived.OpenShut
import Derived.LaidLaws
import Derived.ChangeArms
import Derived.MakeChecks
import Derived.Stop.Joined
set_option linter.unusedVariables false
set_option linter.unusedSimpArgs false
namespace Go.Proofs.YtbnoodjnpooocaaGreatDoor.Pw
open Go Go.RowKit
section
variable {w w':World} {I I':Nat->Prop} {β ay:an} {G:Gx} {s:aD} {a:Act} {st dY:List aj}
theorem jj {cs ds:List PV} {arr:Array Value} {o:Nat} (h:oX Be cs ds) (hc:bj w I β cs arr o):bj w I β ds arr o:=by
 have key:∀ (cs ds:List PV) (o:Nat),oX Be cs ds->bj w I β cs arr o->bj w I β ds arr o:=by
  intro cs
  induction cs with
  | nil=>intro ds o h hc; cases ds with
   | nil=>exact hc
   | cons _ _=>exact h.elim
  | cons c cs ih =>
   intro ds o h hc
   cases ds with
   | nil=>exact h.elim
   | cons d ds =>
    intro i x hx
    cases i with
    | zero =>
     simp at hx; subst hx
     obtain⟨v,hv,hi,h1⟩:=hc 0 c rfl
     exact⟨v,hv,tc h.1 w I β v hi,h1⟩
    | succ i =>
     have:=ih ds (o+1) h.2 (fun j y hy=>by
      obtain⟨v,hv,h1⟩:=hc (j+1) y (by simpa using hy)
      exact⟨v,by rw[show o+1+j=o+(j+1) by omega]; exact hv,h1⟩) i x (by simpa using hx)
     obtain⟨v,hv,h1⟩:=this
     exact⟨v,by rw[show o+(i+1)=o+1+i by omega]; exact hv,h1⟩
 exact key cs ds o h hc
theorem tz {π:ia} {cs ds:List PV} {arr:Array Value} {o:Nat} (h:f_ π ds=some cs) (hc:bj w I β cs arr o):bj w I (jx β π) ds arr o:=by
 have key:∀ (ds cs:List PV) (o:Nat),f_ π ds=some cs->bj w I β cs arr o->bj w I (jx β π) ds arr o:=by
  intro ds
  induction ds with
  | nil=>intro cs o _ _ i c hc; simp at hc
  | cons d ds ih =>
   intro cs o h hc
   simp only[f_] at h
   split at h
   ·rename_i y l h1 h2
    cases h
    intro i x hx
    cases i with
    | zero =>
     simp at hx; subst hx
     obtain⟨v,hv,hi,h3⟩:=hc 0 y rfl
     exact⟨v,hv,sa h1 hi,h3⟩
    | succ i =>
     have:=ih l (o+1) h2 (fun j y hy=>by
      obtain⟨v,hv,h1⟩:=hc (j+1) y (by simpa using hy)
      exact⟨v,by rw[show o+1+j=o+(j+1) by omega]; exact hv,h1⟩) i x (by simpa using hx)
     obtain⟨v,hv,h1⟩:=this
     exact⟨v,by rw[show o+(i+1)=o+1+i by omega]; exact hv,h1⟩
   ·cases h
 exact key ds cs o h hc
theorem mN {r:PV->PV->Prop}:∀ {cs ds:List PV},oX r cs ds->cs.length=ds.length
 | [],[],_=>rfl
 | _::_,_::_,h=>by simp[mN h.2]
 | [],_::_,h=>h.elim
 | _::_,[],h=>h.elim
theorem zA {π:ia}:∀ {ds cs:List PV},f_ π ds=some cs->ds.length=cs.length
 | [],cs,h=>by simp only[f_,Option.some.injEq] at h; subst h; rfl
 | d::ds,cs,h=>by
  simp only[f_] at h
  split at h
  ·rename_i y l h1 h2
   cases h; simp[zA h2]
  ·cases h
theorem dD (hO:Ev.fR G.cx) {π:ia} {s s':aD} (h:fK G.cx π s s'):Sub G s s':=by
 obtain⟨hn,vK,Qz,Sm,qi,ht⟩:=h
 obtain⟨Sm,_⟩:=ba Sm
 simp only[Bool.and_eq_true] at Sm
 obtain⟨Sm,zB⟩:=Sm
 obtain⟨hπl,iE⟩:=BO qi
 have hinj:=qs Sm
 have yU:=qt zB
 have zB:=tg zB
 intro I β a w hR
 have hH:aC I (jx β π) s'.st w:=by
  refine⟨fun l hl=>by unfold jx; rw[List.getElem?_eq_none (by omega)],fun l b' hl az=>?_⟩
  rcases iE l b' hl az with ⟨m,b,MH,hb,hk⟩|⟨MH,hk,hc,eL⟩
  ·obtain⟨hc,hk⟩:=ba hk
   simp only[Bool.and_eq_true] at hc
   obtain⟨⟨⟨H',eL⟩,hm⟩,DB⟩:=hc
   have H':=Nat.eq_of_beq_eq_true H'
   have eL:=Nat.eq_of_beq_eq_true eL
   have hm:=Md.nS hm
   obtain⟨p,hp,hB⟩:=hR.heap.dX m b hb DB
   have own:∀ {g:Nat} {fr:Nat × Nat},Own I β s.st m g fr b->Own I (jx β π) s'.st l g fr b':=fun ho=>by
    refine⟨fun hr=>?_,fun hr=>ho.2 (by rw[hm]; exact hr)⟩
    obtain⟨h1,h2,h3⟩:=ho.1 (by rw[hm]; exact hr)
    refine⟨h1,h2,fun l2 b2 cN eR bC p2 g2 o2 iX gX=>?_⟩
    rcases iE l2 b2 eR bC with ⟨m2,b3,No,j6,YB⟩|⟨No,_⟩
    ·rw[cG No] at iX
     obtain⟨Yu,_⟩:=ba YB
     simp only[Bool.and_eq_true] at Yu
     exact h3 m2 b3 (fun e=>cN (by subst e; exact hinj l2 l _ No MH)) j6 Yu.2 p2 g2 o2 iX gX
    ·rw[ko No] at iX
     cases iX; cases gX
   refine⟨p,by rw[cG MH]; exact hp,?_⟩
   split at hk
   ·rename_i Ha xQ
    rw[Ha] at hB
    rw[xQ]
    obtain⟨g,o,arr,ty,fr,h1,h2,h3,ho⟩:=hB
    obtain⟨cs,fj,hk⟩:=ao hk
    exact⟨g,o,arr,ty,fr,h1,h2,tz fj (jj hk h3),own ho⟩
   ·rename_i Ha xQ
    rw[Ha] at hB
    rw[xQ]
    obtain⟨g,arr,fr,h1,h2,h3,ho,h4,h5,h6,h7,h8⟩:=hB
    obtain⟨cs,fj,hk⟩:=ao hk
    exact⟨g,arr,fr,h1,by rw[← H']; exact h2,tz fj (jj hk h3),own ho,by rw[zA fj,← mN hk,← eL]; exact h4,h5,h6,by rw[← eL]; exact h7,by rw[← eL]; exact h8⟩
   ·rename_i Ha xQ
    rw[Ha] at hB
    rw[xQ]
    obtain⟨⟨h1,h2,h3,h4⟩,hB⟩:=hB
    refine⟨⟨by rw[← eL]; exact h1,by rw[← hk]; exact h2,h3,h4⟩,?_⟩
    rcases hB with h|⟨g,arr,fr,h5,h6,h7,ho,h8⟩
    ·exact .inl h
    ·exact .inr ⟨g,arr,fr,h5,by rw[← H']; exact h6,by rw[← hk,← eL]; exact h7,own ho,by rw[← eL]; exact h8⟩
   ·rename_i Ha xQ
    rw[Ha] at hB
    rw[xQ]
    obtain⟨g,h1,h2,ho⟩:=hB
    exact⟨g,h1,by rw[← hk]; exact h2,own ho⟩
   ·rename_i Ha xQ
    rw[Ha] at hB
    rw[xQ]
    obtain⟨g,arr,fr,h1,h2,h3,ho,h4,h5,h6,h7,h8⟩:=hB
    obtain⟨ag,Dd,hk⟩:=ao hk
    obtain⟨zC,hk⟩:=ba hk
    rw[aj.w8] at hk
    obtain⟨es,oh,hk⟩:=ao hk
    simp only[Bool.or_eq_true] at zC
    have mI:(arr.toList.take (p.len*b.size)).length=p.len*b.size:=by
     rw[List.length_take,Array.length_toList,h7]
     have:=Nat.mul_le_mul_right b.size h5
     omega
    have ja:oJ w I β b.size (.stat b.cs) (arr.toList.take (p.len*b.size)):=by
     refine⟨by rw[mI,h4],fun j c hj=>?_⟩
     obtain⟨u,hu,h9⟩:=h3 j c hj
     have sL:j < p.len*b.size:=by rw[← h4]; exact (List.getElem?_eq_some_iff.1 hj).1
     exact⟨u,by rw[List.getElem?_take,if_pos sL]; simpa using hu,h9⟩
    obtain⟨e1,e2⟩:=fZ h8 (zC.imp id Nat.eq_of_beq_eq_true) oh ja mI
    refine⟨⟨by rw[← eL]; exact h8,by rw[← hk]; exact e1,h5,h6⟩,.inr ⟨g,arr,fr,h1,by rw[← H']; exact h2,?_,own ho,by rw[← eL]; exact h7⟩⟩
    rw[← hk,← eL]
    refine e2.at (fun j v hj=>?_) (fun _ h=>h) (fun _ _=>rfl)
    have:=oK h2 0 (p.len*b.size) j v (by simpa using hj)
    simpa using this
   ·exact hk.elim
  ·refine⟨_,ko MH,?_⟩
   rw[hk]
   exact⟨⟨eL,by rw[hc]; rfl,Nat.le_refl _,Nat.zero_le _⟩,.inl ⟨rfl,rfl⟩⟩
 refine⟨I,jx β π,⟨by rw[hn]; exact hR.small,hR.defers,by rw[hn]; exact hR.size,?_,fun t y hy=>?_,hH,hR.au⟩,⟨⟨rfl,rfl,rfl,Nat.le_refl _,fun _ _ _=>rfl,fun g hg ⟨l,b',p,o,h1,h2,h3,h4,h5⟩=>?_,fun _ h=>h,fun _ _ h=>.inl h⟩,vK,Qz,hn,fun l hl hnr=>?_⟩⟩
 ·rw[vK]
  rw[← hπl]; exact yU
 ·obtain⟨x,z,hx,hz,hle⟩:=TM.fp ht hy
  obtain⟨v,hv,hi⟩:=hR.get t x hx
  exact⟨v,hv,Im hz (fp hle w I β v hi)⟩
 ·rcases iE l b' h1 h2 with ⟨m,b,MH,hb,hk⟩|⟨MH,_⟩
  ·obtain⟨hc,_⟩:=ba hk
   simp only[Bool.and_eq_true] at hc
   rw[cG MH] at h4
   exact⟨m,b,p,o,hb,hc.2,by rw[Md.nS hc.1.2]; exact h3,h4,h5⟩
  ·rw[ko MH] at h4
   cases h4; cases h5
 ·rcases zB l hl with h|h
  ·rw[Nat.zero_add] at h
   exact cG h
  ·rw[Nat.zero_add] at h; exact absurd h hnr
def frO (v:Option PV) (q:Option PV->Prop):Prop:=match v with
 | none=>q none
 | some x=>fc x fun x=>q (some x)
def QK:TM->(TM->Prop)->Prop
 | .nil,q=>q .nil
 | .node v l r,q=>frO v fun v=>QK l fun l=>QK r fun r=>q (.node v l r)
def ZC (b:aj) (q:aj->Prop):Prop:=match b with
 | ⟨.loc,ty,n,m,live,cs⟩=>dv cs fun cs=>q ⟨.loc,ty,n,m,live,cs⟩
 | ⟨.arr,ty,n,m,live,cs⟩=>dv cs fun cs=>q ⟨.arr,ty,n,m,live,cs⟩
 | ⟨.dyn,ty,n,m,live,cs⟩=>q ⟨.dyn,ty,n,m,live,cs⟩
 | ⟨.mp,ty,n,m,live,cs⟩=>q ⟨.mp,ty,n,m,live,cs⟩
 | ⟨.mx,ty,n,m,live,cs⟩=>q ⟨.mx,ty,n,m,live,cs⟩
def zD:List aj->(List aj->Prop)->Prop
 | [],q=>q []
 | b::st,q=>ZC b fun b=>zD st fun st=>q (b::st)
def Sn (s:aD) (q:aD->Prop):Prop:=match s with
 | ⟨n,t,st,b,rl⟩=>QK t fun t=>zD st fun st=>q ⟨n,t,st,b,rl⟩
theorem BT:∀ {t:TM} {q:TM->Prop},QK t q->q t
 | .nil,_,h=>h
 | .node v l r,q,h=>by
  have h1:QK l fun l=>QK r fun r=>q (.node v l r):=by
   cases v with
   | none=>exact h
   | some x=>exact HJ (x:=x) (q:=fun x=>QK l fun l=>QK r fun r=>q (.node (some x) l r)) h
  have h2:=BT h1
  exact BT (q:=fun r=>q (.node v l r)) h2
theorem BU {b:aj} {q:aj->Prop} (h:ZC b q):q b:=by
 obtain⟨k,ty,n,m,live,cs⟩:=b
 cases k
 ·exact cW (q:=fun cs=>q ⟨.loc,ty,n,m,live,cs⟩) h
 ·exact cW (q:=fun cs=>q ⟨.arr,ty,n,m,live,cs⟩) h
 ·exact h
 ·exact h
 ·exact h
theorem pg:∀ {st:List aj} {q:List aj->Prop},zD st q->q st
 | [],_,h=>h
 | b::st,q,h=>pg (q:=fun st=>q (b::st)) (BU h)
theorem qv {q:aD->Prop} (h:Sn s q):q s:=by
 obtain⟨n,t,st,b,rl⟩:=s
 have h1:=BT h
 exact pg (q:=fun st=>q ⟨n,t,st,b,rl⟩) h1
def TM.E9 (v:Option PV):Nat->TM->Nat->TM
 | 0,t,_=>t
 | f+1,.nil,n=>bif Nat.beq n 0 then .node v .nil .nil else bif Nat.beq (n % 2) 1 then .node none (TM.E9 v f .nil ((n - 1) / 2)) .nil else .node none .nil (TM.E9 v f .nil ((n - 1) / 2))
 | f+1,.node u l r,n=>bif Nat.beq n 0 then .node v l r else bif Nat.beq (n % 2) 1 then .node u (TM.E9 v f l ((n - 1) / 2)) r else .node u l (TM.E9 v f r ((n - 1) / 2))
def QL:List Oper->List Nat
 | []=>[]
 | o::r=>(match o.dst with
  | some d=>[d]
  | none=>[])++QL r
def tA:Code->List Nat
 | .region _ ops _=>QL ops.toList
 | .seq a b=>tA a++tA b
 | .cond _ a b=>tA a++tA b
 | .block _ c=>tA c
 | .loop c=>tA c
 | .scope c=>tA c
 | _=>[]
def tB:List Nat->TM->TM
 | [],t=>t
 | d::ds,t=>tB ds (t.E9 none 24 d)
def lf:List (Nat × PV)->TM->TM
 | [],t=>t
 | (d,x)::r,t=>lf r (t.E9 (some x) 24 d)
def aD.head (s:aD) (c:Code) (vs:List (Nat × PV)) (st:List aj):aD:=match s with
 | ⟨n,t,_,b,rl⟩=>⟨n,lf vs (tB (tA c) t),st,b,rl⟩
def So:Nat->List aj->ia
 | _,[]=>[]
 | n,_::r=>some n::So (n+1) r
theorem SW.loop (hG:fD G) (R:List (Nat × af)) {α:Type} {c:Code} {Q:X->aD->Prop} (hc:bR R c=true) (vs:α->List (Nat × PV)) (st:α->List aj) (μ:α->Nat) (x0:α) (N:Nat) (MG:ia) (h0:fK G.cx MG s (s.head c (vs x0) (st x0)))
  (h:∀ x,Sn (s.head c (vs x) (st x)) (pw G R N c (oW (fun s'=>∃ y π,μ y < μ x/\fK G.cx π s' (s.head c (vs y) (st y))) Q))):SW G (.loop c) Q s :=
 SW.inv hG (fun x=>s.head c (vs x) (st x)) μ (N:=N) hc x0 (dD hG.ok h0) (fun x s'=>∃ y π,μ y < μ x/\fK G.cx π s' (s.head c (vs y) (st y))) (fun x s' ⟨y,π,hy,hs⟩=>⟨y,hy,dD hG.ok hs⟩) fun x=>qv (h x)
def BV:List PV->Nat->TM->(TM->Prop)->Prop
 | [],_,t,k=>k t
 | x::xs,i,t,k=>fc x fun x=>t.nc (some x) 24 i fun t=>BV xs (i+1) t k
def IJ (G:Gx) (s:aD) (r:ResultVar) (q:PV->Prop):Prop:=match r with
 | .tmp t=>aU (s.t.get t) fun x=>(match x with
  | .tup _=>False
  | x=>q x)
 | .cell a t=>aU (s.t.get a) fun x=>nv G s.st t x q
def zE (G:Gx) (s:aD):List ResultVar->(List PV->Prop)->Prop
 | [],q=>q []
 | r::rs,q=>IJ G s r fun x=>zE G s rs fun xs=>q (x::xs)
def E' (G:Gx) (s:aD) (rs:List ResultVar) (q:PV->Prop):Prop:=match rs with
 | [.tmp t]=>aU (s.t.get t) q
 | rs=>zE G s rs fun l=>(match l with
  | [x]=>q x
  | l=>q (.tup l))
def E_:Md->Bool
 | .p=>false
 | _=>true
def Fa (r:PV->(PV->Prop)->Prop):List PV->(List PV->Prop)->Prop
 | [],q=>q []
 | c::cs,q=>r c fun c=>Fa r cs fun cs=>q (c::cs)
def Hb (cx:Ev.Cx) (st:List aj) (base:Nat):Nat->PV->(PV->Prop)->Prop
 | 0,_,_=>False
 | n+1,x,q=>match x with
  | .wref l=>bif Nat.blt l base then q (.wref l) else aU st[l]? fun b=>bif b.live && E_ b.m then (match b.k with
   | .arr=>Fa (Hb cx st base n) b.cs fun cs=>aU (Ev.fI cx b.ty) fun ag=>bif ag || Nat.beq b.size 1 then b.szK fun n=>aU (fW ag n (.stat cs)) fun es=>q (.sl n es) else False
   | .dyn=>q (.sl b.size b.cs)
   | _=>False) else False
  | .agg cs=>Fa (Hb cx st base n) cs fun cs=>q (.agg cs)
  | .tup cs=>Fa (Hb cx st base n) cs fun cs=>q (.tup cs)
  | .clo f cs=>Fa (Hb cx st base n) cs fun cs=>q (.clo f cs)
  | x=>bif x.df.all (fun l=>Nat.blt l base) then q x else False
def zF (base:Nat) (b:aj):Bool:=match b.k with
 | .dyn=>true
 | .mp=>true
 | _=>b.cs.all fun c=>c.df.all fun l=>Nat.blt l base
def BW (G:Gx) (rs:List ResultVar) (base:Nat) (K:PV->List aj->Prop) (x:X) (s:aD):Prop:=match x with
 | .exit _=>False
 | _=>E' G s rs fun r=>Hb G.cx s.st base 8 r fun r=>bif (s.st.take base).all (zF base) then zD (s.st.take base) fun S=>∃ r',qq r r'/\K r' S else False
def Sp (G:Gx) (R:List (Nat × af)) (N:Nat) (fn:Func) (c:Code) (args:List PV) (S:List aj) (rl:List Nat) (K:PV->List aj->Prop):Prop :=
 bif Nat.ble args.length fn.ntmps && Nat.ble fn.ntmps 16777215 && !(fn.name == "runtime.NumGoroutine") then
  lH S 0 fun b=>BV args 0 .nil fun t=>pw G R N c (BW G fn.results.toList b K) ⟨fn.ntmps,t,S,b,rl⟩ else False
section
variable {w w':World} {I I':Nat->Prop} {β ay:an} {G:Gx} {s:aD} {a:Act} {st dY:List aj}
theorem mO:∀ {xs:List PV} {i:Nat} {t:TM} {k:TM->Prop},BV xs i t k->∃ t',k t'/\∀ n x,t'.get n=some x->(∃ j,n=i+j/\xs[j]?=some x)\/t.get n=some x
 | [],i,t,k,h=>⟨t,h,fun n x hx=>.inr hx⟩
 | x::xs,i,t,k,h=>by
  obtain⟨t1,h1,ht1⟩:=TM.oN (HJ h)
  obtain⟨t',hk,Bc⟩:=mO h1
  refine⟨t',hk,fun n y hy=>?_⟩
  rcases Bc n y hy with ⟨j,hj,hx⟩|hy
  ·exact .inl ⟨j+1,by omega,by simpa using hx⟩
  ·rw[ht1] at hy
   split at hy
   ·rename_i hn
    cases hy
    exact .inl ⟨0,by omega,rfl⟩
   ·exact .inr hy
def Np (a:Act) (rv:ResultVar):Sem Value:=match rv with
 | .tmp t=>pure (a.tmps.getD t Go.undef)
 | .cell b t=>do loadVar t (← asAddr (a.tmps.getD b Go.undef))
theorem IK (hG:fD G) (hR:Rel G I β s a w) {r:ResultVar} {q:PV->Prop} (h:IJ G s r q):∃ x v,q x/\x.Is w I β v/\(Np a r).run G.cx.P w = .ok v w:=by
 cases r with
 | tmp t =>
  obtain⟨x,hx,h⟩:=ao h
  obtain⟨v,hv,hi⟩:=hR.get t x hx
  have hq:q x:=by
   split at h
   ·exact h.elim
   ·exact h
  exact⟨x,v,hq,hi,by simp[Np,hv]⟩
 | cell b t =>
  obtain⟨x,hx,h⟩:=ao h
  obtain⟨v,hv,hi⟩:=hR.get b x hx
  obtain⟨z,r,g,hz,RJ,_,bp⟩:=jm hG.ok hR.heap hR.au h hi
  have bp:=bp w rfl
  refine⟨z,r,hz,RJ,?_⟩
  have hptr:∃ ad,v = .pointer (some ad):=by
   unfold nv at h
   split at h<;>try simp only[PV.Is] at hi
   ·obtain⟨_,_,_,_,_,rfl⟩:=hi; exact⟨_,rfl⟩
   ·obtain⟨_,_,_,_,_,rfl⟩:=hi; exact⟨_,rfl⟩
   ·obtain⟨_,_,_,_,_,rfl⟩:=hi; exact⟨_,rfl⟩
   ·obtain⟨_,_,rfl,_⟩:=hi; exact⟨_,rfl⟩
   ·exact⟨_,hi⟩
   ·exact⟨_,hi⟩
   ·exact h.elim
  obtain⟨ad,rfl⟩:=hptr
  simp only[Instr.loadAt,Instr.sureAddr,Sem.run_bind,Sem.run_pure,Result.andThen_ok] at bp
  simp[Np,hv,asAddr,bp]
theorem zG (hG:fD G) (hR:Rel G I β s a w):∀ {rs:List ResultVar} {q:List PV->Prop},zE G s rs q->∃ xs vs,q xs/\bg w I xs β vs/\(rs.mapM (Np a)).run G.cx.P w = .ok vs w
 | [],q,h=>⟨[],[],h,by simp only[bg],rfl⟩
 | r::rs,q,h=>by
  obtain⟨x,v,h,hx,hr⟩:=IK hG hR h
  obtain⟨xs,vs,h,qW,hrs⟩:=zG hG hR h
  exact⟨x::xs,v::vs,h,by simp only[bg]; exact⟨hx,qW⟩,by simp[List.mapM_cons,hr,hrs]⟩
theorem xS (hG:fD G) (hR:Rel G I β s a w) {fn:Func} {q:PV->Prop} (h:E' G s fn.results.toList q):∃ x v,q x/\x.Is w I β v/\(results fn a.tmps).run G.cx.P w = .ok v w:=by
 have key:∀ {q':List PV->Prop},zE G s fn.results.toList q'->(∀ l,q' l->match l with
   | [x]=>q x
   | l=>q (.tup l))->∃ x v,q x/\x.Is w I β v/\(results fn a.tmps).run G.cx.P w = .ok v w:=by
  intro q' h hq
  obtain⟨xs,vs,h,qW,bp⟩:=zG hG hR h
  have xT:(results fn a.tmps).run G.cx.P w = .ok (if h:vs.toArray.size=1 then vs.toArray[0] else .tuple vs.toArray) w:=by
   unfold results
   rw[Array.mapM_eq_mapM_toList]
   simp only[Sem.run_bind,Sem.run_map]
   erw [bp]
   rfl
  have hq:=hq xs h
  match xs,vs,qW,hq,xT with
  | [],[],_,hq,xT=>exact⟨_,_,hq,by simp only[PV.Is]; exact⟨#[],rfl,by simp only[bg]⟩,xT⟩
  | [x],[v],qW,hq,xT=>exact⟨x,v,hq,by simp only[bg] at qW; exact qW.1,xT⟩
  | x::x'::xs,v::v'::vs,qW,hq,xT=>exact⟨_,_,hq,by simp only[PV.Is]; exact⟨_,rfl,by simpa using qW⟩,by rw[xT,dif_neg (by simp)]⟩
  | [],_::_,qW,_,_=>simp only[bg] at qW
  | _::_,[],qW,_,_=>simp only[bg] at qW
  | [_],_::_::_,qW,_,_=>simp[bg] at qW
  | _::_::_,[_],qW,_,_=>simp[bg] at qW
 unfold E' at h
 split at h
 ·rename_i t heq
  obtain⟨x,hx,h⟩:=ao h
  obtain⟨v,hv,hi⟩:=hR.get t x hx
  refine⟨x,v,h,hi,?_⟩
  have BC:fn.results = #[.tmp t]:=by rw[← Array.toList_inj]; simpa using heq
  simp[results,BC,hv]
 ·refine key h fun l hl=>?_
  split
  ·exact hl
  ·rename_i cN
   split at hl
   ·rename_i x; exact absurd rfl (cN x)
   ·exact hl
end
end
section
variable {w w':World} {I I':Nat->Prop} {β ay:an} {G:Gx} {s:aD} {a:Act} {st dY:List aj}
def ni (I:Nat->Prop) (β:an) (st:List aj) (base:Nat) (g:Nat):Prop:=I g\/∃ l b p o,base<=l/\st[l]?=some b/\b.live=true/\b.m = .w/\β l=some p/\p.a=some (g,o)
def rO (β:an) (base:Nat):an:=fun l=>if l < base then β l else none
theorem tC {x:PV} {base:Nat} {v:Value} (h:x.df.all (fun l=>Nat.blt l base)=true) (hx:x.Is w I β v) (hI:∀ g,I g->I' g):x.Is w I' (rO β base) v :=
 PV.Is.mono hI (fun _ _=>rfl) x β _ v (fun l p hl hp=>by
  rw[List.all_eq_true] at h
  unfold rO
  rw[if_pos (show l < base from Nat.le_of_ble_eq_true (h l hl))]; exact hp) hx
theorem ph {r:PV->(PV->Prop)->Prop} (hr:∀ x q v,r x q->x.Is w I β v->∃ y,q y/\y.Is w I' ay v):∀ {cs:List PV} {vs:List Value} {q:List PV->Prop},Fa r cs q->bg w I cs β vs->∃ ds,q ds/\bg w I' ds ay vs
 | [],[],q,h,_=>⟨[],h,by simp only[bg]⟩
 | c::cs,v::vs,q,h,hx=>by
  simp only[bg] at hx
  obtain⟨y,h,hy⟩:=hr c _ v h hx.1
  obtain⟨ds,h,hd⟩:=ph hr h hx.2
  exact⟨y::ds,h,by simp only[bg]; exact⟨hy,hd⟩⟩
 | [],_::_,_,_,hx=>by simp only[bg] at hx
 | _::_,[],_,_,hx=>by simp only[bg] at hx
theorem IL {cx:Ev.Cx} (hh:aC I β st w) {base:Nat}:∀ (n:Nat) (x:PV) (q:PV->Prop) (v:Value),Hb cx st base n x q->x.Is w I β v->∃ y,q y/\y.Is w (ni I β st base) (rO β base) v
 | 0,_,_,_,h,_=>h.elim
 | n+1,x,q,v,h,hx=>by
  have ih:=IL (cx:=cx) hh (base:=base) n
  have hI:∀ g,I g->ni I β st base g:=fun g h=>.inl h
  unfold Hb at h
  split at h
  ·rename_i l
   cases hl:Nat.blt l base
   case true =>
    rw[hl] at h
    exact⟨_,h,tC (by simp only[PV.df,List.all_cons,List.all_nil,hl,Bool.and_true]) hx hI⟩
   case false =>
    rw[hl] at h
    have DB:base<=l:=by
     rcases Nat.lt_or_ge l base with h'|h'
     ·have:Nat.blt l base=true:=by unfold Nat.blt; exact Nat.ble_eq_true_of_le h'
      rw[this] at hl; cases hl
     ·exact h'
    obtain⟨b,hb,h⟩:=ao h
    obtain⟨hc,h⟩:=ba h
    simp only[Bool.and_eq_true] at hc
    simp only[PV.Is] at hx
    obtain⟨p,hp,rfl⟩:=hx
    have rP:∀ {g o:Nat} {fr:Nat × Nat},p.a=some (g,o)->Own I β st l g fr b->ni I β st base g:=fun {g o fr} ha ho=>by
     cases hm:b.m with
     | w=>exact .inr ⟨l,b,p,o,DB,hb,hc.1,hm,hp,ha⟩
     | p=>rw[hm] at hc; cases hc.2
     | r=>exact .inl (ho.2 hm)
    split at h
    ·rename_i hk
     obtain⟨g,arr,fr,ha,hw,gU,lQ,dh,hlen,hle,oF,has,fS⟩:=eP hh hb hc.1 hk hp
     have eL:p.len*b.size<=arr.size:=by rw[has]; exact Nat.mul_le_mul_right _ hle
     have mI:(arr.toList.take (p.len*b.size)).length=p.len*b.size:=by rw[List.length_take,Array.length_toList]; omega
     have iP:bg w I b.cs β (arr.toList.take (p.len*b.size)):=bg.of (by rw[mI,hlen]) fun i c hc=>by
      obtain⟨u,hu,hi,_⟩:=lQ i c hc
      have sL:i < p.len*b.size:=by rw[← hlen]; exact (List.getElem?_eq_some_iff.1 hc).1
      exact⟨u,by rw[List.getElem?_take,if_pos sL]; simpa using hu,hi⟩
     obtain⟨ds,h,Nq⟩:=ph (fun x q v=>ih x q v) h iP
     obtain⟨ag,Dd,h⟩:=ao h
     obtain⟨zC,h⟩:=ba h
     rw[aj.w8] at h
     obtain⟨es,oh,h⟩:=ao h
     simp only[Bool.or_eq_true] at zC
     have ja:oJ w (ni I β st base) (rO β base) b.size (.stat ds) (arr.toList.take (p.len*b.size)):=by
      refine⟨by rw[Nq.length],fun j c hj=>?_⟩
      obtain⟨u,hu,hi⟩:=Nq.get hj
      refine⟨u,hu,hi,?_⟩
      have sL:j < b.cs.length:=by rw[iP.length,← Nq.length]; exact (List.getElem?_eq_some_iff.1 hj).1
      obtain⟨u2,Sq,_,h1⟩:=lQ j _ (List.getElem?_eq_getElem sL)
      rw[List.getElem?_take] at hu
      split at hu
      ·have:arr[0+j]?=some u:=by simpa using hu
       rw[this] at Sq; cases Sq; exact h1
      ·cases hu
     obtain⟨e1,e2⟩:=fZ fS (zC.imp id Nat.eq_of_beq_eq_true) oh ja mI
     have Fb:ca w (ni I β st base) es b.size g 0:=e2.at (fun j v hj=>by
      have:=oK gU 0 (p.len*b.size) j v (by simpa using hj)
      simpa using this) (fun _ h=>h) (fun _ _=>rfl)
     refine⟨_,h,?_⟩
     simp only[PV.Is]
     refine⟨some ⟨g,0,none⟩,p.cap,by rw[hw,e1],by omega,by omega,fun g' o' e=>by cases e; exact Fb,fun _=>⟨g,0,rfl,rP ha dh,fS⟩⟩
    ·rename_i hk
     obtain⟨fS,hlen,hle,oF,oE⟩:=dO hh hb hc.1 hk hp
     refine⟨_,h,?_⟩
     simp only[PV.Is]
     rcases oE with ⟨ha,rZ,hw⟩|⟨g,arr,fr,ha,hw,gU,oh,dh,has⟩
     ·have:b.cs = []:=List.eq_nil_of_length_eq_zero (by omega)
      rw[this,hw]
      exact⟨none,0,rfl,Nat.le_refl _,Nat.zero_le _,(fun _ _ e=>by cases e),fun hn=>absurd rfl hn⟩
     ·exact⟨some ⟨g,0,none⟩,p.cap,by rw[hw,hlen],by omega,by omega,(fun g' o' e=>by cases e; exact ca.mono hI (fun _ _=>rfl) _ _ _ _ rfl oh),fun _=>⟨g,0,rfl,rP ha dh,fS⟩⟩
    ·exact h.elim
  ·simp only[PV.Is] at hx
   obtain⟨vs,rfl,hx⟩:=hx
   obtain⟨ds,h,hd⟩:=ph (fun x q v=>ih x q v) h hx
   exact⟨_,h,by simp only[PV.Is]; exact⟨vs,rfl,hd⟩⟩
  ·simp only[PV.Is] at hx
   obtain⟨vs,rfl,hx⟩:=hx
   obtain⟨ds,h,hd⟩:=ph (fun x q v=>ih x q v) h hx
   exact⟨_,h,by simp only[PV.Is]; exact⟨vs,rfl,hd⟩⟩
  ·simp only[PV.Is] at hx
   obtain⟨vs,rfl,hx⟩:=hx
   obtain⟨ds,h,hd⟩:=ph (fun x q v=>ih x q v) h hx
   exact⟨_,h,by simp only[PV.Is]; exact⟨vs,rfl,hd⟩⟩
  ·obtain⟨hu,h⟩:=ba h
   exact⟨_,h,tC hu hx hI⟩
theorem Spec.intro {f:FuncId} {args:List PV} {S:List aj} {rl:List Nat} {K:PV->List aj->Prop} (he:Ev.gz G.cx.P f) (h:∀ I β w vals,aC I β S w->cE G I w->bg w I args β vals ->
  Calls G.cx.P f vals.toArray w fun e w'=>∃ v r S' I' ay,e = .returned v/\K r S'/\r.Is w' I' ay v/\aC I' ay S' w'/\cE G I' w'/\Ext I β S w I' ay S' w'/\S.length<=S'.length/\∀ l,l < S.length->l ∉ rl->ay l=β l):Spec G f args S rl K:=by
 unfold Spec; exact⟨he,h⟩
theorem Spec.run {f:FuncId} {args:List PV} {S:List aj} {rl:List Nat} {K:PV->List aj->Prop} (h:Spec G f args S rl K):Ev.gz G.cx.P f/\∀ I β w vals,aC I β S w->cE G I w->bg w I args β vals ->
  Calls G.cx.P f vals.toArray w fun e w'=>∃ v r S' I' ay,e = .returned v/\K r S'/\r.Is w' I' ay v/\aC I' ay S' w'/\cE G I' w'/\Ext I β S w I' ay S' w'/\S.length<=S'.length/\∀ l,l < S.length->l ∉ rl->ay l=β l:=by
 unfold Spec at h; exact h
theorem Spec.mono {f:FuncId} {args:List PV} {S:List aj} {rl:List Nat} {K K':PV->List aj->Prop} (h:Spec G f args S rl K) (hK:∀ r S',K r S'->K' r S'):Spec G f args S rl K' :=
 Spec.intro h.run.1 fun I β w vals h1 h2 h3=>(h.run.2 I β w vals h1 h2 h3).mono fun e w' ⟨v,r,S',I',ay,h1,h2,h3⟩=>⟨v,r,S',I',ay,h1,hK r S' h2,h3⟩
theorem tD (hG:fD G) {fn:Func} {a':Act} {s' s0:aD} {S:List aj} {rl:List Nat} {K:PV->List aj->Prop} (QM:s0.st=S) (gE:s0.base=S.length) (Nr:s0.rl=rl) (br:Rel G I' ay s' a' w') (hg:aG I β s0 w I' ay s' w') (hq:BW G fn.results.toList S.length K .cA s'):∃ v,(results fn a'.tmps).run G.cx.P w' = .ok v w'/\∃ v',∃ r S' I' ay,Ending.returned v = .returned v'/\K r S'/\r.Is w' I' ay v'/\aC I' ay S' w'/\cE G I' w'/\Ext I β S w I' ay S' w'/\S.length<=S'.length/\∀ l,l < S.length->l ∉ rl->ay l=β l:=by
 obtain⟨r,v,hq,hr,bp⟩:=xS hG br hq
 obtain⟨y,hq,hy⟩:=IL br.heap 8 r _ v hq hr
 obtain⟨dU,hq⟩:=ba hq
 obtain⟨r',Zd,hK⟩:=pg hq
 rw[List.all_eq_true] at dU
 have vK:s'.base=S.length:=hg.base.trans gE
 have hlen:S.length<=s'.st.length:=by have:=br.base; rw[vK] at this; exact this
 have hI:∀ g,I' g->ni I' ay s'.st S.length g:=fun g h=>.inl h
 have ig:∀ (l:Nat) (b:aj),(s'.st.take S.length)[l]?=some b->l < S.length/\s'.st[l]?=some b:=fun l b hb=>by
  rw[List.getElem?_take] at hb
  split at hb
  ·exact⟨‹_›,hb⟩
  ·cases hb
 have hHe:aC (ni I' ay s'.st S.length) (rO ay S.length) (s'.st.take S.length) w':=by
  refine⟨fun l hl=>?_,fun l b hb az=>?_⟩
  ·unfold rO
   rw[if_neg (by simp at hl; omega)]
  ·obtain⟨hl,cO⟩:=ig l b hb
   have DB:=dU b (List.mem_of_getElem? hb)
   obtain⟨p,hp,hk⟩:=br.heap.dX l b cO az
   have own:∀ {g:Nat} {o:Nat} {fr:Nat × Nat},p.a=some (g,o)->Own I' ay s'.st l g fr b->Own (ni I' ay s'.st S.length) (rO ay S.length) (s'.st.take S.length) l g fr b:=fun {g o fr} ha ho=>by
    refine⟨fun hr=>?_,fun hr=>hI g (ho.2 hr)⟩
    obtain⟨h1,h2,h3⟩:=ho.1 hr
    refine⟨h1,fun hE=>?_,fun l2 b2 cN eR bC p2 g2 o2 iX gX=>?_⟩
    ·rcases hE with hE|⟨l2,b2,p2,o2,k1,k2,k3,_,k5,k6⟩
     ·exact h2 hE
     ·exact h3 l2 b2 (by omega) k2 k3 p2 g o2 k5 k6 rfl
    ·obtain⟨Sr,dS⟩:=ig l2 b2 eR
     unfold rO at iX
     rw[if_pos Sr] at iX
     exact h3 l2 b2 cN dS bC p2 g2 o2 iX gX
   have cells:b.k.vp=true->∀ {arr:Array Value} {o:Nat},bj w' I' ay b.cs arr o->bj w' (ni I' ay s'.st S.length) (rO ay S.length) b.cs arr o:=fun hk {arr o} hc i c hi=>by
    obtain⟨u,hu,QN,h1⟩:=hc i c hi
    refine⟨u,hu,tC ?_ QN hI,h1⟩
    unfold zF at DB
    cases cm:b.k with
    | dyn=>rw[cm] at hk; cases hk
    | mp=>rw[cm] at hk; cases hk
    | mx=>rw[cm] at DB; rw[List.all_eq_true] at DB; exact DB c (List.mem_of_getElem? hi)
    | loc=>rw[cm] at DB; rw[List.all_eq_true] at DB; exact DB c (List.mem_of_getElem? hi)
    | arr=>rw[cm] at DB; rw[List.all_eq_true] at DB; exact DB c (List.mem_of_getElem? hi)
   refine⟨p,by unfold rO; rw[if_pos hl]; exact hp,?_⟩
   split at hk
   ·rename_i cm
    obtain⟨g,o,arr,ty,fr,h1,h2,h3,ho⟩:=hk
    exact⟨g,o,arr,ty,fr,h1,h2,cells (by rw[cm]; decide) h3,own h1 ho⟩
   ·rename_i cm
    obtain⟨g,arr,fr,h1,h2,h3,ho,h4⟩:=hk
    exact⟨g,arr,fr,h1,h2,cells (by rw[cm]; decide) h3,own h1 ho,h4⟩
   ·obtain⟨h1,hk⟩:=hk
    refine⟨h1,?_⟩
    rcases hk with h|⟨g,arr,fr,h2,h3,h4,ho,h5⟩
    ·exact .inl h
    ·exact .inr ⟨g,arr,fr,h2,h3,ca.mono hI (fun _ _=>rfl) _ _ _ _ rfl h4,own h2 ho,h5⟩
   ·obtain⟨g,h1,h2,ho⟩:=hk
    exact⟨g,h1,h2,own h1 ho⟩
   ·rename_i cm
    obtain⟨g,es,ck,h1,h2,h3,ho,h4⟩:=hk
    exact⟨g,es,ck,h1,h2,cells (by rw[cm]; decide) h3,own h1 ho,h4⟩
 have bZ:∀ g,ni I' ay s'.st S.length g->g < w'.heap.size:=fun g hg=>by
  rcases hg with hg|⟨l,b,p,o,_,k2,k3,_,k5,k6⟩
  ·exact br.au.au g hg
  ·exact br.heap.cH ⟨l,b,p,o,k2,k3,k5,k6⟩
 have hMe:cE G (ni I' ay s'.st S.length) w':=⟨bZ,fun g cs hgc=>by
  obtain⟨h1,h2⟩:=br.au.lV g cs hgc
  exact⟨hI g h1,cL.mono hI (fun _ _=>rfl) cs g 0 rfl h2⟩,br.au.row⟩
 have hE:=hg.ext
 rw[QM] at hE
 refine⟨v,bp,v,r',_,_,_,rfl,hK,Zd _ _ _ _ hy,hHe,hMe,⟨hE.os,hE.tape,hE.output,hE.size,hE.block,fun g uU ⟨l,b,p,o,h1,h2,h3,h4,h5⟩=>?_,fun g hg=>hI g (hE.au g hg),fun g uU rP=>?_⟩,by rw[List.length_take]; omega,fun l hl hr=>?_⟩
 ·obtain⟨hl,hb⟩:=ig l b h1
  unfold rO at h4
  rw[if_pos hl] at h4
  exact hE.wr g uU ⟨l,b,p,o,hb,h2,h3,h4,h5⟩
 ·rcases rP with rP|⟨l,b,p,o,_,k2,k3,k4,k5,k6⟩
  ·exact hE.new g uU rP
  ·exact .inr (hE.wr g uU ⟨l,b,p,o,k2,k3,k4,k5,k6⟩)
 ·unfold rO
  rw[if_pos hl]
  exact hg.low l (by rw[gE]; exact hl) (by rw[Nr]; exact hr)
theorem Spec.enter (hG:fD G) (R:List (Nat × af)) {f:FuncId} {fn:Func} {c:Code} {args:List PV} {S:List aj} {rl:List Nat} {K:PV->List aj->Prop} (N:Nat) (hf:G.cx.P.funcs[f]?=some fn) (hb:fn.body=some c) (j3:bR R c=true) (h:Sp G R N fn c args S rl K) (hd:G.Bn = []:=by rfl):Spec G f args S rl K:=by
 obtain⟨hc,h⟩:=ba h
 simp only[Bool.and_eq_true,Bool.not_eq_true'] at hc
 obtain⟨⟨hle,jK⟩,mg⟩:=hc
 have hle:=Nat.le_of_ble_eq_true hle
 have jK:=Nat.le_of_ble_eq_true jK
 replace h:=gC h
 rw[Nat.zero_add] at h
 obtain⟨t,h,ht⟩:=mO h
 refine Spec.intro (Ev.gi hf hb mg) fun I β w vals hH hM hA=>calls_of_wp hf hb ?_
 have ZD:=hA.length
 have hR:Rel G I β ⟨fn.ntmps,t,S,S.length,rl⟩ { tmps:=vals.toArray++Array.replicate (fn.ntmps - vals.toArray.size) Go.undef,defers:=[] } w:=by
  refine⟨jK,hd.symm,by simp; omega,Nat.le_refl _,fun n x hx=>?_,hH,hM⟩
  rcases ht n x hx with ⟨j,hj,hx⟩|hx
  ·rw[Nat.zero_add] at hj
   subst hj
   obtain⟨v,hv,hi⟩:=hA.get hx
   have bZ:n < vals.length:=(List.getElem?_eq_some_iff.1 hv).1
   exact⟨v,by rw[Array.getElem?_append_left (by simpa using bZ)]; simpa using hv,hi⟩
  ·cases hx
 refine wp_mono ((er hG N c _ _ j3 h).run hR) fun e a' w' hp=>?_
 obtain⟨x,s',I',ay,rfl,hq,br,hg⟩:=hp.goes
 have kT:BW G fn.results.toList S.length K .cA s'->_:=fun hq=>And.intro (br.defers.trans hd) (tD hG rfl rfl rfl br hg hq)
 cases x with
 | cA=>exact kT hq
 | ret=>exact kT hq
 | exit id=>exact hq.elim
end
section
variable {w w':World} {I I':Nat->Prop} {β ay:an} {G:Gx} {s:aD} {a:Act} {st dY:List aj}
def al (G:Gx) (f:FuncId) (args:List PV) (r:PV):Prop:=Spec G f args [] [] fun r' _=>r'=r
theorem kr {x:PV} {v:Value} (h:x.df = []) (hx:x.Is w I β v):x.Is w I ay v:=PV.Is.mono (fun _ h=>h) (fun _ _=>rfl) x β ay v (fun l p hl=>by rw[h] at hl; cases hl) hx
theorem jB {xs:List PV} {vs:List Value} (h:dp xs = []) (hx:bg w I xs β vs):bg w I xs ay vs:=bg.mono (fun _ h=>h) (fun _ _=>rfl) xs β ay vs (fun l p hl=>by rw[h] at hl; cases hl) hx
theorem al.use {f:FuncId} {args args':List PV} {r:PV} {S:List aj} {K:PV->List aj->Prop} (h:al G f args' r) (hle:oX ma args args') (hu:dp args' = []) (hr:r.df = []) (hK:K r S):Spec G f args S [] K:=by
 refine Spec.intro h.run.1 fun I β w vals hH hM hA=>?_
 have h0:aC I (fun _=>none) ([]:List aj) w:=⟨fun _ _=>rfl,fun l b hl=>by simp at hl⟩
 refine (h.run.2 I (fun _=>none) w vals h0 hM (jB hu (jv (fun _ _=>fp) hle hA))).mono fun e w' ⟨v,r',S',I',ay,he,sJ,hi,_,kN,hE,_,_⟩=>?_
 subst sJ
 have BI:∀ g,¬ Wr (fun _=>none) ([]:List aj) g:=fun g ⟨l,b,p,o,h1,_⟩=>by simp at h1
 have hold:∀ g,g < w.heap.size->w'.heap[g]?=w.heap[g]?:=fun g hg=>hE.block g hg (BI g)
 have DC:∀ g,g < w.heap.size->I' g->I g:=fun g hg h=>(hE.new g hg h).elim id fun h=>absurd h (BI g)
 refine⟨v,r',S,I',β,he,hK,kr hr hi,⟨hH.p8,fun l b hl az=>?_⟩,kN,⟨hE.os,hE.tape,hE.output,hE.size,fun g hg _=>hold g hg,fun g _ h=>h,hE.au,fun g hg h=>.inl (DC g hg h)⟩,Nat.le_refl _,fun _ _ _=>rfl⟩
 have hb:=hH.dX l b hl az
 refine hb.mono hE.au (fun g hg=>hold g (hM.au g hg)) (fun _ _ h=>h) fun p g o hp ha=>?_
 obtain⟨arr,ty,fr,hh,ho⟩:=hb.place hp ha
 have bZ:=aV hh
 exact⟨hold g bZ,fun hr=>⟨fun hI=>(ho.1 hr).2.1 (DC g bZ hI),(ho.1 hr).2.2⟩⟩
theorem al.u {P:Nat->Prop} {f:FuncId} {args args':List PV} {r:PV} {S:List aj} {K:List Nat->PV->List aj->Prop} (h:al G f args' r) (hK:K [] r S) (hle:oX ma args args':=by repeat' first|exact trivial|exact rfl|exact Iff.rfl|exact Or.inl rfl|refine And.intro ?_ ?_) (hu:dp args' = []:=by rfl) (hr:r.df = []:=by rfl):∃ rl:List Nat,(∀ l,l∈rl->P l)/\Spec G f args S rl (K rl):=⟨[],fun _ hl=>(by cases hl),h.use hle hu hr hK⟩
theorem Spec.args {f:FuncId} {args args':List PV} {S:List aj} {rl:List Nat} {K:PV->List aj->Prop} (h:Spec G f args' S rl K) (hle:oX ma args args'):Spec G f args S rl K :=
 Spec.intro h.run.1 fun I β w vals hH hM hA=>h.run.2 I β w vals hH hM (jv (fun _ _=>fp) hle hA)
theorem aF {r r0:PV} (h:ma r r0):∃ r',qq r r'/\r'=r0:=⟨r0,fp h,rfl⟩
theorem rA {r r0:PV} (h:ma r r0:=by repeat' first|exact trivial|exact rfl|exact Iff.rfl|exact Or.inl rfl|refine And.intro ?_ ?_):∃ r',qq r r'/\r'=r0:=aF h
theorem bf {z:Int} (h:-9223372036854775808<=z/\z<=9223372036854775807):uP .i64 z:=by unfold uP Ev.lG Ev.kP; simp only[IntKind.signed,IntKind.bits]; simpa using h
theorem ah {z:Int} (h:0<=z/\z<=4294967295):uP .u32 z:=by unfold uP Ev.lG Ev.kP; simp only[IntKind.signed,IntKind.bits]; simpa using h
theorem gM {z:Int} (h:0<=z/\z<=18446744073709551615):uP .u64 z:=by unfold uP Ev.lG Ev.kP; simp only[IntKind.signed,IntKind.bits]; simpa using h
theorem j7 {z:Int} (h:0<=z/\z<=255):uP .u8 z:=by unfold uP Ev.lG Ev.kP; simp only[IntKind.signed,IntKind.bits]; simpa using h
theorem li {z:Int} {P Q:Prop} (hP:P) (h:-9223372036854775808<=z/\z<=9223372036854775807:=by omega):(uP .i64 z/\P)\/Q:=.inl ⟨bf h,hP⟩
theorem lu {z:Int} {P Q:Prop} (hP:P) (h:0<=z/\z<=4294967295:=by omega):(uP .u32 z/\P)\/Q:=.inl ⟨ah h,hP⟩
end
open Go
noncomputable def bt:List (Nat × Nat):=[(3,Tryz.t3.bytes),(121,Tryz.t121.bytes),(135,Tryz.t135.bytes),(366,Tryz.t366.bytes),(23,Tryz.t23.bytes),(76,Tryz.t76.bytes),(215,Tryz.t215.bytes),(9,Tryz.t9.bytes),(104,Tryz.t104.bytes),(119,Tryz.t119.bytes),(213,Tryz.t213.bytes),(29,Tryz.t29.bytes),(133,Tryz.t133.bytes),(107,Tryz.t107.bytes),(278,Tryz.t278.bytes),(97,Tryz.t97.bytes),(240,Tryz.t240.bytes),(446,Tryz.t446.bytes),(276,Tryz.t276.bytes),(229,Tryz.t229.bytes),(94,Tryz.t94.bytes),(127,Tryz.t127.bytes),(142,Tryz.t142.bytes),(22,Tryz.t22.bytes),(494,Tryz.t494.bytes),(246,Tryz.t246.bytes),(166,Tryz.t166.bytes),(102,Tryz.t102.bytes),(217,Tryz.t217.bytes),(105,Tryz.t105.bytes),(26,Tryz.t26.bytes),(79,Tryz.t79.bytes),(109,Tryz.t109.bytes),(176,Tryz.t176.bytes),(231,Tryz.t231.bytes),(198,Tryz.t198.bytes),(382,Tryz.t382.bytes),(236,Tryz.t236.bytes),(442,Tryz.t442.bytes),(315,Tryz.t315.bytes),(95,Tryz.t95.bytes),(221,Tryz.t221.bytes),(4,Tryz.t4.bytes),(93,Tryz.t93.bytes),(65,Tryz.t65.bytes),(321,Tryz.t321.bytes),(91,Tryz.t91.bytes),(101,Tryz.t101.bytes),(72,Tryz.t72.bytes),(193,Tryz.t193.bytes),(70,Tryz.t70.bytes),(310,Tryz.t310.bytes),(313,Tryz.t313.bytes),(157,Tryz.t157.bytes),(238,Tryz.t238.bytes),(48,Tryz.t48.bytes),(5,Tryz.t5.bytes),(67,Tryz.t67.bytes),(195,Tryz.t195.bytes),(274,Tryz.t274.bytes),(224,Tryz.t224.bytes),(155,Tryz.t155.bytes),(60,Tryz.t60.bytes),(51,Tryz.t51.bytes),(211,Tryz.t211.bytes),(301,Tryz.t301.bytes),(55,Tryz.t55.bytes),(88,Tryz.t88.bytes),(386,Tryz.t386.bytes),(345,Tryz.t345.bytes),(139,Tryz.t139.bytes),(41,Tryz.t41.bytes),(444,Tryz.t444.bytes),(100,Tryz.t100.bytes),(52,Tryz.t52.bytes),(38,Tryz.t38.bytes),(81,Tryz.t81.bytes),(99,Tryz.t99.bytes),(168,Tryz.t168.bytes),(497,Tryz.t497.bytes),(243,Tryz.t243.bytes),(58,Tryz.t58.bytes),(443,Tryz.t443.bytes),(452,Tryz.t452.bytes),(311,Tryz.t311.bytes),(234,Tryz.t234.bytes),(456,Tryz.t456.bytes),(398,Tryz.t398.bytes),(24,Tryz.t24.bytes),(46,Tryz.t46.bytes),(440,Tryz.t440.bytes),(28,Tryz.t28.bytes),(78,Tryz.t78.bytes),(190,Tryz.t190.bytes),(140,Tryz.t140.bytes),(180,Tryz.t180.bytes),(331,Tryz.t331.bytes),(439,Tryz.t439.bytes),(242,Tryz.t242.bytes),(272,Tryz.t272.bytes),(63,Tryz.t63.bytes),(75,Tryz.t75.bytes),(306,Tryz.t306.bytes),(327,Tryz.t327.bytes),(32,Tryz.t32.bytes),(324,Tryz.t324.bytes),(507,Tryz.t507.bytes),(53,Tryz.t53.bytes),(364,Tryz.t364.bytes),(292,Tryz.t292.bytes),(520,Tryz.t520.bytes),(502,Tryz.t502.bytes),(405,Tryz.t405.bytes),(145,Tryz.t145.bytes),(409,Tryz.t409.bytes),(413,Tryz.t413.bytes),(415,Tryz.t415.bytes),(515,Tryz.t515.bytes),(293,Tryz.t293.bytes),(521,Tryz.t521.bytes),(503,Tryz.t503.bytes),(384,Tryz.t384.bytes),(389,Tryz.t389.bytes),(532,Tryz.t532.bytes),(465,Tryz.t465.bytes),(466,Tryz.t466.bytes),(144,Tryz.t144.bytes),(416,Tryz.t416.bytes),(516,Tryz.t516.bytes),(524,Tryz.t524.bytes),(2,Tryz.t2.bytes),(357,Tryz.t357.bytes),(399,Tryz.t399.bytes)]
theorem ZE:∀ p∈bt,∃ i,Tryz.prog.info? p.1=some i/\i.bytes=p.2 :=
 Ev.all_cons ⟨Tryz.t3,by kernel_rfl,rfl⟩ <|
 Ev.all_cons ⟨Tryz.t121,by kernel_rfl,rfl⟩ <|
 Ev.all_cons ⟨Tryz.t135,by kernel_rfl,rfl⟩ <|
 Ev.all_cons ⟨Tryz.t366,by kernel_rfl,rfl⟩ <|
 Ev.all_cons ⟨Tryz.t23,by kernel_rfl,rfl⟩ <|
 Ev.all_cons ⟨Tryz.t76,by kernel_rfl,rfl⟩ <|
 Ev.all_cons ⟨Tryz.t215,by kernel_rfl,rfl⟩ <|
 Ev.all_cons ⟨Tryz.t9,by kernel_rfl,rfl⟩ <|
 Ev.all_cons ⟨Tryz.t104,by kernel_rfl,rfl⟩ <|
 Ev.all_cons ⟨Tryz.t119,by kernel_rfl,rfl⟩ <|
 Ev.all_cons ⟨Tryz.t213,by kernel_rfl,rfl⟩ <|
 Ev.all_cons ⟨Tryz.t29,by kernel_rfl,rfl⟩ <|
 Ev.all_cons ⟨Tryz.t133,by kernel_rfl,rfl⟩ <|
 Ev.all_cons ⟨Tryz.t107,by kernel_rfl,rfl⟩ <|
 Ev.all_cons ⟨Tryz.t278,by kernel_rfl,rfl⟩ <|
 Ev.all_cons ⟨Tryz.t97,by kernel_rfl,rfl⟩ <|
 Ev.all_cons ⟨Tryz.t240,by kernel_rfl,rfl⟩ <|
 Ev.all_cons ⟨Tryz.t446,by kernel_rfl,rfl⟩ <|
 Ev.all_cons ⟨Tryz.t276,by kernel_rfl,rfl⟩ <|
 Ev.all_cons ⟨Tryz.t229,by kernel_rfl,rfl⟩ <|
 Ev.all_cons ⟨Tryz.t94,by kernel_rfl,rfl⟩ <|
 Ev.all_cons ⟨Tryz.t127,by kernel_rfl,rfl⟩ <|
 Ev.all_cons ⟨Tryz.t142,by kernel_rfl,rfl⟩ <|
 Ev.all_cons ⟨Tryz.t22,by kernel_rfl,rfl⟩ <|
 Ev.all_cons ⟨Tryz.t494,by kernel_rfl,rfl⟩ <|
 Ev.all_cons ⟨Tryz.t246,by kernel_rfl,rfl⟩ <|
 Ev.all_cons ⟨Tryz.t166,by kernel_rfl,rfl⟩ <|
 Ev.all_cons ⟨Tryz.t102,by kernel_rfl,rfl⟩ <|
 Ev.all_cons ⟨Tryz.t217,by kernel_rfl,rfl⟩ <|
 Ev.all_cons ⟨Tryz.t105,by kernel_rfl,rfl⟩ <|
 Ev.all_cons ⟨Tryz.t26,by kernel_rfl,rfl⟩ <|
 Ev.all_cons ⟨Tryz.t79,by kernel_rfl,rfl⟩ <|
 Ev.all_cons ⟨Tryz.t109,by kernel_rfl,rfl⟩ <|
 Ev.all_cons ⟨Tryz.t176,by kernel_rfl,rfl⟩ <|
 Ev.all_cons ⟨Tryz.t231,by kernel_rfl,rfl⟩ <|
 Ev.all_cons ⟨Tryz.t198,by kernel_rfl,rfl⟩ <|
 Ev.all_cons ⟨Tryz.t382,by kernel_rfl,rfl⟩ <|
 Ev.all_cons ⟨Tryz.t236,by kernel_rfl,rfl⟩ <|
 Ev.all_cons ⟨Tryz.t442,by kernel_rfl,rfl⟩ <|
 Ev.all_cons ⟨Tryz.t315,by kernel_rfl,rfl⟩ <|
 Ev.all_cons ⟨Tryz.t95,by kernel_rfl,rfl⟩ <|
 Ev.all_cons ⟨Tryz.t221,by kernel_rfl,rfl⟩ <|
 Ev.all_cons ⟨Tryz.t4,by kernel_rfl,rfl⟩ <|
 Ev.all_cons ⟨Tryz.t93,by kernel_rfl,rfl⟩ <|
 Ev.all_cons ⟨Tryz.t65,by kernel_rfl,rfl⟩ <|
 Ev.all_cons ⟨Tryz.t321,by kernel_rfl,rfl⟩ <|
 Ev.all_cons ⟨Tryz.t91,by kernel_rfl,rfl⟩ <|
 Ev.all_cons ⟨Tryz.t101,by kernel_rfl,rfl⟩ <|
 Ev.all_cons ⟨Tryz.t72,by kernel_rfl,rfl⟩ <|
 Ev.all_cons ⟨Tryz.t193,by kernel_rfl,rfl⟩ <|
 Ev.all_cons ⟨Tryz.t70,by kernel_rfl,rfl⟩ <|
 Ev.all_cons ⟨Tryz.t310,by kernel_rfl,rfl⟩ <|
 Ev.all_cons ⟨Tryz.t313,by kernel_rfl,rfl⟩ <|
 Ev.all_cons ⟨Tryz.t157,by kernel_rfl,rfl⟩ <|
 Ev.all_cons ⟨Tryz.t238,by kernel_rfl,rfl⟩ <|
 Ev.all_cons ⟨Tryz.t48,by kernel_rfl,rfl⟩ <|
 Ev.all_cons ⟨Tryz.t5,by kernel_rfl,rfl⟩ <|
 Ev.all_cons ⟨Tryz.t67,by kernel_rfl,rfl⟩ <|
 Ev.all_cons ⟨Tryz.t195,by kernel_rfl,rfl⟩ <|
 Ev.all_cons ⟨Tryz.t274,by kernel_rfl,rfl⟩ <|
 Ev.all_cons ⟨Tryz.t224,by kernel_rfl,rfl⟩ <|
 Ev.all_cons ⟨Tryz.t155,by kernel_rfl,rfl⟩ <|
 Ev.all_cons ⟨Tryz.t60,by kernel_rfl,rfl⟩ <|
 Ev.all_cons ⟨Tryz.t51,by kernel_rfl,rfl⟩ <|
 Ev.all_cons ⟨Tryz.t211,by kernel_rfl,rfl⟩ <|
 Ev.all_cons ⟨Tryz.t301,by kernel_rfl,rfl⟩ <|
 Ev.all_cons ⟨Tryz.t55,by kernel_rfl,rfl⟩ <|
 Ev.all_cons ⟨Tryz.t88,by kernel_rfl,rfl⟩ <|
 Ev.all_cons ⟨Tryz.t386,by kernel_rfl,rfl⟩ <|
 Ev.all_cons ⟨Tryz.t345,by kernel_rfl,rfl⟩ <|
 Ev.all_cons ⟨Tryz.t139,by kernel_rfl,rfl⟩ <|
 Ev.all_cons ⟨Tryz.t41,by kernel_rfl,rfl⟩ <|
 Ev.all_cons ⟨Tryz.t444,by kernel_rfl,rfl⟩ <|
 Ev.all_cons ⟨Tryz.t100,by kernel_rfl,rfl⟩ <|
 Ev.all_cons ⟨Tryz.t52,by kernel_rfl,rfl⟩ <|
 Ev.all_cons ⟨Tryz.t38,by kernel_rfl,rfl⟩ <|
 Ev.all_cons ⟨Tryz.t81,by kernel_rfl,rfl⟩ <|
 Ev.all_cons ⟨Tryz.t99,by kernel_rfl,rfl⟩ <|
 Ev.all_cons ⟨Tryz.t168,by kernel_rfl,rfl⟩ <|
 Ev.all_cons ⟨Tryz.t497,by kernel_rfl,rfl⟩ <|
 Ev.all_cons ⟨Tryz.t243,by kernel_rfl,rfl⟩ <|
 Ev.all_cons ⟨Tryz.t58,by kernel_rfl,rfl⟩ <|
 Ev.all_cons ⟨Tryz.t443,by kernel_rfl,rfl⟩ <|
 Ev.all_cons ⟨Tryz.t452,by kernel_rfl,rfl⟩ <|
 Ev.all_cons ⟨Tryz.t311,by kernel_rfl,rfl⟩ <|
 Ev.all_cons ⟨Tryz.t234,by kernel_rfl,rfl⟩ <|
 Ev.all_cons ⟨Tryz.t456,by kernel_rfl,rfl⟩ <|
 Ev.all_cons ⟨Tryz.t398,by kernel_rfl,rfl⟩ <|
 Ev.all_cons ⟨Tryz.t24,by kernel_rfl,rfl⟩ <|
 Ev.all_cons ⟨Tryz.t46,by kernel_rfl,rfl⟩ <|
 Ev.all_cons ⟨Tryz.t440,by kernel_rfl,rfl⟩ <|
 Ev.all_cons ⟨Tryz.t28,by kernel_rfl,rfl⟩ <|
 Ev.all_cons ⟨Tryz.t78,by kernel_rfl,rfl⟩ <|
 Ev.all_cons ⟨Tryz.t190,by kernel_rfl,rfl⟩ <|
 Ev.all_cons ⟨Tryz.t140,by kernel_rfl,rfl⟩ <|
 Ev.all_cons ⟨Tryz.t180,by kernel_rfl,rfl⟩ <|
 Ev.all_cons ⟨Tryz.t331,by kernel_rfl,rfl⟩ <|
 Ev.all_cons ⟨Tryz.t439,by kernel_rfl,rfl⟩ <|
 Ev.all_cons ⟨Tryz.t242,by kernel_rfl,rfl⟩ <|
 Ev.all_cons ⟨Tryz.t272,by kernel_rfl,rfl⟩ <|
 Ev.all_cons ⟨Tryz.t63,by kernel_rfl,rfl⟩ <|
 Ev.all_cons ⟨Tryz.t75,by kernel_rfl,rfl⟩ <|
 Ev.all_cons ⟨Tryz.t306,by kernel_rfl,rfl⟩ <|
 Ev.all_cons ⟨Tryz.t327,by kernel_rfl,rfl⟩ <|
 Ev.all_cons ⟨Tryz.t32,by kernel_rfl,rfl⟩ <|
 Ev.all_cons ⟨Tryz.t324,by kernel_rfl,rfl⟩ <|
 Ev.all_cons ⟨Tryz.t507,by kernel_rfl,rfl⟩ <|
 Ev.all_cons ⟨Tryz.t53,by kernel_rfl,rfl⟩ <|
 Ev.all_cons ⟨Tryz.t364,by kernel_rfl,rfl⟩ <|
 Ev.all_cons ⟨Tryz.t292,by kernel_rfl,rfl⟩ <|
 Ev.all_cons ⟨Tryz.t520,by kernel_rfl,rfl⟩ <|
 Ev.all_cons ⟨Tryz.t502,by kernel_rfl,rfl⟩ <|
 Ev.all_cons ⟨Tryz.t405,by kernel_rfl,rfl⟩ <|
 Ev.all_cons ⟨Tryz.t145,by kernel_rfl,rfl⟩ <|
 Ev.all_cons ⟨Tryz.t409,by kernel_rfl,rfl⟩ <|
 Ev.all_cons ⟨Tryz.t413,by kernel_rfl,rfl⟩ <|
 Ev.all_cons ⟨Tryz.t415,by kernel_rfl,rfl⟩ <|
 Ev.all_cons ⟨Tryz.t515,by kernel_rfl,rfl⟩ <|
 Ev.all_cons ⟨Tryz.t293,by kernel_rfl,rfl⟩ <|
 Ev.all_cons ⟨Tryz.t521,by kernel_rfl,rfl⟩ <|
 Ev.all_cons ⟨Tryz.t503,by kernel_rfl,rfl⟩ <|
 Ev.all_cons ⟨Tryz.t384,by kernel_rfl,rfl⟩ <|
 Ev.all_cons ⟨Tryz.t389,by kernel_rfl,rfl⟩ <|
 Ev.all_cons ⟨Tryz.t532,by kernel_rfl,rfl⟩ <|
 Ev.all_cons ⟨Tryz.t465,by kernel_rfl,rfl⟩ <|
 Ev.all_cons ⟨Tryz.t466,by kernel_rfl,rfl⟩ <|
 Ev.all_cons ⟨Tryz.t144,by kernel_rfl,rfl⟩ <|
 Ev.all_cons ⟨Tryz.t416,by kernel_rfl,rfl⟩ <|
 Ev.all_cons ⟨Tryz.t516,by kernel_rfl,rfl⟩ <|
 Ev.all_cons ⟨Tryz.t524,by kernel_rfl,rfl⟩ <|
 Ev.all_cons ⟨Tryz.t2,by kernel_rfl,rfl⟩ <|
 Ev.all_cons ⟨Tryz.t357,by kernel_rfl,rfl⟩ <|
 Ev.all_cons ⟨Tryz.t399,by kernel_rfl,rfl⟩ <| Ev.all_nil
noncomputable def ZF (jl:List (Nat × List PV)):Gx:={ cx:=Ev.ZB [] [],jl:=jl,bt:=bt }
theorem gxOk (jl:List (Nat × List PV)):fD (ZF jl):=⟨Ev.cxOk [] [],ZE⟩
def dZ (l:List UInt8):PV:=.val (.string ⟨⟨l⟩⟩)
def Su:List PV:=[.lit .u32 1,.lit .u32 65537,.lit .u32 16777472,.lit .u32 16843009]
def shP:List PV:=[0,1,1,1,2,2,3,3,4,4,4,4,5,5,5,5,5,5,5,5,5,5,5,5,5,5,5,5,6,6,6,7,8,2,2,9,9,8,8,8,10,10,11,12,13,14,15,16,17,17,18,18,18,18,18,18,18,18,18,18,19,19,20,20,20,20,21,21,21,21,21,21,21,21,21,21,22,22,23,23,23,23,24,24,25,25,26,26,27,27,27,27,28,29,30,31,31,28,32,33,34].map (.lit .i64)
def QO:List PV:=[.lit .u32 0,.lit .u32 4294967295]
def IM:List PV:=[.ff,.ff,.ff,.ff,.ff,.lit .i64 0,.lit .i64 0,.ff,.ff,.ff,.ff,.tt,.lit .i64 0,.lit .i64 0,.ff,.ff,.ff,.ff,.ff,.lit .i64 0,.lit .i64 2147483647,.tt,.ff,.ff,.ff,.ff,.lit .i64 2,.lit .i64 2,.tt,.tt,.tt,.ff,.ff,.lit .i64 1,.lit .i64 1,.tt,.ff,.ff,.tt,.ff,.lit .i64 1,.lit .i64 1,.tt,.tt,.ff,.ff,.ff,.lit .i64 0,.lit .i64 0]
def IP:List PV:=[0,0,1,0,1,0,0,1,1,0,1,2,0,3,1,2,1,2,1,2,1,2,1,2,1,2,1,2,1,2,1,2,1,1,1,1,1,1,1,1,1,1,1,2,1,2,2,4,2,4,1,4,2,2,1,1,1,2,1,3,0,1,0,1].map (.lit .i64)
def IQ:List PV:=[dZ [45,62],dZ [46,46],dZ [61,61],dZ [60,60,60],dZ [60,60],dZ [62,62],dZ [60],dZ [40],dZ [41],dZ [123],dZ [125],dZ [91],dZ [93],dZ [44],dZ [59],dZ [58],dZ [61],dZ [43],dZ [45],dZ [42],dZ [47],dZ [37],dZ [38],dZ [124],dZ [94],dZ [126]]
def IS:List PV:=[dZ [102,110],dZ [101,120,112,111,114,116],dZ [108,101,116],dZ [118,97,114],dZ [97,114,114],dZ [105,102],dZ [101,108,115,101],dZ [102,111,114],dZ [105,110],dZ [114,101,116,117,114,110],dZ [112,117,98],dZ [117,51,50],dZ [117,54,52]]
def DD:List PV:=[dZ [124],dZ [],dZ [],dZ [94],dZ [],dZ [],dZ [38],dZ [],dZ [],dZ [61,61],dZ [60],dZ [],dZ [60,60],dZ [62,62],dZ [60,60,60],dZ [43],dZ [45],dZ [],dZ [42],dZ [47],dZ [37]]
def IT:List PV:=[dZ [115,101,108,101,99,116],.lit .i64 3,dZ [108,111,110,103],.lit .i64 1,dZ [108,111],.lit .i64 1,dZ [104,105],.lit .i64 1,dZ [119,105,100,101],.lit .i64 2]
def QP:List PV:=[dZ [124],.lit .i64 5,dZ [94],.lit .i64 6,dZ [38],.lit .i64 7,dZ [61,61],.lit .i64 8,dZ [60],.lit .i64 9,dZ [60,60],.lit .i64 10,dZ [62,62],.lit .i64 11,dZ [60,60,60],.lit .i64 12,dZ [43],.lit .i64 13,dZ [45],.lit .i64 14,dZ [42],.lit .i64 15,dZ [47],.lit .i64 16,dZ [37],.lit .i64 17,dZ [110,111,116],.lit .i64 3,dZ [110,101,103],.lit .i64 4]
def DE:List PV:=[dZ [124],.lit .i64 8,dZ [94],.lit .i64 9,dZ [38],.lit .i64 7,dZ [43],.lit .i64 10,dZ [45],.lit .i64 11,dZ [42],.lit .i64 12,dZ [60],.lit .i64 21,dZ [61,61],.lit .i64 22]
noncomputable def gT:Gx:=ZF [(3,Su),(1,shP),(10,QO),(2,IM),(11,IP),(4,IQ),(5,IS),(8,DD),(0,IT),(9,QP),(7,DE)]
theorem aA:fD gT:=gxOk _
section
variable {w w':World} {I I':Nat->Prop} {β ay:an} {G:Gx} {s:aD} {a:Act} {st dY:List aj}
theorem aC.IU (hH:aC I β [] w) (w':World) (I':Nat->Prop):aC I' β [] w':=⟨hH.p8,fun l b hl=>by simp at hl⟩
theorem cE.below (hM:cE G I w) (hB:Below w.heap.size w w'):cE G I w' :=
 ⟨fun g hg=>Nat.lt_of_lt_of_le (hM.au g hg) hB.size,fun g cs h=>⟨(hM.lV g cs h).1,cL.mono (fun _ h=>h) (fun g hg=>hB.block g (hM.au g hg)) _ _ _ (hB.block g (hM.au g (hM.lV g cs h).1)) (hM.lV g cs h).2⟩,fun g cs h=>by
  obtain⟨arr,ty,fr,h1,h2⟩:=hM.row g cs h
  exact⟨arr,ty,fr,(hB.block g (hM.au g (hM.lV g cs h).1)).trans h1,h2⟩⟩
theorem al.zH {f:FuncId} {args:List PV} {r:PV} (he:Ev.gz G.cx.P f) (vs:List Value) (v:Value) (ha:∀ w I β vals,bg w I args β vals->vals=vs) (hr:∀ w I β,r.Is w I β v)
  (h:∀ w,Calls G.cx.P f vs.toArray w fun e w'=>e = .returned v/\Below w.heap.size w w'):al G f args r:=by
 refine Spec.intro he fun I β w vals hH hM hA=>?_
 rw[ha _ _ _ _ hA]
 refine (h w).mono fun e w' ⟨he,hB⟩=>⟨v,r,[],I,β,he,rfl,hr _ _ _,hH.IU _ _,hM.below hB,⟨hB.os,hB.tape,hB.output,hB.size,fun g hg _=>hB.block g hg,fun g _ h=>h,fun _ h=>h,fun _ _ h=>.inl h⟩,Nat.le_refl _,fun _ _ _=>rfl⟩
theorem al.of_same {f:FuncId} {args:List PV} {r:PV} (he:Ev.gz G.cx.P f) (vs:List Value) (v:Value) (ha:∀ w I β vals,bg w I args β vals->vals=vs) (hr:∀ w I β,r.Is w I β v)
  (h:∀ w,Calls G.cx.P f vs.toArray w fun e w'=>e = .returned v/\w'=w):al G f args r :=
 al.zH he vs v ha hr fun w=>(h w).mono fun e w' ⟨h1,h2⟩=>⟨h1,h2 ▸ Below.refl _ _⟩
theorem al.calls {f:FuncId} {args:List PV} {r:PV} {vals:List Value} (h:al G f args r) (hM:cE G I w) (hA:bg w I args (fun _=>none) vals) (v:Value) (hr:∀ w' I' ay v',r.Is w' I' ay v'->v'=v) :
  Calls G.cx.P f vals.toArray w fun e w'=>e = .returned v/\Below w.heap.size w w':=by
 have h0:aC I (fun _=>none) ([]:List aj) w:=⟨fun _ _=>rfl,fun l b hl=>by simp at hl⟩
 refine (h.run.2 I (fun _=>none) w vals h0 hM hA).mono fun e w' ⟨v',r',S',I',ay,he,sJ,hi,_,kN,hE,_,_⟩=>?_
 subst sJ
 rw[hr _ _ _ _ hi] at he
 exact⟨he,hE.os,hE.tape,hE.output,hE.size,fun g hg=>hE.block g hg fun ⟨l,b,p,o,h1,_⟩=>by simp at h1⟩
theorem Ns (w':World) (I':Nat->Prop) (ay:an) (v':Value) (h:PV.tt.Is w' I' ay v'):v' = .bool true:=by simpa [PV.Is] using h
end
def In (w:World) (g:Nat):Prop:=g < w.heap.size
abbrev no:an:=fun _=>none
def Op (P:Program) (t:TypeId) (S:PV->Prop):Prop:=∀ {H:Type} (e:TypeId × Value->H) (w:World) (base:Nat) (held:Bool) (fuel:Nat) (cs:List Value) (x:DataW H × List MemPlace),
 DataW.trod e P w base (fun _=>true) held fuel t cs=some x->(∀ n∈x.1.weights P t,n<=reachBytes)->∃ y,S y/\(∀ vs,y≠.tup vs)/\bg w (In w) y.cells no cs/\cs.length=P.cellsOf t/\∀ c∈cs,c.oneCell'=true
def SInt (k:IntKind) (x:PV):Prop:=∃ z,uP k z/\x = .int k z
def SSl (n b:Nat) (S:PV->Prop) (x:PV):Prop:=∃ es:List PV,(es.length<=maxLen/\es.length*b<=reachBytes)/\(∀ e∈es,S e)/\x = .sl n es
def vL:List (PV->Prop)->List PV->Prop
 | [],[]=>True
 | S::Ss,x::xs=>S x/\vL Ss xs
 | _,_=>False
def IV (Ss:List (PV->Prop)) (x:PV):Prop:=∃ xs,vL Ss xs/\x = .agg (xs.flatMap PV.cells)
theorem ks {S:PV->Prop} {Ss:List (PV->Prop)} {xs:List PV} (h:vL (S::Ss) xs):∃ x r,xs=x::r/\S x/\vL Ss r:=by
 cases xs with
 | nil=>exact h.elim
 | cons x r=>exact⟨x,r,rfl,h⟩
theorem IW {xs:List PV} (h:vL [] xs):xs = []:=by
 cases xs with
 | nil=>rfl
 | cons x r=>exact h.elim
section
variable {P:Program} {t e:TypeId}
theorem Sv {k:IntKind} {z:Int} (h:(Lit.int k z).wf=true):uP k z:=by
 unfold uP
 cases k<;>simp_all [Lit.wf,Ev.lG,Ev.kP,IntKind.min,IntKind.max,IntKind.signed,IntKind.bits]<;>omega
theorem IX {k:IntKind} (ht:P.underlying t=some (.int k)) (hc:P.cellsOf t=1):Op P t (SInt k):=fun e w base held fuel cs x h yV=>by
 obtain⟨n,rfl,_,hw⟩:=DataW.trod_int ht h
 exact⟨.int k n,⟨n,Sv hw,rfl⟩,nofun,bg.one (by simp only[PV.Is]),by rw[hc]; rfl,fun c hc=>by simp only[List.mem_singleton] at hc; subst hc; rfl⟩
theorem mh {α:Type _} {p:Nat->α->Prop}:∀ n:Nat,(∀ i,i < n->∃ y,p i y)->∃ l:List α,l.length=n/\∀ i y,l[i]?=some y->p i y
 | 0,_=>⟨[],rfl,fun i y h=>by simp at h⟩
 | n+1,h=>by
  obtain⟨l,hl,hp⟩:=mh (p:=p) n fun i hi=>h i (by omega)
  obtain⟨y,hy⟩:=h n (by omega)
  refine⟨l++[y],by simp[hl],fun i z hz=>?_⟩
  rw[List.getElem?_append] at hz
  split at hz
  ·exact hp i z hz
  ·rename_i Yw
   have h0:i - l.length=0:=by
    have:=(List.getElem?_eq_some_iff.1 hz).1
    simp at this; omega
   rw[h0] at hz
   simp only[List.getElem?_cons_zero,Option.some.injEq] at hz
   subst hz
   have:i=n:=by omega
   subst this; exact hy
theorem mi {H:Type} {n:Nat}:∀ {l:List (DataW H)} {d:DataW H},d∈l->n∈d.weights P e->n∈DataW.weightsAll P e l
 | [],_,h,_=>by cases h
 | a::l,d,h,hn=>by
  simp only[DataW.weightsAll,List.mem_append]
  rcases List.mem_cons.1 h with rfl|h
  ·exact .inl hn
  ·exact .inr (mi h hn)
theorem lg {H:Type} {n:Nat}:∀ {ts:List TypeId} {l:List (DataW H)} {i:Nat} {t:TypeId} {d:DataW H},ts[i]?=some t->l[i]?=some d->n∈d.weights P t->n∈DataW.weightsEach P ts l
 | [],_,_,_,_,h,_,_=>by simp at h
 | _::_,[],_,_,_,_,h,_=>by simp at h
 | u::ts,a::l,0,t,d,h,h',hn=>by
  simp only[List.getElem?_cons_zero,Option.some.injEq] at h h'
  subst h; subst h'
  simp only[DataW.weightsEach,List.mem_append]
  exact .inl hn
 | u::ts,a::l,i+1,t,d,h,h',hn=>by
  simp only[DataW.weightsEach,List.mem_append]
  exact .inr (lg (by simpa using h) (by simpa using h') hn)
theorem Nt {S:PV->Prop} (he:Op P e S) (n b:Nat) (hbb:P.bytesOf e=b) (ht:P.underlying t=some (.slice e)) (hn:P.cellsOf e=n) (h0:0 < n) (hc:P.cellsOf t=1):Op P t (SSl n b S):=fun {H} ec w base held fuel cs x h yV=>by
 subst hn
 subst hbb
 rcases Deep.open_slice ht h with ⟨rfl,_⟩|⟨a,len,cap,m,k,D,Pl,rfl,hb,hl,hm,tE,rfl,hx⟩
 ·exact⟨.sl _ [],⟨[],⟨by simp,by simp⟩,fun _ h=>by simp at h,rfl⟩,nofun,bg.one (by simp only[PV.Is]; exact⟨none,0,rfl,Nat.le_refl _,by simp,fun _ _ h=>by simp at h,fun h=>absurd rfl h⟩),by rw[hc]; rfl,fun c hc=>by simp only[List.mem_singleton] at hc; subst hc; rfl⟩
 ·simp only[if_true] at tE
  subst tE
  have hwl:len*P.bytesOf e<=reachBytes:=by
   have:=yV ((len+(m - len))*P.bytesOf e) (by simp only[DataW.weights,ht,List.length_map,List.length_range]; exact List.mem_cons_self)
   exact Nat.le_trans (Nat.mul_le_mul_right _ (Nat.le_add_right _ _)) this
  have hwe:∀ i,i < len->∀ n∈(D i).weights P e,n<=reachBytes:=fun i hi n hn=>yV n (by
   simp only[DataW.weights,ht]
   exact List.mem_cons_of_mem _ (List.mem_append.2 (.inl (mi (List.mem_map.2 ⟨i,List.mem_range.2 hi,rfl⟩) hn))))
  have QM:0 < len->a.spot=none:=fun hp=>by
   obtain⟨zI,h1,h2⟩:=hx 0 (by omega)
   obtain⟨y,_,_,hy,hlen,_⟩:=he ec w base held k zI _ h2 (hwe 0 hp)
   obtain⟨_,_,nx⟩:=World.cells?_some h1
   have rZ:=nx 0 h0
   rw[List.getElem?_eq_getElem (by omega),Nat.zero_mul] at rZ
   exact World.cell?_spot rZ
  have each:∀ i,i < len->∃ y,S y/\a.spot=none/\a.block < w.heap.size/\HC w (In w) (P.cellsOf e) y a.block (a.off+i*P.cellsOf e):=fun i hi=>by
   obtain⟨zI,h1,h2⟩:=hx i (by omega)
   obtain⟨y,hS,_,hy,hlen,h1c⟩:=he ec w base held k zI _ h2 (hwe i hi)
   obtain⟨_,_,nx⟩:=World.cells?_some h1
   have rZ:=nx 0 h0
   rw[List.getElem?_eq_getElem (by omega)] at rZ
   have hs:a.spot=none:=QM (by omega)
   obtain⟨b,off,sp⟩:=a
   dsimp only at hs
   subst hs
   have ea:∀ b off k,(⟨b,off,none⟩:Addr).add k=⟨b,off+k,none⟩:=fun b off k=>by unfold Addr.add; split<;>simp_all
   refine⟨y,hS,rfl,?_,?_,cL.of fun j c hj=>?_⟩
   ·have:=World.block_lt_of_cell? w _ rZ
    rw[ea,ea] at this; exact this
   ·rw[hy.length,hlen]
   ·obtain⟨v,hv,QN⟩:=hy.get hj
    have sL:j < P.cellsOf e:=by rw[← hlen]; exact (List.getElem?_eq_some_iff.1 hv).1
    have:=nx j sL
    rw[ea,ea,hv] at this
    exact⟨v,by simpa only [Nat.add_assoc] using this,QN,h1c v (List.mem_of_getElem? hv)⟩
  obtain⟨es,oh,hp⟩:=mh len each
  refine⟨.sl _ es,⟨es,⟨by omega,by rw[oh]; exact hwl⟩,fun y hy=>?_,rfl⟩,nofun,bg.one ?_,by rw[hc]; rfl,fun c hc=>by simp only[List.mem_singleton] at hc; subst hc; rfl⟩
  ·obtain⟨i,hi⟩:=List.getElem?_of_mem hy
   exact (hp i y hi).1
  ·simp only[PV.Is]
   refine⟨some a,m,by rw[oh],by omega,by omega,fun g o G_=>?_,fun cN=>?_⟩
   ·cases G_
    exact ca.of fun i y hy=>(hp i y hy).2.2.2
   ·have h1:0 < es.length:=by omega
    obtain⟨_,h2,h3,_⟩:=hp 0 es[0] (List.getElem?_eq_getElem h1)
    obtain⟨b,off,sp⟩:=a
    dsimp only at h2
    subst h2
    exact⟨b,off,rfl,h3,h0⟩
def Nu (P:Program) (total:Nat):Nat->List Field->List (PV->Prop)->Prop
 | off,[],[]=>off=total
 | off,f::fs,S::Ss=>f.offset=off/\Op P f.type S/\Nu P total (off+P.cellsOf f.type) fs Ss
 | _,_,_=>False
theorem ZG {fs:Array Field} {Ss:List (PV->Prop)} (ht:P.underlying t=some (.struct fs)) (hf:Nu P (P.cellsOf t) 0 fs.toList Ss):Op P t (IV Ss):=fun {H} ec w base held fuel cs x h yV=>by
 obtain⟨xs,n,_,rfl,hl,mI,hx⟩:=DataW.trod_struct ht h
 have key:∀ (l:List Field) (Ss:List (PV->Prop)) (off:Nat),Nu P (P.cellsOf t) off l Ss->(∀ f∈l,∃ y,DataW.trod ec P w base (fun _=>true) held n f.type ((cs.drop f.offset).take (P.cellsOf f.type))=some y/\∀ n∈y.1.weights P f.type,n<=reachBytes)->off<=cs.length ->
   ∃ ys,vL Ss ys/\bg w (In w) (ys.flatMap PV.cells) no (cs.drop off)/\∀ c∈cs.drop off,c.oneCell'=true:=by
  intro l
  induction l with
  | nil =>
   intro Ss off h _ _
   cases Ss with
   | nil =>
    simp only[Nu] at h
    refine⟨[],trivial,?_,?_⟩
    ·rw[List.drop_eq_nil_of_le (by omega)]; simp only[List.flatMap_nil,bg]
    ·rw[List.drop_eq_nil_of_le (by omega)]; intro c hc; cases hc
   | cons=>exact h.elim
  | cons f l ih =>
   intro Ss off h ht hle
   cases Ss with
   | nil=>exact h.elim
   | cons S Ss =>
    obtain⟨h1,h2,h3⟩:=h
    subst h1
    obtain⟨z,hz,hzw⟩:=ht f (List.mem_cons_self ..)
    obtain⟨y,hS,_,hy,Nc,EX⟩:=h2 ec w base held n _ z hz hzw
    have IY:f.offset+P.cellsOf f.type<=cs.length:=by
     rw[List.length_take,List.length_drop] at Nc; omega
    obtain⟨ys,hys,hyL,hyO⟩:=ih Ss _ h3 (fun g hg=>ht g (List.mem_cons_of_mem _ hg)) IY
    have hd:cs.drop f.offset=(cs.drop f.offset).take (P.cellsOf f.type)++cs.drop (f.offset+P.cellsOf f.type):=by
     rw[← List.drop_drop,List.take_append_drop]
    refine⟨y::ys,⟨hS,hys⟩,?_,?_⟩
    ·rw[hd,List.flatMap_cons]; exact hy.append hyL
    ·intro c hc
     rw[hd,List.mem_append] at hc
     exact hc.elim (EX c) (hyO c)
 obtain⟨ys,h1,h2,h3⟩:=key fs.toList Ss 0 hf (fun f hf=>by
  obtain⟨i,hi⟩:=List.getElem?_of_mem hf
  have QN:i < fs.size:=by simpa using (List.getElem?_eq_some_iff.1 hi).1
  have:=hx i f (by simpa using hi)
  rw[this]
  have bZ:i < xs.length:=by omega
  refine⟨_,List.getElem?_eq_getElem bZ,fun n hn=>yV n ?_⟩
  simp only[DataW.weights,ht]
  exact lg (i:=i) (by rw[List.getElem?_map,hi]; rfl) (by rw[List.getElem?_map,List.getElem?_eq_getElem bZ]; rfl) hn) (Nat.zero_le _)
 rw[List.drop_zero] at h2 h3
 exact⟨.agg (ys.flatMap PV.cells),⟨ys,h1,rfl⟩,nofun,h2,hl,h3⟩
theorem Op.IZ {S S':PV->Prop} (h:Op P t S) (hS:∀ x,S x->S' x):Op P t S':=fun e w base held fuel cs x hx yV=>by
 obtain⟨y,h1,h2⟩:=h e w base held fuel cs x hx yV
 exact⟨y,hS y h1,h2⟩
theorem decode {α:Type} {S:PV->Prop} {enc:α->PV} {ok:α->Prop} (h:∀ x,S x->∃ z,ok z/\x=enc z):∀ (es:List PV),(∀ e∈es,S e)->∃ l:List α,(∀ z∈l,ok z)/\es=l.map enc
 | [],_=>⟨[],fun _ h=>by simp at h,rfl⟩
 | e::es,hS=>by
  obtain⟨z,hz,rfl⟩:=h e (hS e (List.mem_cons_self ..))
  obtain⟨l,hl,rfl⟩:=decode h es fun e he=>hS e (List.mem_cons_of_mem _ he)
  refine⟨z::l,fun y hy=>?_,rfl⟩
  rcases List.mem_cons.1 hy with rfl|hy
  ·exact hz
  ·exact hl y hy
def YC {α:Type} (n b:Nat) (enc:α->PV) (ok:α->Prop) (x:PV):Prop:=∃ l:List α,(l.length<=maxLen/\l.length*b<=reachBytes)/\(∀ z∈l,ok z)/\x = .sl n (l.map enc)
theorem Sw {α:Type} {S:PV->Prop} {n b:Nat} {enc:α->PV} {ok:α->Prop} (h:Op P t (SSl n b S)) (hd:∀ x,S x->∃ z,ok z/\x=enc z):Op P t (YC n b enc ok):=h.IZ fun x ⟨es,h1,h2,h3⟩=>by
 obtain⟨l,hl,rfl⟩:=decode hd es h2
 exact⟨l,by simpa using h1,hl,h3⟩
theorem sj {H:Type} {ts:List TypeId} {l:List (DataW H)} (h:(DataW.weightsEach P ts l).all (·<=reachBytes)=true) {i:Nat} {d:DataW H} (ht:ts[i]?=some t) (hd:l[i]?=some d):∀ n∈d.weights P t,n<=reachBytes:=fun n hn=>by
 have:=List.all_eq_true.1 h n (lg ht hd hn)
 simpa using this
theorem Op.Sx {S:PV->Prop} (h:Op P t S) (h1:∀ y,S y->y.cells = [y]) {H:Type} {ec:TypeId × Value->H} {w:World} {base:Nat} {held:Bool} {v:Value} {d:DataW H} {p:List MemPlace} (hv:v.cells = #[v]) (ht:DataW.Trod ec P w base (fun _=>true) held t v d p) (yV:∀ n∈d.weights P t,n<=reachBytes) :
  ∃ y,S y/\y.Is w (In w) no v:=by
 obtain⟨fuel,ht⟩:=ht
 obtain⟨y,hS,_,hy,_⟩:=h ec w base held fuel _ _ ht yV
 refine⟨y,hS,?_⟩
 rw[h1 y hS,hv] at hy
 simp only[bg,and_true] at hy
 exact hy
theorem Op.argA {Ss:List (PV->Prop)} (h:Op P t (IV Ss)) {H:Type} {ec:TypeId × Value->H} {w:World} {base:Nat} {held:Bool} {vs:Array Value} {d:DataW H} {p:List MemPlace} (ht:DataW.Trod ec P w base (fun _=>true) held t (.agg vs) d p) (yV:∀ n∈d.weights P t,n<=reachBytes) :
  ∃ y,IV Ss y/\y.Is w (In w) no (.agg vs):=by
 obtain⟨fuel,ht⟩:=ht
 obtain⟨y,hS,_,hy,_⟩:=h ec w base held fuel _ _ ht yV
 refine⟨y,hS,?_⟩
 obtain⟨xs,_,rfl⟩:=hS
 simp only[PV.Is]
 exact⟨vs,rfl,hy⟩
theorem SSl.cell {n b:Nat} {S:PV->Prop} (y:PV):SSl n b S y->y.cells = [y]:=fun ⟨_,_,_,h⟩=>by subst h; rfl
theorem YC.cell {α:Type} {n b:Nat} {enc:α->PV} {ok:α->Prop} (y:PV):YC n b enc ok y->y.cells = [y]:=fun ⟨_,_,_,h⟩=>by subst h; rfl
theorem SInt.cell {k:IntKind} (y:PV):SInt k y->y.cells = [y]:=fun ⟨_,_,h⟩=>by subst h; rfl
end
def rp (P:Program) (total:Nat) (r:TypeId->DataW Unit->Option (List PV)):Nat->List (Nat × TypeId)->List (DataW Unit)->Option (List PV)
 | off,[],[]=>if off=total then some [] else none
 | off,(o,t)::ps,d::ds=>if o=off then (match r t d,rp P total r (off+P.cellsOf t) ps ds with
   | some xs,some ys=>some (xs++ys)
   | _,_=>none) else none
 | _,_,_=>none
def zJ (P:Program):Nat->TypeId->DataW Unit->Option (List PV)
 | 0,_,_=>none
 | f+1,t,d=>match P.underlying t,d with
  | some (.int k),.lit (.int l n)=>if k=l then some [.lit k n] else none
  | some .bool,.lit (.bool b)=>some [if b then .tt else .ff]
  | some .string,.lit (.string l)=>some [.val (.string ⟨⟨l⟩⟩)]
  | some (.struct fs),.agg ds=>rp P (P.cellsOf t) (zJ P f) 0 (fs.toList.map fun f=>(f.offset,f.type)) ds
  | some (.array n e),.agg ds=>rp P (P.cellsOf t) (zJ P f) 0 ((List.range n).map fun i=>(i*P.cellsOf e,e)) ds
  | _,_=>none
section
variable {P:Program} {w:World} {I:Nat->Prop}
theorem DF {base:Nat} {sp:Nat->Bool} {held:Bool} {enc:TypeId × Value->Unit}:∀ (f:Nat) (t:TypeId) (d:DataW Unit) (xs:List PV) (fuel:Nat) (cs:List Value) (p:List MemPlace),zJ P f t d=some xs->DataW.trod enc P w base sp held fuel t cs=some (d,p)->bg w I xs no cs/\∀ c∈cs,c.oneCell'=true
 | 0,_,_,_,_,_,_,h,_=>by simp[zJ] at h
 | f+1,t,d,xs,fuel,cs,p,h,ht=>by
  have key:∀ (n:Nat) (ps:List (Nat × TypeId)) (ds:List (DataW Unit)) (off:Nat) (xs:List PV),rp P (P.cellsOf t) (zJ P f) off ps ds=some xs->cs.length=P.cellsOf t ->
    (∀ (i:Nat) (o:Nat) (u:TypeId),ps[i]?=some (o,u)->∃ d p,ds[i]?=some d/\DataW.trod enc P w base sp held n u ((cs.drop o).take (P.cellsOf u))=some (d,p))->bg w I xs no (cs.drop off)/\∀ c∈cs.drop off,c.oneCell'=true:=by
   intro n ps
   induction ps with
   | nil =>
    intro ds off xs h hl _
    cases ds with
    | cons=>simp[rp] at h
    | nil =>
     simp only[rp] at h
     split at h
     ·cases h
      rw[List.drop_eq_nil_of_le (by omega)]
      exact⟨by simp only[bg],fun c hc=>by cases hc⟩
     ·cases h
   | cons q ps ih =>
    obtain⟨o,u⟩:=q
    intro ds off xs h hl ha
    cases ds with
    | nil=>simp[rp] at h
    | cons d ds =>
     simp only[rp] at h
     split at h
     ·rename_i ho
      subst ho
      split at h
      ·rename_i xs1 ys h1 h2
       cases h
       obtain⟨d',p',hd,ht⟩:=ha 0 o u rfl
       simp only[List.getElem?_cons_zero,Option.some.injEq] at hd
       subst hd
       have i1:=DF f u _ _ n _ _ h1 ht
       have i2:=ih ds _ _ h2 hl fun i o' u' hi=>by
        obtain⟨d',p',hd,ht⟩:=ha (i+1) o' u' (by simpa using hi)
        exact⟨d',p',by simpa using hd,ht⟩
       have hd:cs.drop o=(cs.drop o).take (P.cellsOf u)++cs.drop (o+P.cellsOf u):=by
        rw[← List.drop_drop,List.take_append_drop]
       rw[hd]
       refine⟨i1.1.append i2.1,fun c hc=>?_⟩
       rw[List.mem_append] at hc
       exact hc.elim (i1.2 c) (i2.2 c)
      ·cases h
     ·cases h
  unfold zJ at h
  split at h
  ·rename_i hu
   obtain⟨z,rfl,hz,_⟩:=DataW.trod_int hu ht
   simp only[Prod.mk.injEq,DataW.lit.injEq,Lit.int.injEq] at hz
   obtain⟨⟨rfl,rfl⟩,_⟩:=hz
   simp only[if_true,Option.some.injEq] at h
   subst h
   exact⟨bg.one (by simp only[PV.Is]),fun c hc=>by simp only[List.mem_singleton] at hc; subst hc; rfl⟩
  ·rename_i hu
   obtain⟨b,rfl,hz⟩:=DataW.trod_bool hu ht
   simp only[Prod.mk.injEq,DataW.lit.injEq,Lit.bool.injEq] at hz
   obtain⟨rfl,_⟩:=hz
   simp only[Option.some.injEq] at h
   subst h
   refine⟨bg.one ?_,fun c hc=>by simp only[List.mem_singleton] at hc; subst hc; rfl⟩
   split<;>simp only[PV.Is]<;>simp_all
  ·rename_i hu
   obtain⟨b,rfl,hz,_⟩:=DataW.trod_string hu ht
   simp only[Prod.mk.injEq,DataW.lit.injEq,Lit.string.injEq] at hz
   obtain⟨rfl,_⟩:=hz
   simp only[Option.some.injEq] at h
   subst h
   exact⟨bg.one (by simp only[PV.Is]; exact⟨trivial,rfl⟩),fun c hc=>by simp only[List.mem_singleton] at hc; subst hc; rfl⟩
  ·rename_i hu
   obtain⟨ys,n,_,hz,hl,Nc,hy⟩:=DataW.trod_struct hu ht
   simp only[Prod.mk.injEq,DataW.agg.injEq] at hz
   obtain⟨rfl,_⟩:=hz
   have:=key n _ _ 0 xs h hl fun i o u hi=>by
    simp only[List.getElem?_map,Option.map_eq_some_iff,Prod.mk.injEq] at hi
    obtain⟨f',hf,rfl,rfl⟩:=hi
    have hy:=hy i f' (by simpa using hf)
    have bZ:i < ys.length:=by rw[Nc]; simpa using (List.getElem?_eq_some_iff.1 hf).1
    exact⟨ys[i].1,ys[i].2,by simp[bZ],by rw[hy]; simp[bZ]⟩
   simpa using this
  ·rename_i hu
   obtain⟨ys,n,_,hz,hl,Nc,hy⟩:=DataW.trod_array hu ht
   simp only[Prod.mk.injEq,DataW.agg.injEq] at hz
   obtain⟨rfl,_⟩:=hz
   have:=key n _ _ 0 xs h hl fun i o u hi=>by
    simp only[List.getElem?_map,Option.map_eq_some_iff,Prod.mk.injEq] at hi
    obtain⟨j,hj,rfl,rfl⟩:=hi
    obtain⟨hj1,rfl⟩:=List.getElem?_eq_some_iff.1 hj
    simp only[List.length_range] at hj1
    rw[List.getElem_range]
    have hy:=hy i hj1
    have bZ:i < ys.length:=by omega
    exact⟨ys[i].1,ys[i].2,by simp[bZ],by rw[hy]; simp[bZ]⟩
   simpa using this
  ·cases h
theorem DG {laid:List (String × DataW Unit)}:∀ {l:List (String × DataW Unit)} {ps:List MemPlace},DataW.LaidVars P w l ps->∀ {name:String} {d:DataW Unit},(name,d)∈l->∀ {g:Nat} {t:TypeId} {xs:List PV} (f:Nat),P.globalNamed name=some g->(P.globals[g]?).map (·.type)=some t->zJ P f t d=some xs->xs≠[]->(g < w.heap.size/\cL w I xs g 0)/\∃ arr ty fr,w.heap[g]?=some (.cells arr ty fr)/\arr.size=xs.length
 | [],_,_,_,_,hm,_,_,_,_,_,_,_,_=>by cases hm
 | (n,d)::r,ps,h,name,d',hm,g,t,xs,f,hg,ht,hx,cN=>by
  obtain⟨g',t',cs,fuel,p,q,re,Bc,Fe,hd,hr,_⟩:=h
  rcases List.mem_cons.1 hm with he|hm
  ·cases he
   obtain rfl:=Option.some.inj (hg.symm.trans re)
   obtain rfl:=Option.some.inj (ht.symm.trans Bc)
   obtain⟨h1,h2⟩:=DF (I:=I) f t _ _ fuel _ _ hx hd
   have MI:cL w I xs g 0:=cL.of fun i c hc=>by
    obtain⟨v,hv,hi⟩:=h1.get hc
    exact⟨v,by rw[Nat.zero_add,World.var?_cell hg Fe]; simpa using hv,hi,h2 v (List.mem_of_getElem? hv)⟩
   refine⟨⟨?_,MI⟩,?_⟩
   rotate_left 1
   ·have hl:=h1.length
    unfold World.var? at Fe
    rw[hg,Option.bind_some] at Fe
    split at Fe
    ·rename_i arr ty fr hh
     cases Fe
     exact⟨_,ty,fr,hh,by simpa using hl.symm⟩
    ·cases Fe
   cases xs with
   | nil=>exact absurd rfl cN
   | cons c xs =>
    obtain⟨v,hv,_⟩:=MI.get (i:=0) rfl
    exact World.block_lt_of_cell? w _ hv
  ·exact DG (laid:=laid) hr hm f hg ht hx cN
theorem BX {G:Gx} {laid:List (String × DataW Unit)} (j3:(laid.all fun x=>x.2.handleName?.isNone)=true) (h:laidMetH P laid w)
  (eC:∀ x∈G.jl,∃ name d t,(name,d)∈laid/\P.globalNamed name=some x.1/\(P.globals[x.1]?).map (·.type)=some t/\zJ P 8 t d=some x.2/\x.2≠[]):cE G (In w) w:=by
 rw[MakeChecks.laidMetH_plain _ _ _ j3] at h
 obtain⟨ps,h,_⟩:=h
 have key:∀ (g:Nat) (cs:List PV),(g,cs)∈G.jl->(g < w.heap.size/\cL w (In w) cs g 0)/\∃ arr ty fr,w.heap[g]?=some (.cells arr ty fr)/\arr.size=cs.length:=fun g cs hg=>by
  obtain⟨name,d,t,h1,h2,h3,h4,h5⟩:=eC _ hg
  exact DG (I:=In w) (laid:=laid) h h1 8 h2 h3 h4 h5
 exact⟨fun g hg=>hg,fun g cs hg=>(key g cs hg).1,fun g cs hg=>(key g cs hg).2⟩
end
section
variable {w w':World} {I I':Nat->Prop} {β ay:an} {G:Gx} {s:aD} {a:Act} {st dY:List aj}
def ZH (I:Nat->Prop) (w w':World) (g:Nat):Prop:=I g\/(w.heap.size<=g/\g < w'.heap.size)
theorem al.of_new {f:FuncId} {args:List PV} {r:PV} (he:Ev.gz G.cx.P f)
  (h:∀ I β w vals,cE G I w->bg w I args β vals->Calls G.cx.P f vals.toArray w fun e w'=>∃ v,e = .returned v/\Below w.heap.size w w'/\r.Is w' (ZH I w w') no v) (hu:r.df = []):al G f args r:=by
 refine Spec.intro he fun I β w vals hH hM hA=>?_
 refine (h I β w vals hM hA).mono fun e w' ⟨v,he,hB,hr⟩=>⟨v,r,[],ZH I w w',β,he,rfl,kr hu hr,hH.IU _ _,?_,⟨hB.os,hB.tape,hB.output,hB.size,fun g hg _=>hB.block g hg,fun g _ ⟨l,b,p,o,h1,_⟩=>by simp at h1,fun _ h=>.inl h,fun g hg h=>?_⟩,Nat.le_refl _,fun _ _ _=>rfl⟩
 ·have kN:=hM.below hB
  exact⟨fun g hg=>hg.elim (fun h=>kN.au g h) (fun h=>h.2),fun g cs hg=>⟨.inl (kN.lV g cs hg).1,cL.mono (fun _ h=>.inl h) (fun _ _=>rfl) _ _ _ rfl (kN.lV g cs hg).2⟩,kN.row⟩
 ·rcases h with h|h
  ·exact .inl h
  ·omega
end
end Go.Proofs.YtbnoodjnpooocaaGreatDoor.Pw
