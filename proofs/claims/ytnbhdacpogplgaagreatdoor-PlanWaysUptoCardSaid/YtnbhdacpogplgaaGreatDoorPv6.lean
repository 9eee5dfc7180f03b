/- What this claim is proved with: no condition. -/
import Derived.Test.YtnbhdacpogplgaaGreatDoorPv5
import Derived.Test.YtnbhdacpogplgaaGreatDoorPv1
import Derived.Deep.Slices
import Derived.Below
import Derived.OpenShut
import Derived.LaidLaws
import Derived.ChangeArms
import Derived.MakeChecks
import Derived.Stop.Joined
set_option linter.unusedVariables false
set_option linter.unusedSimpArgs false
namespace Go.Proofs.YtnbhdacpogplgaaGreatDoor.Pw
open Go Go.RowKit
section
variable {w w':World} {I I':Nat->Prop} {β aM:ax} {G:Gx} {s:aN} {a:Act} {st eP:List an}
theorem j8 {cs ds:List PV} {arr:Array Value} {o:Nat} (h:na tR cs ds) (hc:bg w I β cs arr o):bg w I β ds arr o:=by
 have key:∀ (cs ds:List PV) (o:Nat),na tR cs ds->bg w I β cs arr o->bg w I β ds arr o:=by
  intro cs
  induction cs with
  | nil=>intro ds o h hc; cases ds with
   | nil=>exact hc
   | cons _ _=>exact h.elim
  | cons c cs ih =>
   intro ds o h hc
   cases ds with
   | nil=>exact h.elim
   | cons d ds =>
    intro i x hx
    cases i with
    | zero =>
     simp at hx; subst hx
     obtain⟨v,hv,hi,h1⟩:=hc 0 c rfl
     exact⟨v,hv,sO h.1 w I β v hi,h1⟩
    | succ i =>
     have:=ih ds (o+1) h.2 (fun j y hy=>by
      obtain⟨v,hv,h1⟩:=hc (j+1) y (by simpa using hy)
      exact⟨v,by rw[show o+1+j=o+(j+1) by omega]; exact hv,h1⟩) i x (by simpa using hx)
     obtain⟨v,hv,h1⟩:=this
     exact⟨v,by rw[show o+(i+1)=o+1+i by omega]; exact hv,h1⟩
 exact key cs ds o h hc
theorem vL {π:iM} {cs ds:List PV} {arr:Array Value} {o:Nat} (h:ib π ds=some cs) (hc:bg w I β cs arr o):bg w I (km β π) ds arr o:=by
 have key:∀ (ds cs:List PV) (o:Nat),ib π ds=some cs->bg w I β cs arr o->bg w I (km β π) ds arr o:=by
  intro ds
  induction ds with
  | nil=>intro cs o _ _ i c hc; simp at hc
  | cons d ds ih =>
   intro cs o h hc
   simp only[ib] at h
   split at h
   ·rename_i y l h1 h2
    cases h
    intro i x hx
    cases i with
    | zero =>
     simp at hx; subst hx
     obtain⟨v,hv,hi,h3⟩:=hc 0 y rfl
     exact⟨v,hv,uN h1 hi,h3⟩
    | succ i =>
     have:=ih l (o+1) h2 (fun j y hy=>by
      obtain⟨v,hv,h1⟩:=hc (j+1) y (by simpa using hy)
      exact⟨v,by rw[show o+1+j=o+(j+1) by omega]; exact hv,h1⟩) i x (by simpa using hx)
     obtain⟨v,hv,h1⟩:=this
     exact⟨v,by rw[show o+(i+1)=o+1+i by omega]; exact hv,h1⟩
   ·cases h
 exact key ds cs o h hc
theorem oJ {r:PV->PV->Prop}:∀ {cs ds:List PV},na r cs ds->cs.length=ds.length
 | [],[],_=>rfl
 | _::_,_::_,h=>by simp[oJ h.2]
 | [],_::_,h=>h.elim
 | _::_,[],h=>h.elim
theorem BJ {π:iM}:∀ {ds cs:List PV},ib π ds=some cs->ds.length=cs.length
 | [],cs,h=>by simp only[ib,Option.some.injEq] at h; subst h; rfl
 | d::ds,cs,h=>by
  simp only[ib] at h
  split at h
  ·rename_i y l h1 h2
   cases h; simp[BJ h2]
  ·cases h
theorem aT (hO:Ev.hC G.cx) {π:iM} {s s':aN} (h:lj G.cx π s s'):Sub G s s':=by
 obtain⟨hn,tS,Sq,Ua,um,ht⟩:=h
 obtain⟨Ua,_⟩:=aZ Ua
 simp only[Bool.and_eq_true] at Ua
 obtain⟨Ua,xM⟩:=Ua
 obtain⟨hπl,mr⟩:=Ex um
 have hinj:=sP Ua
 have hbl:=sQ xM
 have xM:=vK xM
 intro I β a w hR
 have hH:aL I (km β π) s'.st w:=by
  refine⟨fun l hl=>by unfold km; rw[List.getElem?_eq_none (by omega)],fun l b' hl aF=>?_⟩
  rcases mr l b' hl aF with ⟨m,b,O5,hb,hk⟩|⟨O5,hk,hc,fY⟩
  ·obtain⟨hc,hk⟩:=aZ hk
   simp only[Bool.and_eq_true] at hc
   obtain⟨⟨⟨La,fY⟩,hm⟩,Ls⟩:=hc
   have La:=Nat.eq_of_beq_eq_true La
   have fY:=Nat.eq_of_beq_eq_true fY
   have hm:=Md.qa hm
   obtain⟨p,hp,hB⟩:=hR.heap.iI m b hb Ls
   have own:∀ {g:Nat} {fr:Nat × Nat},Own I β s.st m g fr b->Own I (km β π) s'.st l g fr b':=fun ho=>by
    refine⟨fun hr=>?_,fun hr=>ho.2 (by rw[hm]; exact hr)⟩
    obtain⟨h1,h2,h3⟩:=ho.1 (by rw[hm]; exact hr)
    refine⟨h1,h2,fun l2 b2 cH gz bH p2 g2 o2 jN jM=>?_⟩
    rcases mr l2 b2 gz bH with ⟨m2,b3,PT,ml,Sz⟩|⟨PT,_⟩
    ·rw[ct PT] at jN
     obtain⟨hc3,_⟩:=aZ Sz
     simp only[Bool.and_eq_true] at hc3
     exact h3 m2 b3 (fun e=>cH (by subst e; exact hinj l2 l _ PT O5)) ml hc3.2 p2 g2 o2 jN jM
    ·rw[lQ PT] at jN
     cases jN; cases jM
   refine⟨p,by rw[ct O5]; exact hp,?_⟩
   split at hk
   ·rename_i D4 zY
    rw[D4] at hB
    rw[zY]
    obtain⟨g,o,arr,ty,fr,h1,h2,h3,ho⟩:=hB
    obtain⟨cs,jA,hk⟩:=au hk
    exact⟨g,o,arr,ty,fr,h1,h2,vL jA (j8 hk h3),own ho⟩
   ·rename_i D4 zY
    rw[D4] at hB
    rw[zY]
    obtain⟨g,arr,fr,h1,h2,h3,ho,h4,h5,h6,h7,h8⟩:=hB
    obtain⟨cs,jA,hk⟩:=au hk
    exact⟨g,arr,fr,h1,by rw[← La]; exact h2,vL jA (j8 hk h3),own ho,by rw[BJ jA,← oJ hk,← fY]; exact h4,h5,h6,by rw[← fY]; exact h7,by rw[← fY]; exact h8⟩
   ·rename_i D4 zY
    rw[D4] at hB
    rw[zY]
    obtain⟨⟨h1,h2,h3,h4⟩,hB⟩:=hB
    refine⟨⟨by rw[← fY]; exact h1,by rw[← hk]; exact h2,h3,h4⟩,?_⟩
    rcases hB with h|⟨g,arr,fr,h5,h6,h7,ho,h8⟩
    ·exact .inl h
    ·exact .inr ⟨g,arr,fr,h5,by rw[← La]; exact h6,by rw[← hk,← fY]; exact h7,own ho,by rw[← fY]; exact h8⟩
   ·rename_i D4 zY
    rw[D4] at hB
    rw[zY]
    obtain⟨g,h1,h2,ho⟩:=hB
    exact⟨g,h1,by rw[← hk]; exact h2,own ho⟩
   ·rename_i D4 zY
    rw[D4] at hB
    rw[zY]
    obtain⟨g,arr,fr,h1,h2,h3,ho,h4,h5,h6,h7,h8⟩:=hB
    obtain⟨ag,K1,hk⟩:=au hk
    obtain⟨Lt,hk⟩:=aZ hk
    rw[an.D'] at hk
    obtain⟨es,mq,hk⟩:=au hk
    simp only[Bool.or_eq_true] at Lt
    have uj:(arr.toList.take (p.len*b.size)).length=p.len*b.size:=by
     rw[List.length_take,Array.length_toList,h7]
     have:=Nat.mul_le_mul_right b.size h5
     omega
    have pk:qN w I β b.size (.stat b.cs) (arr.toList.take (p.len*b.size)):=by
     refine⟨by rw[uj,h4],fun j c hj=>?_⟩
     obtain⟨u,hu,h9⟩:=h3 j c hj
     have Bn:j < p.len*b.size:=by rw[← h4]; exact (List.getElem?_eq_some_iff.1 hj).1
     exact⟨u,by rw[List.getElem?_take,if_pos Bn]; simpa using hu,h9⟩
    obtain⟨e1,e2⟩:=fe h8 (Lt.imp id Nat.eq_of_beq_eq_true) mq pk uj
    refine⟨⟨by rw[← fY]; exact h8,by rw[← hk]; exact e1,h5,h6⟩,.inr ⟨g,arr,fr,h1,by rw[← La]; exact h2,?_,own ho,by rw[← fY]; exact h7⟩⟩
    rw[← hk,← fY]
    refine e2.at (fun j v hj=>?_) (fun _ h=>h) (fun _ _=>rfl)
    have:=qO h2 0 (p.len*b.size) j v (by simpa using hj)
    simpa using this
   ·exact hk.elim
  ·refine⟨_,lQ O5,?_⟩
   rw[hk]
   exact⟨⟨fY,by rw[hc]; rfl,Nat.le_refl _,Nat.zero_le _⟩,.inl ⟨rfl,rfl⟩⟩
 refine⟨I,km β π,⟨by rw[hn]; exact hR.small,hR.defers,by rw[hn]; exact hR.size,?_,fun t y hy=>?_,hH,hR.aC⟩,⟨⟨rfl,rfl,rfl,Nat.le_refl _,fun _ _ _=>rfl,fun g hg ⟨l,b',p,o,h1,h2,h3,h4,h5⟩=>?_,fun _ h=>h,fun _ _ h=>.inl h⟩,tS,Sq,hn,fun l hl hnr=>?_⟩⟩
 ·rw[tS]
  rw[← hπl]; exact hbl
 ·obtain⟨x,z,hx,hz,hle⟩:=TM.fZ ht hy
  obtain⟨v,hv,hi⟩:=hR.get t x hx
  exact⟨v,hv,Lr hz (fZ hle w I β v hi)⟩
 ·rcases mr l b' h1 h2 with ⟨m,b,O5,hb,hk⟩|⟨O5,_⟩
  ·obtain⟨hc,_⟩:=aZ hk
   simp only[Bool.and_eq_true] at hc
   rw[ct O5] at h4
   exact⟨m,b,p,o,hb,hc.2,by rw[Md.qa hc.1.2]; exact h3,h4,h5⟩
  ·rw[lQ O5] at h4
   cases h4; cases h5
 ·rcases xM l hl with h|h
  ·rw[Nat.zero_add] at h
   exact ct h
  ·rw[Nat.zero_add] at h; exact absurd h hnr
def frO (v:Option PV) (q:Option PV->Prop):Prop:=match v with
 | none=>q none
 | some x=>fc x fun x=>q (some x)
def SA:TM->(TM->Prop)->Prop
 | .nil,q=>q .nil
 | .node v l r,q=>frO v fun v=>SA l fun l=>SA r fun r=>q (.node v l r)
def frK (b:an) (q:an->Prop):Prop:=match b with
 | ⟨.loc,ty,n,m,live,cs⟩=>fE cs fun cs=>q ⟨.loc,ty,n,m,live,cs⟩
 | ⟨.arr,ty,n,m,live,cs⟩=>fE cs fun cs=>q ⟨.arr,ty,n,m,live,cs⟩
 | ⟨.dyn,ty,n,m,live,cs⟩=>q ⟨.dyn,ty,n,m,live,cs⟩
 | ⟨.mp,ty,n,m,live,cs⟩=>q ⟨.mp,ty,n,m,live,cs⟩
def xN:List an->(List an->Prop)->Prop
 | [],q=>q []
 | b::st,q=>frK b fun b=>xN st fun st=>q (b::st)
def Ub (s:aN) (q:aN->Prop):Prop:=match s with
 | ⟨n,t,st,b,rl⟩=>SA t fun t=>xN st fun st=>q ⟨n,t,st,b,rl⟩
theorem Ey:∀ {t:TM} {q:TM->Prop},SA t q->q t
 | .nil,_,h=>h
 | .node v l r,q,h=>by
  have h1:SA l fun l=>SA r fun r=>q (.node v l r):=by
   cases v with
   | none=>exact h
   | some x=>exact KO (x:=x) (q:=fun x=>SA l fun l=>SA r fun r=>q (.node (some x) l r)) h
  have h2:=Ey h1
  exact Ey (q:=fun r=>q (.node v l r)) h2
theorem Ez {b:an} {q:an->Prop} (h:frK b q):q b:=by
 obtain⟨k,ty,n,m,live,cs⟩:=b
 cases k
 ·exact cI (q:=fun cs=>q ⟨.loc,ty,n,m,live,cs⟩) h
 ·exact cI (q:=fun cs=>q ⟨.arr,ty,n,m,live,cs⟩) h
 ·exact h
 ·exact h
theorem qX:∀ {st:List an} {q:List an->Prop},xN st q->q st
 | [],_,h=>h
 | b::st,q,h=>qX (q:=fun st=>q (b::st)) (Ez h)
theorem sS {q:aN->Prop} (h:Ub s q):q s:=by
 obtain⟨n,t,st,b,rl⟩:=s
 have h1:=Ey h
 exact qX (q:=fun st=>q ⟨n,t,st,b,rl⟩) h1
def TM.Ig (v:Option PV):Nat->TM->Nat->TM
 | 0,t,_=>t
 | f+1,.nil,n=>bif Nat.beq n 0 then .node v .nil .nil else bif Nat.beq (n % 2) 1 then .node none (TM.Ig v f .nil ((n - 1) / 2)) .nil else .node none .nil (TM.Ig v f .nil ((n - 1) / 2))
 | f+1,.node u l r,n=>bif Nat.beq n 0 then .node v l r else bif Nat.beq (n % 2) 1 then .node u (TM.Ig v f l ((n - 1) / 2)) r else .node u l (TM.Ig v f r ((n - 1) / 2))
def SB:List Oper->List Nat
 | []=>[]
 | o::r=>(match o.dst with
  | some d=>[d]
  | none=>[])++SB r
def vM:Code->List Nat
 | .region _ ops _=>SB ops.toList
 | .seq a b=>vM a++vM b
 | .cond _ a b=>vM a++vM b
 | .block _ c=>vM c
 | .loop c=>vM c
 | .scope c=>vM c
 | _=>[]
def vN:List Nat->TM->TM
 | [],t=>t
 | d::ds,t=>vN ds (t.Ig none 24 d)
def ll:List (Nat × PV)->TM->TM
 | [],t=>t
 | (d,x)::r,t=>ll r (t.Ig (some x) 24 d)
def aN.head (s:aN) (c:Code) (vs:List (Nat × PV)) (st:List an):aN:=match s with
 | ⟨n,t,_,b,rl⟩=>⟨n,ll vs (vN (vM c) t),st,b,rl⟩
def Uc:Nat->List an->iM
 | _,[]=>[]
 | n,_::r=>some n::Uc (n+1) r
theorem SW.loop (hG:nC G) (R:List (Nat × aJ)) {α:Type} {c:Code} {Q:X->aN->Prop} (hc:b_ R c=true) (vs:α->List (Nat × PV)) (st:α->List an) (μ:α->Nat) (x0:α) (N:Nat) (O4:iM) (h0:lj G.cx O4 s (s.head c (vs x0) (st x0)))
  (h:∀ x,Ub (s.head c (vs x) (st x)) (pw G R N c (qV (fun s'=>∃ y π,μ y < μ x/\lj G.cx π s' (s.head c (vs y) (st y))) Q))):SW G (.loop c) Q s :=
 SW.inv hG (fun x=>s.head c (vs x) (st x)) μ (N:=N) hc x0 (aT hG.ok h0) (fun x s'=>∃ y π,μ y < μ x/\lj G.cx π s' (s.head c (vs y) (st y))) (fun x s' ⟨y,π,hy,hs⟩=>⟨y,hy,aT hG.ok hs⟩) fun x=>sS (h x)
def Lu:List PV->Nat->TM->(TM->Prop)->Prop
 | [],_,t,k=>k t
 | x::xs,i,t,k=>fc x fun x=>t.zF (some x) 24 i fun t=>Lu xs (i+1) t k
def SD (G:Gx) (s:aN) (r:ResultVar) (q:PV->Prop):Prop:=match r with
 | .tmp t=>aP (s.t.get t) fun x=>(match x with
  | .tup _=>False
  | x=>q x)
 | .cell a t=>aP (s.t.get a) fun x=>tK G s.st t x q
def Gh (G:Gx) (s:aN):List ResultVar->(List PV->Prop)->Prop
 | [],q=>q []
 | r::rs,q=>SD G s r fun x=>Gh G s rs fun xs=>q (x::xs)
def PU (G:Gx) (s:aN) (rs:List ResultVar) (q:PV->Prop):Prop:=match rs with
 | [.tmp t]=>aP (s.t.get t) q
 | rs=>Gh G s rs fun l=>(match l with
  | [x]=>q x
  | l=>q (.tup l))
def Ih:Md->Bool
 | .p=>false
 | _=>true
def Ii (r:PV->(PV->Prop)->Prop):List PV->(List PV->Prop)->Prop
 | [],q=>q []
 | c::cs,q=>r c fun c=>Ii r cs fun cs=>q (c::cs)
def Ij (cx:Ev.Cx) (st:List an) (base:Nat):Nat->PV->(PV->Prop)->Prop
 | 0,_,_=>False
 | n+1,x,q=>match x with
  | .wref l=>bif Nat.blt l base then q (.wref l) else aP st[l]? fun b=>bif b.live && Ih b.m then (match b.k with
   | .arr=>Ii (Ij cx st base n) b.cs fun cs=>aP (Ev.gD cx b.ty) fun ag=>bif ag || Nat.beq b.size 1 then b.szK fun n=>aP (fw ag n (.stat cs)) fun es=>q (.sl n es) else False
   | .dyn=>q (.sl b.size b.cs)
   | _=>False) else False
  | .agg cs=>Ii (Ij cx st base n) cs fun cs=>q (.agg cs)
  | .tup cs=>Ii (Ij cx st base n) cs fun cs=>q (.tup cs)
  | .clo f cs=>Ii (Ij cx st base n) cs fun cs=>q (.clo f cs)
  | x=>bif x.c9.all (fun l=>Nat.blt l base) then q x else False
def BL (base:Nat) (b:an):Bool:=match b.k with
 | .dyn=>true
 | .mp=>true
 | _=>b.cs.all fun c=>c.c9.all fun l=>Nat.blt l base
def Lv (G:Gx) (rs:List ResultVar) (base:Nat) (K:PV->List an->Prop) (x:X) (s:aN):Prop:=match x with
 | .exit _=>False
 | _=>PU G s rs fun r=>Ij G.cx s.st base 8 r fun r=>bif (s.st.take base).all (BL base) then xN (s.st.take base) fun S=>∃ r',yA r r'/\K r' S else False
def Ud (G:Gx) (R:List (Nat × aJ)) (N:Nat) (fn:Func) (c:Code) (args:List PV) (S:List an) (rl:List Nat) (K:PV->List an->Prop):Prop :=
 bif Nat.ble args.length fn.ntmps && Nat.ble fn.ntmps 16777215 && !(fn.name == "runtime.NumGoroutine") then
  pf S 0 fun b=>Lu args 0 .nil fun t=>pw G R N c (Lv G fn.results.toList b K) ⟨fn.ntmps,t,S,b,rl⟩ else False
section
variable {w w':World} {I I':Nat->Prop} {β aM:ax} {G:Gx} {s:aN} {a:Act} {st eP:List an}
theorem uO:∀ {xs:List PV} {i:Nat} {t:TM} {k:TM->Prop},Lu xs i t k->∃ t',k t'/\∀ n x,t'.get n=some x->(∃ j,n=i+j/\xs[j]?=some x)\/t.get n=some x
 | [],i,t,k,h=>⟨t,h,fun n x hx=>.inr hx⟩
 | x::xs,i,t,k,h=>by
  obtain⟨t1,h1,ht1⟩:=TM.uM (KO h)
  obtain⟨t',hk,FY⟩:=uO h1
  refine⟨t',hk,fun n y hy=>?_⟩
  rcases FY n y hy with ⟨j,hj,hx⟩|hy
  ·exact .inl ⟨j+1,by omega,by simpa using hx⟩
  ·rw[ht1] at hy
   split at hy
   ·rename_i hn
    cases hy
    exact .inl ⟨0,by omega,rfl⟩
   ·exact .inr hy
def PW (a:Act) (rv:ResultVar):Sem Value:=match rv with
 | .tmp t=>pure (a.tmps.getD t Go.undef)
 | .cell b t=>do loadVar t (← asAddr (a.tmps.getD b Go.undef))
theorem Lw (hG:nC G) (hR:Rel G I β s a w) {r:ResultVar} {q:PV->Prop} (h:SD G s r q):∃ x v,q x/\x.Is w I β v/\(PW a r).run G.cx.P w = .ok v w:=by
 cases r with
 | tmp t =>
  obtain⟨x,hx,h⟩:=au h
  obtain⟨v,hv,hi⟩:=hR.get t x hx
  have hq:q x:=by
   split at h
   ·exact h.elim
   ·exact h
  exact⟨x,v,hq,hi,by simp[PW,hv]⟩
 | cell b t =>
  obtain⟨x,hx,h⟩:=au h
  obtain⟨v,hv,hi⟩:=hR.get b x hx
  obtain⟨z,r,g,hz,TX,_,bI⟩:=ny hG.ok hR.heap hR.aC h hi
  have bI:=bI w rfl
  refine⟨z,r,hz,TX,?_⟩
  have hptr:∃ ad,v = .pointer (some ad):=by
   unfold tK at h
   split at h<;>try simp only[PV.Is] at hi
   ·obtain⟨_,_,_,_,_,rfl⟩:=hi; exact⟨_,rfl⟩
   ·obtain⟨_,_,_,_,_,rfl⟩:=hi; exact⟨_,rfl⟩
   ·obtain⟨_,_,_,_,_,rfl⟩:=hi; exact⟨_,rfl⟩
   ·obtain⟨_,_,rfl,_⟩:=hi; exact⟨_,rfl⟩
   ·exact⟨_,hi⟩
   ·exact⟨_,hi⟩
   ·exact h.elim
  obtain⟨ad,rfl⟩:=hptr
  simp only[Instr.loadAt,Instr.sureAddr,Sem.run_bind,Sem.run_pure,Result.andThen_ok] at bI
  simp[PW,hv,asAddr,bI]
theorem BM (hG:nC G) (hR:Rel G I β s a w):∀ {rs:List ResultVar} {q:List PV->Prop},Gh G s rs q->∃ xs vs,q xs/\bp w I xs β vs/\(rs.mapM (PW a)).run G.cx.P w = .ok vs w
 | [],q,h=>⟨[],[],h,by simp only[bp],rfl⟩
 | r::rs,q,h=>by
  obtain⟨x,v,h,hx,hr⟩:=Lw hG hR h
  obtain⟨xs,vs,h,qJ,hrs⟩:=BM hG hR h
  exact⟨x::xs,v::vs,h,by simp only[bp]; exact⟨hx,qJ⟩,by simp[List.mapM_cons,hr,hrs]⟩
theorem Gi (hG:nC G) (hR:Rel G I β s a w) {fn:Func} {q:PV->Prop} (h:PU G s fn.results.toList q):∃ x v,q x/\x.Is w I β v/\(results fn a.tmps).run G.cx.P w = .ok v w:=by
 have key:∀ {q':List PV->Prop},Gh G s fn.results.toList q'->(∀ l,q' l->match l with
   | [x]=>q x
   | l=>q (.tup l))->∃ x v,q x/\x.Is w I β v/\(results fn a.tmps).run G.cx.P w = .ok v w:=by
  intro q' h hq
  obtain⟨xs,vs,h,qJ,bI⟩:=BM hG hR h
  have zZ:(results fn a.tmps).run G.cx.P w = .ok (if h:vs.toArray.size=1 then vs.toArray[0] else .tuple vs.toArray) w:=by
   unfold results
   rw[Array.mapM_eq_mapM_toList]
   simp only[Sem.run_bind,Sem.run_map]
   erw [bI]
   rfl
  have hq:=hq xs h
  match xs,vs,qJ,hq,zZ with
  | [],[],_,hq,zZ=>exact⟨_,_,hq,by simp only[PV.Is]; exact⟨#[],rfl,by simp only[bp]⟩,zZ⟩
  | [x],[v],qJ,hq,zZ=>exact⟨x,v,hq,by simp only[bp] at qJ; exact qJ.1,zZ⟩
  | x::x'::xs,v::v'::vs,qJ,hq,zZ=>exact⟨_,_,hq,by simp only[PV.Is]; exact⟨_,rfl,by simpa using qJ⟩,by rw[zZ,dif_neg (by simp)]⟩
  | [],_::_,qJ,_,_=>simp only[bp] at qJ
  | _::_,[],qJ,_,_=>simp only[bp] at qJ
  | [_],_::_::_,qJ,_,_=>simp[bp] at qJ
  | _::_::_,[_],qJ,_,_=>simp[bp] at qJ
 unfold PU at h
 split at h
 ·rename_i t heq
  obtain⟨x,hx,h⟩:=au h
  obtain⟨v,hv,hi⟩:=hR.get t x hx
  refine⟨x,v,h,hi,?_⟩
  have pD:fn.results = #[.tmp t]:=by rw[← Array.toList_inj]; simpa using heq
  simp[results,pD,hv]
 ·refine key h fun l hl=>?_
  split
  ·exact hl
  ·rename_i cH
   split at hl
   ·rename_i x; exact absurd rfl (cH x)
   ·exact hl
end
end
section
variable {w w':World} {I I':Nat->Prop} {β aM:ax} {G:Gx} {s:aN} {a:Act} {st eP:List an}
def vO (I:Nat->Prop) (β:ax) (st:List an) (base:Nat) (g:Nat):Prop:=I g\/∃ l b p o,base<=l/\st[l]?=some b/\b.live=true/\b.m = .w/\β l=some p/\p.a=some (g,o)
def ur (β:ax) (base:Nat):ax:=fun l=>if l < base then β l else none
theorem vP {x:PV} {base:Nat} {v:Value} (h:x.c9.all (fun l=>Nat.blt l base)=true) (hx:x.Is w I β v) (hI:∀ g,I g->I' g):x.Is w I' (ur β base) v :=
 PV.Is.mono hI (fun _ _=>rfl) x β _ v (fun l p hl hp=>by
  rw[List.all_eq_true] at h
  unfold ur
  rw[if_pos (show l < base from Nat.le_of_ble_eq_true (h l hl))]; exact hp) hx
theorem qY {r:PV->(PV->Prop)->Prop} (hr:∀ x q v,r x q->x.Is w I β v->∃ y,q y/\y.Is w I' aM v):∀ {cs:List PV} {vs:List Value} {q:List PV->Prop},Ii r cs q->bp w I cs β vs->∃ ds,q ds/\bp w I' ds aM vs
 | [],[],q,h,_=>⟨[],h,by simp only[bp]⟩
 | c::cs,v::vs,q,h,hx=>by
  simp only[bp] at hx
  obtain⟨y,h,hy⟩:=hr c _ v h hx.1
  obtain⟨ds,h,hd⟩:=qY hr h hx.2
  exact⟨y::ds,h,by simp only[bp]; exact⟨hy,hd⟩⟩
 | [],_::_,_,_,hx=>by simp only[bp] at hx
 | _::_,[],_,_,hx=>by simp only[bp] at hx
theorem Lx {cx:Ev.Cx} (hh:aL I β st w) {base:Nat}:∀ (n:Nat) (x:PV) (q:PV->Prop) (v:Value),Ij cx st base n x q->x.Is w I β v->∃ y,q y/\y.Is w (vO I β st base) (ur β base) v
 | 0,_,_,_,h,_=>h.elim
 | n+1,x,q,v,h,hx=>by
  have ih:=Lx (cx:=cx) hh (base:=base) n
  have hI:∀ g,I g->vO I β st base g:=fun g h=>.inl h
  unfold Ij at h
  split at h
  ·rename_i l
   cases hl:Nat.blt l base
   case true =>
    rw[hl] at h
    exact⟨_,h,vP (by simp only[PV.c9,List.all_cons,List.all_nil,hl,Bool.and_true]) hx hI⟩
   case false =>
    rw[hl] at h
    have Ls:base<=l:=by
     rcases Nat.lt_or_ge l base with h'|h'
     ·have:Nat.blt l base=true:=by unfold Nat.blt; exact Nat.ble_eq_true_of_le h'
      rw[this] at hl; cases hl
     ·exact h'
    obtain⟨b,hb,h⟩:=au h
    obtain⟨hc,h⟩:=aZ h
    simp only[Bool.and_eq_true] at hc
    simp only[PV.Is] at hx
    obtain⟨p,hp,rfl⟩:=hx
    have A4:∀ {g o:Nat} {fr:Nat × Nat},p.a=some (g,o)->Own I β st l g fr b->vO I β st base g:=fun {g o fr} ha ho=>by
     cases hm:b.m with
     | w=>exact .inr ⟨l,b,p,o,Ls,hb,hc.1,hm,hp,ha⟩
     | p=>rw[hm] at hc; cases hc.2
     | r=>exact .inl (ho.2 hm)
    split at h
    ·rename_i hk
     obtain⟨g,arr,fr,ha,hw,iX,uL,dj,hlen,hle,sD,has,lh⟩:=gQ hh hb hc.1 hk hp
     have fY:p.len*b.size<=arr.size:=by rw[has]; exact Nat.mul_le_mul_right _ hle
     have uj:(arr.toList.take (p.len*b.size)).length=p.len*b.size:=by rw[List.length_take,Array.length_toList]; omega
     have p8:bp w I b.cs β (arr.toList.take (p.len*b.size)):=bp.of (by rw[uj,hlen]) fun i c hc=>by
      obtain⟨u,hu,hi,_⟩:=uL i c hc
      have Bn:i < p.len*b.size:=by rw[← hlen]; exact (List.getElem?_eq_some_iff.1 hc).1
      exact⟨u,by rw[List.getElem?_take,if_pos Bn]; simpa using hu,hi⟩
     obtain⟨ds,h,hds⟩:=qY (fun x q v=>ih x q v) h p8
     obtain⟨ag,K1,h⟩:=au h
     obtain⟨Lt,h⟩:=aZ h
     rw[an.D'] at h
     obtain⟨es,mq,h⟩:=au h
     simp only[Bool.or_eq_true] at Lt
     have pk:qN w (vO I β st base) (ur β base) b.size (.stat ds) (arr.toList.take (p.len*b.size)):=by
      refine⟨by rw[hds.length],fun j c hj=>?_⟩
      obtain⟨u,hu,hi⟩:=hds.get hj
      refine⟨u,hu,hi,?_⟩
      have Bn:j < b.cs.length:=by rw[p8.length,← hds.length]; exact (List.getElem?_eq_some_iff.1 hj).1
      obtain⟨u2,hu2,_,h1⟩:=uL j _ (List.getElem?_eq_getElem Bn)
      rw[List.getElem?_take] at hu
      split at hu
      ·have:arr[0+j]?=some u:=by simpa using hu
       rw[this] at hu2; cases hu2; exact h1
      ·cases hu
     obtain⟨e1,e2⟩:=fe lh (Lt.imp id Nat.eq_of_beq_eq_true) mq pk uj
     have Ly:cg w (vO I β st base) es b.size g 0:=e2.at (fun j v hj=>by
      have:=qO iX 0 (p.len*b.size) j v (by simpa using hj)
      simpa using this) (fun _ h=>h) (fun _ _=>rfl)
     refine⟨_,h,?_⟩
     simp only[PV.Is]
     refine⟨some ⟨g,0,none⟩,p.cap,by rw[hw,e1],by omega,by omega,fun g' o' e=>by cases e; exact Ly,fun _=>⟨g,0,rfl,A4 ha dj,lh⟩⟩
    ·rename_i hk
     obtain⟨lh,hlen,hle,sD,pg⟩:=da hh hb hc.1 hk hp
     refine⟨_,h,?_⟩
     simp only[PV.Is]
     rcases pg with ⟨ha,tL,hw⟩|⟨g,arr,fr,ha,hw,iX,mq,dj,has⟩
     ·have:b.cs = []:=List.eq_nil_of_length_eq_zero (by omega)
      rw[this,hw]
      exact⟨none,0,rfl,Nat.le_refl _,Nat.zero_le _,(fun _ _ e=>by cases e),fun hn=>absurd rfl hn⟩
     ·exact⟨some ⟨g,0,none⟩,p.cap,by rw[hw,hlen],by omega,by omega,(fun g' o' e=>by cases e; exact cg.mono hI (fun _ _=>rfl) _ _ _ _ rfl mq),fun _=>⟨g,0,rfl,A4 ha dj,lh⟩⟩
    ·exact h.elim
  ·simp only[PV.Is] at hx
   obtain⟨vs,rfl,hx⟩:=hx
   obtain⟨ds,h,hd⟩:=qY (fun x q v=>ih x q v) h hx
   exact⟨_,h,by simp only[PV.Is]; exact⟨vs,rfl,hd⟩⟩
  ·simp only[PV.Is] at hx
   obtain⟨vs,rfl,hx⟩:=hx
   obtain⟨ds,h,hd⟩:=qY (fun x q v=>ih x q v) h hx
   exact⟨_,h,by simp only[PV.Is]; exact⟨vs,rfl,hd⟩⟩
  ·simp only[PV.Is] at hx
   obtain⟨vs,rfl,hx⟩:=hx
   obtain⟨ds,h,hd⟩:=qY (fun x q v=>ih x q v) h hx
   exact⟨_,h,by simp only[PV.Is]; exact⟨vs,rfl,hd⟩⟩
  ·obtain⟨hu,h⟩:=aZ h
   exact⟨_,h,vP hu hx hI⟩
theorem Spec.intro {f:FuncId} {args:List PV} {S:List an} {rl:List Nat} {K:PV->List an->Prop} (he:Ev.ke G.cx.P f) (h:∀ I β w a_,aL I β S w->d_ G I w->bp w I args β a_ ->
  Calls G.cx.P f a_.toArray w fun e w'=>∃ v r S' I' aM,e = .returned v/\K r S'/\r.Is w' I' aM v/\aL I' aM S' w'/\d_ G I' w'/\Ext I β S w I' aM S' w'/\S.length<=S'.length/\∀ l,l < S.length->l ∉ rl->aM l=β l):Spec G f args S rl K:=by
 unfold Spec; exact⟨he,h⟩
theorem Spec.run {f:FuncId} {args:List PV} {S:List an} {rl:List Nat} {K:PV->List an->Prop} (h:Spec G f args S rl K):Ev.ke G.cx.P f/\∀ I β w a_,aL I β S w->d_ G I w->bp w I args β a_ ->
  Calls G.cx.P f a_.toArray w fun e w'=>∃ v r S' I' aM,e = .returned v/\K r S'/\r.Is w' I' aM v/\aL I' aM S' w'/\d_ G I' w'/\Ext I β S w I' aM S' w'/\S.length<=S'.length/\∀ l,l < S.length->l ∉ rl->aM l=β l:=by
 unfold Spec at h; exact h
theorem Spec.mono {f:FuncId} {args:List PV} {S:List an} {rl:List Nat} {K K':PV->List an->Prop} (h:Spec G f args S rl K) (hK:∀ r S',K r S'->K' r S'):Spec G f args S rl K' :=
 Spec.intro h.run.1 fun I β w a_ h1 h2 h3=>(h.run.2 I β w a_ h1 h2 h3).mono fun e w' ⟨v,r,S',I',aM,h1,h2,h3⟩=>⟨v,r,S',I',aM,h1,hK r S' h2,h3⟩
theorem BN (hG:nC G) {fn:Func} {a':Act} {s' s0:aN} {S:List an} {rl:List Nat} {K:PV->List an->Prop} (hs0:s0.st=S) (jL:s0.base=S.length) (z4:s0.rl=rl) (cd:Rel G I' aM s' a' w') (hg:bJ I β s0 w I' aM s' w') (hq:Lv G fn.results.toList S.length K .hU s'):∃ v,(results fn a'.tmps).run G.cx.P w' = .ok v w'/\∃ v',∃ r S' I' aM,Ending.returned v = .returned v'/\K r S'/\r.Is w' I' aM v'/\aL I' aM S' w'/\d_ G I' w'/\Ext I β S w I' aM S' w'/\S.length<=S'.length/\∀ l,l < S.length->l ∉ rl->aM l=β l:=by
 obtain⟨r,v,hq,hr,bI⟩:=Gi hG cd hq
 obtain⟨y,hq,hy⟩:=Lx cd.heap 8 r _ v hq hr
 obtain⟨gh,hq⟩:=aZ hq
 obtain⟨r',hle',hK⟩:=qX hq
 rw[List.all_eq_true] at gh
 have tS:s'.base=S.length:=hg.base.trans jL
 have hlen:S.length<=s'.st.length:=by have:=cd.base; rw[tS] at this; exact this
 have hI:∀ g,I' g->vO I' aM s'.st S.length g:=fun g h=>.inl h
 have z5:∀ (l:Nat) (b:an),(s'.st.take S.length)[l]?=some b->l < S.length/\s'.st[l]?=some b:=fun l b hb=>by
  rw[List.getElem?_take] at hb
  split at hb
  ·exact⟨‹_›,hb⟩
  ·cases hb
 have hHe:aL (vO I' aM s'.st S.length) (ur aM S.length) (s'.st.take S.length) w':=by
  refine⟨fun l hl=>?_,fun l b hb aF=>?_⟩
  ·unfold ur
   rw[if_neg (by simp at hl; omega)]
  ·obtain⟨hl,dw⟩:=z5 l b hb
   have Ls:=gh b (List.mem_of_getElem? hb)
   obtain⟨p,hp,hk⟩:=cd.heap.iI l b dw aF
   have own:∀ {g:Nat} {o:Nat} {fr:Nat × Nat},p.a=some (g,o)->Own I' aM s'.st l g fr b->Own (vO I' aM s'.st S.length) (ur aM S.length) (s'.st.take S.length) l g fr b:=fun {g o fr} ha ho=>by
    refine⟨fun hr=>?_,fun hr=>hI g (ho.2 hr)⟩
    obtain⟨h1,h2,h3⟩:=ho.1 hr
    refine⟨h1,fun hE=>?_,fun l2 b2 cH gz bH p2 g2 o2 jN jM=>?_⟩
    ·rcases hE with hE|⟨l2,b2,p2,o2,k1,k2,k3,_,k5,k6⟩
     ·exact h2 hE
     ·exact h3 l2 b2 (by omega) k2 k3 p2 g o2 k5 k6 rfl
    ·obtain⟨hl2',eG⟩:=z5 l2 b2 gz
     unfold ur at jN
     rw[if_pos hl2'] at jN
     exact h3 l2 b2 cH eG bH p2 g2 o2 jN jM
   have cells:b.k.xx=true->∀ {arr:Array Value} {o:Nat},bg w' I' aM b.cs arr o->bg w' (vO I' aM s'.st S.length) (ur aM S.length) b.cs arr o:=fun hk {arr o} hc i c hi=>by
    obtain⟨u,hu,PX,h1⟩:=hc i c hi
    refine⟨u,hu,vP ?_ PX hI,h1⟩
    unfold BL at Ls
    cases cQ:b.k with
    | dyn=>rw[cQ] at hk; cases hk
    | mp=>rw[cQ] at hk; cases hk
    | loc=>rw[cQ] at Ls; rw[List.all_eq_true] at Ls; exact Ls c (List.mem_of_getElem? hi)
    | arr=>rw[cQ] at Ls; rw[List.all_eq_true] at Ls; exact Ls c (List.mem_of_getElem? hi)
   refine⟨p,by unfold ur; rw[if_pos hl]; exact hp,?_⟩
   split at hk
   ·rename_i cQ
    obtain⟨g,o,arr,ty,fr,h1,h2,h3,ho⟩:=hk
    exact⟨g,o,arr,ty,fr,h1,h2,cells (by rw[cQ]; decide) h3,own h1 ho⟩
   ·rename_i cQ
    obtain⟨g,arr,fr,h1,h2,h3,ho,h4⟩:=hk
    exact⟨g,arr,fr,h1,h2,cells (by rw[cQ]; decide) h3,own h1 ho,h4⟩
   ·obtain⟨h1,hk⟩:=hk
    refine⟨h1,?_⟩
    rcases hk with h|⟨g,arr,fr,h2,h3,h4,ho,h5⟩
    ·exact .inl h
    ·exact .inr ⟨g,arr,fr,h2,h3,cg.mono hI (fun _ _=>rfl) _ _ _ _ rfl h4,own h2 ho,h5⟩
   ·obtain⟨g,h1,h2,ho⟩:=hk
    exact⟨g,h1,h2,own h1 ho⟩
 have ch:∀ g,vO I' aM s'.st S.length g->g < w'.heap.size:=fun g hg=>by
  rcases hg with hg|⟨l,b,p,o,_,k2,k3,_,k5,k6⟩
  ·exact cd.aC.aC g hg
  ·exact cd.heap.dk ⟨l,b,p,o,k2,k3,k5,k6⟩
 have hMe:d_ G (vO I' aM s'.st S.length) w':=⟨ch,fun g cs hgc=>by
  obtain⟨h1,h2⟩:=cd.aC.vn g cs hgc
  exact⟨hI g h1,c8.mono hI (fun _ _=>rfl) cs g 0 rfl h2⟩,cd.aC.row⟩
 have hE:=hg.ext
 rw[hs0] at hE
 refine⟨v,bI,v,r',_,_,_,rfl,hK,hle' _ _ _ _ hy,hHe,hMe,⟨hE.os,hE.tape,hE.output,hE.size,hE.block,fun g Ek ⟨l,b,p,o,h1,h2,h3,h4,h5⟩=>?_,fun g hg=>hI g (hE.aC g hg),fun g Ek A4=>?_⟩,by rw[List.length_take]; omega,fun l hl hr=>?_⟩
 ·obtain⟨hl,hb⟩:=z5 l b h1
  unfold ur at h4
  rw[if_pos hl] at h4
  exact hE.wr g Ek ⟨l,b,p,o,hb,h2,h3,h4,h5⟩
 ·rcases A4 with A4|⟨l,b,p,o,_,k2,k3,k4,k5,k6⟩
  ·exact hE.new g Ek A4
  ·exact .inr (hE.wr g Ek ⟨l,b,p,o,k2,k3,k4,k5,k6⟩)
 ·unfold ur
  rw[if_pos hl]
  exact hg.low l (by rw[jL]; exact hl) (by rw[z4]; exact hr)
theorem Spec.enter (hG:nC G) (R:List (Nat × aJ)) {f:FuncId} {fn:Func} {c:Code} {args:List PV} {S:List an} {rl:List Nat} {K:PV->List an->Prop} (N:Nat) (hf:G.cx.P.funcs[f]?=some fn) (hb:fn.body=some c) (lD:b_ R c=true) (h:Ud G R N fn c args S rl K) (hd:G.dfs = []:=by rfl):Spec G f args S rl K:=by
 obtain⟨hc,h⟩:=aZ h
 simp only[Bool.and_eq_true,Bool.not_eq_true'] at hc
 obtain⟨⟨hle,uq⟩,BO⟩:=hc
 have hle:=Nat.le_of_ble_eq_true hle
 have uq:=Nat.le_of_ble_eq_true uq
 replace h:=iY h
 rw[Nat.zero_add] at h
 obtain⟨t,h,ht⟩:=uO h
 refine Spec.intro (Ev.lB hf hb BO) fun I β w a_ hH hM hA=>calls_of_wp hf hb ?_
 have hal:=hA.length
 have hR:Rel G I β ⟨fn.ntmps,t,S,S.length,rl⟩ { tmps:=a_.toArray++Array.replicate (fn.ntmps - a_.toArray.size) Go.undef,defers:=[] } w:=by
  refine⟨uq,hd.symm,by simp; omega,Nat.le_refl _,fun n x hx=>?_,hH,hM⟩
  rcases ht n x hx with ⟨j,hj,hx⟩|hx
  ·rw[Nat.zero_add] at hj
   subst hj
   obtain⟨v,hv,hi⟩:=hA.get hx
   have ch:n < a_.length:=(List.getElem?_eq_some_iff.1 hv).1
   exact⟨v,by rw[Array.getElem?_append_left (by simpa using ch)]; simpa using hv,hi⟩
  ·cases hx
 refine wp_mono ((kj hG N c _ _ lD h).run hR) fun e a' w' hp=>?_
 obtain⟨x,s',I',aM,rfl,hq,cd,hg⟩:=hp.goes
 have jl:Lv G fn.results.toList S.length K .hU s'->_:=fun hq=>And.intro (cd.defers.trans hd) (BN hG rfl rfl rfl cd hg hq)
 cases x with
 | hU=>exact jl hq
 | ret=>exact jl hq
 | exit id=>exact hq.elim
end
section
variable {w w':World} {I I':Nat->Prop} {β aM:ax} {G:Gx} {s:aN} {a:Act} {st eP:List an}
def aj (G:Gx) (f:FuncId) (args:List PV) (r:PV):Prop:=Spec G f args [] [] fun r' _=>r'=r
theorem oK {x:PV} {v:Value} (h:x.c9 = []) (hx:x.Is w I β v):x.Is w I aM v:=PV.Is.mono (fun _ h=>h) (fun _ _=>rfl) x β aM v (fun l p hl=>by rw[h] at hl; cases hl) hx
theorem mF {xs:List PV} {vs:List Value} (h:eu xs = []) (hx:bp w I xs β vs):bp w I xs aM vs:=bp.mono (fun _ h=>h) (fun _ _=>rfl) xs β aM vs (fun l p hl=>by rw[h] at hl; cases hl) hx
theorem aj.use {f:FuncId} {args bf:List PV} {r:PV} {S:List an} {K:PV->List an->Prop} (h:aj G f bf r) (hle:na qC args bf) (hu:eu bf = []) (hr:r.c9 = []) (hK:K r S):Spec G f args S [] K:=by
 refine Spec.intro h.run.1 fun I β w a_ hH hM hA=>?_
 have h0:aL I (fun _=>none) ([]:List an) w:=⟨fun _ _=>rfl,fun l b hl=>by simp at hl⟩
 refine (h.run.2 I (fun _=>none) w a_ h0 hM (mF hu (kl (fun _ _=>fZ) hle hA))).mono fun e w' ⟨v,r',S',I',aM,he,xH,hi,_,oL,hE,_,_⟩=>?_
 subst xH
 have tO:∀ g,¬ Wr (fun _=>none) ([]:List an) g:=fun g ⟨l,b,p,o,h1,_⟩=>by simp at h1
 have hold:∀ g,g < w.heap.size->w'.heap[g]?=w.heap[g]?:=fun g hg=>hE.block g hg (tO g)
 have Lz:∀ g,g < w.heap.size->I' g->I g:=fun g hg h=>(hE.new g hg h).elim id fun h=>absurd h (tO g)
 refine⟨v,r',S,I',β,he,hK,oK hr hi,⟨hH.py,fun l b hl aF=>?_⟩,oL,⟨hE.os,hE.tape,hE.output,hE.size,fun g hg _=>hold g hg,fun g _ h=>h,hE.aC,fun g hg h=>.inl (Lz g hg h)⟩,Nat.le_refl _,fun _ _ _=>rfl⟩
 have hb:=hH.iI l b hl aF
 refine hb.mono hE.aC (fun g hg=>hold g (hM.aC g hg)) (fun _ _ h=>h) fun p g o hp ha=>?_
 obtain⟨arr,ty,fr,hh,ho⟩:=hb.place hp ha
 have ch:=dD hh
 exact⟨hold g ch,fun hr=>⟨fun hI=>(ho.1 hr).2.1 (Lz g ch hI),(ho.1 hr).2.2⟩⟩
theorem aj.u {P:Nat->Prop} {f:FuncId} {args bf:List PV} {r:PV} {S:List an} {K:List Nat->PV->List an->Prop} (h:aj G f bf r) (hK:K [] r S) (hle:na qC args bf:=by repeat' first|exact trivial|exact rfl|exact Iff.rfl|exact Or.inl rfl|refine And.intro ?_ ?_) (hu:eu bf = []:=by rfl) (hr:r.c9 = []:=by rfl):∃ rl:List Nat,(∀ l,l∈rl->P l)/\Spec G f args S rl (K rl):=⟨[],fun _ hl=>(by cases hl),h.use hle hu hr hK⟩
theorem Spec.args {f:FuncId} {args bf:List PV} {S:List an} {rl:List Nat} {K:PV->List an->Prop} (h:Spec G f bf S rl K) (hle:na qC args bf):Spec G f args S rl K :=
 Spec.intro h.run.1 fun I β w a_ hH hM hA=>h.run.2 I β w a_ hH hM (kl (fun _ _=>fZ) hle hA)
theorem al {r r0:PV} (h:qC r r0):∃ r',yA r r'/\r'=r0:=⟨r0,fZ h,rfl⟩
theorem rA {r r0:PV} (h:qC r r0:=by repeat' first|exact trivial|exact rfl|exact Iff.rfl|exact Or.inl rfl|refine And.intro ?_ ?_):∃ r',yA r r'/\r'=r0:=al h
theorem aG {z:Int} (h:-9223372036854775808<=z/\z<=9223372036854775807):ym .i64 z:=by unfold ym Ev.ng Ev.mo; simp only[IntKind.signed,IntKind.bits]; simpa using h
theorem ai {z:Int} (h:0<=z/\z<=4294967295):ym .u32 z:=by unfold ym Ev.ng Ev.mo; simp only[IntKind.signed,IntKind.bits]; simpa using h
theorem cL {z:Int} (h:0<=z/\z<=18446744073709551615):ym .u64 z:=by unfold ym Ev.ng Ev.mo; simp only[IntKind.signed,IntKind.bits]; simpa using h
theorem gJ {z:Int} (h:0<=z/\z<=255):ym .u8 z:=by unfold ym Ev.ng Ev.mo; simp only[IntKind.signed,IntKind.bits]; simpa using h
theorem li {z:Int} {P Q:Prop} (hP:P) (h:-9223372036854775808<=z/\z<=9223372036854775807:=by omega):(ym .i64 z/\P)\/Q:=.inl ⟨aG h,hP⟩
theorem lu {z:Int} {P Q:Prop} (hP:P) (h:0<=z/\z<=4294967295:=by omega):(ym .u32 z/\P)\/Q:=.inl ⟨ai h,hP⟩
end
open Go
noncomputable def bt:List (Nat × Nat):=[(3,Tryz.t3.bytes),(42,Tryz.t42.bytes),(30,Tryz.t30.bytes),(37,Tryz.t37.bytes),(27,Tryz.t27.bytes),(110,Tryz.t110.bytes),(108,Tryz.t108.bytes),(24,Tryz.t24.bytes),(40,Tryz.t40.bytes),(28,Tryz.t28.bytes),(70,Tryz.t70.bytes),(31,Tryz.t31.bytes),(39,Tryz.t39.bytes),(35,Tryz.t35.bytes),(61,Tryz.t61.bytes),(56,Tryz.t56.bytes),(25,Tryz.t25.bytes),(4,Tryz.t4.bytes),(34,Tryz.t34.bytes),(106,Tryz.t106.bytes),(95,Tryz.t95.bytes),(87,Tryz.t87.bytes),(22,Tryz.t22.bytes),(91,Tryz.t91.bytes),(148,Tryz.t148.bytes),(128,Tryz.t128.bytes),(63,Tryz.t63.bytes),(58,Tryz.t58.bytes),(5,Tryz.t5.bytes),(104,Tryz.t104.bytes),(59,Tryz.t59.bytes),(9,Tryz.t9.bytes),(159,Tryz.t159.bytes),(82,Tryz.t82.bytes),(138,Tryz.t138.bytes),(165,Tryz.t165.bytes),(129,Tryz.t129.bytes),(76,Tryz.t76.bytes)]
theorem bt_ok:∀ p∈bt,∃ i,Tryz.prog.info? p.1=some i/\i.bytes=p.2 :=
 Ev.all_cons ⟨Tryz.t3,by kernel_rfl,rfl⟩ <|
 Ev.all_cons ⟨Tryz.t42,by kernel_rfl,rfl⟩ <|
 Ev.all_cons ⟨Tryz.t30,by kernel_rfl,rfl⟩ <|
 Ev.all_cons ⟨Tryz.t37,by kernel_rfl,rfl⟩ <|
 Ev.all_cons ⟨Tryz.t27,by kernel_rfl,rfl⟩ <|
 Ev.all_cons ⟨Tryz.t110,by kernel_rfl,rfl⟩ <|
 Ev.all_cons ⟨Tryz.t108,by kernel_rfl,rfl⟩ <|
 Ev.all_cons ⟨Tryz.t24,by kernel_rfl,rfl⟩ <|
 Ev.all_cons ⟨Tryz.t40,by kernel_rfl,rfl⟩ <|
 Ev.all_cons ⟨Tryz.t28,by kernel_rfl,rfl⟩ <|
 Ev.all_cons ⟨Tryz.t70,by kernel_rfl,rfl⟩ <|
 Ev.all_cons ⟨Tryz.t31,by kernel_rfl,rfl⟩ <|
 Ev.all_cons ⟨Tryz.t39,by kernel_rfl,rfl⟩ <|
 Ev.all_cons ⟨Tryz.t35,by kernel_rfl,rfl⟩ <|
 Ev.all_cons ⟨Tryz.t61,by kernel_rfl,rfl⟩ <|
 Ev.all_cons ⟨Tryz.t56,by kernel_rfl,rfl⟩ <|
 Ev.all_cons ⟨Tryz.t25,by kernel_rfl,rfl⟩ <|
 Ev.all_cons ⟨Tryz.t4,by kernel_rfl,rfl⟩ <|
 Ev.all_cons ⟨Tryz.t34,by kernel_rfl,rfl⟩ <|
 Ev.all_cons ⟨Tryz.t106,by kernel_rfl,rfl⟩ <|
 Ev.all_cons ⟨Tryz.t95,by kernel_rfl,rfl⟩ <|
 Ev.all_cons ⟨Tryz.t87,by kernel_rfl,rfl⟩ <|
 Ev.all_cons ⟨Tryz.t22,by kernel_rfl,rfl⟩ <|
 Ev.all_cons ⟨Tryz.t91,by kernel_rfl,rfl⟩ <|
 Ev.all_cons ⟨Tryz.t148,by kernel_rfl,rfl⟩ <|
 Ev.all_cons ⟨Tryz.t128,by kernel_rfl,rfl⟩ <|
 Ev.all_cons ⟨Tryz.t63,by kernel_rfl,rfl⟩ <|
 Ev.all_cons ⟨Tryz.t58,by kernel_rfl,rfl⟩ <|
 Ev.all_cons ⟨Tryz.t5,by kernel_rfl,rfl⟩ <|
 Ev.all_cons ⟨Tryz.t104,by kernel_rfl,rfl⟩ <|
 Ev.all_cons ⟨Tryz.t59,by kernel_rfl,rfl⟩ <|
 Ev.all_cons ⟨Tryz.t9,by kernel_rfl,rfl⟩ <|
 Ev.all_cons ⟨Tryz.t159,by kernel_rfl,rfl⟩ <|
 Ev.all_cons ⟨Tryz.t82,by kernel_rfl,rfl⟩ <|
 Ev.all_cons ⟨Tryz.t138,by kernel_rfl,rfl⟩ <|
 Ev.all_cons ⟨Tryz.t165,by kernel_rfl,rfl⟩ <|
 Ev.all_cons ⟨Tryz.t129,by kernel_rfl,rfl⟩ <|
 Ev.all_cons ⟨Tryz.t76,by kernel_rfl,rfl⟩ <| Ev.all_nil
noncomputable def gxOf (pX:List (Nat × List PV)):Gx:={ cx:=Ev.cxOf [] [],pX:=pX,bt:=bt }
theorem gxOk (pX:List (Nat × List PV)):nC (gxOf pX):=⟨Ev.cxOk [] [],bt_ok⟩
def Ue:List PV:=[.lit .u32 1,.lit .u32 65537,.lit .u32 16777472,.lit .u32 16843009]
def shP:List PV:=[0,1,1,1,2,2,3,3,4,4,4,4,5,5,5,5,5,5,5,5,5,5,5,5,5,5,5,5,6,6,6,7,8,2,2,9,9,8,8,8,10,10,11,12,13,14,15,16,17,17,18,18,18,18,18,18,18,18,18,18,19,19,20,20,20,20,21,21,21,21,21,21,21,21,21,21,22,22,23,23,23,23,24,24,25,25,26,26,27,27,27,27,28,29,30,31,31,28,32,33,34].map (.lit .i64)
def vQ (a b c d e:Bool) (m n:Int):List PV:=[bif a then .tt else .ff,bif b then .tt else .ff,bif c then .tt else .ff,bif d then .tt else .ff,bif e then .tt else .ff,.lit .i64 m,.lit .i64 n]
def LA:List PV:=vQ false false false false false 0 0++vQ false false false false true 0 0++vQ false false false false false 0 2147483647++vQ true false false false false 2 2++vQ true true true false false 1 1++vQ true false false true false 1 1++vQ true true false false false 0 0
noncomputable def gT:Gx:={ gxOf [(2,Ue),(1,shP),(0,LA)] with ext:=[114] }
theorem ao:nC gT:=⟨(gxOk []).ok,(gxOk []).bD⟩
section
variable {w w':World} {I I':Nat->Prop} {β aM:ax} {G:Gx} {s:aN} {a:Act} {st eP:List an}
theorem aL.LB (hH:aL I β [] w) (w':World) (I':Nat->Prop):aL I' β [] w':=⟨hH.py,fun l b hl=>by simp at hl⟩
theorem d_.below (hM:d_ G I w) (hB:Below w.heap.size w w'):d_ G I w' :=
 ⟨fun g hg=>Nat.lt_of_lt_of_le (hM.aC g hg) hB.size,fun g cs h=>⟨(hM.vn g cs h).1,c8.mono (fun _ h=>h) (fun g hg=>hB.block g (hM.aC g hg)) _ _ _ (hB.block g (hM.aC g (hM.vn g cs h).1)) (hM.vn g cs h).2⟩,fun g cs h=>by
  obtain⟨arr,ty,fr,h1,h2⟩:=hM.row g cs h
  exact⟨arr,ty,fr,(hB.block g (hM.aC g (hM.vn g cs h).1)).trans h1,h2⟩⟩
theorem aj.BP {f:FuncId} {args:List PV} {r:PV} (he:Ev.ke G.cx.P f) (vs:List Value) (v:Value) (ha:∀ w I β a_,bp w I args β a_->a_=vs) (hr:∀ w I β,r.Is w I β v)
  (h:∀ w,Calls G.cx.P f vs.toArray w fun e w'=>e = .returned v/\Below w.heap.size w w'):aj G f args r:=by
 refine Spec.intro he fun I β w a_ hH hM hA=>?_
 rw[ha _ _ _ _ hA]
 refine (h w).mono fun e w' ⟨he,hB⟩=>⟨v,r,[],I,β,he,rfl,hr _ _ _,hH.LB _ _,hM.below hB,⟨hB.os,hB.tape,hB.output,hB.size,fun g hg _=>hB.block g hg,fun g _ h=>h,fun _ h=>h,fun _ _ h=>.inl h⟩,Nat.le_refl _,fun _ _ _=>rfl⟩
theorem aj.of_same {f:FuncId} {args:List PV} {r:PV} (he:Ev.ke G.cx.P f) (vs:List Value) (v:Value) (ha:∀ w I β a_,bp w I args β a_->a_=vs) (hr:∀ w I β,r.Is w I β v)
  (h:∀ w,Calls G.cx.P f vs.toArray w fun e w'=>e = .returned v/\w'=w):aj G f args r :=
 aj.BP he vs v ha hr fun w=>(h w).mono fun e w' ⟨h1,h2⟩=>⟨h1,h2 ▸ Below.refl _ _⟩
theorem aj.calls {f:FuncId} {args:List PV} {r:PV} {a_:List Value} (h:aj G f args r) (hM:d_ G I w) (hA:bp w I args (fun _=>none) a_) (v:Value) (hr:∀ w' I' aM v',r.Is w' I' aM v'->v'=v) :
  Calls G.cx.P f a_.toArray w fun e w'=>e = .returned v/\Below w.heap.size w w':=by
 have h0:aL I (fun _=>none) ([]:List an) w:=⟨fun _ _=>rfl,fun l b hl=>by simp at hl⟩
 refine (h.run.2 I (fun _=>none) w a_ h0 hM hA).mono fun e w' ⟨v',r',S',I',aM,he,xH,hi,_,oL,hE,_,_⟩=>?_
 subst xH
 rw[hr _ _ _ _ hi] at he
 exact⟨he,hE.os,hE.tape,hE.output,hE.size,fun g hg=>hE.block g hg fun ⟨l,b,p,o,h1,_⟩=>by simp at h1⟩
theorem PY (w':World) (I':Nat->Prop) (aM:ax) (v':Value) (h:PV.tt.Is w' I' aM v'):v' = .bool true:=by simpa [PV.Is] using h
end
def In (w:World) (g:Nat):Prop:=g < w.heap.size
abbrev no:ax:=fun _=>none
def Op (P:Program) (t:TypeId) (S:PV->Prop):Prop:=∀ {H:Type} (e:TypeId × Value->H) (w:World) (base:Nat) (held:Bool) (fuel:Nat) (cs:List Value) (x:DataW H × List MemPlace),
 DataW.trod e P w base (fun _=>true) held fuel t cs=some x->(∀ n∈x.1.weights P t,n<=reachBytes)->∃ y,S y/\(∀ vs,y≠.tup vs)/\bp w (In w) y.cells no cs/\cs.length=P.cellsOf t/\∀ c∈cs,c.oneCell'=true
def SInt (k:IntKind) (x:PV):Prop:=∃ z,ym k z/\x = .int k z
def SSl (n b:Nat) (S:PV->Prop) (x:PV):Prop:=∃ es:List PV,(es.length<=maxLen/\es.length*b<=reachBytes)/\(∀ e∈es,S e)/\x = .sl n es
def SE:List (PV->Prop)->List PV->Prop
 | [],[]=>True
 | S::Ss,x::xs=>S x/\SE Ss xs
 | _,_=>False
def SAgg (Ss:List (PV->Prop)) (x:PV):Prop:=∃ xs,SE Ss xs/\x = .agg (xs.flatMap PV.cells)
section
variable {P:Program} {t e:TypeId}
theorem Uf {k:IntKind} {z:Int} (h:(Lit.int k z).wf=true):ym k z:=by
 unfold ym
 cases k<;>simp_all [Lit.wf,Ev.ng,Ev.mo,IntKind.min,IntKind.max,IntKind.signed,IntKind.bits]<;>omega
theorem Gj {k:IntKind} (ht:P.underlying t=some (.int k)) (hc:P.cellsOf t=1):Op P t (SInt k):=fun e w base held fuel cs x h ca=>by
 obtain⟨n,rfl,_,hw⟩:=DataW.trod_int ht h
 exact⟨.int k n,⟨n,Uf hw,rfl⟩,nofun,bp.one (by simp only[PV.Is]),by rw[hc]; rfl,fun c hc=>by simp only[List.mem_singleton] at hc; subst hc; rfl⟩
theorem nL {α:Type _} {p:Nat->α->Prop}:∀ n:Nat,(∀ i,i < n->∃ y,p i y)->∃ l:List α,l.length=n/\∀ i y,l[i]?=some y->p i y
 | 0,_=>⟨[],rfl,fun i y h=>by simp at h⟩
 | n+1,h=>by
  obtain⟨l,hl,hp⟩:=nL (p:=p) n fun i hi=>h i (by omega)
  obtain⟨y,hy⟩:=h n (by omega)
  refine⟨l++[y],by simp[hl],fun i z hz=>?_⟩
  rw[List.getElem?_append] at hz
  split at hz
  ·exact hp i z hz
  ·rename_i En
   have h0:i - l.length=0:=by
    have:=(List.getElem?_eq_some_iff.1 hz).1
    simp at this; omega
   rw[h0] at hz
   simp only[List.getElem?_cons_zero,Option.some.injEq] at hz
   subst hz
   have:i=n:=by omega
   subst this; exact hy
theorem nM {H:Type} {n:Nat}:∀ {l:List (DataW H)} {d:DataW H},d∈l->n∈d.weights P e->n∈DataW.weightsAll P e l
 | [],_,h,_=>by cases h
 | a::l,d,h,hn=>by
  simp only[DataW.weightsAll,List.mem_append]
  rcases List.mem_cons.1 h with rfl|h
  ·exact .inl hn
  ·exact .inr (nM h hn)
theorem mG {H:Type} {n:Nat}:∀ {ts:List TypeId} {l:List (DataW H)} {i:Nat} {t:TypeId} {d:DataW H},ts[i]?=some t->l[i]?=some d->n∈d.weights P t->n∈DataW.weightsEach P ts l
 | [],_,_,_,_,h,_,_=>by simp at h
 | _::_,[],_,_,_,_,h,_=>by simp at h
 | u::ts,a::l,0,t,d,h,h',hn=>by
  simp only[List.getElem?_cons_zero,Option.some.injEq] at h h'
  subst h; subst h'
  simp only[DataW.weightsEach,List.mem_append]
  exact .inl hn
 | u::ts,a::l,i+1,t,d,h,h',hn=>by
  simp only[DataW.weightsEach,List.mem_append]
  exact .inr (mG (by simpa using h) (by simpa using h') hn)
theorem Gk {S:PV->Prop} (he:Op P e S) (n b:Nat) (PZ:P.bytesOf e=b) (ht:P.underlying t=some (.slice e)) (hn:P.cellsOf e=n) (h0:0 < n) (hc:P.cellsOf t=1):Op P t (SSl n b S):=fun {H} ec w base held fuel cs x h ca=>by
 subst hn
 subst PZ
 rcases Deep.open_slice ht h with ⟨rfl,_⟩|⟨a,len,cap,m,k,D,Pl,rfl,hb,hl,hm,pF,rfl,hx⟩
 ·exact⟨.sl _ [],⟨[],⟨by simp,by simp⟩,fun _ h=>by simp at h,rfl⟩,nofun,bp.one (by simp only[PV.Is]; exact⟨none,0,rfl,Nat.le_refl _,by simp,fun _ _ h=>by simp at h,fun h=>absurd rfl h⟩),by rw[hc]; rfl,fun c hc=>by simp only[List.mem_singleton] at hc; subst hc; rfl⟩
 ·simp only[if_true] at pF
  subst pF
  have z6:len*P.bytesOf e<=reachBytes:=by
   have:=ca ((len+(m - len))*P.bytesOf e) (by simp only[DataW.weights,ht,List.length_map,List.length_range]; exact List.mem_cons_self)
   exact Nat.le_trans (Nat.mul_le_mul_right _ (Nat.le_add_right _ _)) this
  have hwe:∀ i,i < len->∀ n∈(D i).weights P e,n<=reachBytes:=fun i hi n hn=>ca n (by
   simp only[DataW.weights,ht]
   exact List.mem_cons_of_mem _ (List.mem_append.2 (.inl (nM (List.mem_map.2 ⟨i,List.mem_range.2 hi,rfl⟩) hn))))
  have hs0:0 < len->a.spot=none:=fun hp=>by
   obtain⟨yC,h1,h2⟩:=hx 0 (by omega)
   obtain⟨y,_,_,hy,hlen,_⟩:=he ec w base held k yC _ h2 (hwe 0 hp)
   obtain⟨_,_,kg⟩:=World.cells?_some h1
   have tL:=kg 0 h0
   rw[List.getElem?_eq_getElem (by omega),Nat.zero_mul] at tL
   exact World.cell?_spot tL
  have each:∀ i,i < len->∃ y,S y/\a.spot=none/\a.block < w.heap.size/\HU w (In w) (P.cellsOf e) y a.block (a.off+i*P.cellsOf e):=fun i hi=>by
   obtain⟨yC,h1,h2⟩:=hx i (by omega)
   obtain⟨y,hS,_,hy,hlen,h1c⟩:=he ec w base held k yC _ h2 (hwe i hi)
   obtain⟨_,_,kg⟩:=World.cells?_some h1
   have tL:=kg 0 h0
   rw[List.getElem?_eq_getElem (by omega)] at tL
   have hs:a.spot=none:=hs0 (by omega)
   obtain⟨b,off,sp⟩:=a
   dsimp only at hs
   subst hs
   have ea:∀ b off k,(⟨b,off,none⟩:Addr).add k=⟨b,off+k,none⟩:=fun b off k=>by unfold Addr.add; split<;>simp_all
   refine⟨y,hS,rfl,?_,?_,c8.of fun j c hj=>?_⟩
   ·have:=World.block_lt_of_cell? w _ tL
    rw[ea,ea] at this; exact this
   ·rw[hy.length,hlen]
   ·obtain⟨v,hv,PX⟩:=hy.get hj
    have Bn:j < P.cellsOf e:=by rw[← hlen]; exact (List.getElem?_eq_some_iff.1 hv).1
    have:=kg j Bn
    rw[ea,ea,hv] at this
    exact⟨v,by simpa only [Nat.add_assoc] using this,PX,h1c v (List.mem_of_getElem? hv)⟩
  obtain⟨es,mq,hp⟩:=nL len each
  refine⟨.sl _ es,⟨es,⟨by omega,by rw[mq]; exact z6⟩,fun y hy=>?_,rfl⟩,nofun,bp.one ?_,by rw[hc]; rfl,fun c hc=>by simp only[List.mem_singleton] at hc; subst hc; rfl⟩
  ·obtain⟨i,hi⟩:=List.getElem?_of_mem hy
   exact (hp i y hi).1
  ·simp only[PV.Is]
   refine⟨some a,m,by rw[mq],by omega,by omega,fun g o Kh=>?_,fun cH=>?_⟩
   ·cases Kh
    exact cg.of fun i y hy=>(hp i y hy).2.2.2
   ·have h1:0 < es.length:=by omega
    obtain⟨_,h2,h3,_⟩:=hp 0 es[0] (List.getElem?_eq_getElem h1)
    obtain⟨b,off,sp⟩:=a
    dsimp only at h2
    subst h2
    exact⟨b,off,rfl,h3,h0⟩
theorem Op.BQ {S S':PV->Prop} (h:Op P t S) (hS:∀ x,S x->S' x):Op P t S':=fun e w base held fuel cs x hx ca=>by
 obtain⟨y,h1,h2⟩:=h e w base held fuel cs x hx ca
 exact⟨y,hS y h1,h2⟩
theorem decode {α:Type} {S:PV->Prop} {enc:α->PV} {ok:α->Prop} (h:∀ x,S x->∃ z,ok z/\x=enc z):∀ (es:List PV),(∀ e∈es,S e)->∃ l:List α,(∀ z∈l,ok z)/\es=l.map enc
 | [],_=>⟨[],fun _ h=>by simp at h,rfl⟩
 | e::es,hS=>by
  obtain⟨z,hz,rfl⟩:=h e (hS e (List.mem_cons_self ..))
  obtain⟨l,hl,rfl⟩:=decode h es fun e he=>hS e (List.mem_cons_of_mem _ he)
  refine⟨z::l,fun y hy=>?_,rfl⟩
  rcases List.mem_cons.1 hy with rfl|hy
  ·exact hz
  ·exact hl y hy
def P0 {α:Type} (n b:Nat) (enc:α->PV) (ok:α->Prop) (x:PV):Prop:=∃ l:List α,(l.length<=maxLen/\l.length*b<=reachBytes)/\(∀ z∈l,ok z)/\x = .sl n (l.map enc)
theorem LC {α:Type} {S:PV->Prop} {n b:Nat} {enc:α->PV} {ok:α->Prop} (h:Op P t (SSl n b S)) (hd:∀ x,S x->∃ z,ok z/\x=enc z):Op P t (P0 n b enc ok):=h.BQ fun x ⟨es,h1,h2,h3⟩=>by
 obtain⟨l,hl,rfl⟩:=decode hd es h2
 exact⟨l,by simpa using h1,hl,h3⟩
theorem qZ {H:Type} {ts:List TypeId} {l:List (DataW H)} (h:(DataW.weightsEach P ts l).all (·<=reachBytes)=true) {i:Nat} {d:DataW H} (ht:ts[i]?=some t) (hd:l[i]?=some d):∀ n∈d.weights P t,n<=reachBytes:=fun n hn=>by
 have:=List.all_eq_true.1 h n (mG ht hd hn)
 simpa using this
theorem Op.Ik {S:PV->Prop} (h:Op P t S) (h1:∀ y,S y->y.cells = [y]) {H:Type} {ec:TypeId × Value->H} {w:World} {base:Nat} {held:Bool} {v:Value} {d:DataW H} {p:List MemPlace} (hv:v.cells = #[v]) (ht:DataW.Trod ec P w base (fun _=>true) held t v d p) (ca:∀ n∈d.weights P t,n<=reachBytes) :
  ∃ y,S y/\y.Is w (In w) no v:=by
 obtain⟨fuel,ht⟩:=ht
 obtain⟨y,hS,_,hy,_⟩:=h ec w base held fuel _ _ ht ca
 refine⟨y,hS,?_⟩
 rw[h1 y hS,hv] at hy
 simp only[bp,and_true] at hy
 exact hy
theorem Op.argA {Ss:List (PV->Prop)} (h:Op P t (SAgg Ss)) {H:Type} {ec:TypeId × Value->H} {w:World} {base:Nat} {held:Bool} {vs:Array Value} {d:DataW H} {p:List MemPlace} (ht:DataW.Trod ec P w base (fun _=>true) held t (.agg vs) d p) (ca:∀ n∈d.weights P t,n<=reachBytes) :
  ∃ y,SAgg Ss y/\y.Is w (In w) no (.agg vs):=by
 obtain⟨fuel,ht⟩:=ht
 obtain⟨y,hS,_,hy,_⟩:=h ec w base held fuel _ _ ht ca
 refine⟨y,hS,?_⟩
 obtain⟨xs,_,rfl⟩:=hS
 simp only[PV.Is]
 exact⟨vs,rfl,hy⟩
theorem SSl.cell {n b:Nat} {S:PV->Prop} (y:PV):SSl n b S y->y.cells = [y]:=fun ⟨_,_,_,h⟩=>by subst h; rfl
theorem P0.cell {α:Type} {n b:Nat} {enc:α->PV} {ok:α->Prop} (y:PV):P0 n b enc ok y->y.cells = [y]:=fun ⟨_,_,_,h⟩=>by subst h; rfl
theorem SInt.cell {k:IntKind} (y:PV):SInt k y->y.cells = [y]:=fun ⟨_,_,h⟩=>by subst h; rfl
end
def tT (P:Program) (total:Nat) (r:TypeId->DataW Unit->Option (List PV)):Nat->List (Nat × TypeId)->List (DataW Unit)->Option (List PV)
 | off,[],[]=>if off=total then some [] else none
 | off,(o,t)::ps,d::ds=>if o=off then (match r t d,tT P total r (off+P.cellsOf t) ps ds with
   | some xs,some ys=>some (xs++ys)
   | _,_=>none) else none
 | _,_,_=>none
def BR (P:Program):Nat->TypeId->DataW Unit->Option (List PV)
 | 0,_,_=>none
 | f+1,t,d=>match P.underlying t,d with
  | some (.int k),.lit (.int l n)=>if k=l then some [.lit k n] else none
  | some .bool,.lit (.bool b)=>some [if b then .tt else .ff]
  | some (.struct fs),.agg ds=>tT P (P.cellsOf t) (BR P f) 0 (fs.toList.map fun f=>(f.offset,f.type)) ds
  | some (.array n e),.agg ds=>tT P (P.cellsOf t) (BR P f) 0 ((List.range n).map fun i=>(i*P.cellsOf e,e)) ds
  | _,_=>none
section
variable {P:Program} {w:World} {I:Nat->Prop}
theorem Gl {base:Nat} {sp:Nat->Bool} {held:Bool} {enc:TypeId × Value->Unit}:∀ (f:Nat) (t:TypeId) (d:DataW Unit) (xs:List PV) (fuel:Nat) (cs:List Value) (p:List MemPlace),BR P f t d=some xs->DataW.trod enc P w base sp held fuel t cs=some (d,p)->bp w I xs no cs/\∀ c∈cs,c.oneCell'=true
 | 0,_,_,_,_,_,_,h,_=>by simp[BR] at h
 | f+1,t,d,xs,fuel,cs,p,h,ht=>by
  have key:∀ (n:Nat) (ps:List (Nat × TypeId)) (ds:List (DataW Unit)) (off:Nat) (xs:List PV),tT P (P.cellsOf t) (BR P f) off ps ds=some xs->cs.length=P.cellsOf t ->
    (∀ (i:Nat) (o:Nat) (u:TypeId),ps[i]?=some (o,u)->∃ d p,ds[i]?=some d/\DataW.trod enc P w base sp held n u ((cs.drop o).take (P.cellsOf u))=some (d,p))->bp w I xs no (cs.drop off)/\∀ c∈cs.drop off,c.oneCell'=true:=by
   intro n ps
   induction ps with
   | nil =>
    intro ds off xs h hl _
    cases ds with
    | cons=>simp[tT] at h
    | nil =>
     simp only[tT] at h
     split at h
     ·cases h
      rw[List.drop_eq_nil_of_le (by omega)]
      exact⟨by simp only[bp],fun c hc=>by cases hc⟩
     ·cases h
   | cons q ps ih =>
    obtain⟨o,u⟩:=q
    intro ds off xs h hl ha
    cases ds with
    | nil=>simp[tT] at h
    | cons d ds =>
     simp only[tT] at h
     split at h
     ·rename_i ho
      subst ho
      split at h
      ·rename_i xs1 ys h1 h2
       cases h
       obtain⟨d',p',hd,ht⟩:=ha 0 o u rfl
       simp only[List.getElem?_cons_zero,Option.some.injEq] at hd
       subst hd
       have i1:=Gl f u _ _ n _ _ h1 ht
       have i2:=ih ds _ _ h2 hl fun i o' u' hi=>by
        obtain⟨d',p',hd,ht⟩:=ha (i+1) o' u' (by simpa using hi)
        exact⟨d',p',by simpa using hd,ht⟩
       have hd:cs.drop o=(cs.drop o).take (P.cellsOf u)++cs.drop (o+P.cellsOf u):=by
        rw[← List.drop_drop,List.take_append_drop]
       rw[hd]
       refine⟨i1.1.append i2.1,fun c hc=>?_⟩
       rw[List.mem_append] at hc
       exact hc.elim (i1.2 c) (i2.2 c)
      ·cases h
     ·cases h
  unfold BR at h
  split at h
  ·rename_i hu
   obtain⟨z,rfl,hz,_⟩:=DataW.trod_int hu ht
   simp only[Prod.mk.injEq,DataW.lit.injEq,Lit.int.injEq] at hz
   obtain⟨⟨rfl,rfl⟩,_⟩:=hz
   simp only[if_true,Option.some.injEq] at h
   subst h
   exact⟨bp.one (by simp only[PV.Is]),fun c hc=>by simp only[List.mem_singleton] at hc; subst hc; rfl⟩
  ·rename_i hu
   obtain⟨b,rfl,hz⟩:=DataW.trod_bool hu ht
   simp only[Prod.mk.injEq,DataW.lit.injEq,Lit.bool.injEq] at hz
   obtain⟨rfl,_⟩:=hz
   simp only[Option.some.injEq] at h
   subst h
   refine⟨bp.one ?_,fun c hc=>by simp only[List.mem_singleton] at hc; subst hc; rfl⟩
   split<;>simp only[PV.Is]<;>simp_all
  ·rename_i hu
   obtain⟨ys,n,_,hz,hl,Sj,hy⟩:=DataW.trod_struct hu ht
   simp only[Prod.mk.injEq,DataW.agg.injEq] at hz
   obtain⟨rfl,_⟩:=hz
   have:=key n _ _ 0 xs h hl fun i o u hi=>by
    simp only[List.getElem?_map,Option.map_eq_some_iff,Prod.mk.injEq] at hi
    obtain⟨f',hf,rfl,rfl⟩:=hi
    have hy:=hy i f' (by simpa using hf)
    have ch:i < ys.length:=by rw[Sj]; simpa using (List.getElem?_eq_some_iff.1 hf).1
    exact⟨ys[i].1,ys[i].2,by simp[ch],by rw[hy]; simp[ch]⟩
   simpa using this
  ·rename_i hu
   obtain⟨ys,n,_,hz,hl,Sj,hy⟩:=DataW.trod_array hu ht
   simp only[Prod.mk.injEq,DataW.agg.injEq] at hz
   obtain⟨rfl,_⟩:=hz
   have:=key n _ _ 0 xs h hl fun i o u hi=>by
    simp only[List.getElem?_map,Option.map_eq_some_iff,Prod.mk.injEq] at hi
    obtain⟨j,hj,rfl,rfl⟩:=hi
    obtain⟨O6,rfl⟩:=List.getElem?_eq_some_iff.1 hj
    simp only[List.length_range] at O6
    rw[List.getElem_range]
    have hy:=hy i O6
    have ch:i < ys.length:=by omega
    exact⟨ys[i].1,ys[i].2,by simp[ch],by rw[hy]; simp[ch]⟩
   simpa using this
  ·cases h
theorem Gm {laid:List (String × DataW Unit)}:∀ {l:List (String × DataW Unit)} {ps:List MemPlace},DataW.LaidVars P w l ps->∀ {name:String} {d:DataW Unit},(name,d)∈l->∀ {g:Nat} {t:TypeId} {xs:List PV} (f:Nat),P.globalNamed name=some g->(P.globals[g]?).map (·.type)=some t->BR P f t d=some xs->xs≠[]->(g < w.heap.size/\c8 w I xs g 0)/\∃ arr ty fr,w.heap[g]?=some (.cells arr ty fr)/\arr.size=xs.length
 | [],_,_,_,_,hm,_,_,_,_,_,_,_,_=>by cases hm
 | (n,d)::r,ps,h,name,d',hm,g,t,xs,f,hg,ht,hx,cH=>by
  obtain⟨g',t',cs,fuel,p,q,Eu,FY,Il,hd,hr,_⟩:=h
  rcases List.mem_cons.1 hm with he|hm
  ·cases he
   obtain rfl:=Option.some.inj (hg.symm.trans Eu)
   obtain rfl:=Option.some.inj (ht.symm.trans FY)
   obtain⟨h1,h2⟩:=Gl (I:=I) f t _ _ fuel _ _ hx hd
   have z7:c8 w I xs g 0:=c8.of fun i c hc=>by
    obtain⟨v,hv,hi⟩:=h1.get hc
    exact⟨v,by rw[Nat.zero_add,World.var?_cell hg Il]; simpa using hv,hi,h2 v (List.mem_of_getElem? hv)⟩
   refine⟨⟨?_,z7⟩,?_⟩
   rotate_left 1
   ·have hl:=h1.length
    unfold World.var? at Il
    rw[hg,Option.bind_some] at Il
    split at Il
    ·rename_i arr ty fr hh
     cases Il
     exact⟨_,ty,fr,hh,by simpa using hl.symm⟩
    ·cases Il
   cases xs with
   | nil=>exact absurd rfl cH
   | cons c xs =>
    obtain⟨v,hv,_⟩:=z7.get (i:=0) rfl
    exact World.block_lt_of_cell? w _ hv
  ·exact Gm (laid:=laid) hr hm f hg ht hx cH
theorem EA {G:Gx} {laid:List (String × DataW Unit)} (lD:(laid.all fun x=>x.2.handleName?.isNone)=true) (h:laidMetH P laid w)
  (cA:∀ x∈G.pX,∃ name d t,(name,d)∈laid/\P.globalNamed name=some x.1/\(P.globals[x.1]?).map (·.type)=some t/\BR P 8 t d=some x.2/\x.2≠[]):d_ G (In w) w:=by
 rw[MakeChecks.laidMetH_plain _ _ _ lD] at h
 obtain⟨ps,h,_⟩:=h
 have key:∀ (g:Nat) (cs:List PV),(g,cs)∈G.pX->(g < w.heap.size/\c8 w (In w) cs g 0)/\∃ arr ty fr,w.heap[g]?=some (.cells arr ty fr)/\arr.size=cs.length:=fun g cs hg=>by
  obtain⟨name,d,t,h1,h2,h3,h4,h5⟩:=cA _ hg
  exact Gm (I:=In w) (laid:=laid) h h1 8 h2 h3 h4 h5
 exact⟨fun g hg=>hg,fun g cs hg=>(key g cs hg).1,fun g cs hg=>(key g cs hg).2⟩
end
section
variable {w w':World} {I I':Nat->Prop} {β aM:ax} {G:Gx} {s:aN} {a:Act} {st eP:List an}
def NewI (I:Nat->Prop) (w w':World) (g:Nat):Prop:=I g\/(w.heap.size<=g/\g < w'.heap.size)
theorem aj.of_new {f:FuncId} {args:List PV} {r:PV} (he:Ev.ke G.cx.P f)
  (h:∀ I β w a_,d_ G I w->bp w I args β a_->Calls G.cx.P f a_.toArray w fun e w'=>∃ v,e = .returned v/\Below w.heap.size w w'/\r.Is w' (NewI I w w') no v) (hu:r.c9 = []):aj G f args r:=by
 refine Spec.intro he fun I β w a_ hH hM hA=>?_
 refine (h I β w a_ hM hA).mono fun e w' ⟨v,he,hB,hr⟩=>⟨v,r,[],NewI I w w',β,he,rfl,oK hu hr,hH.LB _ _,?_,⟨hB.os,hB.tape,hB.output,hB.size,fun g hg _=>hB.block g hg,fun g _ ⟨l,b,p,o,h1,_⟩=>by simp at h1,fun _ h=>.inl h,fun g hg h=>?_⟩,Nat.le_refl _,fun _ _ _=>rfl⟩
 ·have oL:=hM.below hB
  exact⟨fun g hg=>hg.elim (fun h=>oL.aC g h) (fun h=>h.2),fun g cs hg=>⟨.inl (oL.vn g cs hg).1,c8.mono (fun _ h=>.inl h) (fun _ _=>rfl) _ _ _ rfl (oL.vn g cs hg).2⟩,oL.row⟩
 ·rcases h with h|h
  ·exact .inl h
  ·omega
end
def P6:List (Nat × aJ):=[(3,.pure 0 <| .pure 1 <| .pure 2 <| .pure 3 <| .pure 4 <| .pure 5 <| .pure 6 <| .load 7 [11,10,9] <| .aR 8 (.aR 9 (.pure 10 <| .pure 11 <| .done) (.nil)) (.nil))]
def P7:List (Nat × aJ):=[(5,.pure 0 <| .pure 1 <| .pure 2 <| .pure 3 <| .load 4 [7] <| .aR 5 (.pure 6 <| .pure 7 <| .done) (.nil)),(8,.pure 1 <| .pure 2 <| .pure 3 <| .load 0 [7,6,5] <| .load 4 [7,6] <| .aR 5 (.pure 6 <| .pure 7 <| .done) (.nil))]
def P21:List (Nat × aJ):=[]
def P44:List (Nat × aJ):=[(1,.pure 0 <| .pure 1 <| .pure 3 <| .pure 4 <| .pure 5 <| .load 2 [26,25,24,23,22,21,20,19,18,17,16,15,14,13,12,11,10,9,8,7] <| .load 6 [26,25,24,23,22,21,20,19,18,17,16,15,14,13,12,11,10,9,8,7] <| .pure 7 <| .pure 8 <| .pure 9 <| .pure 11 <| .load 10 [26,25,24,23,22,21,20,19,18,17,16,15,14,13] <| .load 12 [26,25,24,23,22,21,20,19,18,17,16,15,14,13] <| .pure 13 <| .pure 14 <| .pure 15 <| .pure 16 <| .pure 17 <| .pure 18 <| .load 19 [26,25,24,23,22,21,20] <| .pure 20 <| .pure 21 <| .pure 22 <| .load 23 [26,25,24] <| .aR 24 (.pure 25 <| .aR 26 (.done) (.nil)) (.nil)),(15,.pure 0 <| .pure 1 <| .pure 2 <| .pure 3 <| .pure 5 <| .load 4 [8,7] <| .load 6 [8,7] <| .pure 7 <| .aR 8 (.done) (.nil))]
def P79:List (Nat × aJ):=[]
def P115:List (Nat × aJ):=[]
def P116:List (Nat × aJ):=[]
def P137:List (Nat × aJ):=[]
def P1:List (Nat × aJ):=[]
def P138:List (Nat × aJ):=[]
def P117:List (Nat × aJ):=[]
def Ug:List (Nat × aJ):=[]
def xO:List (Nat × aJ):=[]
def Uh:List (Nat × aJ):=[(1,.pure 0 <| .load 1 [36,35,34,33,32,31,30,29,28,27,26,25,24,23,22,21,20,19,18,17,16,15,14,13,12,11,10,9,8,7,6,5,4,3,2] <| .pure 2 <| .pure 3 <| .pure 4 <| .load 5 [36,35,34,33,32,31,30,29,28,27,26,25,24,23,22,21,20,19,18,17,16,15,14,13,12,11,10,9,8,7,6] <| .pure 6 <| .pure 7 <| .pure 8 <| .pure 9 <| .pure 12 <| .load 10 [36,35,34,33,32,31,30,29,28,27,26,25,24,23,22,21,20,19,18,17,16,15,11] <| .pure 11 <| .load 13 [36,35,34,33,32,31,30,29,28,27,26,25,24,23,22,21,20,19,18,17,16,15,14] <| .aR 14 (.pure 15 <| .pure 16 <| .pure 17 <| .pure 18 <| .load 19 [36,35,34,33,32,31,30,29,28,27,26,25,24,23,22,21,20] <| .pure 20 <| .pure 21 <| .pure 22 <| .load 23 [36,35,34,33,32,31,30,29,28,27,26,25,24] <| .pure 24 <| .pure 25 <| .pure 26 <| .pure 27 <| .pure 28 <| .load 29 [36,35,34,33,32,31,30] <| .pure 30 <| .pure 31 <| .pure 32 <| .load 33 [36,35,34] <| .pure 34 <| .pure 35 <| .pure 36 <| .done) (.nil))]
def P151:List (Nat × aJ):=[]
def P2:List (Nat × aJ):=[]
def uu:List (Nat × aJ):=[]
def Ui:List (Nat × aJ):=[]
def P139:List (Nat × aJ):=[]
def P149:List (Nat × aJ):=[]
def P118:List (Nat × aJ):=[]
def P140:List (Nat × aJ):=[]
def P150:List (Nat × aJ):=[]
def P141:List (Nat × aJ):=[]
def P22:List (Nat × aJ):=[]
def P46:List (Nat × aJ):=[]
def P80:List (Nat × aJ):=[(3,.pure 0 <| .pure 1 <| .pure 2 <| .pure 4 <| .load 3 [13,12,11,10,9,8,7,6] <| .load 5 [13,12,11,10,9,8,7,6] <| .pure 6 <| .pure 7 <| .pure 8 <| .pure 9 <| .pure 10 <| .load 11 [13,12] <| .pure 12 <| .pure 13 <| .done),(14,.pure 0 <| .pure 1 <| .pure 2 <| .pure 3 <| .pure 5 <| .pure 6 <| .pure 7 <| .load 4 [12,11,10,9] <| .load 8 [12,11,10,9] <| .pure 9 <| .aR 10 (.aR 11 (.pure 12 <| .done) (.nil)) (.nil))]
def P119:List (Nat × aJ):=[(6,.pure 0 <| .pure 1 <| .pure 2 <| .pure 3 <| .load 4 [8,7] <| .load 5 [8,7,6] <| .aR 6 (.aR 7 (.pure 8 <| .done) (.nil)) (.nil)),(8,.pure 0 <| .pure 1 <| .pure 2 <| .load 3 [9,8,7,6] <| .load 4 [9,8,7,6,5] <| .aR 5 (.pure 6 <| .pure 7 <| .pure 8 <| .aR 9 (.done) (.nil)) (.nil))]
def P121:List (Nat × aJ):=[]
def P8:List (Nat × aJ):=[]
def P24:List (Nat × aJ):=[(1,.pure 0 <| .pure 1 <| .pure 2 <| .pure 5 <| .pure 6 <| .pure 7 <| .pure 8 <| .load 3 [13,12,4] <| .pure 4 <| .load 9 [13,12,11,10] <| .pure 10 <| .pure 11 <| .pure 12 <| .pure 13 <| .done)]
def P25:List (Nat × aJ):=[]
def P26:List (Nat × aJ):=[]
def P49:List (Nat × aJ):=[]
def P54:List (Nat × aJ):=[]
def P50:List (Nat × aJ):=[]
def P92:List (Nat × aJ):=[]
def BS:List (Nat × aJ):=[]
def P56:List (Nat × aJ):=[]
def P93:List (Nat × aJ):=[]
def P128:List (Nat × aJ):=[(1,.pure 0 <| .pure 1 <| .pure 2 <| .pure 3 <| .pure 4 <| .pure 5 <| .pure 6 <| .pure 7 <| .pure 8 <| .pure 9 <| .pure 10 <| .done)]
def P94:List (Nat × aJ):=[]
def P95:List (Nat × aJ):=[]
def P96:List (Nat × aJ):=[]
def A5:List (Nat × aJ):=[(5,.pure 0 <| .pure 2 <| .load 1 [7,6,5,4] <| .pure 4 <| .aR 3 (.aR 5 (.pure 6 <| .aR 7 (.done) (.nil)) (.nil)) (.nil)),(16,.pure 0 <| .pure 2 <| .pure 4 <| .load 1 [11,10,9,8,7,6] <| .pure 6 <| .aR 3 (.aR 5 (.aR 7 (.pure 8 <| .aR 9 (.pure 10 <| .aR 11 (.done) (.nil)) (.nil)) (.nil)) (.nil)) (.nil)),(18,.pure 0 <| .pure 2 <| .pure 4 <| .pure 6 <| .load 1 [15,14,13,12,11,10,9,8] <| .pure 8 <| .load 7 [15,14] <| .aR 3 (.aR 5 (.aR 9 (.pure 10 <| .aR 11 (.pure 12 <| .aR 13 (.pure 14 <| .aR 15 (.done) (.nil)) (.nil)) (.nil)) (.nil)) (.nil)) (.nil)),(22,.pure 0 <| .pure 2 <| .pure 4 <| .load 1 [11,10,9,8,7,6] <| .pure 6 <| .load 3 [11,10,9,8] <| .load 5 [11,10] <| .aR 7 (.pure 8 <| .aR 9 (.pure 10 <| .aR 11 (.done) (.nil)) (.nil)) (.nil)),(25,.pure 0 <| .pure 2 <| .pure 4 <| .pure 6 <| .load 1 [15,14,13,12,11,10,9,8] <| .pure 8 <| .load 3 [15,14,13,12,11,10] <| .load 5 [15,14,13,12] <| .aR 7 (.aR 9 (.pure 10 <| .aR 11 (.pure 12 <| .aR 13 (.pure 14 <| .aR 15 (.done) (.nil)) (.nil)) (.nil)) (.nil)) (.nil)),(27,.pure 0 <| .pure 2 <| .pure 4 <| .pure 6 <| .load 1 [15,14,13,12,11,10,9,8] <| .pure 8 <| .load 5 [15,14,13,12] <| .load 7 [15,14] <| .aR 3 (.aR 9 (.pure 10 <| .aR 11 (.pure 12 <| .aR 13 (.pure 14 <| .aR 15 (.done) (.nil)) (.nil)) (.nil)) (.nil)) (.nil)),(29,.pure 0 <| .pure 2 <| .load 1 [7,6,5,4] <| .pure 4 <| .load 3 [7,6] <| .aR 5 (.pure 6 <| .aR 7 (.done) (.nil)) (.nil))]
def P97:List (Nat × aJ):=[]
def P98:List (Nat × aJ):=[]
def P99:List (Nat × aJ):=[(5,.pure 0 <| .pure 2 <| .pure 4 <| .load 1 [11,10,9,8,7,6] <| .pure 6 <| .load 3 [11,10,9,8] <| .load 5 [11,10] <| .aR 7 (.pure 8 <| .aR 9 (.pure 10 <| .aR 11 (.done) (.nil)) (.nil)) (.nil)),(7,.pure 0 <| .pure 2 <| .load 1 [7,6,5,4] <| .pure 4 <| .load 3 [7,6] <| .aR 5 (.pure 6 <| .aR 7 (.done) (.nil)) (.nil)),(11,.pure 0 <| .pure 2 <| .load 1 [7,6,5,4] <| .pure 4 <| .load 3 [7,6] <| .aR 5 (.pure 6 <| .aR 7 (.done) (.nil)) (.nil))]
def Uj:List (Nat × aJ):=[(3,.pure 0 <| .pure 1 <| .pure 3 <| .pure 4 <| .pure 5 <| .pure 8 <| .load 2 [14,12] <| .aR 6 (.pure 7 <| .aR 9 (.pure 10 <| .aR 11 (.pure 12 <| .aR 13 (.aR 14 (.done) (.nil)) (.nil)) (.cons 13 (.aR 11 (.pure 12 <| .aR 14 (.done) (.nil)) (.nil)) (.nil))) (.cons 13 (.aR 9 (.pure 10 <| .aR 11 (.pure 12 <| .aR 14 (.done) (.nil)) (.nil)) (.nil)) (.nil))) (.cons 13 (.aR 6 (.pure 7 <| .aR 9 (.pure 10 <| .aR 11 (.pure 12 <| .aR 14 (.done) (.nil)) (.nil)) (.nil)) (.nil)) (.nil))),(5,.pure 0 <| .pure 2 <| .load 1 [7,6,5,4] <| .pure 4 <| .load 3 [7,6] <| .aR 5 (.pure 6 <| .aR 7 (.done) (.nil)) (.nil))]
def P101:List (Nat × aJ):=[]
def P102:List (Nat × aJ):=[]
def P129:List (Nat × aJ):=[]
def P27:List (Nat × aJ):=[]
def P55:List (Nat × aJ):=[]
def P105:List (Nat × aJ):=[]
def P57:List (Nat × aJ):=[]
def P106:List (Nat × aJ):=[]
def P58:List (Nat × aJ):=[]
def P59:List (Nat × aJ):=[]
def P60:List (Nat × aJ):=[]
def P61:List (Nat × aJ):=[]
def P107:List (Nat × aJ):=[]
def P62:List (Nat × aJ):=[]
def P53:List (Nat × aJ):=[(2,.pure 0 <| .load 1 [6,5,4,2] <| .load 3 [6,5,4] <| .aR 2 (.aR 4 (.pure 5 <| .pure 6 <| .done) (.nil)) (.nil)),(3,.pure 0 <| .load 1 [6,5,4,2] <| .load 3 [6,5,4] <| .aR 2 (.aR 4 (.pure 5 <| .pure 6 <| .done) (.nil)) (.nil))]
def nj:List (Nat × aJ):=[(1,.pure 0 <| .pure 3 <| .load 1 [7,6,2] <| .pure 2 <| .pure 6 <| .load 4 [7,5] <| .pure 5 <| .pure 7 <| .done),(12,.pure 2 <| .pure 6 <| .pure 10 <| .load 0 [15,14,9,8,7,5,4,3,1] <| .load 11 [15,14,13,12] <| .pure 12 <| .pure 13 <| .aR 1 (.aR 3 (.pure 4 <| .pure 5 <| .aR 7 (.pure 8 <| .pure 9 <| .pure 14 <| .pure 15 <| .done) (.nil)) (.nil)) (.nil))]
def P130:List (Nat × aJ):=[]
def P131:List (Nat × aJ):=[]
def P132:List (Nat × aJ):=[]
def P133:List (Nat × aJ):=[]
def po:List (Nat × aJ):=[(1,.pure 0 <| .pure 3 <| .pure 6 <| .load 1 [11,10,9,2] <| .pure 2 <| .pure 9 <| .load 4 [11,10,5] <| .pure 5 <| .pure 10 <| .load 7 [11,8] <| .pure 8 <| .pure 11 <| .done),(24,.pure 0 <| .pure 5 <| .load 1 [10,9,8,4,3,2] <| .pure 2 <| .load 6 [10,9,8,7] <| .pure 7 <| .aR 3 (.pure 4 <| .aR 8 (.pure 9 <| .pure 10 <| .done) (.nil)) (.nil)),(26,.pure 0 <| .pure 5 <| .load 1 [10,9,8,4,3,2] <| .pure 2 <| .load 6 [10,9,8,7] <| .pure 7 <| .aR 3 (.pure 4 <| .aR 8 (.pure 9 <| .pure 10 <| .done) (.nil)) (.nil)),(30,.pure 0 <| .pure 4 <| .load 1 [7,6,3,2] <| .pure 2 <| .pure 3 <| .aR 5 (.pure 6 <| .pure 7 <| .done) (.nil))]
def P134:List (Nat × aJ):=[]
def P12:List (Nat × aJ):=[]
def P33:List (Nat × aJ):=[]
def P142:List (Nat × aJ):=[]
def P11:List (Nat × aJ):=[(3,.pure 1 <| .load 0 [8,7,6,5,4,3] <| .aR 2 (.aR 3 (.pure 4 <| .pure 5 <| .pure 6 <| .aR 7 (.pure 8 <| .done) (.nil)) (.nil)) (.nil)),(6,.pure 1 <| .pure 2 <| .load 0 [9,8,7,6,5,4] <| .aR 3 (.aR 4 (.pure 5 <| .pure 6 <| .pure 7 <| .aR 8 (.pure 9 <| .done) (.nil)) (.nil)) (.nil))]
def P30:List (Nat × aJ):=[]
def P32:List (Nat × aJ):=[]
def P31:List (Nat × aJ):=[]
def P9:List (Nat × aJ):=[]
def P68:List (Nat × aJ):=[]
def P10:List (Nat × aJ):=[]
def P28:List (Nat × aJ):=[]
def P29:List (Nat × aJ):=[]
def P14:List (Nat × aJ):=[]
def P45:List (Nat × aJ):=[(7,.pure 0 <| .pure 1 <| .pure 2 <| .pure 3 <| .pure 4 <| .pure 5 <| .pure 6 <| .pure 7 <| .pure 9 <| .pure 12 <| .pure 13 <| .pure 14 <| .pure 15 <| .pure 16 <| .pure 18 <| .load 8 [23,22,21,11] <| .load 10 [23,22,21,11] <| .pure 11 <| .load 17 [23,22,21,20] <| .load 19 [23,22,21,20] <| .pure 20 <| .aR 21 (.pure 22 <| .aR 23 (.done) (.nil)) (.nil))]
def P84:List (Nat × aJ):=[]
def P85:List (Nat × aJ):=[]
def P3:List (Nat × aJ):=[]
def P86:List (Nat × aJ):=[]
def P120:List (Nat × aJ):=[]
def P122:List (Nat × aJ):=[]
def P123:List (Nat × aJ):=[(7,.pure 0 <| .pure 1 <| .pure 2 <| .pure 3 <| .load 4 [8,7] <| .load 5 [8,7,6] <| .aR 6 (.aR 7 (.pure 8 <| .done) (.nil)) (.nil))]
def P23:List (Nat × aJ):=[]
def P47:List (Nat × aJ):=[(1,.pure 0 <| .pure 4 <| .load 1 [8,7,6,3,2] <| .load 5 [8,7,6] <| .aR 2 (.pure 3 <| .aR 6 (.pure 7 <| .pure 8 <| .done) (.nil)) (.nil))]
def P87:List (Nat × aJ):=[]
def P48:List (Nat × aJ):=[]
def P88:List (Nat × aJ):=[]
def P89:List (Nat × aJ):=[]
def P127:List (Nat × aJ):=[]
def P145:List (Nat × aJ):=[]
def P90:List (Nat × aJ):=[]
def P91:List (Nat × aJ):=[]
def P13:List (Nat × aJ):=[]
def P34:List (Nat × aJ):=[]
def P65:List (Nat × aJ):=[]
def P35:List (Nat × aJ):=[]
def P15:List (Nat × aJ):=[(5,.pure 0 <| .pure 1 <| .pure 5 <| .pure 9 <| .load 2 [14,13,12,11,8,7,4,3] <| .load 6 [14,13,12,11,8,7] <| .load 10 [14,13,12,11] <| .aR 3 (.pure 4 <| .aR 7 (.pure 8 <| .aR 11 (.pure 12 <| .pure 13 <| .pure 14 <| .done) (.nil)) (.nil)) (.nil))]
def P17:List (Nat × aJ):=[(5,.pure 0 <| .pure 1 <| .pure 5 <| .pure 9 <| .pure 13 <| .pure 17 <| .load 2 [22,21,20,19,16,15,12,11,8,7,4,3] <| .load 6 [22,21,20,19,16,15,12,11,8,7] <| .load 10 [22,21,20,19,16,15,12,11] <| .load 14 [22,21,20,19,16,15] <| .load 18 [22,21,20,19] <| .aR 3 (.pure 4 <| .aR 7 (.pure 8 <| .aR 11 (.pure 12 <| .aR 15 (.pure 16 <| .aR 19 (.pure 20 <| .pure 21 <| .pure 22 <| .done) (.nil)) (.nil)) (.nil)) (.nil)) (.nil)),(9,.pure 0 <| .pure 1 <| .pure 5 <| .load 2 [10,9,8,7,4,3] <| .load 6 [10,9,8,7] <| .aR 3 (.pure 4 <| .aR 7 (.pure 8 <| .pure 9 <| .pure 10 <| .done) (.nil)) (.nil))]
def P37:List (Nat × aJ):=[]
def P18:List (Nat × aJ):=[]
def P38:List (Nat × aJ):=[]
def P70:List (Nat × aJ):=[(1,.pure 1 <| .pure 2 <| .pure 3 <| .load 0 [10,9,8,7,6,5] <| .load 4 [10,9,8,7,6,5] <| .aR 5 (.pure 6 <| .pure 7 <| .pure 8 <| .pure 9 <| .pure 10 <| .done) (.nil))]
def P71:List (Nat × aJ):=[(5,.pure 0 <| .pure 2 <| .pure 4 <| .pure 7 <| .load 3 [9,8,6,5] <| .aR 1 (.aR 5 (.pure 6 <| .pure 8 <| .pure 9 <| .done) (.nil)) (.nil))]
def P40:List (Nat × aJ):=[(1,.pure 0 <| .pure 2 <| .pure 3 <| .pure 4 <| .load 1 [11,10,9,8,7,6] <| .load 5 [11,10,9,8,7,6] <| .aR 6 (.pure 7 <| .pure 8 <| .pure 9 <| .pure 10 <| .pure 11 <| .done) (.nil))]
def P41:List (Nat × aJ):=[(1,.pure 0 <| .pure 2 <| .pure 3 <| .pure 4 <| .load 1 [11,10,9,8,7,6] <| .load 5 [11,10,9,8,7,6] <| .aR 6 (.pure 7 <| .pure 8 <| .pure 9 <| .pure 10 <| .pure 11 <| .done) (.nil))]
def P42:List (Nat × aJ):=[(1,.pure 0 <| .pure 2 <| .pure 3 <| .pure 4 <| .load 1 [11,10,9,8,7,6] <| .load 5 [11,10,9,8,7,6] <| .aR 6 (.pure 7 <| .pure 8 <| .pure 9 <| .pure 10 <| .pure 11 <| .done) (.nil)),(2,.pure 0 <| .pure 2 <| .pure 3 <| .pure 4 <| .load 1 [11,10,9,8,7,6] <| .load 5 [11,10,9,8,7,6] <| .aR 6 (.pure 7 <| .pure 8 <| .pure 9 <| .pure 10 <| .pure 11 <| .done) (.nil)),(5,.pure 0 <| .load 1 [12,11,10,9,8,7,6,5,4,3,2] <| .pure 2 <| .pure 3 <| .pure 4 <| .pure 6 <| .pure 7 <| .pure 8 <| .load 5 [12,11] <| .load 9 [12,11,10] <| .pure 10 <| .pure 11 <| .pure 12 <| .done),(7,.pure 0 <| .pure 1 <| .pure 2 <| .pure 4 <| .load 3 [8,7,6] <| .load 5 [8,7,6] <| .pure 6 <| .load 7 [8] <| .pure 8 <| .done),(11,.pure 0 <| .pure 1 <| .pure 2 <| .pure 4 <| .pure 6 <| .load 3 [8,7] <| .load 5 [8,7] <| .pure 7 <| .aR 8 (.done) (.nil)),(13,.pure 0 <| .pure 1 <| .pure 2 <| .pure 4 <| .pure 6 <| .load 3 [8,7] <| .load 5 [8,7] <| .pure 7 <| .aR 8 (.done) (.nil))]
def P19:List (Nat × aJ):=[(7,.pure 0 <| .pure 1 <| .pure 2 <| .pure 4 <| .pure 5 <| .load 3 [6] <| .pure 6 <| .done),(8,.pure 0 <| .pure 1 <| .pure 2 <| .pure 4 <| .pure 5 <| .pure 6 <| .load 3 [10,9,8] <| .pure 8 <| .load 7 [10,9] <| .pure 9 <| .pure 10 <| .done)]
def P43:List (Nat × aJ):=[(6,.pure 0 <| .pure 1 <| .pure 4 <| .pure 7 <| .pure 8 <| .pure 9 <| .load 2 [14,13,3] <| .pure 3 <| .load 5 [14,13,12,6] <| .pure 6 <| .load 10 [14,13,12,11] <| .pure 11 <| .pure 12 <| .pure 13 <| .aR 14 (.done) (.nil))]
def P72:List (Nat × aJ):=[]
def P73:List (Nat × aJ):=[]
def P75:List (Nat × aJ):=[]
def P74:List (Nat × aJ):=[(1,.pure 1 <| .pure 2 <| .pure 3 <| .load 0 [10,9,8,7,6,5] <| .load 4 [10,9,8,7,6,5] <| .aR 5 (.pure 6 <| .pure 7 <| .pure 8 <| .pure 9 <| .pure 10 <| .done) (.nil))]
def P76:List (Nat × aJ):=[(4,.pure 0 <| .pure 1 <| .pure 2 <| .pure 4 <| .load 3 [8,7,6] <| .load 5 [8,7,6] <| .pure 6 <| .load 7 [8] <| .pure 8 <| .done),(8,.pure 0 <| .pure 1 <| .pure 2 <| .pure 4 <| .pure 6 <| .load 3 [8,7] <| .load 5 [8,7] <| .pure 7 <| .aR 8 (.done) (.nil)),(10,.pure 0 <| .pure 1 <| .pure 2 <| .pure 4 <| .pure 6 <| .load 3 [8,7] <| .load 5 [8,7] <| .pure 7 <| .aR 8 (.done) (.nil))]
def P77:List (Nat × aJ):=[(1,.pure 0 <| .pure 2 <| .pure 3 <| .pure 4 <| .load 1 [11,10,9,8,7,6] <| .load 5 [11,10,9,8,7,6] <| .aR 6 (.pure 7 <| .pure 8 <| .pure 9 <| .pure 10 <| .pure 11 <| .done) (.nil))]
def P78:List (Nat × aJ):=[]
def P20:List (Nat × aJ):=[(7,.pure 1 <| .pure 2 <| .pure 3 <| .pure 5 <| .load 0 [13,12,11,10,9,8] <| .load 4 [13,12,11,10,9,8,7,6] <| .pure 6 <| .load 7 [13,12,11,10,9,8] <| .aR 8 (.pure 9 <| .pure 10 <| .pure 11 <| .pure 12 <| .pure 13 <| .done) (.nil)),(8,.pure 1 <| .pure 2 <| .pure 3 <| .load 0 [12,11,9,8,7,6] <| .load 4 [12,11,9,8,7,6,5] <| .aR 5 (.aR 6 (.pure 7 <| .pure 8 <| .pure 9 <| .aR 10 (.aR 11 (.pure 12 <| .done) (.nil)) (.nil)) (.cons 10 (.aR 6 (.pure 7 <| .pure 8 <| .pure 9 <| .aR 11 (.pure 12 <| .done) (.nil)) (.nil)) (.nil))) (.cons 10 (.aR 5 (.aR 6 (.pure 7 <| .pure 8 <| .pure 9 <| .aR 11 (.pure 12 <| .done) (.nil)) (.nil)) (.nil)) (.nil)))]
end Go.Proofs.YtnbhdacpogplgaaGreatDoor.Pw
