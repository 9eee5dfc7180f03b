/- What this claim is proved with: no condition. -/
import Derived.Test.YtbnoodjnpooocaaGreatDoorNw14
import Derived.Test.YtbnoodjnpooocaaGreatDoorNw10
set_option linter.unusedVariables false
set_option linter.unusedSimpArgs false
namespace Go.Proofs.YtbnoodjnpooocaaGreatDoor.Pw
open Go Go.RowKit Go.Lib
def Af (r:PV->(PV->Bool)->Bool):List PV->(List PV->Bool)->Bool
 | [],q=>q []
 | c::cs,q=>r c fun c=>Af r cs fun cs=>q (c::cs)
def ye (cx:Ev.Cx) (h:BM) (n:Nat):Nat->PV->(PV->Bool)->Bool
 | 0,_,_=>false
 | k+1,x,q=>match x with
  | .wref l=>bif Nat.blt l n then aK (h.get l) fun b=>(match b.k,b.m with
   | .arr,.w=>bif b.live then Af (ye cx h n k) b.cs fun ds=>aK (Ev.fI cx b.ty) fun ag=>bif (ag || Nat.beq b.size 1) then j5 ds 0 fun m=>nf (Nat.div m b.size) fun c=>qu ag b.size c ds fun es=>q (.sl b.size es) else false else false
   | _,_=>false) else false
  | .agg cs=>Af (ye cx h n k) cs fun cs=>q (.agg cs)
  | .tup cs=>Af (ye cx h n k) cs fun cs=>q (.tup cs)
  | .lit _ _|.tt|.ff|.nil|.val _=>q x
  | .sl _ _=>q x
  | _=>false
section
variable {w:World} {I:Nat->Prop} {β:an}
theorem pD {I':Nat->Prop} {ay:an} {r:PV->(PV->Bool)->Bool} (hr:∀ x q v,r x q=true->x.Is w I β v->∃ y,q y=true/\y.Is w I' ay v):∀ {cs:List PV} {vs:List Value} {q:List PV->Bool},Af r cs q=true->bg w I cs β vs->∃ ds,q ds=true/\bg w I' ds ay vs
 | [],[],q,h,_=>⟨[],h,by simp only[bg]⟩
 | c::cs,v::vs,q,h,hx=>by
  simp only[bg] at hx
  obtain⟨y,h,hy⟩:=hr c _ v h hx.1
  obtain⟨ds,h,hd⟩:=pD hr h hx.2
  exact⟨y::ds,h,by simp only[bg]; exact⟨hy,hd⟩⟩
 | [],_::_,_,_,hx=>by simp only[bg] at hx
 | _::_,[],_,_,hx=>by simp only[bg] at hx
theorem D0 {cx:Ev.Cx} {h:BM} {n:Nat} (hh:aC I β (eD h n) w):∀ (k:Nat) (x:PV) (q:PV->Bool) (v:Value),ye cx h n k x q=true->x.Is w I β v->∃ y,q y=true/\y.Is w (ni I β (eD h n) 0) (fun _=>none) v
 | 0,_,_,_,h,_=>by cases h
 | k+1,x,q,v,hq,hx=>by
  have ih:=D0 (cx:=cx) hh k
  unfold ye at hq
  split at hq
  ·rename_i l
   replace hq:=cj hq
   obtain⟨ZV,hq⟩:=hq
   have ZV:l < n:=Nat.le_of_ble_eq_true ZV
   obtain⟨b,hb,hq⟩:=ar hq
   have cO:(eD h n)[l]?=some b:=by rw[dC,if_pos ZV,hb]; rfl
   split at hq
   ·rename_i hk hm
    replace hq:=cj hq
    obtain⟨az,hq⟩:=hq
    simp only[PV.Is] at hx
    obtain⟨p,hp,rfl⟩:=hx
    obtain⟨g,arr,fr,ha,hw,gU,lQ,dh,hlen,hle,oF,has,fS⟩:=eP hh cO az hk hp
    have eL:p.len*b.size<=arr.size:=by rw[has]; exact Nat.mul_le_mul_right _ hle
    have mI:(arr.toList.take (p.len*b.size)).length=p.len*b.size:=by rw[List.length_take,Array.length_toList]; omega
    have iP:bg w I b.cs β (arr.toList.take (p.len*b.size)):=bg.of (by rw[mI,hlen]) fun i c hc=>by
     obtain⟨u,hu,hi,_⟩:=lQ i c hc
     have sL:i < p.len*b.size:=by rw[← hlen]; exact (List.getElem?_eq_some_iff.1 hc).1
     exact⟨u,by rw[List.getElem?_take,if_pos sL]; simpa using hu,hi⟩
    obtain⟨ds,hq,Nq⟩:=pD (fun x q v=>ih x q v) hq iP
    obtain⟨ag,Dd,hq⟩:=ar hq
    replace hq:=cj hq
    obtain⟨zC,hq⟩:=hq
    simp only[Bool.or_eq_true] at zC
    rw[cX,Nat.zero_add,eO] at hq
    have G9:ds.length=p.len*b.size:=by have:=Nq.length; omega
    rw[G9,show Nat.div (p.len*b.size) b.size=p.len from Nat.mul_div_cancel _ fS] at hq
    obtain⟨es,hq,HR,oh⟩:=mQ (zC.imp id Nat.eq_of_beq_eq_true) hq
    have Fb:=oh w (ni I β (eD h n) 0) g 0 (cL.of fun j c hc=>by
     obtain⟨u,hu,hi⟩:=Nq.get hc
     have sL:j < b.cs.length:=by rw[hlen,← G9]; exact (List.getElem?_eq_some_iff.1 hc).1
     obtain⟨u2,Sq,_,h1⟩:=lQ j _ (List.getElem?_eq_getElem sL)
     rw[List.getElem?_take] at hu
     split at hu
     ·have:arr[0+j]?=some u:=by simpa using hu
      rw[this] at Sq
      cases Sq
      exact⟨u,by rw[Ev.fh gU]; exact this,hi,h1⟩
     ·cases hu)
    refine⟨_,hq,?_⟩
    simp only[PV.Is]
    rw[HR]
    exact⟨some ⟨g,0,none⟩,p.cap,hw,hle,by omega,fun g' o' e=>by cases e; exact Fb,fun _=>⟨g,0,rfl,.inr ⟨l,b,p,0,Nat.zero_le _,cO,az,hm,hp,ha⟩,fS⟩⟩
   ·cases hq
  ·simp only[PV.Is] at hx
   obtain⟨vs,rfl,hx⟩:=hx
   obtain⟨ds,h,hd⟩:=pD (fun x q v=>ih x q v) hq hx
   exact⟨_,h,by simp only[PV.Is]; exact⟨vs,rfl,hd⟩⟩
  ·simp only[PV.Is] at hx
   obtain⟨vs,rfl,hx⟩:=hx
   obtain⟨ds,h,hd⟩:=pD (fun x q v=>ih x q v) hq hx
   exact⟨_,h,by simp only[PV.Is]; exact⟨vs,rfl,hd⟩⟩
  ·exact⟨_,hq,by simpa only [PV.Is] using hx⟩
  ·exact⟨_,hq,by simpa only [PV.Is] using hx⟩
  ·exact⟨_,hq,by simpa only [PV.Is] using hx⟩
  ·exact⟨_,hq,by simpa only [PV.Is] using hx⟩
  ·exact⟨_,hq,by simpa only [PV.Is] using hx⟩
  ·exact⟨_,hq,PV.Is.mono (fun g h=>Or.inl h) (fun _ _=>rfl) _ β _ v (fun l p hl=>by simp only[PV.df,List.not_mem_nil] at hl) hx⟩
  ·cases hq
theorem al.made {G:Gx} {f:FuncId} {args:List PV} {r0:PV} (h:Spec G f args [] [] fun r S=>∃ h n,S=eD h n/\ye G.cx h n 9 r (fun y=>BS y r0)=true):al G f args r0:=by
 refine Spec.intro h.run.1 fun I β w vals hH hM hA=>(h.run.2 I β w vals hH hM hA).mono fun e w' ⟨v,r,S',I',ay,he,⟨hh,n,hS,hf⟩,hr,nB,kN,hE,_,_⟩=>?_
 subst hS
 obtain⟨y,hy,hi⟩:=D0 nB 9 r _ v hf hr
 have hy:=Jz hy
 subst hy
 have hI:∀ g,I' g->ni I' ay (eD hh n) 0 g:=fun g h=>.inl h
 have bZ:∀ g,ni I' ay (eD hh n) 0 g->g < w'.heap.size:=fun g hg=>by
  rcases hg with hg|⟨l,b,p,o,_,k2,k3,_,k5,k6⟩
  ·exact kN.au g hg
  ·exact nB.cH ⟨l,b,p,o,k2,k3,k5,k6⟩
 refine⟨v,y,[],ni I' ay (eD hh n) 0,fun _=>none,he,rfl,hi,⟨fun _ _=>rfl,fun l b hl=>by simp at hl⟩,⟨bZ,fun g cs hgc=>?_,kN.row⟩,⟨hE.os,hE.tape,hE.output,hE.size,hE.block,fun g _ ⟨l,b,p,o,h1,_⟩=>by simp at h1,fun g hg=>hI g (hE.au g hg),fun g uU rP=>?_⟩,Nat.le_refl _,fun l hl=>absurd hl (Nat.not_lt_zero l)⟩
 ·obtain⟨h1,h2⟩:=kN.lV g cs hgc
  exact⟨hI g h1,cL.mono hI (fun _ _=>rfl) cs g 0 rfl h2⟩
 ·rcases rP with rP|⟨l,b,p,o,_,k2,k3,k4,k5,k6⟩
  ·exact hE.new g uU rP
  ·exact .inr (hE.wr g uU ⟨l,b,p,o,k2,k3,k4,k5,k6⟩)
theorem JX {C:ib} (hC:COk C) {n:Nat} {f:FuncId} {args:List PV} {h:BM} {m:Nat} {K:PV->BM->Nat->Bool} (hm:Ev.lO f C.rL=none) (hg:Ev.lO f C.grow=none) (hk:QJ C n f args h m K=true):Spec (C.G []) f args (eD h m) [] fun r S=>∃ h' n',S=eD h' n'/\K r h' n'=true:=by
 cases n with
 | zero=>cases hk
 | succ n =>
  unfold QJ at hk
  rw[hm,hg] at hk
  obtain⟨F,hF,hk⟩:=ar (show aK (Ev.lO f C.fns) _=true from hk)
  obtain⟨fn,R⟩:=F
  obtain⟨h1,h2,h3,h4⟩:=hC.fns f _ (Ev.dJ hF)
  obtain⟨c,hb,hk⟩:=ar (show aK fn.body _=true from hk)
  rw[cX,Nat.zero_add] at hk
  replace hk:=cj hk
  exact Spec.body hC.g (Cd hC n) h1 h2 h3 hb (h4 c hb) (Nat.le_of_ble_eq_true hk.1) hk.2
theorem al.run {C:ib} (hC:COk C) {f:FuncId} {args:List PV} {r0:PV} (n:Nat) (hm:Ev.lO f C.rL=none) (hg:Ev.lO f C.grow=none) (h:QJ C n f args .nil 0 (fun r h n=>ye C.cx h n 9 r fun y=>BS y r0)=true):al (C.G []) f args r0 :=
 al.made (Spec.mono (JX hC hm hg h) fun r S ⟨h',n',h1,h2⟩=>⟨h',n',h1,h2⟩)
end
section
variable {C:ib} {δ:List Deferred} {nt b:Nat} {call:eV}
theorem ua (hG:fD (C.G δ)) (hC:cY C δ call) {r:Option Nat} {n:Nat} {ops:Array Oper} {K:CS->Bool} {Q':Exit->Act->World->Prop}:∀ (l:List Oper) {s:CS} {a:Act} {I:Nat->Prop} {β:an} {w:World},l.all tV=true->xH C call nt ops.toList K l s=true->Rel (C.G δ) I β (s.st nt b) a w ->
  (∀ s' I' ay a' w',K s'=true->Rel (C.G δ) I' ay (s'.st nt b) a' w'->aG I β (s.st nt b) w I' ay (s'.st nt b) w'->Q' .normal a' w')->wpListIn (Hc r) n C.cx.P ops Q' l a w
 | [],s,a,I,β,w,_,h,hR,hQ=>hQ s I β a w h hR (aG.same ⟨rfl,rfl,rfl,rfl⟩)
 | o::l,s,a,I,β,w,hn,h,hR,hQ=>by
  simp only[List.all_cons,Bool.and_eq_true] at hn
  have hg:=jk (nt:=nt) (b:=b) (run':=fun S=>∃ s1:CS,S=s1.st nt b/\BR C call s1 o (fun v s=>iH nt s o.dst v (xH C call nt ops.toList K l))=true) (skip':=fun S=>∃ s1:CS,S=s1.st nt b/\iH nt s1 o.dst (.tup []) (xH C call nt ops.toList K l)=true) (fun h=>⟨s,rfl,h⟩) (fun h=>⟨s,rfl,h⟩) h
  unfold wpListIn
  rcases c9 hR hg with ⟨hw,S,⟨s1,hS,h1⟩,d_,cI⟩|⟨hw,S,⟨s1,hS,h1⟩,d_,cI⟩
  ·subst hS
   rw[hw,if_pos rfl]
   have h_:=x5 (nt:=nt) (b:=b) hG hC h1
   unfold fO at h_
   refine vU hn.1 (h_ I β a w cI) fun v w' hp=>?_
   obtain⟨x,s2,I2,ee,⟨s2c,SJ,h2⟩,eM,hx,hE,e1,e2,e3,dU,_⟩:=hp
   subst SJ
   obtain⟨S3,⟨s3,u6,h3⟩,eA,gW⟩:=aD.aT (G:=(C.G δ)) (eW (nt:=nt) (b:=b) h2)
   subst u6
   have g1:aG I β (s.st nt b) w I2 ee (s2c.st nt b) w':=(aG.same d_).trans ⟨hE,e1,e2,e3,dU⟩
   exact ua hG hC l hn.2 h3 (gW _ _ _ _ v eM hx) fun s' I' ay a' m_ hq br hg=>hQ s' I' ay a' m_ hq br ((g1.trans (aG.same eA)).trans hg)
  ·subst hS
   rw[hw,if_neg (by simp)]
   obtain⟨S3,⟨s3,u6,h3⟩,eA,gW⟩:=aD.aT (G:=(C.G δ)) (eW (nt:=nt) (b:=b) h1)
   subst u6
   exact⟨fun f _=>trivial,ua hG hC l hn.2 h3 (gW _ _ _ _ _ cI Is.undef) fun s' I' ay a' m_ hq br hg=>hQ s' I' ay a' m_ hq br (((aG.same d_).trans (aG.same eA)).trans hg)⟩
theorem lq (hG:fD (C.G δ)) (hC:cY C δ call) {R:List (Nat × af)} {ln:Option Nat} {m:Nat}:∀ (n:Nat) (c:Code) (s:CS) (K:X->CS->Bool),fT c=true->cw C call R nt n c s K=true->NX ln m (C.G δ) c (Kx nt b K) (s.st nt b)
 | 0,_,_,_,_,h=>by cases h
 | n+1,c,s,K,hc,h=>by
  intro I β a w hR
  cases c with
  | skip=>exact wpIn_skip (bA.of (x:=.cA) ⟨s,rfl,h⟩ hR (aG.same ⟨rfl,rfl,rfl,rfl⟩))
  | label l=>exact wpIn_label (bA.of (x:=.cA) ⟨s,rfl,h⟩ hR (aG.same ⟨rfl,rfl,rfl,rfl⟩))
  | ret=>exact wpIn_ret (bA.of (x:=.ret) ⟨s,rfl,h⟩ hR (aG.same ⟨rfl,rfl,rfl,rfl⟩))
  | exit id=>exact wpIn_exit (bA.of (x:=.exit id) ⟨s,rfl,h⟩ hR (aG.same ⟨rfl,rfl,rfl,rfl⟩))
  | seq x y =>
   simp only[fT,Bool.and_eq_true] at hc
   refine wpIn_seq (wpIn_mono (lq hG hC n x s _ hc.1 h I β a w hR) fun e a' w' hp=>?_)
   obtain⟨x',S',I',ay,rfl,⟨s',qZ,hq⟩,br,hg⟩:=hp.goes
   subst qZ
   cases x' with
   | cA=>exact (lq hG hC n y s' K hc.2 hq).from br hg
   | exit id=>exact bA.of (Q:=Kx nt b K) (x:=.exit id) ⟨s',rfl,hq⟩ br hg
   | ret=>exact bA.of (Q:=Kx nt b K) (x:=.ret) ⟨s',rfl,hq⟩ br hg
  | cond c x y =>
   simp only[fT,Bool.and_eq_true] at hc
   obtain⟨v,h,hv⟩:=ft hR (show fe s.t c _=true from h)
   split at h
   ·simp only[PV.Is] at hv
    exact wpIn_cond hv (lq hG hC n x s K hc.1 h I β a w hR)
   ·simp only[PV.Is] at hv
    exact wpIn_cond hv (lq hG hC n y s K hc.2 h I β a w hR)
   ·cases h
  | block id c =>
   refine wpIn_block (wpIn_mono (lq hG hC n c s _ hc h I β a w hR) fun e a' w' hp=>?_)
   obtain⟨x',S',I',ay,rfl,⟨s',qZ,hq⟩,br,hg⟩:=hp.goes
   subst qZ
   cases x' with
   | cA=>exact bA.of (Q:=Kx nt b K) (x:=.cA) ⟨s',rfl,hq⟩ br hg
   | exit j =>
    show Exit.inBlock id _ (.exit j) a' w'
    simp only[Exit.inBlock]
    by_cases hj:j=id
    ·subst hj
     rw[if_pos rfl]
     have kL:K .cA s'=true:=by simpa [Nat.beq_refl] using hq
     exact bA.of (Q:=Kx nt b K) (x:=.cA) ⟨s',rfl,kL⟩ br hg
    ·have cO:Nat.beq j id=false:=by rw[Bool.eq_false_iff]; exact fun e=>hj (Nat.eq_of_beq_eq_true e)
     rw[if_neg hj]
     have kL:K (.exit j) s'=true:=by simpa [cO] using hq
     exact bA.of (Q:=Kx nt b K) (x:=.exit j) ⟨s',rfl,kL⟩ br hg
   | ret=>exact bA.of (Q:=Kx nt b K) (x:=.ret) ⟨s',rfl,hq⟩ br hg
  | region id ops draw =>
   cases draw with
   | true=>cases hc
   | false =>
    have:=ua (nt:=nt) (b:=b) (r:=ln) (n:=m) hG hC ops.toList (Q':=bA (C.G δ) (s.st nt b) I β w (Kx nt b K)) hc h hR fun s' I' ay a' w' hq br hg=>bA.of (Q:=Kx nt b K) (x:=.cA) ⟨s',rfl,hq⟩ br hg
    exact wpIn_region_list this
  | _=>cases hc
theorem cE.marks {G:Gx} {d:List Deferred} {I:Nat->Prop} {w:World}:cE G I w↔cE { G with Bn:=d } I w:=⟨fun h=>⟨h.au,h.lV,h.row⟩,fun h=>⟨h.au,h.lV,h.row⟩⟩
theorem Spec.marks {G:Gx} {d:List Deferred} {f:FuncId} {args:List PV} {S:List aj} {rl:List Nat} {K:PV->List aj->Prop} (h:Spec G f args S rl K):Spec { G with Bn:=d } f args S rl K :=
 Spec.intro h.run.1 fun I β w vals hH hM hA=>(h.run.2 I β w vals hH (cE.marks.2 hM) hA).mono fun e w' ⟨v,r,S',I',ay,h1,h2,h3,h4,h5,h6⟩=>⟨v,r,S',I',ay,h1,h2,h3,h4,cE.marks.1 h5,h6⟩
theorem cY.any (hC:cY C [] call) (δ:List Deferred):cY C δ call:=fun f args h n k hk=>by
 rcases hC f args h n k hk with h|⟨r,h1,h2⟩
 ·exact .inl (Spec.marks (d:=δ) h)
 ·exact .inr ⟨r,h1,h2⟩
theorem fD.any (h:fD (C.G [])) (δ:List Deferred):fD (C.G δ):=⟨h.ok,h.bE⟩
end
def JY:Obj->Bool
 | .cells ..=>true
 | .map ..=>true
 | _=>false
def pE (L:Nat) (w:World):Prop:=∀ o,w.heap[L]?=some o->JY o=false
section
variable {G:Gx} {w w':World} {I I':Nat->Prop} {β ay:an} {st dY:List aj} {s:aD} {a:Act}
theorem fF.data {l:Nat} {b:aj} (h:fF I β st w l b) {p:na} {g o:Nat} (hp:β l=some p) (ha:p.a=some (g,o)):∃ ob,w.heap[g]?=some ob/\JY ob=true:=by
 obtain⟨q,hq,hm⟩:=h
 rw[hp] at hq
 cases hq
 split at hm
 ·obtain⟨g',o',arr,ty,fr,cJ,hh,_⟩:=hm
  rw[ha] at cJ; cases cJ; exact⟨_,hh,rfl⟩
 ·obtain⟨g',arr,fr,cJ,hh,_⟩:=hm
  rw[ha] at cJ; cases cJ; exact⟨_,hh,rfl⟩
 ·obtain⟨_,hm⟩:=hm
  rcases hm with ⟨cJ,_⟩|⟨g',arr,fr,cJ,hh,_⟩
  ·rw[ha] at cJ; cases cJ
  ·rw[ha] at cJ; cases cJ; exact⟨_,hh,rfl⟩
 ·obtain⟨g',cJ,⟨es,ck,hh,_⟩,_⟩:=hm
  rw[ha] at cJ; cases cJ; exact⟨_,hh,rfl⟩
 ·obtain⟨g',es,ck,cJ,hh,_⟩:=hm
  rw[ha] at cJ; cases cJ; exact⟨_,hh,rfl⟩
theorem vY (w:World):pE w.heap.size w:=fun o h=>by
 have:=(Array.getElem?_eq_some_iff.1 h).1
 omega
theorem ij {W:World} {L:Nat} (h:∃ r,W.heap[L]?=some (.loop r)):pE L W:=fun o e=>by
 obtain⟨r,h⟩:=h
 rw[h] at e
 cases e
 rfl
theorem kx {W:World} {L:Nat} {ds:Option (List Deferred)} (h:W.heap[L]?=some (.deferred ds)):pE L W:=fun o e=>by
 rw[h] at e
 cases e
 rfl
theorem pE.vZ {L:Nat} (hb:pE L w) (hH:aC I β st w):¬ gD β st L:=fun ⟨l,b,p,o,h1,h2,h3,h4⟩=>by
 obtain⟨ob,h5,h6⟩:=(hH.dX l b h1 h2).data h3 h4
 rw[hb ob h5] at h6
 cases h6
theorem aC.pF {L:Nat} (hH:aC I β st w) (hM:∀ g,I g->g < w.heap.size) (hL:¬ I L) (hb:pE L w) (ht:fL L w w'):aC I β st w':=by
 refine⟨hH.p8,fun l b hl az=>?_⟩
 have zB:=hH.dX l b hl az
 refine zB.mono (fun _ h=>h) (fun g hg=>ht.same g (hM g hg) (fun e=>hL (e ▸ hg))) (fun _ _ h=>h) fun p g o hp ha=>?_
 obtain⟨ob,hc,hd⟩:=zB.data hp ha
 obtain⟨_,_,_,_,ho⟩:=zB.place hp ha
 exact⟨ht.same g (aV hc) (fun e=>by subst e; rw[hb ob hc] at hd; cases hd),fun hr=>⟨(ho.1 hr).2.1,(ho.1 hr).2.2⟩⟩
theorem Rel.pF {L:Nat} (hR:Rel G I β s a w) (hL:¬ I L) (hb:pE L w) (ht:fL L w w'):Rel G I β s a w' :=
 ⟨hR.small,hR.defers,hR.size,hR.base,fun t x hx=>by
  obtain⟨v,hv,hi⟩:=hR.get t x hx
  exact⟨v,hv,PV.Is.mono (fun _ h=>h) (fun g hg=>ht.same g (hR.au.au g hg) (fun e=>hL (e ▸ hg))) x β β v (fun _ _ _ h=>h) hi⟩,hR.heap.pF hR.au.au hL hb ht,hR.au.jD hL ht⟩
theorem aG.JZ {s':aD} {B:Nat} (hg:aG I β s w I' ay s' w') (dU:∀ g,gD β s.st g->g < B):KeepsFrom B w w':=by
 refine⟨hg.ext.size,fun k o hB hk ho=>(hg.ext.block k (aV hk) fun ⟨l,b,p,o',h1,h2,_,h4,h5⟩=>?_).trans hk⟩
 have:=dU k ⟨l,b,p,o',h1,h2,h4,h5⟩
 omega
theorem aG.Ag {s':aD} {L:Nat} (hg:aG I β s w I' ay s' w') (hH:aC I β s.st w) (hL:¬ I L) (hb:pE L w) (bZ:L < w.heap.size):¬ I' L:=fun h=>by
 rcases hg.ext.new L bZ h with h|⟨l,b,p,o',h1,h2,_,h4,h5⟩
 ·exact hL h
 ·exact hb.vZ hH ⟨l,b,p,o',h1,h2,h4,h5⟩
theorem aG.sameD {s':aD} {L:Nat} (hg:aG I β s w I' ay s' w') (hH:aC I β s.st w) (hb:pE L w) (bZ:L < w.heap.size):w'.heap[L]?=w.heap[L]? :=
 hg.ext.block L bZ fun ⟨l,b,p,o',h1,h2,_,h4,h5⟩=>hb.vZ hH ⟨l,b,p,o',h1,h2,h4,h5⟩
end
section
variable {C:ib} {nt b:Nat} {call:eV} {w w':World} {I I':Nat->Prop} {β ay:an} {a:Act}
def Fz (h h':BM):Nat->Bool
 | 0=>true
 | l+1=>bif (match h'.get l with
  | some b'=>bif b'.live then (match h.get l with
   | some b=>b.live
   | none=>false) else true
  | none=>true) then Fz h h' l else false
theorem D1 {h h':BM}:∀ {n:Nat},Fz h h' n=true->∀ l,l < n->∀ b',h'.get l=some b'->b'.live=true->∃ b,h.get l=some b/\b.live=true
 | 0,_,l,hl,_,_,_=>absurd hl (Nat.not_lt_zero l)
 | k+1,hk,l,hl,b',hb,az=>by
  unfold Fz at hk
  replace hk:=cj hk
  rcases Nat.lt_succ_iff_lt_or_eq.1 hl with hl|rfl
  ·exact D1 hk.2 l hl b' hb az
  ·have h1:=hk.1
   rw[hb] at h1
   simp only[az,cond_true] at h1
   cases hg:h.get l with
   | none=>rw[hg] at h1; cases h1
   | some b=>rw[hg] at h1; exact⟨b,rfl,h1⟩
def J0 (C:ib) (call:eV) (R:List (Nat × af)) (nt N:Nat) (p:Tmp) (x0:Int) (assign body:Code) (s:CS) (K:CS->Bool):Bool :=
 iH nt s (some p) (.lit .i64 x0) fun s2=>cw C call R nt N assign s2 fun x s3=>match x with
  | .cA=>bif Nat.beq s3.n s.n && Fz s.h s3.h s.n then cw C call R nt N body s3 (fun x s4=>match x with
   | .cA=>K s4
   | _=>false) else false
  | _=>false
theorem D2 {x0:Int} {pre:List Int} {x:Int} (h:pre++[x] <+: [x0]):pre = []/\x=x0:=by
 obtain⟨t,ht⟩:=h
 cases pre with
 | nil=>simp at ht; exact⟨rfl,ht.1⟩
 | cons y pre=>simp at ht
def J1 (C:ib) (nt b:Nat) (s:CS) (a:Act) (I:Nat->Prop) (β:an) (w:World) (K:CS->Bool) (pre:List Int) (W:World):Prop:=match pre with
 | []=>Rel (C.G []) I β (s.st nt b) a W/\aG I β (s.st nt b) w I β (s.st nt b) W
 | _=>∃ (s4:CS) (I':Nat->Prop) (ay:an),K s4=true/\Rel (C.G []) I' ay ((⟨s.t,s4.h,s4.n⟩:CS).st nt b) a W/\aG I β (s.st nt b) w I' ay ((⟨s.t,s4.h,s4.n⟩:CS).st nt b) W/\(∀ l,l < s.n->ay l=β l)/\¬ I' w.heap.size/\¬ I' (w.heap.size+1)
def J2 (C:ib) (call:eV) (R:List (Nat × af)) (nt b N:Nat) (s:CS) (a:Act) (I:Nat->Prop) (β:an) (w:World) (K:CS->Bool) (body:Code) (a':Act) (W:World):Prop :=
 ∃ (s3:CS) (I3:Nat->Prop) (sY:an),(s3.n=s.n/\Fz s.h s3.h s.n=true)/\cw C call R nt N body s3 (fun x s4=>match x with
   | .cA=>K s4
   | _=>false)=true/\Rel (C.G []) I3 sY (s3.st nt s.n) a' W/\Rel (C.G []) I3 sY ((⟨s.t,s3.h,s3.n⟩:CS).st nt b) a W/\aG I β (s.st nt b) w I3 sY ((⟨s.t,s3.h,s3.n⟩:CS).st nt b) W/\(∀ l,l < s.n->sY l=β l)/\¬ I3 w.heap.size/\¬ I3 (w.heap.size+1)
set_option maxHeartbeats 1000000 in
theorem FA (hG:fD (C.G [])) (hC:cY C [] call) {R:List (Nat × af)} {N:Nat} {g:Operand} {p:Tmp} {assign body:Code} {Q:Exit->Act->World->Prop} {n:Nat} {gf:Nat} {lb:Array Value} {Fc:World->Prop} {x0:Int} {s:CS} {K:CS->Bool}
  (hg:a.eval g = .func (.func gf) #[] lb) (eg:Ev.gz C.cx.P gf) (yb:vW (n - 1) C.cx.P gf lb (fun x:Int=>#[.int .i64 x]) [x0] Fc) (hR:Rel (C.G []) I β (s.st nt b) a w) (h1:fT assign=true) (h2:fT body=true)
  (hk:J0 C call R nt N p x0 assign body s K=true)
  (hFc0:∀ W,Rel (C.G []) I β (s.st nt b) a W->Fc W)
  (hFc1:∀ W s4 I' ay,K s4=true->Rel (C.G []) I' ay ((⟨s.t,s4.h,s4.n⟩:CS).st nt b) a W->(∀ l,l < s.n->ay l=β l)->Fc W)
  (Ac:∀ I' ay W s4,K s4=true->Rel (C.G []) I' ay ((⟨s.t,s4.h,s4.n⟩:CS).st nt b) a W->aG I β (s.st nt b) w I' ay ((⟨s.t,s4.h,s4.n⟩:CS).st nt b) W->W.heap[w.heap.size]?=some (.deferred (some []))->¬ I' w.heap.size->Q .normal { a with defers:=mark w.heap.size::a.defers } W) :
  (Code.rangeFunc g #[p] assign body).wpIn Fence.wide n C.cx.P Q a w:=by
 have hI0:¬ I w.heap.size:=fun h=>by have:=hR.au.au _ h; omega
 have hI1:¬ I (w.heap.size+1):=fun h=>by have:=hR.au.au _ h; omega
 have qj:(s.st nt b).st.length=s.n:=cV ..
 have r5:b<=s.n:=by have:=hR.base; rwa [qj] at this
 refine tW hg eg yb (fun _=>rfl) (J1 C nt b s a I β w K) ?inv ⟨hR,aG.same ⟨rfl,rfl,rfl,rfl⟩⟩ ?ht ?Fw (fun _ _ a' W=>J2 C call R nt b N s a I β w K body a' W) ?htA ?assign ?body ?done
 case inv =>
  intro pre W W' h hB
  cases pre with
  | nil =>
   obtain⟨cI,gV⟩:=h
   have hn:¬ I W.heap.size:=fun h=>by have:=cI.au.au _ h; omega
   exact⟨cI.pF hn (vY W) (fL.below hB),gV.jD (fL.below hB) gV.ext.size⟩
  | cons y pre =>
   obtain⟨s4,I1,jc,u5,cI,gV,u3,n1,n2⟩:=h
   have hn:¬ I1 W.heap.size:=fun h=>by have:=cI.au.au _ h; omega
   exact⟨s4,I1,jc,u5,cI.pF hn (vY W) (fL.below hB),gV.jD (fL.below hB) gV.ext.size,u3,n1,n2⟩
 case ht =>
  intro pre W r r' h hl
  cases pre with
  | nil =>
   obtain⟨cI,gV⟩:=h
   exact⟨cI.pF hI1 (ij ⟨r,hl⟩) (fL.put W _ _),gV.jD (fL.put W _ _) (by omega)⟩
  | cons y pre =>
   obtain⟨s4,I1,jc,u5,cI,gV,u3,n1,n2⟩:=h
   exact⟨s4,I1,jc,u5,cI.pF n2 (ij ⟨r,hl⟩) (fL.put W _ _),gV.jD (fL.put W _ _) (by omega),u3,n1,n2⟩
 case Fw =>
  intro pre W h
  cases pre with
  | nil=>exact hFc0 W h.1
  | cons y pre =>
   obtain⟨s4,I1,jc,u5,cI,gV,u3,n1,n2⟩:=h
   exact hFc1 W s4 I1 jc u5 cI u3
 case htA =>
  rintro pre x a' W r r' ⟨s3,I1,jc,ML,hq,cI,hO1,gV,u3,n1,n2⟩ hl
  exact⟨s3,I1,jc,ML,hq,cI.pF n2 (ij ⟨r,hl⟩) (fL.put W _ _),hO1.pF n2 (ij ⟨r,hl⟩) (fL.put W _ _),gV.jD (fL.put W _ _) (by omega),u3,n1,n2⟩
 case assign =>
  intro pre x W tX h hl SX
  obtain⟨rfl,rfl⟩:=D2 tX
  obtain⟨hO,gV⟩:=h
  have QZ:Rel (C.G []) I β (s.st nt s.n) { tmps:=a.tmps,defers:=[] } W:=⟨hO.small,rfl,hO.size,by show s.n<=(eD s.h s.n).length; rw[cV]; exact Nat.le_refl _,hO.get,hO.heap,hO.au⟩
  obtain⟨S2,⟨s2,hS2,SJ⟩,sb2,hr2⟩:=aD.aT (G:=(C.G [])) (eW (nt:=nt) (b:=s.n) hk)
  subst hS2
  have hRj:=hr2 I β _ W (.int .i64 x) QZ (by simp only[PV.Is])
  have ea:({ tmps:=(#[p].zip #[Value.int .i64 x]).foldl (fun t (p,v)=>t.setIfInBounds p v) a.tmps,defers:=[] }:Act)=Act.put { tmps:=a.tmps,defers:=[] } (some p) (.int .i64 x):=by simp[Act.put]
  rw[ea]
  refine wpIn_mono (lq hG hC N assign s2 _ h1 SJ I β _ W hRj) fun e a' W' hp=>?_
  obtain⟨x',S3,I3,sY,rfl,⟨s3,u6,hq⟩,nz,xy⟩:=hp.goes
  subst u6
  cases x' with
  | cA =>
   replace hq:=cj hq
   obtain⟨ML,hq⟩:=hq
   rw[Bool.and_eq_true] at ML
   have ML:s3.n=s.n/\Fz s.h s3.h s.n=true:=⟨Nat.eq_of_beq_eq_true ML.1,ML.2⟩
   have vX:aG I β (s.st nt s.n) W I3 sY (s3.st nt s.n) W':=(aG.same sb2).trans xy
   have hbs:(s.st nt s.n).base=(s.st nt s.n).st.length:=(cV ..).symm
   have Q0:=Rel.outer (so:=s.st nt b) (s1:=s.st nt s.n) hO vX hbs rfl nz
   have hG3:=aG.outer (so:=s.st nt b) (s1:=s.st nt s.n) gV vX hbs rfl (by show b<=(eD s.h s.n).length; rw[cV]; exact r5)
   have dU:∀ g,gD β (s.st nt s.n).st g->g < w.heap.size:=fun g hg=>hR.heap.cH hg
   have j6:∀ l,l < s.n->sY l=β l:=fun l hl=>vX.low l hl List.not_mem_nil
   exact⟨vX.JZ dU,s3,I3,sY,ML,hq,nz,Q0,hG3,j6,vX.Ag QZ.heap hI0 (kx SX) (aV SX),vX.Ag QZ.heap hI1 (ij hl) (aV hl.choose_spec)⟩
  | exit id=>cases hq
  | ret=>cases hq
 case body =>
  rintro pre x a' W tX ⟨s3,I3,sY,⟨ML,MD⟩,hq,nz,Q0,xy,j6,n1,n2⟩ hl SX
  obtain⟨rfl,rfl⟩:=D2 tX
  refine wpIn_mono (lq (b:=s.n) hG hC N body s3 _ h2 hq I3 sY a' W nz) fun e a4 W4 hp=>?_
  obtain⟨x',S4,I4,SP,rfl,⟨s4,hS4,hq⟩,DZ,yc⟩:=hp.goes
  subst hS4
  cases x' with
  | cA =>
   have hbs:(s3.st nt s.n).base=(s3.st nt s.n).st.length:=by show s.n=(eD s3.h s3.n).length; rw[cV,ML]
   have hO4:=Rel.outer (so:=s.st nt b) (s1:=s3.st nt s.n) Q0 yc hbs rfl DZ
   have hG4:=aG.outer (so:=s.st nt b) (s1:=s3.st nt s.n) xy yc hbs rfl (by show b<=(eD s3.h s3.n).length; rw[cV,ML]; exact r5)
   have dU:∀ g,gD sY (s3.st nt s.n).st g->g < w.heap.size:=fun g ⟨l,bl,q,o,k1,k2,k3,k4⟩=>by
    have Yt:l < s.n:=by
     have:=(List.getElem?_eq_some_iff.1 k1).1
     rw[show (s3.st nt s.n).st.length=s3.n from cV ..] at this
     omega
    rw[j6 l Yt] at k3
    replace k1:(eD s3.h s3.n)[l]?=some bl:=k1
    rw[dC,if_pos (by omega),Option.some.injEq] at k1
    cases xy:s3.h.get l with
    | none=>rw[xy] at k1; subst k1; cases k2
    | some b' =>
     rw[xy] at k1
     replace k1:b'=bl:=k1
     subst k1
     obtain⟨b0,gE,ze⟩:=D1 MD l Yt b' xy k2
     exact hR.heap.cH ⟨l,b0,q,o,by show (eD s.h s.n)[l]?=_; rw[dC,if_pos Yt,gE]; rfl,ze,k3,k4⟩
   exact⟨rfl,yc.JZ dU,s4,I4,SP,hq,hO4,hG4,fun l hl=>(yc.low l hl List.not_mem_nil).trans (j6 l hl),yc.Ag nz.heap n1 (kx SX) (aV SX),yc.Ag nz.heap n2 (ij hl) (aV hl.choose_spec)⟩
  | exit id=>cases hq
  | ret=>cases hq
 case done =>
  rintro W ⟨s4,I1,jc,u5,cI,gV,u3,n1,n2⟩ SX
  exact Ac I1 jc W s4 u5 cI gV SX n1
end
section
variable {C:ib} {nt b:Nat} {call:eV} {w w':World} {I I':Nat->Prop} {β ay:an} {a:Act}
def SY (K:CS->Bool) (x:X) (s:CS):Bool:=match x with
 | .cA=>K s
 | _=>false
theorem Ah (hG:fD (C.G [])) (hC:cY C [] call) {R:List (Nat × af)} {m:Nat} {Q:Exit->Act->World->Prop} {K:CS->Bool}:∀ (k N:Nat) (c:Code) (s:CS) (a:Act) (I:Nat->Prop) (β:an) (w:World),Fx k c=true->cf R c=true ->
  cw C call R nt N (pC k c) s (SY K)=true->Rel (C.G []) I β (s.st nt b) a w->(∀ s' I' ay a' w',K s'=true->Rel (C.G []) I' ay (s'.st nt b) a' w'->aG I β (s.st nt b) w I' ay (s'.st nt b) w'->(nD k c).wpIn Fence.wide m C.cx.P Q a' w')->c.wpIn Fence.wide m C.cx.P Q a w
 | _,0,_,_,_,_,_,_,_,_,h,_,_=>by cases h
 | 0,N+1,c,s,a,I,β,w,_,_,h,hR,hQ=>by
  have h':K s=true:=by cases c<;>exact h
  have:=hQ s I β a w h' hR (aG.same ⟨rfl,rfl,rfl,rfl⟩)
  cases c<;>exact this
 | k+1,N+1,c,s,a,I,β,w,hk,hp,h,hR,hQ=>by
  cases c with
  | seq A D =>
   simp only[cf,Bool.and_eq_true] at hp
   have h1:=mu (nt:=nt) (b:=b) hG hC N A s _ hp.1 h
   refine wpIn_seq (wpIn_mono (wpIn_wide.2 (h1.run hR)) fun e a' w' hq=>?_)
   obtain⟨x',S',I',ay,rfl,⟨s',qZ,hq⟩,br,hg⟩:=hq.goes
   subst qZ
   cases x' with
   | cA=>exact Ah hG hC k N D s' a' I' ay w' hk hp.2 hq br fun s2 I2 ee a2 w2 hK eM jq=>hQ s2 I2 ee a2 w2 hK eM (hg.trans jq)
   | exit id=>cases hq
   | ret=>cases hq
  | _=>cases hk
def yf (C:ib) (call:eV) (R:List (Nat × af)) (nt k:Nat) (g:Operand) (p:Tmp) (x0:Int) (assign body A B c:Code) (chk:CS->PV->Bool) (fin:X->CS->Bool) (s:CS):Bool :=
 cw C call R nt 100 (pC k c) s (SY fun s=>cw C call R nt 100 A s (SY fun s1=>fe s1.t g fun gv=>bif chk s1 gv then J0 C call R nt 100 p x0 assign body s1 (fun s4=>bif chk ⟨s1.t,s4.h,s4.n⟩ gv then cw C call R nt 100 B ⟨s1.t,s4.h,s4.n⟩ fin else false) else false))
theorem Spec.bodyR (hG:fD (C.G [])) (hC:cY C [] call) {R:List (Nat × af)} {f:FuncId} {fn:Func} {c:Code} (hf:C.cx.P.funcs[f]?=some fn) (jK:fn.ntmps<=16777215) (mg:(fn.name == "runtime.NumGoroutine")=false) (hb:fn.body=some c) (j3:cf R c=true)
  {k i:Nat} {g:Operand} {p:Tmp} {x0:Int} {assign body A B:Code} (hk:Fx k c=true) (Jr:nD k c = .seq (.seq A (.block i (.rangeFunc g #[p] assign body))) B) (h1:fT assign=true) (h2:fT body=true) {chk:CS->PV->Bool}
  {args:List PV} {h:BM} {m:Nat} {K:PV->BM->Nat->Bool} (hle:args.length<=fn.ntmps)
  (YJ:∀ (s1:CS) gv I β w v,chk s1 gv=true->aC I β (eD s1.h s1.n) w->cE (C.G []) I w->gv.Is w I β v->∃ gf lb Fc,v = .func (.func gf) #[] lb/\Ev.gz C.cx.P gf/\vW 4 C.cx.P gf lb (fun x:Int=>#[.int .i64 x]) [x0] Fc/\∀ (s4:CS) I' ay W,chk ⟨s1.t,s4.h,s4.n⟩ gv=true->aC I' ay (eD s4.h s4.n) W->cE (C.G []) I' W->(∀ l,l < s1.n->ay l=β l)->Fc W)
  (bp:(tp args 0 .nil fun t=>yf C call R fn.ntmps k g p x0 assign body A B c chk (fun x s=>match x with
    | .exit _=>false
    | _=>xK C s fn.results.toList fun r=>K r s.h s.n) ⟨t,h,m⟩)=true):Spec (C.G []) f args (eD h m) [] fun r S=>∃ h' n',S=eD h' n'/\K r h' n'=true:=by
 obtain⟨t,bp,ht⟩:=tQ bp
 refine Spec.intro (Ev.gi hf hb mg) fun I β w vals hH hM hA=>(callsIn_wide (n:=5)).1 (callsIn_of_wp_marks hf hb trivial ?_ rfl)
 have ZD:=hA.length
 have hR:Rel (C.G []) I β ((⟨t,h,m⟩:CS).st fn.ntmps m) { tmps:=vals.toArray++Array.replicate (fn.ntmps - vals.toArray.size) Go.undef,defers:=[] } w:=by
  refine⟨jK,rfl,by show (vals.toArray++Array.replicate (fn.ntmps - vals.toArray.size) Go.undef).size=fn.ntmps; simp; omega,by show m<=(eD h m).length; rw[cV]; exact Nat.le_refl _,fun n x hx=>?_,hH,hM⟩
  rcases ht n x hx with ⟨j,hj,hx⟩|hx
  ·rw[Nat.zero_add] at hj
   subst hj
   obtain⟨v,hv,hi⟩:=hA.get hx
   have bZ:n < vals.length:=(List.getElem?_eq_some_iff.1 hv).1
   exact⟨v,by rw[Array.getElem?_append_left (by simpa using bZ)]; simpa using hv,hi⟩
  ·cases hx
 have yd:cf R (nD k c)=true:=by
  have key:∀ (k:Nat) (c:Code),cf R c=true->cf R (nD k c)=true:=by
   intro k
   induction k with
   | zero=>intro c h; cases c<;>exact h
   | succ k ih =>
    intro c h
    cases c with
    | seq a b =>
     simp only[cf,Bool.and_eq_true] at h
     exact ih b h.2
    | _=>exact h
  exact key k c j3
 rw[Jr] at yd
 simp only[cf,Bool.and_eq_true] at yd
 have SR:=yd.1.1
 have SS:=yd.2
 refine Ah hG hC k 100 c ⟨t,h,m⟩ _ I β w hk j3 bp hR fun s0 I0 eU a0 w0 Hd YK hg0=>?_
 rw[Jr]
 refine wpIn_seq (wpIn_seq (wpIn_mono (wpIn_wide.2 ((mu (nt:=fn.ntmps) (b:=m) hG hC 100 A s0 _ SR Hd).run YK)) fun e a' w' hp=>?_))
 obtain⟨x',S1,I1,jc,rfl,⟨s1,hS1,hq⟩,cI,gV⟩:=hp.goes
 subst hS1
 have gV:=hg0.trans gV
 cases x' with
 | exit id=>cases hq
 | ret=>cases hq
 | cA =>
 obtain⟨gv,hq,hgv⟩:=ft cI hq
 replace hq:=cj hq
 obtain⟨G6,hq⟩:=hq
 obtain⟨gf,lb,Fc,he,hen,yb,Fw⟩:=YJ s1 gv I1 jc w' _ G6 cI.heap cI.au hgv
 refine wpIn_block ?_
 refine FA hG hC he hen yb cI h1 h2 hq (fun W hRW=>Fw s1 I1 jc W G6 hRW.heap hRW.au (fun _ _=>rfl)) (fun W s4 I' ay hk4 DZ hb4=>Fw s4 I' ay W (cj hk4).1 DZ.heap DZ.au hb4) fun I2 ee W s4 hk4 eM jq NZ hnD=>?_
 have hgB:=gV.trans jq
 have hda:a'.defers = []:=cI.defers
 show B.wpIn Fence.wide 5 C.cx.P (bodyPostM Fence.wide 5 C.cx.P fn _) { a' with defers:=mark w'.heap.size::a'.defers } W
 rw[hda]
 have nz:Rel (C.G [mark w'.heap.size]) I2 ee ((⟨s1.t,s4.h,s4.n⟩:CS).st fn.ntmps m) { a' with defers:=[mark w'.heap.size] } W:=⟨eM.small,rfl,eM.size,eM.base,eM.get,eM.heap,⟨eM.au.au,eM.au.lV,eM.au.row⟩⟩
 refine wpIn_mono (wpIn_wide.2 ((mu (fD.any hG _) (cY.any hC _) 100 B _ _ SS (cj hk4).2).run nz)) fun e a4 W4 hp=>?_
 obtain⟨x',S5,I4,SP,rfl,⟨s5,hS5,hq⟩,DZ,yc⟩:=hp.goes
 subst hS5
 have JU:W4.heap[w'.heap.size]?=some (.deferred (some [])):=(yc.sameD nz.heap (kx NZ) (aV NZ)).trans NZ
 have SU:¬ I4 w'.heap.size:=yc.Ag nz.heap hnD (kx NZ) (aV NZ)
 have SQ:=DZ.pF SU (kx JU) (fL.put W4 w'.heap.size (.deferred none))
 have Q1:=(hgB.trans yc).jD (fL.put W4 w'.heap.size (.deferred none)) gV.ext.size
 have kT:xK C s5 fn.results.toList (fun r=>K r s5.h s5.n)=true->bodyPostM Fence.wide 5 C.cx.P fn (fun e w'=>∃ v r S' I' ay,e = .returned v/\(∃ h' n',S'=eD h' n'/\K r h' n'=true)/\r.Is w' I' ay v/\aC I' ay S' w'/\cE (C.G []) I' w'/\Ext I β (eD h m) w I' ay S' w'/\(eD h m).length<=S'.length/\∀ l,l < (eD h m).length->l ∉ []->ay l=β l) .ret a4 W4:=fun hq=>by
  obtain⟨v,bp,v',r,S',I6,β6,hv,hK,hi,hH6,SV,hE6,hl6,dU⟩:=tR (fn:=fn) (s0:=⟨t,h,m⟩) (fD.any hG [mark w'.heap.size]) SQ Q1 hq
  show LeavesInM _ _ _ _ _ _ a4.defers _ _
  rw[show a4.defers = [mark w'.heap.size] from DZ.defers]
  exact⟨by simp,.inl ⟨_,_,rfl,run_takeDeferred JU,v,bp,v',r,S',I6,β6,hv,hK,hi,hH6,⟨SV.au,SV.lV,SV.row⟩,hE6,hl6,dU⟩⟩
 cases x' with
 | cA=>exact kT hq
 | ret=>exact kT hq
 | exit id=>cases hq
end
end Go.Proofs.YtbnoodjnpooocaaGreatDoor.Pw
