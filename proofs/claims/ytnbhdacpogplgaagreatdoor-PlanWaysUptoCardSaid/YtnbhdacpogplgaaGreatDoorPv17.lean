/- What this claim is proved with: no condition. -/
import Derived.Test.YtnbhdacpogplgaaGreatDoorPv16
import Derived.Test.YtnbhdacpogplgaaGreatDoorPv7
set_option maxRecDepth 100000
set_option linter.unusedVariables false
set_option linter.unusedSimpArgs false
namespace Go.Proofs.YtnbhdacpogplgaaGreatDoor.Pw
open Go Go.RowKit
def uD (n lo hi:Int) (t:Bool):Bool:=if t then decide (lo<=n/\n<=hi) else decide (n=0)
def fI:T->Bool
 | .leaf o n=>decide (o≠2\/n < 254)
 | .one o n a=>decide (o≠2\/n < 254) && fI a
 | .two o n a b=>decide (o≠2\/n < 254) && (fI a && fI b)
def cK (t:T) (there:Bool):Bool:=if there then t.shaped && fI t else decide (t.op=0/\t.num=0/\t.kids=0)
def qo (k:Int):Int:=if k=3 then 2 else if k=4\/k=5 then 1 else 0
def wv (k:Int):Int:=if k=2 then 2147483647 else if k=3 then 2 else if k=4\/k=5 then 1 else 0
def pK (k cy mi wo si:Int):Bool:=uD cy 0 2147483647 (decide (k=1)) && (uD mi 0 2147483647 (decide (k=1)) && (uD wo 4 253 (decide (k=4)) && uD si 0 1024 (decide (k=5))))
mutual
def gM:C->Bool
 | .mk k cy mi wo si a b l=>decide (1<=k/\k<=6) && (pK k cy mi wo si && (decide (qo k<=(l.length:Nat)/\((l.length:Nat):Int)<=wv k) && (cK a (decide (3<=k)) && (cK b (decide (k=4\/k=6)) && ta l))))
def ta:List C->Bool
 | []=>true
 | c::l=>gM c && ta l
end
mutual
def C.Wf:C->Prop
 | .mk _ _ _ _ _ a b l=>a.Wf/\b.Wf/\wfL l
def wfL:List C->Prop
 | []=>True
 | c::l=>c.Wf/\wfL l
end
theorem uX:∀ {l:List C},ta l=true->∀ c∈l,gM c=true
 | c::l,h,x,hx=>by
  simp only[ta,Bool.and_eq_true] at h
  rcases List.mem_cons.1 hx with rfl|hx
  ·exact h.1
  ·exact uX h.2 x hx
theorem rF:∀ {l:List C},wfL l->∀ c∈l,c.Wf
 | c::l,h,x,hx=>by
  simp only[wfL] at h
  rcases List.mem_cons.1 hx with rfl|hx
  ·exact h.1
  ·exact rF h.2 x hx
theorem wx (ws:List Int) (n:Nat) (v:Int):(bh ws).set n (.int .u32 v)=bh (ws.set n v):=by unfold bh; rw[List.map_set]
namespace R
def dp (r:R):R:={ r with fuel:=r.fuel - 1 }
theorem Ok.ck {r:R} (h:r.Ok) (t:Int):({ r with ck:=t }:R).Ok:=⟨h.len,h.ws,h.fuel,h.sum⟩
theorem Ok.err {r:R} (h:r.Ok) (t:Int):({ r with e:=t }:R).Ok:=⟨h.len,h.ws,h.fuel,h.sum⟩
theorem Ok.set {r:R} (h:r.Ok) (n:Nat) {v:Int} (hv:0<=v/\v<=4294967295):({ r with ws:=r.ws.set n v }:R).Ok:=⟨by simp[h.len],fun x hx=>by
 rcases List.mem_or_eq_of_mem_set hx with hx|rfl
 ·exact h.ws x hx
 ·exact hv,h.fuel,h.sum⟩
end R
theorem qm.use {f:FuncId} {args bf:List PV} {c0:C} {wt:Int} {r r':R} {res:PV} {st:List an} {K:PV->List an->Prop} (h:qm f bf c0 wt r res r') (hle:na qC args bf) (hu:(eu bf).all (fun l=>Nat.blt l 3)=true) (z4:res.c9.all (fun l=>Nat.blt l 3)=true)
  (hK:EC st (sR c0 wt r) fun T=>xN (sR c0 wt r') fun S1=>BY S1 T (K res)):Spec gT f args st [] K:=Spec.P' h rfl rfl hu z4 hle hK
def y7 (wt:Int) (c:C) (r:R):R :=
 if 0 < c.size/\¬ (c.a.bo r.ws).isSome=true then { r with ck:=2 }
 else if (0 < c.size/\r.val c.a < c.size)\/(c.size=0/\(c.a.bo r.ws).isSome=true/\r.val c.a≠0) then r
 else if (gL wt c.l r).fin then gL wt c.l r else { gL wt c.l r with ck:=if 0 < c.size then 1 else 2 }
def At (c0:C) (wt:Int) (c:C):Prop:=∀ r:R,r.Ok->qm 73 [.ptr 2 0,.sl 12 (jO c)] c0 wt r (.tup []) (gL wt c.l r)/\(gL wt c.l r).Ok
theorem Jr {c0:C} {wt:Int} (c:C) (ha:c.a.Wf) (hs:0<=c.size/\c.size<=1024) (cA:At c0 wt c) {r:R} (hr:r.Ok):qm 77 [.ptr 2 0,bx c] c0 wt r (.tup []) (y7 wt c r):=by
 have hv:=hr.val ha
 refine Spec.rf (Spec.enter ao P77 100 Tryz.func77 rfl (by kernel_rfl) ?_)
 refine⟨[],nofun,(fp r.ws hr.words c.a ha).BV [1] (by repeat' first|exact trivial|exact rfl|exact Iff.rfl|exact Or.inl rfl|refine And.intro ?_ ?_) rfl rfl ?_⟩
 unfold y7
 unfold R.val at hv ⊢
 generalize c.a.bo r.ws=o at hv ⊢
 refine⟨fun h1=>And.intro (fun h2=>?_) (fun h2=>?_),fun h1=>?_⟩
 ·rw[if_pos ⟨h1,h2⟩]
  (refine fy (by repeat' first|exact trivial|exact rfl|exact Iff.rfl|refine And.intro ?_ ?_) ?_; repeat' first|exact trivial|exact rfl|exact Iff.rfl|exact Or.inl rfl|refine And.intro ?_ ?_)
 ·rw[if_neg (fun h=>h2 h.2)]
  refine⟨fun h3=>?_,fun h3=>absurd h1 h3⟩
  refine .inl ⟨ai (by omega),?_⟩
  refine⟨fun h4=>?_,fun h4=>?_⟩
  ·rw[if_pos (.inl ⟨h1,h4⟩)]
   (refine fy (by repeat' first|exact trivial|exact rfl|exact Iff.rfl|refine And.intro ?_ ?_) ?_; repeat' first|exact trivial|exact rfl|exact Iff.rfl|exact Or.inl rfl|refine And.intro ?_ ?_)
  ·refine⟨fun h5=>?_,fun h5=>?_⟩
   ·exact absurd h1 (by omega)
   rw[if_neg (fun h=>h.elim (fun h=>h4 h.2) (fun h=>h5 h.1))]
   refine⟨[],nofun,(cA r hr).1.go (by repeat' first|exact trivial|exact rfl|exact Iff.rfl|exact Or.inl rfl|refine And.intro ?_ ?_) rfl rfl ?_⟩
   refine⟨[],nofun,fh.go (by repeat' first|exact trivial|exact rfl|exact Iff.rfl|exact Or.inl rfl|refine And.intro ?_ ?_) rfl rfl ?_⟩
   refine⟨fun hf=>?_,fun hf=>And.intro (fun h6=>?_) (fun h6=>?_)⟩
   ·rw[if_pos hf]
    (refine fy (by repeat' first|exact trivial|exact rfl|exact Iff.rfl|refine And.intro ?_ ?_) ?_; repeat' first|exact trivial|exact rfl|exact Iff.rfl|exact Or.inl rfl|refine And.intro ?_ ?_)
   ·rw[if_neg hf,if_pos h1]
    (refine fy (by repeat' first|exact trivial|exact rfl|exact Iff.rfl|refine And.intro ?_ ?_) ?_; repeat' first|exact trivial|exact rfl|exact Iff.rfl|exact Or.inl rfl|refine And.intro ?_ ?_)
   ·exact absurd h1 h6
 ·rw[if_neg (fun h=>h1 h.1)]
  have h0:c.size=0:=by omega
  refine⟨fun h3=>absurd h3 h1,fun h3=>And.intro (fun h5=>And.intro (fun h6=>And.intro (fun h7=>?_) (fun h7=>?_)) (fun h6=>?_)) (fun h5=>absurd h0 h5)⟩
  ·rw[if_pos (.inr ⟨h0,h6,h7⟩)]
   (refine fy (by repeat' first|exact trivial|exact rfl|exact Iff.rfl|refine And.intro ?_ ?_) ?_; repeat' first|exact trivial|exact rfl|exact Iff.rfl|exact Or.inl rfl|refine And.intro ?_ ?_)
  ·rw[if_neg (fun h=>h.elim (fun h=>h1 h.1) (fun h=>h7 h.2.2))]
   refine⟨[],nofun,(cA r hr).1.go (by repeat' first|exact trivial|exact rfl|exact Iff.rfl|exact Or.inl rfl|refine And.intro ?_ ?_) rfl rfl ?_⟩
   refine⟨[],nofun,fh.go (by repeat' first|exact trivial|exact rfl|exact Iff.rfl|exact Or.inl rfl|refine And.intro ?_ ?_) rfl rfl ?_⟩
   refine⟨fun hf=>?_,fun hf=>And.intro (fun h6=>absurd h6 h1) (fun h6=>?_)⟩
   ·rw[if_pos hf]
    (refine fy (by repeat' first|exact trivial|exact rfl|exact Iff.rfl|refine And.intro ?_ ?_) ?_; repeat' first|exact trivial|exact rfl|exact Iff.rfl|exact Or.inl rfl|refine And.intro ?_ ?_)
   ·rw[if_neg hf,if_neg h1]
    (refine fy (by repeat' first|exact trivial|exact rfl|exact Iff.rfl|refine And.intro ?_ ?_) ?_; repeat' first|exact trivial|exact rfl|exact Iff.rfl|exact Or.inl rfl|refine And.intro ?_ ?_)
  ·rw[if_neg (fun h=>h.elim (fun h=>h1 h.1) (fun h=>h6 h.2.1))]
   refine⟨[],nofun,(cA r hr).1.go (by repeat' first|exact trivial|exact rfl|exact Iff.rfl|exact Or.inl rfl|refine And.intro ?_ ?_) rfl rfl ?_⟩
   refine⟨[],nofun,fh.go (by repeat' first|exact trivial|exact rfl|exact Iff.rfl|exact Or.inl rfl|refine And.intro ?_ ?_) rfl rfl ?_⟩
   refine⟨fun hf=>?_,fun hf=>And.intro (fun h6=>absurd h6 h1) (fun h6=>?_)⟩
   ·rw[if_pos hf]
    (refine fy (by repeat' first|exact trivial|exact rfl|exact Iff.rfl|refine And.intro ?_ ?_) ?_; repeat' first|exact trivial|exact rfl|exact Iff.rfl|exact Or.inl rfl|refine And.intro ?_ ?_)
   ·rw[if_neg hf,if_neg h1]
    (refine fy (by repeat' first|exact trivial|exact rfl|exact Iff.rfl|refine And.intro ?_ ?_) ?_; repeat' first|exact trivial|exact rfl|exact Iff.rfl|exact Or.inl rfl|refine And.intro ?_ ?_)
def R.put (r:R) (n:Nat) (v:Int):R:={ r with ws:=r.ws.set n v }
def oS (wt:Int) (c:C) (r:R):R :=
 if (r.cb c.a).fin then r.cb c.a else (gK (fun r=>gL wt c.l r) c.word.toNat (((r.cb c.a).val c.b) - r.val c.a).toNat (r.val c.a) ((r.cb c.a).cb c.b)).put c.word.toNat ((((r.cb c.a).cb c.b).ws[c.word.toNat]?).getD 0)
theorem CM {c0:C} {wt:Int} (c:C) (ha:c.a.Wf) (hb:c.b.Wf) (hs:4<=c.word/\c.word<=253) (cA:At c0 wt c) {r:R} (hr:r.Ok):qm 76 [.ptr 2 0,bx c] c0 wt r (.tup []) (oS wt c r):=by
 refine Spec.rf (Spec.enter ao P76 100 Tryz.func76 rfl (by kernel_rfl) ?_)
 unfold oS
 refine⟨[],nofun,(lY hr c.a ha).go (by repeat' first|exact trivial|exact rfl|exact Iff.rfl|exact Or.inl rfl|refine And.intro ?_ ?_) rfl rfl ?_⟩
 refine⟨[],nofun,fh.go (by repeat' first|exact trivial|exact rfl|exact Iff.rfl|exact Or.inl rfl|refine And.intro ?_ ?_) rfl rfl ?_⟩
 refine⟨fun hf=>?_,fun hf=>?_⟩
 ·rw[if_pos hf]
  (refine fy (by repeat' first|exact trivial|exact rfl|exact Iff.rfl|refine And.intro ?_ ?_) ?_; repeat' first|exact trivial|exact rfl|exact Iff.rfl|exact Or.inl rfl|refine And.intro ?_ ?_)
 rw[if_neg hf]
 have h1:=hr.val ha
 have kM:=hr.cb c.a
 have h2:=kM.val hb
 refine⟨[],nofun,(lY kM c.b hb).go (by repeat' first|exact trivial|exact rfl|exact Iff.rfl|exact Or.inl rfl|refine And.intro ?_ ?_) rfl rfl ?_⟩
 have O8:=kM.cb c.b
 have hlen:=O8.len
 generalize ((r.cb c.a).val c.b)=hi at h2 ⊢
 generalize r.val c.a=lo at h1 ⊢
 generalize (r.cb c.a).cb c.b=r2 at O8 hlen ⊢
 refine⟨by omega,show c.word < ((bh r2.ws).length:Nat) by rw[bh,List.length_map]; omega,?_⟩
 refine⟨Int,r2.ws,PV.int .u32,rfl,by omega,fun iO CN=>?_⟩
 rw[CN]
 have hwb:=O8.ws iO (List.mem_of_getElem? CN)
 obtain⟨r1,kM⟩:∃ q,q=gK (fun r=>gL wt c.l r) c.word.toNat (hi - lo).toNat lo r2:=⟨_,rfl⟩
 rw[← kM]
 have e1:Option.getD (some iO) 0=iO:=rfl
 rw[e1]
 refine SW.SK ao P76 (by kernel_rfl) (α:={p:Int × R // p.2.Ok/\gK (fun r=>gL wt c.l r) c.word.toNat (hi - p.1).toNat p.1 p.2=r1/\0<=p.1/\p.1<=4294967295}) (fun x=>[(7,.int .u32 x.1.1)]) (fun x=>sR c0 wt x.1.2++[xB c]) (fun x=>(hi - x.1.1).toNat) ⟨(lo,r2),O8,kM.symm,h1⟩ 60 [some 0,some 1,some 2,some 3] ?_ ?_
 ·repeat' first|exact trivial|exact rfl|refine And.intro ?_ ?_
 rintro⟨⟨i,q⟩,hq,Nq,hi0,hi1⟩
 dsimp only at hq Nq hi0 hi1
 have hql:=hq.len
 have jl:r1=q->vS [xB c0,⟨.dyn,24,1,.w,true,(bh q.ws).set c.word.toNat (.int .u32 iO)⟩,rB wt q] (sR c0 wt (r1.put c.word.toNat iO)):=fun e=>by
  subst e
  refine⟨(by repeat' first|exact trivial|exact rfl|exact Iff.rfl|exact Or.inl rfl|refine And.intro ?_ ?_),wx ..,(by repeat' first|exact trivial|exact rfl|exact Iff.rfl|exact Or.inl rfl|refine And.intro ?_ ?_)⟩
 refine⟨fun h=>?_,fun h=>?_⟩
 ·have h':i < hi:=h
  have step:r1=if q.fin then q else gK (fun r=>gL wt c.l r) c.word.toNat (hi - (i+1)).toNat (i+1) (gL wt c.l (q.put c.word.toNat i)):=by
   rw[← Nq,show (hi - i).toNat=(hi - (i+1)).toNat+1 by omega,gK]; rfl
  refine⟨[],nofun,fh.go (by repeat' first|exact trivial|exact rfl|exact Iff.rfl|exact Or.inl rfl|refine And.intro ?_ ?_) rfl rfl ?_⟩
  refine⟨fun hf=>?_,fun hf=>?_⟩
  ·rw[if_neg hf] at step
   refine⟨by omega,show c.word < ((bh q.ws).length:Nat) by rw[bh,List.length_map]; omega,show c.word.toNat < (bh q.ws).length by rw[bh,List.length_map]; omega,?_⟩
   obtain⟨k1,k2⟩:=cA (q.put c.word.toNat i) (hq.set _ ⟨hi0,hi1⟩)
   refine⟨[],nofun,k1.use (by repeat' first|exact trivial|exact rfl|exact Iff.rfl|exact Or.inl rfl|refine And.intro ?_ ?_) rfl rfl ?_⟩
   refine And.intro (by repeat' first|exact trivial|exact rfl|exact Iff.rfl|exact Or.inl rfl|refine And.intro ?_ ?_) (And.intro (wx ..) (And.intro (by repeat' first|exact trivial|exact rfl|exact Iff.rfl|exact Or.inl rfl|refine And.intro ?_ ?_) ?_))
   refine .inl ⟨ai (show 0<=i+1/\i+1<=4294967295 by omega),⟨(i+1,gL wt c.l (q.put c.word.toNat i)),k2,step.symm,show 0<=i+1 by omega,show i+1<=4294967295 by omega⟩,[some 0,some 1,some 2,some 3],show (hi - (i+1)).toNat < (hi - i).toNat by omega,?_⟩
   repeat' first|exact trivial|exact rfl|refine And.intro ?_ ?_
  ·rw[if_pos (Classical.not_not.1 hf)] at step
   refine⟨by omega,show c.word < ((bh q.ws).length:Nat) by rw[bh,List.length_map]; omega,show c.word.toNat < (bh q.ws).length by rw[bh,List.length_map]; omega,?_⟩
   exact fy (by repeat' first|exact trivial|exact rfl|exact Iff.rfl|exact Or.inl rfl|refine And.intro ?_ ?_) (jl step)
 ·have h':¬ i < hi:=h
  have step:r1=q:=by rw[← Nq,show (hi - i).toNat=0 by omega,gK]
  refine⟨by omega,show c.word < ((bh q.ws).length:Nat) by rw[bh,List.length_map]; omega,show c.word.toNat < (bh q.ws).length by rw[bh,List.length_map]; omega,?_⟩
  exact fy (by repeat' first|exact trivial|exact rfl|exact Iff.rfl|exact Or.inl rfl|refine And.intro ?_ ?_) (jl step)
open Go Go.RowKit
theorem C.lZ {p:C->Prop} (h:∀ c:C,(∀ x∈c.l,p x)->p c):∀ c,p c:=C.ind fun k cy mi wo si a b l ih=>h (.mk k cy mi wo si a b l) ih
theorem Au (c:C):gM c=true↔(1<=c.kind/\c.kind<=6)/\pK c.kind c.eX c.eY c.word c.size=true/\(qo c.kind<=(c.l.length:Nat)/\((c.l.length:Nat):Int)<=wv c.kind)/\cK c.a (decide (3<=c.kind))=true/\cK c.b (decide (c.kind=4\/c.kind=6))=true/\ta c.l=true:=by
 cases c with
 | mk k cy mi wo si a b l=>simp only[gM,Bool.and_eq_true,decide_eq_true_eq,C.kind,C.eX,C.eY,C.word,C.size,C.a,C.b,C.l]; exact Iff.rfl
theorem C.Av (c:C):c.Wf↔c.a.Wf/\c.b.Wf/\wfL c.l:=by cases c; rfl
theorem Hb {n lo hi:Int} (h:uD n lo hi true=true):lo<=n/\n<=hi:=by simpa [uD] using h
theorem Nr {n lo hi:Int} (h:uD n lo hi false=true):n=0:=by simpa [uD] using h
structure Nums (c:C):Prop where
 eX:0<=c.eX/\c.eX<=2147483647
 eY:0<=c.eY/\c.eY<=2147483647
 word:c.kind=4->4<=c.word/\c.word<=253
 size:0<=c.size/\c.size<=1024
theorem Aw {n lo hi:Int} {t:Bool} (h0:lo<=0) (h1:0<=hi) (h:uD n lo hi t=true):lo<=n/\n<=hi:=by
 cases t with
 | true=>exact Hb h
 | false=>rw[Nr h]; exact⟨h0,h1⟩
theorem Hc {c:C} (h:pK c.kind c.eX c.eY c.word c.size=true):Nums c:=by
 simp only[pK,Bool.and_eq_true] at h
 obtain⟨h1,h2,h3,h4⟩:=h
 refine⟨Aw (by omega) (by omega) h1,Aw (by omega) (by omega) h2,fun hk=>?_,Aw (by omega) (by omega) h4⟩
 rw[decide_eq_true hk] at h3
 exact Hb h3
def CO (wt:Int) (c:C) (r:R):R:=if (r.cb c.a).fin then r.cb c.a else if r.val c.a≠0 then lq wt c.l 0 (r.cb c.a) else lq wt c.l 1 (r.cb c.a)
def pt (c:C) (r:R):R:=if (r.cb c.a).fin then r.cb c.a else if ((r.cb c.a).cb c.b).fin then (r.cb c.a).cb c.b else ((r.cb c.a).cb c.b).add (pr (r.val c.a) ((r.cb c.a).val c.b) - 2)
theorem Ax (wt:Int) (c:C) (r:R):mO wt c r=if r.fuel<=0 then { r with e:=70 } else if c.kind=1 then r.dp.add (c.eX+c.eY*wt) else if c.kind=2 then gL wt c.l r.dp else if c.kind=3 then CO wt c r.dp
  else if c.kind=4 then oS wt c r.dp else if c.kind=5 then y7 wt c r.dp else if c.kind=6 then pt c r.dp else r.dp:=by cases c; rfl
theorem uY (wt:Int):∀ {l:List C} {n:Nat} {x:C} (r:R),l[n]?=some x->lq wt l n r=mO wt x r
 | c::l,0,x,r,h=>by simp at h; subst h; rw[lq]
 | c::l,n+1,x,r,h=>by rw[lq]; exact uY wt r (by simpa using h)
theorem oT {wt:Int}:∀ {l:List C},(∀ c∈l,∀ r:R,r.Ok->(mO wt c r).Ok)->∀ r:R,r.Ok->(gL wt l r).Ok
 | [],_,r,hr=>by rw[gL]; exact hr
 | c::l,h,r,hr=>by
  rw[gL]
  split
  ·exact hr
  ·exact oT (fun x hx=>h x (by simp[hx])) _ (h c (by simp) r hr)
theorem Hd {f:R->R} (hf:∀ r:R,r.Ok->(f r).Ok) {wo:Nat}:∀ (n:Nat) (i:Int) (r:R),0<=i->i+n<=4294967296->r.Ok->(gK f wo n i r).Ok
 | 0,i,r,_,_,hr=>by rw[gK]; exact hr
 | n+1,i,r,h0,h1,hr=>by
  rw[gK]
  split
  ·exact hr
  ·exact Hd hf n (i+1) _ (by omega) (by omega) (hf _ (hr.set wo ⟨h0,by omega⟩))
theorem R.Ok.dp {r:R} (h:r.Ok) (h0:¬ r.fuel<=0):r.dp.Ok:=⟨h.len,h.ws,by have:=h.fuel; simp only[R.dp]; omega,h.sum⟩
theorem Rr {ws:List Int} (h:∀ v∈ws,0<=v/\v<=4294967295) (n:Nat):0<=(ws[n]?).getD 0/\(ws[n]?).getD 0<=4294967295:=by
 cases hv:ws[n]? with
 | none=>simp
 | some v=>exact h v (List.mem_of_getElem? hv)
theorem Rs {wt:Int} (ca:0<=wt/\wt<=7):∀ c:C,c.Wf->gM c=true->∀ r:R,r.Ok->(mO wt c r).Ok:=C.lZ fun c ih hw hs r hr=>by
 obtain⟨hk,hn,hl,hta,htb,hsl⟩:=(Au c).1 hs
 obtain⟨ha,hb,z6⟩:=(C.Av c).1 hw
 have N:=Hc hn
 have lJ:∀ x∈c.l,∀ r:R,r.Ok->(mO wt x r).Ok:=fun x hx=>ih x hx (rF z6 x hx) (uX hsl x hx)
 rw[Ax]
 split
 ·exact hr.err 70
 rename_i hf
 have kM:=hr.dp hf
 split
 ·refine kM.add ?_
  have:=Int.mul_nonneg N.eY.1 ca.1
  have:=N.eX.1
  omega
 split
 ·exact oT lJ _ kM
 split
 ·unfold CO
  have nth:∀ n (r:R),r.Ok->(lq wt c.l n r).Ok:=fun n r hr=>by
   cases hx:c.l[n]? with
   | some x=>rw[uY wt r hx]; exact lJ x (List.mem_of_getElem? hx) r hr
   | none =>
    have key:∀ (l:List C) (n:Nat),l[n]?=none->lq wt l n r=r:=fun l=>by
     induction l with
     | nil=>intro n _; rw[lq]
     | cons c l ih=>intro n h; cases n with
      | zero=>simp at h
      | succ n=>rw[lq]; exact ih n (by simpa using h)
    rw[key _ _ hx]; exact hr
  split
  ·exact kM.cb _
  split
  ·exact nth 0 _ (kM.cb _)
  ·exact nth 1 _ (kM.cb _)
 split
 ·unfold oS
  split
  ·exact kM.cb _
  ·have b1:=kM.val ha
   have b2:=(kM.cb c.a).val hb
   exact (Hd (fun r hr=>oT lJ r hr) _ _ _ b1.1 (by omega) ((kM.cb c.a).cb c.b)).set _ (Rr ((kM.cb c.a).cb c.b).ws _)
 split
 ·unfold y7
  split
  ·exact kM.ck 2
  split
  ·exact kM
  split
  ·exact oT lJ _ kM
  ·exact (oT lJ _ kM).ck _
 split
 ·unfold pt
  split
  ·exact kM.cb _
  split
  ·exact (kM.cb _).cb _
  ·have:=Ha (b:=(r.dp.cb c.a).val c.b) (kM.val ha).2
   exact ((kM.cb _).cb _).add (by omega)
 ·exact kM
theorem Ns {c0:C} {wt:Int} (ca:0<=wt/\wt<=7):∀ c:C,c.Wf->gM c=true->∀ r:R,r.Ok->qm 43 [.ptr 2 0,bx c] c0 wt r (.tup []) (mO wt c r):=C.lZ fun c ih hw hs r hr=>by
 obtain⟨hk,hn,hl,hta,htb,hsl⟩:=(Au c).1 hs
 obtain⟨ha,hb,z6⟩:=(C.Av c).1 hw
 have N:=Hc hn
 have lJ:∀ x∈c.l,∀ r:R,r.Ok->qm 43 [.ptr 2 0,bx x] c0 wt r (.tup []) (mO wt x r)/\(mO wt x r).Ok:=fun x hx r hr=>⟨ih x hx (rF z6 x hx) (uX hsl x hx) r hr,Rs ca x (rF z6 x hx) (uX hsl x hx) r hr⟩
 have cA:At c0 wt c:=fun r hr=>⟨by rw[dF]; exact Np c.l lJ r hr,oT (fun x hx r hr=>(lJ x hx r hr).2) r hr⟩
 rw[Ax]
 refine Spec.rf (Spec.enter ao P43 100 Tryz.func43 rfl (by kernel_rfl) ?_)
 refine⟨fun h0=>?_,fun h0=>?_⟩
 ·rw[if_pos h0]
  (refine fy (by repeat' first|exact trivial|exact rfl|exact Iff.rfl|refine And.intro ?_ ?_) ?_; repeat' first|exact trivial|exact rfl|exact Iff.rfl|exact Or.inl rfl|refine And.intro ?_ ?_)
 rw[if_neg h0]
 have hfu:=hr.fuel
 have kM:=hr.dp h0
 refine li ?_
 refine⟨fun h1=>?_,fun h1=>And.intro (fun h2=>?_) (fun h2=>And.intro (fun h3=>?_) (fun h3=>And.intro (fun h4=>?_) (fun h4=>And.intro (fun h5=>?_) (fun h5=>And.intro (fun h6=>?_) (fun h6=>?_)))))⟩
 ·rw[if_pos h1]
  have hm:=Int.mul_le_mul N.eY.2 ca.2 ca.1 (by omega)
  have sq:=Int.mul_nonneg N.eY.1 ca.1
  have c1:=N.eX
  have m1:=N.eY
  refine .inl ⟨cL (by omega),.inl ⟨cL (by omega),.inl ⟨cL (by omega),.inl ⟨cL (by omega),.inl ⟨cL (by omega),?_⟩⟩⟩⟩⟩
  refine⟨[],nofun,(CJ kM (c.eX+c.eY*wt) (by omega)).go (by repeat' first|exact trivial|exact rfl|exact Iff.rfl|exact Or.inl rfl|refine And.intro ?_ ?_) rfl rfl ?_⟩
  (refine fy (by repeat' first|exact trivial|exact rfl|exact Iff.rfl|refine And.intro ?_ ?_) ?_; repeat' first|exact trivial|exact rfl|exact Iff.rfl|exact Or.inl rfl|refine And.intro ?_ ?_)
 ·rw[if_neg h1,if_pos h2]
  refine⟨[],nofun,(cA _ kM).1.go (by repeat' first|exact trivial|exact rfl|exact Iff.rfl|exact Or.inl rfl|refine And.intro ?_ ?_) rfl rfl ?_⟩
  (refine fy (by repeat' first|exact trivial|exact rfl|exact Iff.rfl|refine And.intro ?_ ?_) ?_; repeat' first|exact trivial|exact rfl|exact Iff.rfl|exact Or.inl rfl|refine And.intro ?_ ?_)
 ·rw[if_neg h1,if_neg h2,if_pos h3]
  have hlen:c.l.length=2:=by
   have h7:=hl
   rw[h3] at h7
   have e1:qo 3=2:=by decide
   have e2:wv 3=2:=by decide
   omega
  unfold CO
  refine⟨[],nofun,(lY kM c.a ha).go (by repeat' first|exact trivial|exact rfl|exact Iff.rfl|exact Or.inl rfl|refine And.intro ?_ ?_) rfl rfl ?_⟩
  refine⟨[],nofun,fh.go (by repeat' first|exact trivial|exact rfl|exact Iff.rfl|exact Or.inl rfl|refine And.intro ?_ ?_) rfl rfl ?_⟩
  refine⟨fun hf=>?_,fun hf=>?_⟩
  ·rw[if_pos hf]
   (refine fy (by repeat' first|exact trivial|exact rfl|exact Iff.rfl|refine And.intro ?_ ?_) ?_; repeat' first|exact trivial|exact rfl|exact Iff.rfl|exact Or.inl rfl|refine And.intro ?_ ?_)
  rw[if_neg hf]
  refine⟨fun hv=>?_,fun hv=>?_⟩
  ·rw[if_pos hv]
   refine⟨C,c.l,bx,dF c,by decide,show (0:Int) < (c.l.length:Int) by omega,fun x hx=>?_⟩
   have dE:c.l[0]?=some x:=hx
   rw[uY wt _ dE]
   refine⟨[],nofun,(lJ x (List.mem_of_getElem? dE) _ (kM.cb _)).1.go (by repeat' first|exact trivial|exact rfl|exact Iff.rfl|exact Or.inl rfl|refine And.intro ?_ ?_) rfl rfl ?_⟩
   (refine fy (by repeat' first|exact trivial|exact rfl|exact Iff.rfl|refine And.intro ?_ ?_) ?_; repeat' first|exact trivial|exact rfl|exact Iff.rfl|exact Or.inl rfl|refine And.intro ?_ ?_)
  ·rw[if_neg hv]
   refine⟨C,c.l,bx,dF c,by decide,show (1:Int) < (c.l.length:Int) by omega,fun x hx=>?_⟩
   have dE:c.l[1]?=some x:=hx
   rw[uY wt _ dE]
   refine⟨[],nofun,(lJ x (List.mem_of_getElem? dE) _ (kM.cb _)).1.go (by repeat' first|exact trivial|exact rfl|exact Iff.rfl|exact Or.inl rfl|refine And.intro ?_ ?_) rfl rfl ?_⟩
   (refine fy (by repeat' first|exact trivial|exact rfl|exact Iff.rfl|refine And.intro ?_ ?_) ?_; repeat' first|exact trivial|exact rfl|exact Iff.rfl|exact Or.inl rfl|refine And.intro ?_ ?_)
 ·rw[if_neg h1,if_neg h2,if_neg h3,if_pos h4]
  refine⟨[],nofun,(CM c ha hb (N.word h4) cA kM).go (by repeat' first|exact trivial|exact rfl|exact Iff.rfl|exact Or.inl rfl|refine And.intro ?_ ?_) rfl rfl ?_⟩
  (refine fy (by repeat' first|exact trivial|exact rfl|exact Iff.rfl|refine And.intro ?_ ?_) ?_; repeat' first|exact trivial|exact rfl|exact Iff.rfl|exact Or.inl rfl|refine And.intro ?_ ?_)
 ·rw[if_neg h1,if_neg h2,if_neg h3,if_neg h4,if_pos h5]
  refine⟨[],nofun,(Jr c ha N.size cA kM).go (by repeat' first|exact trivial|exact rfl|exact Iff.rfl|exact Or.inl rfl|refine And.intro ?_ ?_) rfl rfl ?_⟩
  (refine fy (by repeat' first|exact trivial|exact rfl|exact Iff.rfl|refine And.intro ?_ ?_) ?_; repeat' first|exact trivial|exact rfl|exact Iff.rfl|exact Or.inl rfl|refine And.intro ?_ ?_)
 ·rw[if_neg h1,if_neg h2,if_neg h3,if_neg h4,if_neg h5,if_pos h6]
  refine⟨[],nofun,(CL kM c ha hb).go (by repeat' first|exact trivial|exact rfl|exact Iff.rfl|exact Or.inl rfl|refine And.intro ?_ ?_) rfl rfl ?_⟩
  (refine fy (by repeat' first|exact trivial|exact rfl|exact Iff.rfl|refine And.intro ?_ ?_) ?_; repeat' first|exact trivial|exact rfl|exact Iff.rfl|exact Or.inl rfl|refine And.intro ?_ ?_)
 ·exact absurd hk (by omega)
def rG (ws:List Int):List Int:=ws.take 254++List.replicate (254 - ws.length) 0
def r0 (ws:List Int) (fuel:Int):R:=⟨rG ws,fuel,0,0,0⟩
theorem Td {ws:List Int} {fuel:Int} (hw:∀ v∈ws,0<=v/\v<=4294967295) (hf:-9223372036854775808<=fuel/\fuel<=9223372036854775807):(r0 ws fuel).Ok:=by
 refine⟨?_,fun v hv=>?_,hf,by simp[r0]⟩
 ·simp only[r0,rG,List.length_append,List.length_take,List.length_replicate]; omega
 ·simp only[r0,rG,List.mem_append] at hv
  rcases hv with hv|hv
  ·exact hw v (List.mem_of_mem_take hv)
  ·rw[(List.mem_replicate.1 hv).2]; omega
theorem Nt (ws:List Int):(bh ws).take (List.replicate 254 (PV.int .u32 0)).length++(List.replicate 254 (PV.int .u32 0)).drop (bh ws).length=bh (rG ws):=by
 unfold bh rG
 rw[List.length_replicate,List.length_map,List.drop_replicate,List.map_append,List.map_take,List.map_replicate]
def EvR (q:R):Int × Int × Int:=if q.e=0 then (q.sum,q.ck,0) else (0,0,q.e)
def evC (c:C) (ws:List Int) (wait fuel:Int):Int × Int × Int:=if wait < 0\/7 < wait then (0,0,11) else EvR (mO wait c (r0 ws fuel))
def triP (x:Int × Int × Int):PV:=.tup [.int .u64 x.1,.int .i64 x.2.1,.int .i64 x.2.2]
theorem Fc (c:C) (hw:c.Wf) (hs:gM c=true) (ws:List Int) (hws:∀ v∈ws,0<=v/\v<=4294967295) (wait fuel:Int) (hf:-9223372036854775808<=fuel/\fuel<=9223372036854775807):aj gT 19 [bx c,.sl 1 (bh ws),.int .i64 wait,.int .i64 fuel] (triP (evC c ws wait fuel)):=by
 refine Spec.enter ao P19 100 Tryz.func19 rfl (by kernel_rfl) ?_
 unfold evC
 refine⟨fun h1=>?_,fun h1=>And.intro (fun h2=>?_) (fun h2=>?_)⟩
 ·rw[if_pos (.inl h1)]
  exact rA
 ·rw[if_pos (.inr h2)]
  exact rA
 rw[if_neg (by omega)]
 refine LO ao ?_
 refine LQ ao ?_
 refine⟨show 254≠0 by decide,?_⟩
 have hr:=Td hws hf
 refine⟨[],nofun,(Ns (c0:=c) (wt:=wait) (by omega) c hw hs (r0 ws fuel) hr).use (by repeat' first|exact trivial|exact rfl|exact Iff.rfl|exact Or.inl rfl|refine And.intro ?_ ?_) rfl rfl ?_⟩
 refine And.intro (by repeat' first|exact trivial|exact rfl|exact Iff.rfl|exact Or.inl rfl|refine And.intro ?_ ?_) (And.intro (Nt ws) (And.intro (by repeat' first|exact trivial|exact rfl|exact Iff.rfl|exact Or.inl rfl|refine And.intro ?_ ?_) ?_))
 generalize mO wait c (r0 ws fuel)=q
 unfold EvR
 refine⟨fun h=>?_,fun h=>?_⟩
 ·rw[if_neg h]
  exact rA
 ·rw[if_pos (Classical.not_not.1 h)]
  exact rA
def cM:T:=.leaf 0 0
def ak (cy mi:Int):C:=.mk 1 cy mi 0 0 cM cM []
theorem bQ (cy mi:Int):aj gT 14 [.int .i64 cy,.int .i64 mi] (bx (ak cy mi)):=by
 refine Spec.enter ao P14 100 Tryz.func14 rfl (by kernel_rfl) ?_
 exact rA
def R.er (r:R):R:={ r with fuel:=0,e:=0 }
mutual
def eR (wt:Int):C->R->R
 | .mk k cy mi wo si a b l,r =>
  if k=1 then r.add (cy+mi*wt)
  else if k=2 then bE wt l r
  else if k=3 then
   if (r.cb a).fin then r.cb a else if r.val a≠0 then rH wt l 0 (r.cb a) else rH wt l 1 (r.cb a)
  else if k=4 then
   if (r.cb a).fin then r.cb a else
    let r2:=(r.cb a).cb b
    let r3:=gK (fun r=>bE wt l r) wo.toNat (((r.cb a).val b) - r.val a).toNat (r.val a) r2
    { r3 with ws:=r3.ws.set wo.toNat ((r2.ws[wo.toNat]?).getD 0) }
  else if k=5 then
   if 0 < si/\¬ (a.bo r.ws).isSome=true then { r with ck:=2 }
   else if (0 < si/\r.val a < si)\/(si=0/\(a.bo r.ws).isSome=true/\r.val a≠0) then r
   else
    let r2:=bE wt l r
    if r2.fin then r2 else { r2 with ck:=if 0 < si then 1 else 2 }
  else if k=6 then
   if (r.cb a).fin then r.cb a else
    let r2:=(r.cb a).cb b
    if r2.fin then r2 else r2.add (pr (r.val a) ((r.cb a).val b) - 2)
  else r
def bE (wt:Int):List C->R->R
 | [],r=>r
 | c::l,r=>if r.fin then r else bE wt l (eR wt c r)
def rH (wt:Int):List C->Nat->R->R
 | [],_,r=>r
 | c::_,0,r=>eR wt c r
 | _::l,n+1,r=>rH wt l n r
end
def y8 (wt:Int) (c:C) (r:R):R:=if (r.cb c.a).fin then r.cb c.a else if r.val c.a≠0 then rH wt c.l 0 (r.cb c.a) else rH wt c.l 1 (r.cb c.a)
def oU (wt:Int) (c:C) (r:R):R :=
 if (r.cb c.a).fin then r.cb c.a else (gK (fun r=>bE wt c.l r) c.word.toNat (((r.cb c.a).val c.b) - r.val c.a).toNat (r.val c.a) ((r.cb c.a).cb c.b)).put c.word.toNat ((((r.cb c.a).cb c.b).ws[c.word.toNat]?).getD 0)
def rI (wt:Int) (c:C) (r:R):R :=
 if 0 < c.size/\¬ (c.a.bo r.ws).isSome=true then { r with ck:=2 }
 else if (0 < c.size/\r.val c.a < c.size)\/(c.size=0/\(c.a.bo r.ws).isSome=true/\r.val c.a≠0) then r
 else if (bE wt c.l r).fin then bE wt c.l r else { bE wt c.l r with ck:=if 0 < c.size then 1 else 2 }
theorem jd (wt:Int) (c:C) (r:R):eR wt c r=if c.kind=1 then r.add (c.eX+c.eY*wt) else if c.kind=2 then bE wt c.l r else if c.kind=3 then y8 wt c r
  else if c.kind=4 then oU wt c r else if c.kind=5 then rI wt c r else if c.kind=6 then pt c r else r:=by cases c; rfl
def CP (f g:R->R):Prop:=∀ r:R,(f r).e=0->r.e=0/\(f r).er=g r.er
theorem iP {r:R} (h:r.e=0):r.er.fin=r.fin:=by simp[R.fin,R.er,h]
theorem CQ {wt:Int}:∀ {l:List C},(∀ c∈l,CP (mO wt c) (eR wt c))->CP (gL wt l) (bE wt l)
 | [],_,r,h=>by rw[gL] at h; rw[gL,bE]; exact⟨h,rfl⟩
 | c::l,hl,r,h=>by
  rw[gL] at h ⊢
  rw[bE]
  by_cases hf:r.fin=true
  ·rw[if_pos hf] at h ⊢
   rw[iP h,if_pos hf]
   exact⟨h,rfl⟩
  ·rw[if_neg hf] at h ⊢
   obtain⟨h1,h2⟩:=CQ (fun x hx=>hl x (by simp[hx])) _ h
   obtain⟨h3,h4⟩:=hl c (by simp) r h1
   rw[iP h3,if_neg hf,h2,h4]
   exact⟨h3,rfl⟩
theorem CR {wt:Int}:∀ {l:List C},(∀ c∈l,CP (mO wt c) (eR wt c))->∀ n,CP (lq wt l n) (rH wt l n)
 | [],_,n,r,h=>by rw[lq] at h; rw[lq,rH]; exact⟨h,rfl⟩
 | c::l,hl,0,r,h=>by rw[lq] at h; rw[lq,rH]; exact hl c (by simp) r h
 | c::l,hl,n+1,r,h=>by rw[lq] at h; rw[lq,rH]; exact CR (fun x hx=>hl x (by simp[hx])) n r h
theorem CS {f g:R->R} (hf:CP f g) (wo:Nat):∀ (n:Nat) (i:Int),CP (gK f wo n i) (gK g wo n i)
 | 0,i,r,h=>by rw[gK] at h; rw[gK,gK]; exact⟨h,rfl⟩
 | n+1,i,r,h=>by
  rw[gK] at h
  rw[gK,gK]
  by_cases hn:r.fin=true
  ·rw[if_pos hn] at h ⊢
   rw[iP h,if_pos hn]
   exact⟨h,rfl⟩
  ·rw[if_neg hn] at h ⊢
   obtain⟨h1,h2⟩:=CS hf wo n (i+1) _ h
   obtain⟨h3,h4⟩:=hf _ h1
   have Kn:r.e=0:=h3
   rw[iP Kn,if_neg hn,h2,h4]
   exact⟨Kn,rfl⟩
theorem Nu {wt:Int}:∀ c:C,CP (mO wt c) (eR wt c):=C.lZ fun c ih r h=>by
 have hA:=CQ (wt:=wt) (l:=c.l) ih
 rw[Ax] at h ⊢
 rw[jd]
 by_cases h0:r.fuel<=0
 ·rw[if_pos h0] at h
  exact absurd (show (70:Int)=0 from h) (by decide)
 rw[if_neg h0] at h ⊢
 have key:∀ {f g:R->R},CP f g->(f r.dp).e=0->r.e=0/\(f r.dp).er=g r.er:=fun hfg hh=>hfg r.dp hh
 have evl0:∀ (q:R) (t:T),(q.cb t).e=q.e:=fun _ _=>rfl
 by_cases k1:c.kind=1
 ·rw[if_pos k1] at h ⊢; rw[if_pos k1]
  exact key (f:=fun r=>r.add (c.eX+c.eY*wt)) (g:=fun r=>r.add (c.eX+c.eY*wt)) (fun q hq=>⟨hq,rfl⟩) h
 rw[if_neg k1] at h ⊢; rw[if_neg k1]
 by_cases k2:c.kind=2
 ·rw[if_pos k2] at h ⊢; rw[if_pos k2]; exact key hA h
 rw[if_neg k2] at h ⊢; rw[if_neg k2]
 by_cases k3:c.kind=3
 ·rw[if_pos k3] at h ⊢; rw[if_pos k3]
  refine key (f:=CO wt c) (g:=y8 wt c) (fun q hq=>?_) h
  unfold CO at hq ⊢
  unfold y8
  by_cases hf:(q.cb c.a).fin=true
  ·rw[if_pos hf] at hq ⊢
   have xy:q.e=0:=hq
   have e1:(q.er.cb c.a).fin=true:=(iP (r:=q.cb c.a) hq).trans hf
   rw[if_pos e1]
   exact⟨xy,rfl⟩
  ·rw[if_neg hf] at hq ⊢
   have nn:∀ n,(lq wt c.l n (q.cb c.a)).e=0->q.e=0/\(lq wt c.l n (q.cb c.a)).er=rH wt c.l n (q.er.cb c.a):=fun n hn=>CR ih n _ hn
   have e2:q.er.val c.a=q.val c.a:=rfl
   by_cases hv:q.val c.a≠0
   ·rw[if_pos hv] at hq ⊢
    obtain⟨h1,h2⟩:=nn 0 hq
    have e1:¬ (q.er.cb c.a).fin=true:=fun e=>hf ((iP (r:=q.cb c.a) h1).symm.trans e)
    rw[if_neg e1,e2,if_pos hv]
    exact⟨h1,h2⟩
   ·rw[if_neg hv] at hq ⊢
    obtain⟨h1,h2⟩:=nn 1 hq
    have e1:¬ (q.er.cb c.a).fin=true:=fun e=>hf ((iP (r:=q.cb c.a) h1).symm.trans e)
    rw[if_neg e1,e2,if_neg hv]
    exact⟨h1,h2⟩
 rw[if_neg k3] at h ⊢; rw[if_neg k3]
 by_cases k4:c.kind=4
 ·rw[if_pos k4] at h ⊢; rw[if_pos k4]
  refine key (f:=oS wt c) (g:=oU wt c) (fun q hq=>?_) h
  unfold oS at hq ⊢
  unfold oU
  by_cases hf:(q.cb c.a).fin=true
  ·rw[if_pos hf] at hq ⊢
   have e1:(q.er.cb c.a).fin=true:=(iP (r:=q.cb c.a) hq).trans hf
   rw[if_pos e1]
   exact⟨hq,rfl⟩
  ·rw[if_neg hf] at hq ⊢
   obtain⟨h1,h2⟩:=CS hA c.word.toNat (((q.cb c.a).val c.b) - q.val c.a).toNat (q.val c.a) ((q.cb c.a).cb c.b) hq
   have eU:q.e=0:=h1
   have e1:¬ (q.er.cb c.a).fin=true:=fun e=>hf ((iP (r:=q.cb c.a) eU).symm.trans e)
   rw[if_neg e1]
   exact⟨eU,congrArg (fun z:R=>z.put c.word.toNat ((((q.cb c.a).cb c.b).ws[c.word.toNat]?).getD 0)) h2⟩
 rw[if_neg k4] at h ⊢; rw[if_neg k4]
 by_cases k5:c.kind=5
 ·rw[if_pos k5] at h ⊢; rw[if_pos k5]
  refine key (f:=y7 wt c) (g:=rI wt c) (fun q hq=>?_) h
  unfold y7 at hq ⊢
  unfold rI
  by_cases x1:0 < c.size/\¬ (c.a.bo q.ws).isSome=true
  ·rw[if_pos x1] at hq ⊢
   rw[if_pos (show 0 < c.size/\¬ (c.a.bo q.er.ws).isSome=true from x1)]
   exact⟨hq,rfl⟩
  rw[if_neg x1] at hq ⊢
  rw[if_neg (show ¬ (0 < c.size/\¬ (c.a.bo q.er.ws).isSome=true) from x1)]
  by_cases x2:(0 < c.size/\q.val c.a < c.size)\/(c.size=0/\(c.a.bo q.ws).isSome=true/\q.val c.a≠0)
  ·rw[if_pos x2] at hq ⊢
   rw[if_pos (show (0 < c.size/\q.er.val c.a < c.size)\/(c.size=0/\(c.a.bo q.er.ws).isSome=true/\q.er.val c.a≠0) from x2)]
   exact⟨hq,rfl⟩
  rw[if_neg x2] at hq ⊢
  rw[if_neg (show ¬ ((0 < c.size/\q.er.val c.a < c.size)\/(c.size=0/\(c.a.bo q.er.ws).isSome=true/\q.er.val c.a≠0)) from x2)]
  by_cases x3:(gL wt c.l q).fin=true
  ·rw[if_pos x3] at hq ⊢
   obtain⟨h1,h2⟩:=hA q hq
   rw[← h2,iP hq,if_pos x3]
   exact⟨h1,rfl⟩
  ·rw[if_neg x3] at hq ⊢
   have xy:(gL wt c.l q).e=0:=hq
   obtain⟨h1,h2⟩:=hA q xy
   rw[← h2,iP xy,if_neg x3]
   exact⟨h1,rfl⟩
 rw[if_neg k5] at h ⊢; rw[if_neg k5]
 by_cases k6:c.kind=6
 ·rw[if_pos k6] at h ⊢; rw[if_pos k6]
  refine key (f:=pt c) (g:=pt c) (fun q hq=>?_) h
  have hq0:q.e=0:=by
   unfold pt at hq
   by_cases y1:(q.cb c.a).fin=true
   ·rw[if_pos y1] at hq; exact hq
   rw[if_neg y1] at hq
   by_cases y2:((q.cb c.a).cb c.b).fin=true
   ·rw[if_pos y2] at hq; exact hq
   rw[if_neg y2] at hq; exact hq
  refine⟨hq0,?_⟩
  unfold pt
  have e1:(q.er.cb c.a).fin=(q.cb c.a).fin:=iP (r:=q.cb c.a) hq0
  have e2:((q.er.cb c.a).cb c.b).fin=((q.cb c.a).cb c.b).fin:=iP (r:=(q.cb c.a).cb c.b) hq0
  rw[e1,e2]
  split
  ·rfl
  ·split<;>rfl
 rw[if_neg k6] at h ⊢; rw[if_neg k6]
 exact⟨h,rfl⟩
theorem fm {wt:Int} {l:List C} {r:R} (h:r.fin=true):bE wt l r=r:=by
 cases l with
 | nil=>rw[bE]
 | cons c l=>rw[bE,if_pos h]
theorem fJ (wt:Int):∀ (l m:List C) (r:R),bE wt (l++m) r=bE wt m (bE wt l r)
 | [],m,r=>by rw[bE,List.nil_append]
 | c::l,m,r=>by
  rw[List.cons_append,bE,bE]
  by_cases h:r.fin=true
  ·rw[if_pos h,if_pos h,fm h]
  ·rw[if_neg h,if_neg h,fJ wt l m]
mutual
def oV:C->List C
 | .mk k cy mi wo si a b l=>if k=2 then dI l else [.mk k cy mi wo si a b l]
def dI:List C->List C
 | []=>[]
 | c::l=>oV c++dI l
end
theorem ik (c:C):oV c=if c.kind=2 then dI c.l else [c]:=by cases c; rfl
theorem wy {wt:Int}:∀ {l:List C},(∀ c∈l,∀ r,bE wt (oV c) r=bE wt [c] r)->∀ r,bE wt (dI l) r=bE wt l r
 | [],_,r=>rfl
 | c::l,h,r=>by
  rw[dI,fJ,h c (by simp),wy fun x hx=>h x (by simp[hx]),← fJ]
  rfl
theorem Nv {wt:Int}:∀ (c:C) (r:R),bE wt (oV c) r=bE wt [c] r:=C.lZ fun c ih r=>by
 rw[ik]
 by_cases h:c.kind=2
 ·rw[if_pos h,wy ih,bE,bE]
  by_cases hf:r.fin=true
  ·rw[if_pos hf,fm hf]
  ·rw[if_neg hf,jd,if_neg (show ¬ c.kind=1 by omega),if_pos h]
 ·rw[if_neg h]
theorem wz:∀ {l:List C},(∀ c∈l,∀ x∈oV c,x.kind≠2)->∀ x∈dI l,x.kind≠2
 | [],_,x,hx=>by simp[dI] at hx
 | c::l,h,x,hx=>by
  rw[dI] at hx
  rcases List.mem_append.1 hx with hx|hx
  ·exact h c (by simp) x hx
  ·exact wz (fun y hy=>h y (by simp[hy])) x hx
theorem Nw:∀ c:C,∀ x∈oV c,x.kind≠2:=C.lZ fun c ih x hx=>by
 rw[ik] at hx
 split at hx
 ·exact wz ih x hx
 ·rename_i h
  rw[List.mem_singleton] at hx
  rw[hx]; exact h
theorem Ay {p:C->Prop} (hp:∀ c,p c->∀ x∈c.l,p x):∀ {l:List C},(∀ c∈l,p c->∀ x∈oV c,p x)->(∀ c∈l,p c)->∀ x∈dI l,p x
 | [],_,_,x,hx=>by simp[dI] at hx
 | c::l,h,hl,x,hx=>by
  rw[dI] at hx
  rcases List.mem_append.1 hx with hx|hx
  ·exact h c (by simp) (hl c (by simp)) x hx
  ·exact Ay hp (fun y hy=>h y (by simp[hy])) (fun y hy=>hl y (by simp[hy])) x hx
theorem Rt {p:C->Prop} (hp:∀ c,p c->∀ x∈c.l,p x):∀ c:C,p c->∀ x∈oV c,p x:=C.lZ fun c ih h x hx=>by
 rw[ik] at hx
 split at hx
 ·exact Ay hp ih (hp c h) x hx
 ·rw[List.mem_singleton] at hx
  rw[hx]; exact h
def bW (out:List C) (c:C):List C :=
 match out.getLast? with
 | some d=>if c.kind=1/\d.kind=1 then out.dropLast++[ak (d.eX+c.eX) (d.eY+c.eY)] else out++[c]
 | none=>out++[c]
def bq (c:C):Bool:=!(decide (c.kind=1) && (decide (c.eX=0) && decide (c.eY=0)))
def gd (l:List C):List C:=((dI l).foldl bW []).filter bq
def aq (l:List C):C:=match gd l with
 | [c]=>c
 | o=>.mk 2 0 0 0 0 cM cM o
def fv (c:C):Prop:=c.kind=1->0<=c.eX/\0<=c.eY
theorem iQ {wt:Int} {c:C} (h:c.kind=1) (r:R):eR wt c r=r.add (c.eX+c.eY*wt):=by rw[jd,if_pos h]
theorem Js {wt:Int} (ca:0<=wt) {c d:C} (hc:c.kind=1) (hd:d.kind=1) (h1:fv c) (r:R):bE wt [d,c] r=bE wt [ak (d.eX+c.eX) (d.eY+c.eY)] r:=by
 have hm:=Int.mul_nonneg (h1 hc).2 ca
 have hk:=(h1 hc).1
 by_cases hf:r.fin=true
 ·rw[fm hf,fm hf]
 have Kf:∀ n,¬ (r.add n).fin=true:=fun n=>hf
 rw[bE,if_neg hf,bE,iQ hd,if_neg (Kf _),bE,iQ hc,bE,if_neg hf,bE,iQ (show (ak (d.eX+c.eX) (d.eY+c.eY)).kind=1 from rfl)]
 show ({ r with sum:=min (min (r.sum+(d.eX+d.eY*wt)) 18446744073709551615+(c.eX+c.eY*wt)) 18446744073709551615 }:R) = { r with sum:=min (r.sum+((d.eX+c.eX)+(d.eY+c.eY)*wt)) 18446744073709551615 }
 rw[Int.add_mul]
 congr 1
 omega
theorem Jt {wt:Int} (ca:0<=wt) {out:List C} {c:C} (h1:fv c) (r:R):bE wt (bW out c) r=bE wt (out++[c]) r:=by
 unfold bW
 cases he:out.getLast? with
 | none=>rfl
 | some d =>
  simp only
  by_cases hk:c.kind=1/\d.kind=1
  ·rw[if_pos hk]
   obtain⟨pre,tc⟩:=List.getLast?_eq_some_iff.1 he
   rw[tc,List.dropLast_concat,List.append_assoc,fJ,fJ,List.singleton_append,Js ca hk.1 hk.2 h1]
  ·rw[if_neg hk]
theorem y9 {wt:Int} (ca:0<=wt):∀ (l out:List C),(∀ c∈l,fv c)->∀ r,bE wt (l.foldl bW out) r=bE wt (out++l) r
 | [],out,_,r=>by simp
 | c::l,out,h,r=>by
  rw[List.foldl_cons,y9 ca l _ (fun x hx=>h x (by simp[hx])),fJ,Jt ca (h c (by simp)),← fJ,List.append_assoc]
  rfl
theorem l5 {out:List C} {c:C} {p:C->Prop} (ho:∀ x∈out,p x) (hc:p c) (hf:∀ d∈out,c.kind=1->d.kind=1->p (ak (d.eX+c.eX) (d.eY+c.eY))):∀ x∈bW out c,p x:=by
 have app:∀ x∈out++[c],p x:=fun x hx=>by
  rcases List.mem_append.1 hx with hx|hx
  ·exact ho x hx
  ·rw[List.mem_singleton] at hx; rw[hx]; exact hc
 unfold bW
 cases he:out.getLast? with
 | none=>exact app
 | some d =>
  simp only
  by_cases hk:c.kind=1/\d.kind=1
  ·rw[if_pos hk]
   intro x hx
   rcases List.mem_append.1 hx with hx|hx
   ·exact ho x (List.dropLast_subset _ hx)
   ·rw[List.mem_singleton] at hx; rw[hx]
    exact hf d (List.mem_of_getLast? he) hk.1 hk.2
  ·rw[if_neg hk]; exact app
theorem Ju (out:List C) (c:C):(bW out c).length<=out.length+1:=by
 unfold bW
 split
 ·split
  ·simp only[List.length_append,List.length_dropLast,List.length_cons,List.length_nil]; omega
  ·simp
 ·simp
def Fe:Bool->List C->Prop
 | _,[]=>True
 | p,c::l=>(p=true->c.kind≠1)/\Fe (decide (c.kind=1)) l
theorem Nx {p:Bool}:∀ {l:List C},Fe p l->Fe false l
 | [],_=>trivial
 | c::l,h=>⟨nofun,h.2⟩
theorem wC {c:C}:∀ {p:Bool} {l:List C},Fe p l->(∀ d,l.getLast?=some d->d.kind=1->c.kind≠1)->(l = []->p=true->c.kind≠1)->Fe p (l++[c])
 | p,[],_,_,h=>⟨h rfl,trivial⟩
 | p,d::l,h,hl,_=>⟨h.1,wC h.2 (fun x hx=>hl x (by
   rw[List.getLast?_cons,hx]; rfl)) fun e hd=>by
    subst e
    exact hl d rfl (by simpa using hd)⟩
theorem CT {x d:C} (hk:x.kind=d.kind):∀ {p:Bool} {l:List C},Fe p (l++[d])->Fe p (l++[x])
 | p,[],h=>⟨fun e=>by rw[hk]; exact h.1 e,trivial⟩
 | p,c::l,h=>⟨h.1,CT hk h.2⟩
theorem Jv {out:List C} {c:C} (h:Fe false out):Fe false (bW out c):=by
 unfold bW
 cases he:out.getLast? with
 | none=>exact wC h (fun d hd=>by rw[he] at hd; cases hd) (fun _=>nofun)
 | some d =>
  simp only
  by_cases hk:c.kind=1/\d.kind=1
  ·rw[if_pos hk]
   obtain⟨pre,tc⟩:=List.getLast?_eq_some_iff.1 he
   rw[tc,List.dropLast_concat]
   exact CT (d:=d) (by rw[hk.2]; rfl) (tc ▸ h)
  ·rw[if_neg hk]
   exact wC h (fun x hx LH hc=>by rw[he] at hx; cases hx; exact hk ⟨hc,LH⟩) (fun _=>nofun)
theorem y_:∀ (l out:List C),Fe false out->Fe false (l.foldl bW out)
 | [],out,h=>h
 | c::l,out,h=>y_ l _ (Jv h)
theorem qp:∀ {p:Bool} {l:List C},Fe p l->Fe p (l.filter bq)
 | p,[],_=>trivial
 | p,c::l,h=>by
  by_cases hk:bq c=true
  ·rw[List.filter_cons_of_pos hk]; exact⟨h.1,qp h.2⟩
  ·rw[List.filter_cons_of_neg hk]
   have h1:c.kind=1:=by
    unfold bq at hk
    by_cases e:c.kind=1
    ·exact e
    ·simp[e] at hk
   cases p with
   | true=>exact absurd h1 (h.1 rfl)
   | false=>exact Nx (qp h.2)
def Cap (f:R->R):Prop:=∀ r:R,r.sum<=18446744073709551615->(f r).sum<=18446744073709551615
theorem He (r:R) (n:Int):(r.add n).sum<=18446744073709551615:=by simp only[R.add]; omega
theorem rJ {wt:Int}:∀ {l:List C},(∀ c∈l,Cap (eR wt c))->Cap (bE wt l)
 | [],_,r,h=>by rw[bE]; exact h
 | c::l,hl,r,h=>by
  rw[bE]
  split
  ·exact h
  ·exact rJ (fun x hx=>hl x (by simp[hx])) _ (hl c (by simp) r h)
theorem Az {wt:Int}:∀ {l:List C},(∀ c∈l,Cap (eR wt c))->∀ n,Cap (rH wt l n)
 | [],_,n,r,h=>by rw[rH]; exact h
 | c::l,hl,0,r,h=>by rw[rH]; exact hl c (by simp) r h
 | c::l,hl,n+1,r,h=>by rw[rH]; exact Az (fun x hx=>hl x (by simp[hx])) n r h
theorem Hf {f:R->R} (hf:Cap f) (wo:Nat):∀ (n:Nat) (i:Int),Cap (gK f wo n i)
 | 0,_,r,h=>by rw[gK]; exact h
 | n+1,i,r,h=>by
  rw[gK]
  split
  ·exact h
  ·exact Hf hf wo n (i+1) _ (hf _ h)
theorem Ru {wt:Int}:∀ c:C,Cap (eR wt c):=C.lZ fun c ih r h=>by
 rw[jd]
 split
 ·exact He _ _
 split
 ·exact rJ ih r h
 split
 ·unfold y8
  split
  ·exact h
  ·split
   ·exact Az ih 0 _ h
   ·exact Az ih 1 _ h
 split
 ·unfold oU
  split
  ·exact h
  ·exact Hf (rJ ih) _ _ _ _ h
 split
 ·unfold rI
  split
  ·exact h
  split
  ·exact h
  split
  ·exact rJ ih r h
  ·exact rJ ih r h
 split
 ·unfold pt
  split
  ·exact h
  split
  ·exact h
  ·exact He _ _
 ·exact h
theorem wF {wt:Int}:∀ (l:List C) (r:R),r.sum<=18446744073709551615->bE wt (l.filter bq) r=bE wt l r
 | [],_,_=>rfl
 | c::l,r,h=>by
  by_cases hk:bq c=true
  ·rw[List.filter_cons_of_pos hk,bE,bE]
   split
   ·rfl
   ·exact wF l _ (Ru c r h)
  ·rw[List.filter_cons_of_neg hk,wF l r h]
   have hc:c.kind=1/\c.eX=0/\c.eY=0:=by
    unfold bq at hk
    simpa using hk
   rw[bE]
   by_cases hf:r.fin=true
   ·rw[if_pos hf,fm hf]
   ·rw[if_neg hf,iQ hc.1,hc.2.1,hc.2.2]
    have e:r.add (0+0*wt)=r:=by
     show ({ r with sum:=min (r.sum+(0+0*wt)) 18446744073709551615 }:R)=r
     rw[Int.zero_mul,Int.zero_add,Int.add_zero,Int.min_eq_left h]
    rw[e]
theorem Ny {wt:Int} (ca:0<=wt) {l:List C} (h:∀ c∈dI l,fv c) (r:R) (hr:r.sum<=18446744073709551615):bE wt (gd l) r=bE wt l r:=by
 unfold gd
 rw[wF _ _ hr,y9 ca _ _ h,List.nil_append,wy fun c _=>Nv c]
theorem Jw {wt:Int} (ca:0<=wt) {l:List C} (h:∀ c∈dI l,fv c) (r:R) (hr:r.sum<=18446744073709551615) (hf:¬ r.fin=true):eR wt (aq l) r=eR wt (.mk 2 0 0 0 0 cM cM l) r:=by
 have e2:∀ m:List C,eR wt (.mk 2 0 0 0 0 cM cM m) r=bE wt m r:=fun m=>by
  rw[jd]; rfl
 rw[e2,← Ny ca h r hr]
 unfold aq
 split
 ·rename_i c he
  rw[he,bE,if_neg hf,bE]
 ·exact e2 _
theorem Zl {q:R} (h:(EvR q).2.2=0):q.e=0/\EvR q=(q.sum,q.ck,0):=by
 unfold EvR at h ⊢
 by_cases e:q.e=0
 ·rw[if_pos e]; exact⟨e,rfl⟩
 ·rw[if_neg e] at h; exact absurd h e
theorem Zm {c:C} {ws:List Int} {wait fuel:Int} (h:(evC c ws wait fuel).2.2=0):0<=wait/\evC c ws wait fuel=((eR wait c (r0 ws fuel).er).sum,(eR wait c (r0 ws fuel).er).ck,0):=by
 unfold evC at h ⊢
 by_cases hw:wait < 0\/7 < wait
 ·rw[if_pos hw] at h; exact absurd (show (11:Int)=0 from h) (by decide)
 ·rw[if_neg hw] at h ⊢
  obtain⟨h1,h2⟩:=Zl h
  obtain⟨_,h3⟩:=Nu c _ h1
  rw[h2,← h3]
  exact⟨by omega,rfl⟩
theorem Jx {l:List C}:∀ c∈gd l,c.kind≠2:=by
 have hm:∀ (m out:List C),(∀ c∈m,c.kind≠2)->(∀ c∈out,c.kind≠2)->∀ c∈m.foldl bW out,c.kind≠2:=by
  intro m
  induction m with
  | nil=>intro out _ h; exact h
  | cons x m ih=>intro out h1 h2; exact ih _ (fun c hc=>h1 c (by simp[hc])) (l5 h2 (h1 x (by simp)) fun d _ _ _=>by show (1:Int)≠2; decide)
 intro c hc
 exact hm _ [] (wz fun c _=>Nw c) (by simp) c (List.mem_filter.1 hc).1
open Classical in
noncomputable def ez {α:Type} (p:α->Prop):List α->Nat->Int
 | [],_=>-1
 | x::l,i=>if p x then (i:Int) else ez p l (i+1)
theorem ky {α:Type} {p:α->Prop}:∀ {l:List α} {i:Nat},0<=ez p l i↔∃ x∈l,p x
 | [],i=>by simp[ez]
 | x::l,i=>by
  rw[ez]
  by_cases h:p x
  ·rw[if_pos h]
   exact⟨fun _=>⟨x,by simp,h⟩,fun _=>by omega⟩
  ·rw[if_neg h,ky (l:=l)]
   refine⟨fun ⟨y,hy,hp⟩=>⟨y,by simp[hy],hp⟩,fun ⟨y,hy,hp⟩=>?_⟩
   rcases List.mem_cons.1 hy with rfl|hy
   ·exact absurd hp h
   ·exact⟨y,hy,hp⟩
theorem iR {α:Type} {p:α->Prop} {l:List α} {i:Nat} {x:α} (h:l[i]?=some x):(p x->ez p (l.drop i) i=i)/\(¬ p x->ez p (l.drop i) i=ez p (l.drop (i+1)) (i+1)):=by
 obtain⟨ch,hx⟩:=List.getElem?_eq_some_iff.1 h
 rw[List.drop_eq_getElem_cons ch,hx,ez]
 exact⟨fun h=>if_pos h,fun h=>if_neg h⟩
theorem Rv (L:List T) (p:T->Prop) (hp:∀ x∈L,aj gT 145 [jc x] (.bool (p x))):aj gT 153 [.sl 3 (L.map jc),.clo 145 []] (.int .i64 (ez p L 0)):=by
 refine Spec.enter ao uu 100 Tryz.func153 rfl (by kernel_rfl) ?_
 intro hm
 rw[List.length_map] at hm
 obtain⟨z,hz⟩:∃ z,z=ez p L 0:=⟨_,rfl⟩
 rw[← hz]
 refine SW.ko ao uu (by kernel_rfl) (α:={i:Nat // z=ez p (L.drop i) i}) (fun i=>[(8,.int .i64 i.1)]) (fun i=>L.length - i.1) ⟨0,hz⟩ 60 ?_ ?_
 ·repeat' first|exact trivial|exact rfl|refine And.intro ?_ ?_
 rintro⟨i,hi⟩
 refine⟨fun h=>?_,fun h=>?_⟩
 ·have h':(i:Int) < ((L.map jc).length:Nat):=h
  rw[List.length_map] at h'
  refine⟨T,L,jc,rfl,show (0:Int)<=(i:Int) by omega,show (i:Int) < (L.length:Int) by omega,fun x hx=>?_⟩
  have dE:L[i]?=some x:=hx
  obtain⟨s1,s2⟩:=iR (p:=p) dE
  refine (hp x (List.mem_of_getElem? dE)).u ?_
  refine⟨fun te=>?_,fun te=>?_⟩
  ·refine al ?_
   exact (show (i:Int)=z by rw[hi,s1 te])
  ·unfold maxLen at hm
   refine .inl ⟨aG (show _<=(i:Int)+1/\(i:Int)+1<=_ by omega),⟨⟨i+1,by rw[hi,s2 te]⟩,show L.length - (i+1) < L.length - i by omega,?_⟩⟩
   repeat' first|exact trivial|exact rfl|refine And.intro ?_ ?_
 ·have h':¬ (i:Int) < ((L.map jc).length:Nat):=h
  rw[List.length_map] at h'
  refine al ?_
  exact (show (-1:Int)=z by rw[hi,List.drop_of_length_le (by omega),ez])
theorem Rw (L:List T) (p:T->Prop) (hp:∀ x∈L,aj gT 145 [jc x] (.bool (p x))):aj gT 144 [.sl 3 (L.map jc),.clo 145 []] (.bool (∃ x∈L,p x)):=by
 refine Spec.enter ao P2 100 Tryz.func144 rfl (by kernel_rfl) ?_
 refine (Rv L p hp).u ?_
 exact al ky
theorem Rx (L:List C) (p:C->Prop) (hp:∀ x∈L,aj gT 91 [bx x] (.bool (p x))):aj gT 124 [.sl 12 (L.map bx),.clo 91 []] (.int .i64 (ez p L 0)):=by
 refine Spec.enter ao P3 100 Tryz.func124 rfl (by kernel_rfl) ?_
 intro hm
 rw[List.length_map] at hm
 obtain⟨z,hz⟩:∃ z,z=ez p L 0:=⟨_,rfl⟩
 rw[← hz]
 refine SW.ko ao P3 (by kernel_rfl) (α:={i:Nat // z=ez p (L.drop i) i}) (fun i=>[(8,.int .i64 i.1)]) (fun i=>L.length - i.1) ⟨0,hz⟩ 60 ?_ ?_
 ·repeat' first|exact trivial|exact rfl|refine And.intro ?_ ?_
 rintro⟨i,hi⟩
 refine⟨fun h=>?_,fun h=>?_⟩
 ·have h':(i:Int) < ((L.map bx).length:Nat):=h
  rw[List.length_map] at h'
  refine⟨C,L,bx,rfl,show (0:Int)<=(i:Int) by omega,show (i:Int) < (L.length:Int) by omega,fun x hx=>?_⟩
  have dE:L[i]?=some x:=hx
  obtain⟨s1,s2⟩:=iR (p:=p) dE
  refine (hp x (List.mem_of_getElem? dE)).u ?_
  refine⟨fun te=>?_,fun te=>?_⟩
  ·refine al ?_
   exact (show (i:Int)=z by rw[hi,s1 te])
  ·unfold maxLen at hm
   refine .inl ⟨aG (show _<=(i:Int)+1/\(i:Int)+1<=_ by omega),⟨⟨i+1,by rw[hi,s2 te]⟩,show L.length - (i+1) < L.length - i by omega,?_⟩⟩
   repeat' first|exact trivial|exact rfl|refine And.intro ?_ ?_
 ·have h':¬ (i:Int) < ((L.map bx).length:Nat):=h
  rw[List.length_map] at h'
  refine al ?_
  exact (show (-1:Int)=z by rw[hi,List.drop_of_length_le (by omega),ez])
theorem Hg (L:List C) (p:C->Prop) (hp:∀ x∈L,aj gT 91 [bx x] (.bool (p x))):aj gT 90 [.sl 12 (L.map bx),.clo 91 []] (.bool (∃ x∈L,p x)):=by
 refine Spec.enter ao P90 100 Tryz.func90 rfl (by kernel_rfl) ?_
 refine (Rx L p hp).u ?_
 exact al ky
theorem eqf_T (L M:List T) (hp:∀ x∈L,∀ y∈M,aj gT 34 [jc x,jc y] (.bool (x=y))):aj gT 65 [.sl 3 (L.map jc),.sl 3 (M.map jc),.clo 34 []] (.bool (L=M)):=by
 refine Spec.enter ao P65 100 Tryz.func65 rfl (by kernel_rfl) ?_
 intro hm Bk
 rw[List.length_map] at hm Bk
 refine⟨fun h0=>?_,fun h0=>?_⟩
 ·have Ko:¬ ((L.map jc).length:Int)=((M.map jc).length:Nat):=h0
  rw[List.length_map,List.length_map] at Ko
  refine al ?_
  exact (show ¬ L=M from fun e=>Ko (by rw[e]))
 have Ko:((L.map jc).length:Int)=((M.map jc).length:Nat):=Classical.not_not.1 h0
 rw[List.length_map,List.length_map] at Ko
 intro _
 refine SW.ko ao P65 (by kernel_rfl) (α:={i:Nat // i<=L.length/\L.take i=M.take i}) (fun i=>[(17,.int .i64 i.1)]) (fun i=>L.length - i.1) ⟨0,Nat.zero_le _,by simp⟩ 60 ?_ ?_
 ·repeat' first|exact trivial|exact rfl|refine And.intro ?_ ?_
 rintro⟨i,hle,hi⟩
 refine⟨fun h=>?_,fun h=>?_⟩
 ·have h':(i:Int) < ((L.map jc).length:Nat):=h
  rw[List.length_map] at h'
  refine⟨T,L,jc,rfl,show (0:Int)<=(i:Int) by omega,show (i:Int) < (L.length:Int) by omega,fun x hx=>?_⟩
  have dE:L[i]?=some x:=hx
  refine⟨T,M,jc,rfl,show (0:Int)<=(i:Int) by omega,show (i:Int) < (M.length:Int) by omega,fun y hy=>?_⟩
  have A2:M[i]?=some y:=hy
  refine (hp x (List.mem_of_getElem? dE) y (List.mem_of_getElem? A2)).u ?_
  refine⟨fun cH=>?_,fun he=>?_⟩
  ·refine al ?_
   exact (show ¬ L=M from fun e=>cH (by rw[e,A2] at dE; exact (Option.some.inj dE).symm))
  ·have oE:x=y:=Classical.not_not.1 he
   unfold maxLen at hm
   refine .inl ⟨aG (show _<=(i:Int)+1/\(i:Int)+1<=_ by omega),⟨⟨i+1,by omega,by rw[List.take_add_one,List.take_add_one,hi,dE,A2,oE]⟩,show L.length - (i+1) < L.length - i by omega,?_⟩⟩
   repeat' first|exact trivial|exact rfl|refine And.intro ?_ ?_
 ·have h':¬ (i:Int) < ((L.map jc).length:Nat):=h
  rw[List.length_map] at h'
  refine al ?_
  exact (show L=M by rw[List.take_of_length_le (by omega),List.take_of_length_le (by omega)] at hi; exact hi)
theorem eqf_C (L M:List C) (hp:∀ x∈L,∀ y∈M,aj gT 13 [bx x,bx y] (.bool (x=y))):aj gT 35 [.sl 12 (L.map bx),.sl 12 (M.map bx),.clo 13 []] (.bool (L=M)):=by
 refine Spec.enter ao P35 100 Tryz.func35 rfl (by kernel_rfl) ?_
 intro hm Bk
 rw[List.length_map] at hm Bk
 refine⟨fun h0=>?_,fun h0=>?_⟩
 ·have Ko:¬ ((L.map bx).length:Int)=((M.map bx).length:Nat):=h0
  rw[List.length_map,List.length_map] at Ko
  refine al ?_
  exact (show ¬ L=M from fun e=>Ko (by rw[e]))
 have Ko:((L.map bx).length:Int)=((M.map bx).length:Nat):=Classical.not_not.1 h0
 rw[List.length_map,List.length_map] at Ko
 intro _
 refine SW.ko ao P35 (by kernel_rfl) (α:={i:Nat // i<=L.length/\L.take i=M.take i}) (fun i=>[(17,.int .i64 i.1)]) (fun i=>L.length - i.1) ⟨0,Nat.zero_le _,by simp⟩ 60 ?_ ?_
 ·repeat' first|exact trivial|exact rfl|refine And.intro ?_ ?_
 rintro⟨i,hle,hi⟩
 refine⟨fun h=>?_,fun h=>?_⟩
 ·have h':(i:Int) < ((L.map bx).length:Nat):=h
  rw[List.length_map] at h'
  refine⟨C,L,bx,rfl,show (0:Int)<=(i:Int) by omega,show (i:Int) < (L.length:Int) by omega,fun x hx=>?_⟩
  have dE:L[i]?=some x:=hx
  refine⟨C,M,bx,rfl,show (0:Int)<=(i:Int) by omega,show (i:Int) < (M.length:Int) by omega,fun y hy=>?_⟩
  have A2:M[i]?=some y:=hy
  refine (hp x (List.mem_of_getElem? dE) y (List.mem_of_getElem? A2)).u ?_
  refine⟨fun cH=>?_,fun he=>?_⟩
  ·refine al ?_
   exact (show ¬ L=M from fun e=>cH (by rw[e,A2] at dE; exact (Option.some.inj dE).symm))
  ·have oE:x=y:=Classical.not_not.1 he
   unfold maxLen at hm
   refine .inl ⟨aG (show _<=(i:Int)+1/\(i:Int)+1<=_ by omega),⟨⟨i+1,by omega,by rw[List.take_add_one,List.take_add_one,hi,dE,A2,oE]⟩,show L.length - (i+1) < L.length - i by omega,?_⟩⟩
   repeat' first|exact trivial|exact rfl|refine And.intro ?_ ?_
 ·have h':¬ (i:Int) < ((L.map bx).length:Nat):=h
  rw[List.length_map] at h'
  refine al ?_
  exact (show L=M by rw[List.take_of_length_le (by omega),List.take_of_length_le (by omega)] at hi; exact hi)
theorem T.lZ {p:T->Prop} (h:∀ t:T,(∀ x∈ij t,p x)->p t):∀ t,p t
 | .leaf o n=>h _ (by simp[ij])
 | .one o n a=>h _ (by simp only[ij,List.mem_singleton]; rintro x rfl; exact T.lZ h x)
 | .two o n a b=>h _ (by
  simp only[ij,List.mem_cons,List.not_mem_nil,or_false]
  rintro x (rfl|rfl)
  ·exact T.lZ h _
  ·exact T.lZ h _)
theorem T.eq_iff (a b:T):a=b↔a.op=b.op/\a.num=b.num/\ij a=ij b:=by
 cases a<;>cases b<;>simp[T.op,T.num,ij]
theorem C.eq_iff (a b:C):a=b↔(a.kind=b.kind/\a.eX=b.eX/\a.eY=b.eY/\a.word=b.word/\a.size=b.size)/\a.a=b.a/\a.b=b.b/\a.l=b.l:=by
 cases a; cases b; simp only[C.mk.injEq,C.kind,C.eX,C.eY,C.word,C.size,C.a,C.b,C.l]
 exact⟨fun ⟨a,b,c,d,e,f,g,h⟩=>⟨⟨a,b,c,d,e⟩,f,g,h⟩,fun ⟨⟨a,b,c,d,e⟩,f,g,h⟩=>⟨a,b,c,d,e,f,g,h⟩⟩
theorem wG:∀ a b:T,aj gT 34 [jc a,jc b] (.bool (a=b)):=T.lZ fun a ih b=>by
 refine Spec.enter ao P34 100 Tryz.func34 rfl (by kernel_rfl) ?_
 refine⟨fun h1=>And.intro (fun h2=>?_) (fun h2=>?_),fun h1=>?_⟩
 ·have hk:=eqf_T (ij a) (ij b) fun x hx y _=>ih x hx y
  rw[← wq,← wq] at hk
  refine hk.u ?_
  refine al ?_
  exact (show (ij a=ij b)↔a=b by rw[T.eq_iff]; exact⟨fun h=>⟨h1,h2,h⟩,fun h=>h.2.2⟩)
 ·refine al ?_
  exact (show ¬ a=b from fun e=>h2 (by rw[e]))
 ·refine al ?_
  exact (show ¬ a=b from fun e=>h1 (by rw[e]))
theorem Ff:∀ a b:C,aj gT 13 [bx a,bx b] (.bool (a=b)):=C.lZ fun a ih b=>by
 refine Spec.enter ao P13 100 Tryz.func13 rfl (by kernel_rfl) ?_
 refine⟨fun h1=>?_,fun h1=>?_⟩
 ·refine (wG a.a b.a).u ?_
  refine⟨fun h2=>?_,fun h2=>?_⟩
  ·refine (wG a.b b.b).u ?_
   refine⟨fun h3=>?_,fun h3=>?_⟩
   ·have hk:=eqf_C a.l b.l fun x hx y _=>ih x hx y
    rw[← dF,← dF] at hk
    refine hk.u ?_
    refine al ?_
    obtain⟨e1,e2,e3,e4,e5,_⟩:=h1
    exact (show (a.l=b.l)↔a=b by rw[C.eq_iff]; exact⟨fun h=>⟨⟨e1,e2,e3,e4,e5⟩,h2,h3,h⟩,fun h=>h.2.2.2⟩)
   ·refine al ?_
    exact (show ¬ a=b from fun e=>h3 (by rw[e]))
  ·refine al ?_
   exact (show ¬ a=b from fun e=>h2 (by rw[e]))
 ·refine al ?_
  exact (show ¬ a=b from fun e=>h1 (by rw[e]; exact⟨rfl,rfl,rfl,rfl,rfl,trivial⟩))
theorem wI (l m:List C):dI (l++m)=dI l++dI m:=by
 induction l with
 | nil=>rfl
 | cons c l ih=>rw[List.cons_append,dI,dI,ih,List.append_assoc]
theorem Nz {l:List C} {i:Nat} {c:C} (h:l[i]?=some c):dI (l.take (i+1))=dI (l.take i)++oV c:=by
 rw[List.take_add_one,h,wI]
 show _++(oV c++[])=_
 rw[List.append_nil]
theorem tX (l:List C) (i:Nat):(dI (l.take i)).length<=(dI l).length:=by
 have h:=wI (l.take i) (l.drop i)
 rw[List.take_append_drop] at h
 rw[h,List.length_append]; omega
def rK (l:List C):Prop:=(dI l).length<=1000000->aj gT 84 [.sl 12 (l.map bx)] (.sl 12 ((dI l).map bx))
theorem tY (l:List C) (hk:∀ c∈l,c.kind=2->rK c.l):rK l:=fun hn=>by
 refine Spec.enter ao P84 100 Tryz.func84 rfl (by kernel_rfl) ?_
 intro hm
 refine SW.SF ao P84 (by kernel_rfl) (fun i:Nat=>[(8,.int .i64 i),(3,.wref 0)]) (fun i=>[⟨.dyn,30,12,.w,true,(dI (l.take i)).map bx⟩]) (fun i=>l.length - i) 0 60 [none] ?_ fun i=>?_
 ·repeat' first|exact trivial|exact rfl|exact Iff.rfl|refine And.intro ?_ ?_
 have hle:=tX l i
 refine⟨fun h=>?_,fun h=>?_⟩
 ·have h':(i:Int) < ((l.map bx).length:Nat):=h
  rw[List.length_map] at h'
  refine⟨C,l,bx,rfl,show (0:Int)<=(i:Int) by omega,show (i:Int) < (l.length:Int) by omega,fun x hx=>?_⟩
  have dE:l[i]?=some x:=hx
  have e1:=Nz dE
  have sT:=tX l (i+1)
  rw[e1,List.length_append,ik] at sT
  unfold maxLen at hm
  have el:(((dI (l.take i)).map bx).length:Nat)=(dI (l.take i)).length:=List.length_map ..
  refine⟨fun nq=>?_,fun nq=>?_⟩
  ·have Jy:x.kind=2:=nq
   rw[if_pos Jy] at sT
   have pW:=List.mem_of_getElem? dE
   have hp:=hk x pW Jy (by omega)
   rw[← dF] at hp
   have el2:(((dI x.l).map bx).length:Nat)=(dI x.l).length:=List.length_map ..
   refine hp.u ?_
   refine⟨show ((dI (l.take i)).map bx).length+((dI x.l).map bx).length<=maxLen by unfold maxLen; omega,show (((dI (l.take i)).map bx).length+((dI x.l).map bx).length)*144<=140737488355328 by omega,?_⟩
   refine .inl ⟨aG (show _<=(i:Int)+1/\(i:Int)+1<=_ by omega),⟨i+1,[some 2],by omega,?_⟩⟩
   repeat' first|exact trivial|exact rfl|exact Iff.rfl|refine And.intro ?_ ?_
   exact (show (dI (l.take i)).map bx++(dI x.l).map bx=(dI (l.take (i+1))).map bx by rw[e1,ik,if_pos Jy,List.map_append])
  ·have Jy:¬ x.kind=2:=nq
   rw[if_neg Jy] at sT
   refine⟨show ((dI (l.take i)).map bx).length+1<=maxLen by unfold maxLen; simp at sT; omega,show (((dI (l.take i)).map bx).length+1)*144<=140737488355328 by simp at sT; omega,?_⟩
   refine .inl ⟨aG (show _<=(i:Int)+1/\(i:Int)+1<=_ by omega),⟨i+1,[some 3],by omega,?_⟩⟩
   repeat' first|exact trivial|exact rfl|exact Iff.rfl|refine And.intro ?_ ?_
   exact (show (dI (l.take i)).map bx++[bx x]=(dI (l.take (i+1))).map bx by rw[e1,ik,if_neg Jy,List.map_append]; rfl)
 ·have h':¬ (i:Int) < ((l.map bx).length:Nat):=h
  rw[List.length_map] at h'
  refine al ?_
  rw[List.take_of_length_le (by omega)]
  exact (show (dI l).map bx=(dI l).map bx from rfl)
theorem Fg:∀ c:C,rK c.l:=C.lZ fun c ih=>tY c.l fun x hx _=>ih x hx
theorem CU (l:List C):rK l:=tY l fun c _ _=>Fg c
theorem wJ (c:C):aj gT 86 [bx c] (.bool (¬ bq c=true)):=by
 have e:(¬ bq c=true)↔(c.kind=1/\c.eX=0)/\c.eY=0:=by
  unfold bq; simp[and_assoc]
 refine Spec.enter ao P86 100 Tryz.func86 rfl (by kernel_rfl) ?_
 refine⟨fun h1=>And.intro (fun h2=>?_) (fun h2=>?_),fun h1=>?_⟩
 ·refine al ?_
  have eU:c.kind=1:=h1
  have xS:c.eX=0:=h2
  exact (show c.eY=0↔¬ bq c=true from ⟨fun h=>e.2 ⟨⟨eU,xS⟩,h⟩,fun h=>(e.1 h).2⟩)
 ·refine al ?_
  have xS:¬ c.eX=0:=h2
  exact (show ¬ ¬ bq c=true from fun h=>xS (e.1 h).1.2)
 ·refine al ?_
  have eU:¬ c.kind=1:=h1
  exact (show ¬ ¬ bq c=true from fun h=>eU (e.1 h).1.1)
theorem Ry (L:List C) (p:C->Prop) (hp:∀ x∈L,aj gT 86 [bx x] (.bool (p x))):aj gT 124 [.sl 12 (L.map bx),.clo 86 []] (.int .i64 (ez p L 0)):=by
 refine Spec.enter ao P3 100 Tryz.func124 rfl (by kernel_rfl) ?_
 intro hm
 rw[List.length_map] at hm
 obtain⟨z,hz⟩:∃ z,z=ez p L 0:=⟨_,rfl⟩
 rw[← hz]
 refine SW.ko ao P3 (by kernel_rfl) (α:={i:Nat // z=ez p (L.drop i) i}) (fun i=>[(8,.int .i64 i.1)]) (fun i=>L.length - i.1) ⟨0,hz⟩ 60 ?_ ?_
 ·repeat' first|exact trivial|exact rfl|refine And.intro ?_ ?_
 rintro⟨i,hi⟩
 refine⟨fun h=>?_,fun h=>?_⟩
 ·have h':(i:Int) < ((L.map bx).length:Nat):=h
  rw[List.length_map] at h'
  refine⟨C,L,bx,rfl,show (0:Int)<=(i:Int) by omega,show (i:Int) < (L.length:Int) by omega,fun x hx=>?_⟩
  have dE:L[i]?=some x:=hx
  obtain⟨s1,s2⟩:=iR (p:=p) dE
  refine (hp x (List.mem_of_getElem? dE)).u ?_
  refine⟨fun te=>?_,fun te=>?_⟩
  ·refine al ?_
   exact (show (i:Int)=z by rw[hi,s1 te])
  ·unfold maxLen at hm
   refine .inl ⟨aG (show _<=(i:Int)+1/\(i:Int)+1<=_ by omega),⟨⟨i+1,by rw[hi,s2 te]⟩,show L.length - (i+1) < L.length - i by omega,?_⟩⟩
   repeat' first|exact trivial|exact rfl|refine And.intro ?_ ?_
 ·have h':¬ (i:Int) < ((L.map bx).length:Nat):=h
  rw[List.length_map] at h'
  refine al ?_
  exact (show (-1:Int)=z by rw[hi,List.drop_of_length_le (by omega),ez])
theorem za {α:Type} {p:α->Prop}:∀ {l:List α} {i:Nat},ez p l i = -1->∀ x∈l,¬ p x
 | [],_,_,x,hx=>by simp at hx
 | y::l,i,h,x,hx=>by
  rw[ez] at h
  by_cases hy:p y
  ·rw[if_pos hy] at h; omega
  ·rw[if_neg hy] at h
   rcases List.mem_cons.1 hx with rfl|hx
   ·exact hy
   ·exact za h x hx
theorem wK {α:Type} {p:α->Prop}:∀ {l:List α} {i:Nat},¬ ez p l i = -1->∃ k:Nat,ez p l i=((i+k:Nat):Int)/\(∃ x,l[k]?=some x/\p x)/\∀ x∈l.take k,¬ p x
 | [],_,h=>absurd rfl h
 | y::l,i,h=>by
  rw[ez] at h ⊢
  by_cases hy:p y
  ·rw[if_pos hy]
   exact⟨0,rfl,⟨y,rfl,hy⟩,by simp⟩
  ·rw[if_neg hy] at h ⊢
   obtain⟨k,h1,⟨x,h2,h3⟩,h4⟩:=wK h
   refine⟨k+1,by rw[h1]; congr 1; omega,⟨x,h2,h3⟩,fun z hz=>?_⟩
   rw[List.take_succ_cons] at hz
   rcases List.mem_cons.1 hz with rfl|hz
   ·exact hy
   ·exact h4 z hz
def dB (l:List C):an:=⟨.dyn,30,12,.w,true,l.map bx⟩
structure kZ (L:List C) (x:Nat × List C):Prop where
 le:x.1<=L.length
 len:x.2.length=L.length
 got:x.2.take ((L.take x.1).filter bq).length=(L.take x.1).filter bq
 rest:x.2.drop x.1=L.drop x.1
 lt:((L.take x.1).filter bq).length < x.1
theorem kZ.at {L cs:List C} {j:Nat} {y:C} (h:kZ L (j,cs)) (hj:(j:Int) < L.length) (hy:cs[j]?=some y):L[j]?=some y:=by
 have h1:=congrArg (fun l=>l[0]?) h.rest
 simpa [List.getElem?_drop,hy] using h1.symm
theorem kZ.step {L cs:List C} {j:Nat} {y:C} (h:kZ L (j,cs)) (hj:(j:Int) < L.length) (hy:cs[j]?=some y):(L.take (j+1)).filter bq=(L.take j).filter bq++[y].filter bq:=by
 rw[List.take_add_one,h.at hj hy,List.filter_append]; rfl
theorem kZ.Te {L cs:List C} {j:Nat} (h:cs.drop j=L.drop j):cs.drop (j+1)=L.drop (j+1):=by
 rw[← List.drop_drop,← List.drop_drop,h]
theorem rL {L cs:List C} {j:Nat} {y:C} (h:kZ L (j,cs)) (hj:(j:Int) < L.length) (hy:cs[j]?=some y) (hk:¬ bq y=true):(L.take (j+1)).filter bq=(L.take j).filter bq:=by
 rw[h.step hj hy,List.filter_cons_of_neg hk]; simp
theorem NA {L cs:List C} {j:Nat} {y:C} (h:kZ L (j,cs)) (hj:(j:Int) < L.length) (hy:cs[j]?=some y) (hk:¬ bq y=true):kZ L (j+1,cs):=by
 have e:=rL h hj hy hk
 have h1:=h.lt
 have h2:=h.got
 simp only at h1 h2
 exact⟨by show j+1<=_; omega,h.len,by simp only; rw[e]; exact h2,kZ.Te h.rest,by simp only; rw[e]; omega⟩
theorem rM {L cs:List C} {j:Nat} {y:C} (h:kZ L (j,cs)) (hj:(j:Int) < L.length) (hy:cs[j]?=some y) (hk:bq y=true):(L.take (j+1)).filter bq=(L.take j).filter bq++[y]:=by
 rw[h.step hj hy,List.filter_cons_of_pos hk]; simp
theorem NB {L cs:List C} {j:Nat} {y:C} (h:kZ L (j,cs)) (hj:(j:Int) < L.length) (hy:cs[j]?=some y) (hk:bq y=true):kZ L (j+1,cs.set ((L.take j).filter bq).length y):=by
 have e:=rM h hj hy hk
 have h1:=h.lt
 have h2:=h.got
 have h3:=h.len
 simp only at h1 h2 h3
 obtain⟨K,hK⟩:∃ K,(L.take j).filter bq=K:=⟨_,rfl⟩
 rw[hK] at e h1 h2 ⊢
 have ch:K.length < cs.length:=by omega
 refine⟨by show j+1<=_; omega,by simp only; rw[List.length_set]; exact h3,?_,?_,?_⟩
 ·simp only
  rw[e,List.length_append,List.length_singleton,List.take_add_one,List.getElem?_set_self ch,List.take_set_of_le (Nat.le_refl _),h2]
  rfl
 ·simp only
  rw[List.drop_set_of_lt (by omega)]
  exact kZ.Te h.rest
 ·simp only
  rw[e,List.length_append,List.length_singleton]; omega
def zC:an:=⟨.loc,30,1,.w,true,[.lit .i64 0,.lit .i64 0,.lit .i64 0,.lit .i64 0,.lit .i64 0,.lit .i64 0,.lit .u32 0,.nil,.lit .i64 0,.lit .u32 0,.nil,.nil]⟩
theorem CV (L:List C) (hL:L.length<=1000000):Spec gT 85 [.wref 1,.clo 86 []] [zC,dB L] [] fun r S'=>∃ b:an,S' = [zC,b]/\b.k = .dyn/\b.live=true/\b.m = .w/\b.size=12/\((r = .wref 1/\b.cs=(L.filter bq).map bx)\/(r = .ref 1 0 ((L.filter bq).map bx).length/\b.cs.take ((L.filter bq).map bx).length=(L.filter bq).map bx)):=by
 have hi:=Ry L (fun x=>¬ bq x=true) fun x _=>wJ x
 obtain⟨z,hz⟩:∃ z,ez (fun x=>¬ bq x=true) L 0=z:=⟨_,rfl⟩
 rw[hz] at hi
 unfold dB zC
 refine Spec.enter ao P85 100 Tryz.func85 rfl (by kernel_rfl) ?_
 refine⟨[],az,hi.BV [1] (by repeat' first|exact trivial|exact rfl|exact Iff.rfl|exact Or.inl rfl|refine And.intro ?_ ?_) rfl rfl ?_⟩
 refine⟨fun h1=>?_,fun h1=>?_⟩
 ·have eU:z = -1:=h1
  have cA:=za (hz.trans eU)
  have hf:L.filter bq=L:=List.filter_eq_self.2 fun x hx=>Classical.not_not.1 (cA x hx)
  rw[hf]
  refine Exists.intro (.wref 1) (And.intro (yA.refl _) ?_)
  exact⟨⟨.dyn,30,12,.w,true,L.map bx⟩,rfl,rfl,rfl,rfl,rfl,.inl ⟨rfl,rfl⟩⟩
 ·have eU:¬ z = -1:=h1
  obtain⟨k,hk,⟨x0,SS,hp0⟩,hbef⟩:=wK (fun e=>eU (hz.symm.trans e))
  rw[hz,Nat.zero_add] at hk
  subst hk
  have Q6:k < L.length:=(List.getElem?_eq_some_iff.1 SS).1
  have hK0:(L.take (k+1)).filter bq=L.take k:=by
   rw[List.take_add_one,SS,List.filter_append,List.filter_eq_self.2 fun x hx=>Classical.not_not.1 (hbef x hx)]
   show L.take k++[x0].filter bq=_
   rw[List.filter_cons_of_neg hp0]; simp
  have hKl:((L.take (k+1)).filter bq).length=k:=by rw[hK0,List.length_take]; omega
  refine li ?_ (show _<=(k:Int)+1/\(k:Int)+1<=_ by omega)
  refine SW.loop ao P85 (by kernel_rfl) (α:={x:Nat × List C // kZ L x}) (fun x=>[(5,.int .i64 ((L.take x.1.1).filter bq).length),(6,.int .i64 x.1.1)]) (fun x=>[⟨.loc,30,1,.w,true,[.lit .i64 0,.lit .i64 0,.lit .i64 0,.lit .i64 0,.lit .i64 0,.lit .i64 0,.lit .u32 0,.nil,.lit .i64 0,.lit .u32 0,.nil,.nil]⟩,⟨.dyn,30,12,.w,true,x.1.2.map bx⟩]) (fun x=>L.length - x.1.1) ⟨(k+1,L),⟨by omega,rfl,by rw[hK0,List.length_take,Nat.min_eq_left (by omega)],rfl,by show _ < k+1; rw[hKl]; omega⟩⟩ 60 [some 0,some 1] ?_ fun x=>?_
  ·repeat' first|exact trivial|exact rfl|exact Iff.rfl|refine And.intro ?_ ?_
   all_goals exact (show (k:Int)=(((L.take (k+1)).filter bq).length:Int) by rw[hKl])
  obtain⟨⟨j,cs⟩,hx⟩:=x
  have Tf:=hx.len
  have LH:=hx.le
  have hx3:=hx.lt
  simp only at Tf LH hx3
  have ecs:(((cs.map bx).length:Nat):Int)=L.length:=by rw[List.length_map,Tf]
  intro hm
  refine⟨fun h=>?_,fun h=>?_⟩
  ·have h':(j:Int) < ((cs.map bx).length:Nat):=h
   rw[ecs] at h'
   refine⟨show (0:Int)<=(j:Int) by omega,show (j:Int) < ((cs.map bx).length:Nat) by omega,C,cs,bx,rfl,show (j:Int).toNat < cs.length by omega,fun y hy=>?_⟩
   have A2:cs[j]?=some y:=hy
   refine (wJ y).u ?_
   refine⟨fun nq=>?_,fun nq=>?_⟩
   ·have hyk:bq y=true:=Classical.not_not.1 nq
    refine⟨show (0:Int)<=(((L.take j).filter bq).length:Int) by omega,show (((L.take j).filter bq).length:Int) < ((cs.map bx).length:Nat) by omega,?_⟩
    refine And.intro (show (((L.take j).filter bq).length:Int).toNat < (cs.map bx).length by omega) ?_
    refine li ?_ (show _<=(((L.take j).filter bq).length:Int)+1/\(((L.take j).filter bq).length:Int)+1<=_ by omega)
    refine .inl ⟨aG (show _<=(j:Int)+1/\(j:Int)+1<=_ by omega),⟨⟨(j+1,cs.set ((L.take j).filter bq).length y),NB hx h' A2 hyk⟩,[some 0,some 1],show L.length - (j+1) < L.length - j by omega,?_⟩⟩
    repeat' first|exact trivial|exact rfl|exact Iff.rfl|refine And.intro ?_ ?_
    all_goals first|exact (show (((L.take j).filter bq).length:Int)+1=(((L.take (j+1)).filter bq).length:Int) by rw[rM hx h' A2 hyk,List.length_append]; simp)|exact (show (cs.map bx).set (((L.take j).filter bq).length:Int).toNat (bx y)=(cs.set ((L.take j).filter bq).length y).map bx by rw[Int.toNat_natCast,List.map_set])
   ·have hyk:¬ bq y=true:=fun h=>nq (fun h2=>h2 h)
    refine .inl ⟨aG (show _<=(j:Int)+1/\(j:Int)+1<=_ by omega),⟨⟨(j+1,cs),NA hx h' A2 hyk⟩,[some 0,some 1],show L.length - (j+1) < L.length - j by omega,?_⟩⟩
    repeat' first|exact trivial|exact rfl|exact Iff.rfl|refine And.intro ?_ ?_
    all_goals exact (show (((L.take j).filter bq).length:Int)=(((L.take (j+1)).filter bq).length:Int) by rw[rL hx h' A2 hyk])
  ·have h':¬ (j:Int) < ((cs.map bx).length:Nat):=h
   rw[ecs] at h'
   have hj:j=L.length:=by omega
   subst hj
   obtain⟨n,hn⟩:∃ n,((L.take L.length).filter bq).length=n:=⟨_,rfl⟩
   have AZ:(cs.map bx).length=L.length:=by rw[List.length_map,Tf]
   refine⟨n,L.length,show ((((L.take L.length).filter bq).length:Nat):Int)=n by rw[hn],show (((cs.map bx).length:Nat):Int)=(L.length:Nat) by rw[AZ],by omega,show L.length<=(cs.map bx).length by omega,show n < (cs.map bx).length by omega,?_⟩
   refine Io ao ?_
   refine⟨n,rfl,show n+(L.length - n)=(cs.map bx).length by omega,by omega,?_⟩
   refine⟨0,n,rfl,show ((((L.take L.length).filter bq).length:Nat):Int)=n by rw[hn],by omega,?_⟩
   have gz:∀ e:PV,((cs.map bx).take n++List.replicate (L.length - n) e).length=L.length:=fun e=>by
    rw[List.length_append,List.length_take,List.length_replicate,AZ]; omega
   have hg:=hx.got
   simp only at hg
   rw[hn] at hg
   refine And.intro (show n<=((cs.map bx).take n++List.replicate (L.length - n) _).length by rw[gz]; omega) (And.intro (show 0 < ((cs.map bx).take n++List.replicate (L.length - n) _).length by rw[gz]; omega) ?_)
   have hfl:(L.filter bq).length=n:=by rw[← hn,List.take_length]
   have htk:cs.take n=L.filter bq:=by rw[hg,List.take_length]
   refine Exists.intro (.ref 1 (0*12) (n - 0)) (And.intro (yA.refl _) ?_)
   refine⟨_,rfl,rfl,rfl,rfl,rfl,.inr ⟨?_,?_⟩⟩
   ·show PV.ref 1 (0*12) (n - 0)=_
    rw[List.length_map,hfl,Nat.zero_mul,Nat.sub_zero]
   ·show ((cs.map bx).take n++List.replicate (L.length - n) _).take ((L.filter bq).map bx).length=_
    rw[List.length_map,hfl,List.take_append_of_le_length (by rw[List.length_take,AZ]; omega),List.take_take,Nat.min_self,← List.map_take,htk]
theorem Fh (L:List C) (hL:L.length<=1000000):Spec gT 85 [.wref 1,.clo 86 []] [zC,dB L] [] fun r S'=>r = .sl 12 ((L.filter bq).map bx)/\S' = [zC,⟨.dyn,(dB L).ty,12,.w,false,[]⟩] :=
 (CV L hL).cut1 rfl rfl rfl
def kz (B:Int) (c:C):Prop:=c.kind=1->(0<=c.eX/\c.eX<=B)/\(0<=c.eY/\c.eY<=B)
theorem kz.more {B B':Int} {c:C} (h:kz B c) (hB:B<=B'):kz B' c:=fun k=>by have:=h k; omega
theorem oW {S:List C} {i:Nat} {c:C} (h:S[i]?=some c):(S.take (i+1)).foldl bW []=bW ((S.take i).foldl bW []) c:=by
 rw[List.take_add_one,h,List.foldl_append]; rfl
theorem uZ {S:List C} (hS:∀ c∈S,kz 2147483647 c):∀ i:Nat,∀ x∈(S.take i).foldl bW [],kz (i*2147483647) x
 | 0,x,hx=>by simp at hx
 | i+1,x,hx=>by
  cases hc:S[i]? with
  | none =>
   have hl:S.length<=i:=List.getElem?_eq_none_iff.1 hc
   rw[List.take_of_length_le (by omega),← List.take_of_length_le (i:=i) hl] at hx
   exact (uZ hS i x hx).more (by omega)
  | some c =>
   rw[oW hc] at hx
   have A3:=hS c (List.mem_of_getElem? hc)
   refine l5 (p:=kz ((i+1:Nat)*2147483647)) (fun y hy=>(uZ hS i y hy).more (by omega)) (A3.more (by omega)) (fun d hd k1 k2 _=>?_) x hx
   have h1:=uZ hS i d hd k2
   have h2:=A3 k1
   show (0<=d.eX+c.eX/\d.eX+c.eX<=_)/\(0<=d.eY+c.eY/\d.eY+c.eY<=_)
   omega
theorem og (S:List C):∀ i:Nat,((S.take i).foldl bW []).length<=i
 | 0=>by simp
 | i+1=>by
  cases hc:S[i]? with
  | none =>
   have hl:S.length<=i:=List.getElem?_eq_none_iff.1 hc
   rw[List.take_of_length_le (by omega),← List.take_of_length_le (i:=i) hl]
   have:=og S i; omega
  | some c =>
   rw[oW hc]
   have:=og S i; have:=Ju ((S.take i).foldl bW []) c; omega
theorem tg {out:List C} {c:C} (h:∀ d,out[out.length - 1]?=some d->¬ (c.kind=1/\d.kind=1)):bW out c=out++[c]:=by
 unfold bW
 cases he:out.getLast? with
 | none=>rfl
 | some d =>
  simp only
  rw[if_neg (h d (by rw[← List.getLast?_eq_getElem?]; exact he))]
theorem Jz {out:List C} {c d:C} (hd:out[out.length - 1]?=some d) (h1:c.kind=1) (h2:d.kind=1):bW out c=out.set (out.length - 1) (ak (d.eX+c.eX) (d.eY+c.eY)):=by
 have he:out.getLast?=some d:=by rw[List.getLast?_eq_getElem?]; exact hd
 unfold bW
 rw[he]
 simp only
 rw[if_pos ⟨h1,h2⟩]
 obtain⟨pre,tc⟩:=List.getLast?_eq_some_iff.1 he
 rw[tc,List.dropLast_concat]
 simp
theorem th (l:List C) (hn:(dI l).length<=1000000) (hS:∀ c∈dI l,kz 2147483647 c):aj gT 45 [.sl 12 (l.map bx)] (bx (aq l)):=by
 have hs:=CU l hn
 obtain⟨S,hSe⟩:∃ S,dI l=S:=⟨_,rfl⟩
 rw[hSe] at hs hn hS
 refine Spec.enter ao P45 100 Tryz.func45 rfl (by kernel_rfl) ?_
 refine hs.u ?_
 intro hm
 have el:(((S.map bx).length:Nat):Int)=S.length:=by rw[List.length_map]
 refine SW.SF ao P45 (by kernel_rfl) (fun i:Nat=>[(10,.int .i64 i),(3,.wref 1)]) (fun i=>[⟨.dyn,30,12,.w,true,((S.take i).foldl bW []).map bx⟩]) (fun i=>S.length - i) 0 60 [none] ?_ fun i=>?_
 ·repeat' first|exact trivial|exact rfl|exact Iff.rfl|refine And.intro ?_ ?_
 have hle:=og S i
 have xK:=uZ hS i
 obtain⟨out,jk⟩:∃ out,(S.take i).foldl bW []=out:=⟨_,rfl⟩
 rw[jk] at hle xK ⊢
 have eo:(((out.map bx).length:Nat):Int)=out.length:=by rw[List.length_map]
 refine⟨fun h=>?_,fun h=>?_⟩
 ·have h':(i:Int) < ((S.map bx).length:Nat):=h
  rw[el] at h'
  refine⟨C,S,bx,rfl,show (0:Int)<=(i:Int) by omega,show (i:Int) < (S.length:Int) by omega,fun c hc=>?_⟩
  have A0:S[i]?=some c:=hc
  have A3:=hS c (List.mem_of_getElem? A0)
  have e1:=oW A0
  rw[jk] at e1
  refine fun Bk=>?_
  refine⟨fun hk=>?_,fun hk=>?_⟩
  ·refine⟨fun h0=>?_,fun h0=>?_⟩
   ·have Ko:(0:Int) < ((out.map bx).length:Nat):=h0
    refine li ?_ (show _<=(((out.map bx).length:Nat):Int) - 1/\(((out.map bx).length:Nat):Int) - 1<=_ by omega)
    refine⟨show (0:Int)<=(((out.map bx).length:Nat):Int) - 1 by omega,show (((out.map bx).length:Nat):Int) - 1 < ((out.map bx).length:Nat) by omega,?_⟩
    refine⟨C,out,bx,rfl,show ((((out.map bx).length:Nat):Int) - 1).toNat < out.length by omega,fun d hd=>?_⟩
    have xC:out[out.length - 1]?=some d:=by
     rw[← show ((((out.map bx).length:Nat):Int) - 1).toNat=out.length - 1 by omega]; exact hd
    refine⟨fun hdk=>?_,fun hdk=>?_⟩
    ·have jC:c.kind=1:=hk
     have hdk':d.kind=1:=hdk
     have b1:=A3 jC
     have b2:=xK d (List.mem_of_getElem? xC) hdk'
     have hi6:(i:Int)<=1000000:=by omega
     have ch:((((out.map bx).length:Nat):Int) - 1).toNat < out.length:=by omega
     have zM:((((out.map bx).length:Nat):Int) - 1).toNat < (out.map bx).length:=by omega
     have r6:-9223372036854775808<=(i:Int)+1/\(i:Int)+1<=9223372036854775807:=by omega
     have r7:S.length - (i+1) < S.length - i:=by omega
     have r1:-9223372036854775808<=(((out.map bx).length:Nat):Int) - 1/\(((out.map bx).length:Nat):Int) - 1<=9223372036854775807:=by omega
     have r2:(0:Int)<=(((out.map bx).length:Nat):Int) - 1:=by omega
     have r3:(((out.map bx).length:Nat):Int) - 1 < ((out.map bx).length:Nat):=by omega
     have r4:-9223372036854775808<=d.eX+c.eX/\d.eX+c.eX<=9223372036854775807:=by omega
     have r5:-9223372036854775808<=d.eY+c.eY/\d.eY+c.eY<=9223372036854775807:=by omega
     have hdd:∀ d2,out[((((out.map bx).length:Nat):Int) - 1).toNat]?=some d2->d=d2:=fun d2 h2=>Option.some.inj (hd.symm.trans h2)
     repeat' first
      | refine .inl ⟨aG r1,?_⟩
      | refine⟨r2,r3,?_⟩
      | (refine⟨C,out,bx,rfl,ch,fun d2 Bt=>?_⟩; have e9:=hdd d2 Bt; subst e9)
      | refine .inl ⟨aG r4,?_⟩
      | refine .inl ⟨aG r5,?_⟩
      | refine⟨[],az,(bQ (d.eX+c.eX) (d.eY+c.eY)).use (And.intro rfl (And.intro rfl trivial)) rfl rfl ?_⟩
      | refine And.intro zM ?_
      | refine .inl ⟨aG r6,⟨i+1,[some 1],r7,?_⟩⟩
      | fail
     all_goals repeat' first|exact trivial|exact rfl|exact Iff.rfl|refine And.intro ?_ ?_
     all_goals exact (show (out.map bx).set ((((out.map bx).length:Nat):Int) - 1).toNat (bx (ak (d.eX+c.eX) (d.eY+c.eY)))=((S.take (i+1)).foldl bW []).map bx by rw[e1,Jz xC jC hdk',List.map_set,show ((((out.map bx).length:Nat):Int) - 1).toNat=out.length - 1 by omega])
    ·refine⟨show (out.map bx).length+1<=maxLen by unfold maxLen; omega,show ((out.map bx).length+1)*144<=140737488355328 by omega,?_⟩
     refine .inl ⟨aG (show _<=(i:Int)+1/\(i:Int)+1<=_ by omega),⟨i+1,[some 4],by omega,?_⟩⟩
     repeat' first|exact trivial|exact rfl|exact Iff.rfl|refine And.intro ?_ ?_
     exact (show out.map bx++[bx c]=((S.take (i+1)).foldl bW []).map bx by rw[e1,tg (fun d2 Bt ⟨_,h3⟩=>by rw[xC] at Bt; cases Bt; exact hdk h3),List.map_append]; rfl)
   ·refine⟨show (out.map bx).length+1<=maxLen by unfold maxLen; omega,show ((out.map bx).length+1)*144<=140737488355328 by omega,?_⟩
    refine .inl ⟨aG (show _<=(i:Int)+1/\(i:Int)+1<=_ by omega),⟨i+1,[some 4],by omega,?_⟩⟩
    repeat' first|exact trivial|exact rfl|exact Iff.rfl|refine And.intro ?_ ?_
    exact (show out.map bx++[bx c]=((S.take (i+1)).foldl bW []).map bx by rw[e1,tg (fun d2 Bt _=>by have h3:=(List.getElem?_eq_some_iff.1 Bt).1; exact h0 (show (0:Int) < ((out.map bx).length:Nat) by omega)),List.map_append]; rfl)
  ·refine⟨show (out.map bx).length+1<=maxLen by unfold maxLen; omega,show ((out.map bx).length+1)*144<=140737488355328 by omega,?_⟩
   refine .inl ⟨aG (show _<=(i:Int)+1/\(i:Int)+1<=_ by omega),⟨i+1,[some 4],by omega,?_⟩⟩
   repeat' first|exact trivial|exact rfl|exact Iff.rfl|refine And.intro ?_ ?_
   exact (show out.map bx++[bx c]=((S.take (i+1)).foldl bW []).map bx by rw[e1,tg (fun d2 Bt ⟨h3,_⟩=>hk h3),List.map_append]; rfl)
 ·have h':¬ (i:Int) < ((S.map bx).length:Nat):=h
  rw[el] at h'
  have Kg:S.take i=S:=List.take_of_length_le (by omega)
  rw[Kg] at jk
  have sT:=og S S.length
  rw[List.take_length,jk] at sT
  have Zn:=Fh out (by omega)
  have hoc:out.filter bq=gd l:=by rw[← jk,← hSe]; rfl
  rw[hoc] at Zn
  unfold zC dB at Zn
  refine⟨[],az,Spec.P' Zn rfl rfl rfl rfl (by repeat' first|exact trivial|exact rfl|exact Iff.rfl|exact Or.inl rfl|refine And.intro ?_ ?_) ?_⟩
  refine And.intro (by repeat' first|exact trivial|exact rfl|exact Iff.rfl|refine And.intro ?_ ?_) (And.intro (by repeat' first|exact trivial|exact rfl|exact Iff.rfl|refine And.intro ?_ ?_) ?_)
  refine fun hm3=>?_
  have ec:((((gd l).map bx).length:Nat):Int)=(gd l).length:=by rw[List.length_map]
  refine⟨fun h1=>?_,fun h1=>?_⟩
  ·have eU:((((gd l).map bx).length:Nat):Int)=1:=h1
   rw[ec] at eU
   obtain⟨c,hc⟩:∃ c,gd l = [c]:=List.length_eq_one_iff.1 (by omega)
   refine⟨C,gd l,bx,rfl,show (0:Int)<=0 by decide,show (0:Int) < ((gd l).length:Int) by omega,fun x hx=>?_⟩
   have dE:(gd l)[0]?=some x:=hx
   rw[hc] at dE
   cases dE
   refine al ?_
   have ej:aq l=c:=by unfold aq; rw[hc]
   rw[ej]
   repeat' first|exact trivial|exact rfl|exact Iff.rfl|refine And.intro ?_ ?_
  ·have eU:¬ ((((gd l).map bx).length:Nat):Int)=1:=h1
   rw[ec] at eU
   have ej:aq l = .mk 2 0 0 0 0 cM cM (gd l):=by
    unfold aq
    split
    ·rename_i c hc; rw[hc] at eU; exact absurd rfl eU
    ·rfl
   rw[ej]
   have ek:jO (.mk 2 0 0 0 0 cM cM (gd l))=(gd l).map bx:=s_ _
   refine al ?_
   repeat' first|exact trivial|exact rfl|exact Iff.rfl|refine And.intro ?_ ?_
   all_goals exact ek.symm
end Go.Proofs.YtnbhdacpogplgaaGreatDoor.Pw
