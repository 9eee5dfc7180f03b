/- What this claim is proved with: no condition. -/
import Derived.Test.YtbnoodjnpooocaaGreatDoorNw12
import Derived.Laws.Strings2
import Derived.Test.YtbnoodjnpooocaaGreatDoorNw9
import Derived.Laws.MakeOwn
import Derived.Lib.AppendStr
import Derived.Laws.CopyRow
import Derived.MapKept
import Derived.Laws.BytesArg
import Derived.Carry
set_option linter.unusedVariables false
set_option linter.unusedSimpArgs false
namespace Go.Proofs.YtbnoodjnpooocaaGreatDoor.Pw
open Go Go.RowKit
section
variable {w w':World} {I I':Nat->Prop} {β ay:an} {C:ib} {δ:List Deferred} {s:CS} {nt b:Nat} {a:Act}
theorem cL.split {xs ys:List PV} {g o:Nat} (h:cL w I (xs++ys) g o):cL w I xs g o/\cL w I ys g (o+xs.length) :=
 ⟨cL.of fun i c hc=>h.get (by rw[List.getElem?_append_left (List.getElem?_eq_some_iff.1 hc).1]; exact hc),cL.of fun i c hc=>by
  have:=h.get (i:=xs.length+i) (c:=c) (by rw[List.getElem?_append_right (by omega),show xs.length+i - xs.length=i by omega]; exact hc)
  rwa [← Nat.add_assoc] at this⟩
theorem mQ {ag:Bool} {n:Nat} (hn:ag=true\/n=1):∀ {k:Nat} {cs:List PV} {q:List PV->Bool},qu ag n k cs q=true->∃ es,q es=true/\es.length=k/\∀ (w:World) (I:Nat->Prop) (g o:Nat),cL w I cs g o->ca w I es n g o
 | 0,cs,q,h=>by
  refine⟨[],by cases cs<;>exact h,rfl,fun w I g o _=>by simp only[ca]⟩
 | k+1,cs,q,h=>by
  unfold qu at h
  cases ag with
  | true =>
   simp only at h
   replace h:=jA h
   obtain⟨h1,h⟩:=h
   replace h:=jz h
   obtain⟨h2,h⟩:=h
   obtain⟨es,hq,hl,hi⟩:=mQ hn h
   refine⟨_,hq,by simp[hl],fun w I g o hc=>?_⟩
   simp only[ca]
   have hd:cs=cs.take n++cs.drop n:=(List.take_append_drop n cs).symm
   rw[hd] at hc
   obtain⟨c1,c2⟩:=cL.split hc
   rw[List.length_take,Nat.min_eq_left h1] at c2
   exact⟨⟨by rw[List.length_take,Nat.min_eq_left h1],c1⟩,hi w I g _ c2⟩
  | false =>
   have lT:n=1:=by rcases hn with h|h; cases h; exact h
   subst lT
   cases cs with
   | nil=>cases h
   | cons c cs =>
    obtain⟨es,hq,hl,hi⟩:=mQ (.inr rfl) h
    refine⟨_,hq,by simp[hl],fun w I g o hc=>?_⟩
    simp only[cL] at hc
    obtain⟨⟨v,hv,hx,h1⟩,hc⟩:=hc
    have cN:∀ ds,c≠.agg ds:=fun ds e=>by
     subst e
     simp only[PV.Is] at hx
     obtain⟨vs,rfl,_⟩:=hx
     simp[Value.oneCell'] at h1
    cases c with
    | agg ds=>exact absurd rfl (cN ds)
    | _=>simp only[ca]; exact⟨⟨trivial,v,hv,hx,h1⟩,hi w I g _ hc⟩
theorem sn (hR:Rel (C.G δ) I β (s.st nt b) a w) {o:Option Operand} {d:Nat} {q:Nat->Bool} (h:ng s.t o d q=true):∃ n:Nat,q n=true/\((o.map a.eval=none/\n=d)\/∃ k,o.map a.eval=some (.int k (n:Int))):=by
 have:=kS hR (jV (nt:=nt) (b:=b) (q':=fun z=>∃ n:Nat,q n=true/\z.2=n) (fun h=>⟨d,h,rfl⟩) (fun n h=>⟨n,h,rfl⟩) h)
 obtain⟨z,⟨n,hq,e⟩,hz⟩:=this
 refine⟨n,hq,?_⟩
 rcases hz with ⟨h1,h2⟩|⟨k,h1⟩
 ·refine .inl ⟨h1,?_⟩
  rw[h2] at e
  simp only at e
  omega
 ·exact .inr ⟨k,by rw[h1,e]⟩
theorem vM (hR:Rel (C.G δ) I β (s.st nt b) a w) {lo hi:Option Operand} {len l r:Nat} (hl:(lo.map a.eval=none/\l=0)\/∃ k,lo.map a.eval=some (.int k (l:Int))) (hr:(hi.map a.eval=none/\r=len)\/∃ k,hi.map a.eval=some (.int k (r:Int))) (h1:l<=r) (h2:r<=len) (bb:Bool) (w':World) :
  (Instr.sliceBounds bb len len (lo.map a.eval) (hi.map a.eval) none).run C.cx.P w' = .ok (l,r,len) w' :=
 xk (P:=C.cx.P) (b:=bb) (len:=len) (cap:=len) (l:=(true,(l:Int))) (h:=(true,(r:Int))) (hr.imp (fun ⟨e,e'⟩=>⟨e,by rw[e']⟩) id) (hl.imp (fun ⟨e,e'⟩=>⟨e,by rw[e']; rfl⟩) id) (by simp) (by simp; omega) (by simp; omega) w'
theorem NC (hO:Ev.fR C.cx) (hR:Rel (C.G δ) I β (s.st nt b) a w) {t:TypeId} {g off:Nat} {lo hi:Option Operand} {q:PV->Bool} (h:Sa C s t g off lo hi q=true) :
  ∃ x r,q x=true/\x.Is w I β r/\∀ w',(Instr.sliceAt t (.pointer (some ⟨g,off,none⟩)) (lo.map a.eval) (hi.map a.eval) none).run C.cx.P w' = .ok r w':=by
 replace h:=ar h
 obtain⟨d,hu,h⟩:=h
 split at h
 ·rename_i n elem
  replace h:=ar h
  obtain⟨m,hm,h⟩:=h
  replace h:=ar h
  obtain⟨ag,Dd,h⟩:=h
  replace h:=cj h
  obtain⟨hc,h⟩:=h
  simp only[Bool.and_eq_true,Bool.or_eq_true,Nat.beq_eq] at hc
  replace h:=sn hR h
  obtain⟨l,h,hl⟩:=h
  replace h:=sn hR h
  obtain⟨r,h,hr⟩:=h
  replace h:=cj h
  obtain⟨hb,h⟩:=h
  simp only[Bool.and_eq_true] at hb
  have h1:=xP hb.1.1.1
  have h2:=Nat.le_of_ble_eq_true hb.1.1.2
  have h3:=Nat.le_of_ble_eq_true hb.1.2
  have h4:=Nat.le_of_ble_eq_true hb.2
  replace h:=ar h
  obtain⟨cs,htab,h⟩:=h
  replace h:=jz h
  obtain⟨hd,h⟩:=h
  obtain⟨es,hq,hlen,oh⟩:=mQ hc.2 h
  have cU:(g,cs)∈C.jl:=Ev.dJ htab
  obtain⟨M8,MI⟩:=hR.au.lV g cs cU
  have Dh:Nat.add off (Nat.mul l m)<=cs.length:=hd
  have hat2:cL w I (cs.drop (Nat.add off (Nat.mul l m))) g (Nat.add off (Nat.mul l m)):=by
   have:=(cL.split (xs:=cs.take (Nat.add off (Nat.mul l m))) (ys:=cs.drop (Nat.add off (Nat.mul l m))) (by rw[List.take_append_drop]; exact MI)).2
   rwa [List.length_take,Nat.min_eq_left Dh,Nat.zero_add] at this
  have oF:es.length<=maxLen:=by
   have e:es.length=r - l:=hlen
   omega
  refine⟨_,.slice (some ⟨g,off+l*m,none⟩) (r - l) (n - l),hq,?_,fun w'=>?_⟩
  ·simp only[PV.Is]
   have e:es.length=r - l:=hlen
   refine⟨some ⟨g,off+l*m,none⟩,n - l,by rw[e],by omega,oF,fun g' o' e=>?_,fun _=>⟨g,_,rfl,M8,xP hc.1⟩⟩
   cases e
   exact oh w I g _ hat2
  ·have cN:¬ n=l:=by omega
   simp only[Instr.sliceAt,Sem.run_bind,run_underlying (hO.un hu),Result.andThen_ok,Instr.sureAddr,Sem.run_pure,vM hR hl hr h2 h3,Ev.di hO hm]
   simp[cN,Ev.gx]
 ·cases h
theorem ND (hO:Ev.fR C.cx) (hR:Rel (C.G δ) I β (s.st nt b) a w) {t:TypeId} {u:ByteArray} (hu:C.cx.fg t=some .string) {lo hi:Option Operand} {q:PV->Bool} (h:Nj s u lo hi q=true) :
  ∃ x r,q x=true/\x.Is w I β r/\∀ w',(Instr.sliceAt t (.string u) (lo.map a.eval) (hi.map a.eval) none).run C.cx.P w' = .ok r w':=by
 unfold Nj at h
 rw[cX,Nat.zero_add] at h
 have eL:u.data.toList.length=u.size:=by rw[Array.length_toList]; rfl
 rw[eL] at h
 replace h:=sn hR h
 obtain⟨l,h,hl⟩:=h
 replace h:=sn hR h
 obtain⟨r,h,hr⟩:=h
 replace h:=cj h
 obtain⟨hb,h⟩:=h
 simp only[Bool.and_eq_true] at hb
 have h2:=Nat.le_of_ble_eq_true hb.1
 have h3:=Nat.le_of_ble_eq_true hb.2
 replace h:=jz h
 obtain⟨_,h⟩:=h
 replace h:=jA h
 obtain⟨_,h⟩:=h
 refine⟨_,.string (u.extract l r),h,?_,fun w'=>?_⟩
 ·simp only[PV.Is]
  refine⟨?_,rfl⟩
  congr 1
  refine ByteArray.ext (Array.toList_inj.1 ?_)
  rw[ByteArray.data_extract,Array.toList_extract]
  simp[List.extract]
 ·simp only[Instr.sliceAt,Instr.slice,Sem.run_bind,run_underlying (hO.un hu),Result.andThen_ok]
  simp only[Option.isSome_none,Bool.false_eq_true,if_false,Sem.run_pure,Sem.run_bind,Result.andThen_ok]
  rw[vM hR hl hr h2 h3]
  rfl
theorem Jl {x:PV} {q:PV->Bool} (h:Ir s x (fun n=>q (.lit .i64 (.ofNat n)))=true):HH (eD s.h s.n) x (p9 q):=by
 unfold Ir at h
 unfold HH
 split at h
 ·exact bH h
 ·rw[cX,Nat.zero_add] at h
  exact fun _=>Dy h
 ·exact bH h
 ·replace h:=ar h
  obtain⟨bl,hb,h⟩:=h
  refine a_ (ga hb).1 ?_
  split at h
  ·rename_i hk
   replace h:=cj h
   obtain⟨hc,h⟩:=h
   simp only[Bool.and_eq_true] at hc
   rw[hc.1]
   simp only[cond_true,hk]
   rw[cX,Nat.zero_add,eO] at h
   rw[gA,Nat.zero_add,aj.w8]
   exact bH h
  ·cases h
 ·cases h
theorem Jm {f:Int->Int->Int} {x y:PV} {q:PV->Bool} (h:cmm f x y q=true):oz f x y (p9 q):=by
 unfold cmm at h
 split at h
 ·rw[tq] at h; exact bH h
 ·cases h
set_option maxHeartbeats 1000000 in
theorem zT (hO:Ev.fR C.cx) (hR:Rel (C.G δ) I β (s.st nt b) a w) {o:Oper} {q:PV->Bool} (h:o7 C s o.op q=true) :
  ∃ x r,q x=true/\x.Is w I β r/\∀ w',(execOp a.eval o).run C.cx.P w' = .ok (.value r) w':=by
 have conv:nu C.cx (s.st nt b) o.op (p9 q)->∃ x r,q x=true/\x.Is w I β r/\∀ w',(execOp a.eval o).run C.cx.P w' = .ok (.value r) w':=fun h=>by
  obtain⟨x,r,⟨y,hy,hle⟩,hx,bp⟩:=oG hO hR h
  exact⟨y,r,hy,hle _ _ _ _ hx,bp⟩
 obtain⟨dst,op,ty,pos,after,guard⟩:=o
 simp only at h conv
 unfold o7 at h
 split at h
 ·exact conv (cp (fun _ h=>bH h) h)
 ·exact conv (cp (fun _ h=>bH h) h)
 ·refine conv (cp (fun c hc=>?_) h)
  split at hc
  ·exact cp (fun _ h=>bH h) hc
  ·exact cp (fun _ h=>bH h) hc
  ·cases hc
 ·exact conv (cp (fun x hx=>cp (fun y hy=>Nn hy) hx) h)
 ·exact conv (cp (fun x hx=>Sg hx) h)
 ·refine conv ?_
  replace h:=ar h
  obtain⟨d1,h1,h⟩:=h
  replace h:=ar h
  obtain⟨d2,h2,h⟩:=h
  refine cp (fun x hx=>a_ h1 (a_ h2 ?_)) h
  split at hx
  ·exact bH (tu hx)
  ·cases hx
 ·refine conv (cp (fun x hx=>?_) h)
  split at hx
  ·exact bH hx
  ·exact bH hx
  ·exact bH hx
  ·cases hx
 ·exact conv (E6 (fun _ h=>bH h) h)
 ·exact conv (cp (fun x hx=>uZ hx) h)
 ·refine conv ?_
  replace h:=ar h
  obtain⟨d,h1,h⟩:=h
  refine a_ h1 (cp (fun x hx=>?_) h)
  split at hx
  ·replace hx:=ar hx
   obtain⟨fd,hf,hx⟩:=hx
   exact a_ hf (me (fun _ h=>bH h) hx)
  ·cases hx
 ·exact conv (cp (fun x hx=>cp (fun i hi=>u1 hi) hx) h)
 ·exact conv (cp (fun x hx=>cp (fun i hi=>E7 hi) hx) h)
 ·refine conv (cp (fun x hx=>?_) h)
  split at hx
  ·replace hx:=pa hx
   obtain⟨c,hc,hx⟩:=hx
   exact a_ hc (bH hx)
  ·cases hx
 ·rename_i t x lo hi
  replace h:=aD.cd hR (cp (nt:=nt) (b:=b) (q':=fun x=>(match x with
   | .gp g off=>Sa C s t g off lo hi q
   | .val (.string u)=>aK (C.cx.fg t) fun d=>(match d with
    | .string=>Nj s u lo hi q
    | _=>false)
   | x=>xF C s t x lo hi q)=true) (fun x hx=>hx) h)
  obtain⟨y,h,hy⟩:=h
  have ex:∀ w',(execOp a.eval ⟨dst,.slice t x lo hi none,ty,pos,after,guard⟩).run C.cx.P w'=((Instr.sliceAt t (a.eval x) (lo.map a.eval) (hi.map a.eval) none).run C.cx.P w').andThen fun v w=>.ok (.value v) w:=fun w'=>by
   unfold execOp
   simp only[Sem.run_bind,Sem.run_pure,Option.map_none]
  split at h
  ·simp only[PV.Is] at hy
   obtain⟨z,r,h1,h2,h3⟩:=NC hO hR h
   exact⟨z,r,h1,h2,fun w'=>by rw[ex,hy,h3]; rfl⟩
  ·simp only[PV.Is] at hy
   replace h:=ar h
   obtain⟨d,hd,h⟩:=h
   split at h
   ·obtain⟨z,r,h1,h2,h3⟩:=ND hO hR hd h
    exact⟨z,r,h1,h2,fun w'=>by rw[ex,hy.1,h3]; rfl⟩
   ·cases h
  ·obtain⟨z,r,⟨z',hz,hle⟩,h2,h3⟩:=vw hO hR (E8 (nt:=nt) (b:=b) h) hy
   exact⟨z',r,hz,hle _ _ _ _ h2,fun w'=>by rw[ex]; rw[Option.map_none] at h3; rw[h3]; rfl⟩
 ·refine conv ?_
  replace h:=ar h
  obtain⟨d,h1,h⟩:=h
  refine a_ h1 (cp (fun x hx=>?_) h)
  split at hx
  ·exact bH hx
  ·exact Jl hx
  ·split at hx
   ·rename_i u
    rw[cX,Nat.zero_add,show u.data.toList.length=u.size by rw[Array.length_toList]; rfl] at hx
    exact bH hx
   ·cases hx
  ·cases hx
 ·exact conv (cp (fun x hx=>cp (fun y hy=>Jm hy) hx) h)
 ·exact conv (cp (fun x hx=>cp (fun y hy=>Jm hy) hx) h)
 ·cases h
end
theorem xY:∀ {st:List aj} {l:Nat} {b:aj} {q:List aj->Prop},l < st.length->q (st.set l b)->oB st l b q
 | [],_,_,_,h,_=>by simp at h
 | _::st,0,b,q,_,h=>h
 | a::st,n+1,b,q,hl,h=>xY (st:=st) (q:=fun l=>q (a::l)) (by simpa using hl) h
theorem DL:∀ {st:List aj} {b:aj} {q:List aj->Prop},q (st++[b])->sF st b q
 | [],_,_,h=>h
 | a::st,b,q,h=>DL (st:=st) (q:=fun l=>q (a::l)) h
abbrev Kq (nt b:Nat) (q:PV->CS->Bool) (v:PV) (s2:aD):Prop:=∃ s1:CS,s2=s1.st nt b/\q v s1=true
section
variable {w w':World} {I I':Nat->Prop} {β ay:an} {C:ib} {δ:List Deferred} {s:CS} {nt b:Nat} {a:Act}
theorem NF (x:PV):nd x=x.iC:=by cases x<;>rfl
theorem mm {l:List PV} (h:nh nd l=true):l.all PV.iC=true:=by
 rw[Dw] at h
 rw[← h]
 congr 1
theorem tI {bl:aj} (h:Dp bl=true):bl.mem=true:=by
 obtain⟨k,ty,n,m,live,cs⟩:=bl
 obtain⟨h1,h2⟩:=cj h
 have nP:live=true:=h1
 subst nP
 cases k<;>first|rfl|cases h2
theorem qx {bl:aj} (h:yQ bl=true):bl.mem=true/\bl.can=true:=by
 obtain⟨h1,h2⟩:=cj h
 refine⟨tI h1,?_⟩
 obtain⟨h3,_⟩:=cj h1
 obtain⟨k,ty,n,m,live,cs⟩:=bl
 have h3':live=true:=h3
 subst h3'
 cases m<;>first|rfl|cases h2
theorem B3 (bl:aj) (cs:List PV):bl.wcs cs=bl.c8 cs:=by cases bl; rfl
theorem mn (s:CS) (nt b:Nat) (h:BM) (n:Nat):(s.st nt b).store (eD h n)=(⟨s.t,h,n⟩:CS).st nt b:=rfl
theorem po {t:TypeId} {x:PV} {q:PV->Bool} {q':PV->Prop} (hq:∀ x,q x=true->q' x) (h:rh C s t x q=true):nv (C.G δ) (eD s.h s.n) t x q':=by
 unfold rh at h
 split at h
 ·replace h:=ar h
  obtain⟨bl,hb,h⟩:=h
  replace h:=cj h
  obtain⟨hm,h⟩:=h
  exact a_ (ga hb).1 (fX (tI hm) (me hq h))
 ·exact me hq h
 ·replace h:=ar h
  obtain⟨cs,hc,h⟩:=h
  exact a_ hc (me hq h)
 ·cases h
def NG (st:List aj) (n:Nat) (x v:PV) (q:List aj->Prop):Prop:=match x with
 | .ptr l off=>aU st[l]? fun b=>bif b.mem && b.can then aU (rE b.cs v.cells off) fun cs=>dv cs fun cs=>oB st l (b.c8 cs) q else False
 | .dpt l i m off=>aU st[l]? fun b=>(match b.k with
  | .dyn=>bif b.can && Nat.beq b.size n && Nat.beq m n && Nat.beq off 0 && v.elem then i < b.cs.length/\oB st l (b.c8 (b.cs.set i v.norm)) q else False
  | _=>False)
 | .pti l off i m=>aU st[l]? fun b=>bif b.mem && b.can && Nat.beq n 1 && Nat.blt 0 m then ∃ k:Nat,0<=i/\i < k/\aU (nw i v off m k 0 b.cs) fun cs=>dv cs fun cs=>off+i.toNat*m < b.cs.length/\oB st l (b.c8 cs) q else False
 | _=>False
theorem B4 {n:Nat} {x v:PV} {q:BM->Bool} {q':List aj->Prop} (hq:∀ h,q h=true->q' (eD h s.n)) (h:xG s x v q=true):NG (eD s.h s.n) n x v q':=by
 unfold xG at h
 split at h
 ·rename_i l off
  replace h:=ar h
  obtain⟨bl,hb,h⟩:=h
  have cO:=ga hb
  replace h:=cj h
  obtain⟨hw,h⟩:=h
  replace h:=k9 h
  obtain⟨h1,h⟩:=h
  obtain⟨h',kL,hg⟩:=BM.aT h
  refine a_ cO.1 (fX (by rw[(qx hw).1,(qx hw).2]; rfl) (a_ (x:=bl.cs.take off++v.cells++bl.cs.drop (off+v.cells.length)) ?_ (dP ?_)))
  ·unfold rE
   rw[if_pos (Nat.ble_eq_true_of_le h1)]
  ·refine xY (by rw[cV]; exact cO.2.2) ?_
   rw[← B3,← se cO.2.2 hg]
   exact hq _ kL
 ·cases h
theorem Fl {t:TypeId} {x v:PV} {q:BM->Bool} {q':List aj->Prop} (hq:∀ h,q h=true->q' (eD h s.n)) (h:BQ C s t x v q=true):xa (C.G δ) (eD s.h s.n) t x v q':=by
 unfold BQ at h
 replace h:=ar h
 obtain⟨n,hn,h⟩:=h
 rw[cX,Nat.zero_add] at h
 replace h:=cj h
 obtain⟨hc,h⟩:=h
 simp only[Bool.and_eq_true] at hc
 refine a_ hn ?_
 rw[hc.1.1,hc.1.2,mm hc.2]
 have kT:=B4 (n:=n) hq h
 have iW:=hc.2
 cases v with
 | tup cs=>cases iW
 | _=>exact kT
theorem DM {bl:aj} {q:Nat->CS->Bool} (h:rM s bl q=true):∃ s1:CS,q s.n s1=true/\s1.st nt b=(s.st nt b).store ((s.st nt b).st++[bl]):=by
 obtain⟨t,hh,n⟩:=s
 unfold rM at h
 obtain⟨h',hq,hg⟩:=BM.aT h
 refine⟨_,hq,?_⟩
 show (⟨nt,t,eD h' (n+1),b,[]⟩:aD)=⟨nt,t,eD hh n++[bl],b,[]⟩
 rw[Dx hg]
theorem mR {bl:aj} {q:Nat->CS->Bool} {K:PV->aD->Prop} {x:PV} (hK:∀ s1:CS,q s.n s1=true->K x (s1.st nt b)) (h:rM s bl q=true):sF (s.st nt b).st bl fun st=>K x ((s.st nt b).store st):=by
 obtain⟨s1,hq,e⟩:=DM (nt:=nt) (b:=b) h
 refine DL ?_
 rw[← e]
 exact hK s1 hq
theorem DN {bl:aj} {K:PV->aD->Prop} (h:sF (s.st nt b).st bl fun st=>K (.ptr s.n 0) ((s.st nt b).store st)):y4 (s.st nt b) bl K:=by
 unfold y4
 rw[gA,Nat.zero_add,show (s.st nt b).st.length=s.n from cV ..]
 exact h
theorem pq {bl:aj} {K:PV->aD->Prop} (h:sF (s.st nt b).st bl fun st=>K (.wref s.n) ((s.st nt b).store st)):kf (s.st nt b) bl K:=by
 unfold kf
 rw[gA,Nat.zero_add,show (s.st nt b).st.length=s.n from cV ..]
 exact h
theorem zU:∀ {os:List Operand} {q:List PV->Bool} {q':List PV->Prop},(∀ x,q x=true->q' x)->mb s.t os q=true->y7 (s.st nt b) os q'
 | [],q,q',hq,h=>hq _ h
 | o::os,q,q',hq,h=>cp (fun x hx=>zU (os:=os) (fun l hl=>hq _ hl) hx) h
end
section
variable {w w':World} {I I':Nat->Prop} {β ay:an} {C:ib} {δ:List Deferred} {s:CS} {nt b:Nat} {a:Act}
def tJ:Src->List PV
 | .stat cs=>cs
 | .told es=>es.flatMap PV.cells
theorem zV {n:Nat}:∀ {es:List PV} {xs:List Value},eE w I es n xs->aS w I β (es.flatMap PV.cells) xs
 | [],xs,h=>by
  have:xs = []:=List.eq_nil_of_length_eq_zero (by rw[h.1]; simp)
  subst this
  exact⟨rfl,fun j c hc=>by simp at hc⟩
 | e::es,xs,h=>by
  obtain⟨h1,h2⟩:=h.2 0 e rfl
  have hl:n<=xs.length:=by rw[h.1,List.length_cons,Nat.add_mul,Nat.one_mul]; omega
  have ht:eE w I es n (xs.drop n):=by
   have:=eE.drop h 1
   simpa using this
  have hh:aS w I β e.cells (xs.take n):=by
   refine⟨by rw[List.length_take,Nat.min_eq_left hl,h1],fun j c hc=>?_⟩
   obtain⟨v,hv,hi,ho⟩:=h2 j c hc
   have hj:j < n:=by rw[← h1]; exact (List.getElem?_eq_some_iff.1 hc).1
   exact⟨v,by rw[List.getElem?_take,if_pos hj]; simpa using hv,Is.anywhere hi,ho⟩
  have:=aS.append hh (zV ht)
  rw[List.take_append_drop] at this
  rw[List.flatMap_cons]
  exact this
theorem mo {n:Nat} {src:Src} {xs:List Value} (h:oJ w I β n src xs):aS w I β (tJ src) xs:=by
 cases src with
 | stat cs=>exact h
 | told es=>exact zV h
theorem xZ {n:Nat} {x:PV} {q:List PV->Bool} (h:E5 s n x q=true):ES C.cx (eD s.h s.n) n x (fun src=>q (tJ src)=true):=by
 unfold E5 at h
 unfold ES
 split at h
 ·exact h
 ·replace h:=cj h
  obtain⟨h1,h⟩:=h
  rw[zx] at h
  exact fX h1 h
 ·replace h:=ar h
  obtain⟨bl,hb,h⟩:=h
  replace h:=cj h
  obtain⟨hm,h⟩:=h
  replace h:=jz h
  obtain⟨h1,h⟩:=h
  replace h:=jA h
  obtain⟨h2,h⟩:=h
  rw[List.length_drop] at h2
  refine a_ (ga hb).1 (fX ?_ (dP h))
  rw[tI hm,Bool.true_and]
  refine Nat.ble_eq_true_of_le ?_
  have h2':_*n<=bl.cs.length - _:=h2
  omega
 ·replace h:=ar h
  obtain⟨bl,hb,h⟩:=h
  replace h:=cj h
  obtain⟨hc,h⟩:=h
  refine a_ (ga hb).1 (fX hc ?_)
  split at h
  ·rename_i hk
   simp only[hk]
   exact h
  ·cases h
 ·cases h
theorem zW {elem:TypeId} {n:Nat} {x:PV} {q:List PV->BM->Bool} (h:It s elem n x q=true):y6 (eD s.h s.n) elem n x (fun dst jn=>∃ cs h,dst = .stat cs/\jn=eD h s.n/\q cs h=true):=by
 unfold It at h
 unfold y6
 split at h
 ·exact⟨_,_,rfl,rfl,h⟩
 ·replace h:=ar h
  obtain⟨bl,hb,h⟩:=h
  have cO:=ga hb
  replace h:=cj h
  obtain⟨hc,h⟩:=h
  simp only[Bool.and_eq_true] at hc
  refine a_ cO.1 (fX (by rw[(qx hc.1.1).2,hc.1.2,hc.2]; rfl) ?_)
  split at h
  ·rename_i hk
   simp only[hk]
   obtain⟨h',hq,hg⟩:=BM.aT h
   refine a_ cO.1 ?_
   obtain⟨k,ty,n',m,live,cs⟩:=bl
   refine xY (by rw[cV]; exact cO.2.2) ⟨_,h',rfl,?_,hq⟩
   rw[se cO.2.2 hg]
   rfl
  ·cases h
 ·cases h
theorem tK {s:aD} (hR:Rel (C.G δ) I β s a w) {n:Nat} {elem:TypeId} {v:Value} {jn:List aj} {xs news:List Value} {gF len:Nat} {cs ds:List PV} (fS:0 < n) (hk:aC I β jn w) (uV:Ext I β s.st w I β jn w) (qj:jn.length=s.st.length) (hv:∀ g,v.ownBlock=some g->Wr β s.st g/\¬ I g/\¬ gD β jn g)
  (rJ:aS w I β cs xs) (mI:xs.length=gF*n) (ja:aS w I β ds news) (rI:news.length=len*n) (sP:0 < len) {r:Value} {w':World} (sO:w'.ownsRow 0 elem n r (gF+len) (xs++news)) (hg:w.grownBy w' v.ownBlock) (iE:r.ownBlock=v.ownBlock\/r.ownBlock=some w.heap.size)
  {K:PV->aD->Prop} (h:kf (s.store jn) ⟨.arr,elem,n,.w,true,cs++ds⟩ K):bF (C.G δ) s I β w a K r w':=by
 have oM:∀ g,Wr β jn g->Wr β s.st g:=fun g hw=>by
  have:=uV.wr g
  rcases Nat.lt_or_ge g w.heap.size with bZ|Yw
  ·exact this bZ hw
  ·obtain⟨l,b,p,o,h1,h2,h3,h4,h5⟩:=hw
   have:=hk.cH ⟨l,b,p,o,h1,h2,h4,h5⟩
   omega
 have oH:∀ g,I g->w'.heap[g]?=w.heap[g]?:=fun g hI=>hg.block g (hR.au.au g hI) fun e=>(hv g e.symm).2.1 hI
 have xj:cs.length=gF*n:=by rw[← rJ.1,mI]
 have G9:ds.length=len*n:=by rw[← ja.1,rI]
 rcases sO.2 with ⟨rfl,h0⟩|⟨g,cap,cur,rfl,_,gV,hle,oF,fj,cz⟩
 ·omega
 ·refine nR (p:=⟨some (g,0),gF+len,cap⟩) hR hk oM qj hv hg h (fun g' o e=>by
   cases e
   simp only[Value.ownBlock] at iE
   exact iE.imp (fun e=>e.symm) (fun e=>by cases e; rfl)) rfl fun hO hI=>⟨⟨some (g,0),gF+len,cap⟩,an.dy ..,?_⟩
  refine⟨g,cur,(0,0),rfl,gV,fun j c hj=>?_,hO g rfl,by simp only[List.length_append]; rw[Nat.add_mul]; omega,hle,oF,fj,fS⟩
  obtain⟨v',h1,h2,h3⟩:=(aS.append rJ ja).2 j c hj
  have sL:cur[j]?=some v':=by
   rw[← cz,List.getElem?_take] at h1
   split at h1
   ·simpa using h1
   ·cases h1
  exact⟨v',by rw[Nat.zero_add]; exact sL,PV.Is.mono (fun _ h=>h) hI c β _ v' (fun l p' _ dM=>an.iD hk _ l p' dM) h2,h3⟩
end
open Go Go.RowKit Go.Lib
section
variable {w w':World} {I I':Nat->Prop} {β ay:an} {C:ib} {δ:List Deferred} {s:CS} {nt b:Nat} {a:Act}
theorem Jn (hR:Rel (C.G δ) I β (s.st nt b) a w) {d:PV} {v:Value} (h:Iu s d=true) (hd:d.Is w I β v):∃ ad m c,v = .slice ad m c/\m<=c:=by
 unfold Iu at h
 split at h<;>try simp only[PV.Is] at hd
 ·exact⟨none,0,0,hd,Nat.le_refl _⟩
 ·obtain⟨ad,cap,h1,h2,_⟩:=hd
  exact⟨_,_,_,h1,h2⟩
 ·obtain⟨p,g,o,cap,_,_,h1,h2⟩:=hd
  exact⟨_,_,_,h1,h2⟩
 ·replace h:=ar h
  obtain⟨bl,hb,h⟩:=h
  replace h:=cj h
  obtain⟨hl,h⟩:=h
  obtain⟨p,hp,rfl⟩:=hd
  obtain⟨q,hq,hk⟩:=hR.heap.dX _ bl (ga hb).1 hl
  rw[hp] at hq
  cases hq
  split at h
  ·rename_i ji
   rw[ji] at hk
   obtain⟨g,arr,fr,ha,_,_,_,_,hle,_⟩:=hk
   exact⟨some ⟨g,0,none⟩,p.len,p.cap,(by unfold na.whole; rw[ha]),hle⟩
  ·cases h
 ·cases h
theorem qy {P:Program} {w:World} {ty:TypeId} (t e:TypeId) (i:TypeInfo) (ht:P.underlying t=some (.slice e)) (hi:P.info? e=some i) (b ad:Option Addr) (n cap c:Nat) (hle:n<=cap):(Builtin.append_ #[t,t] ty #[.slice b n cap,.slice ad 0 c]).run P w = .ok (.slice b n cap) w:=by
 cases ad with
 | none=>exact lD t ty e i ht hi b n cap c hle
 | some ad =>
  have hf:=run_firstCells_some (P:=P) w i.size 0 ad 0 c [] (by simp) (fun j v h=>by simp at h)
  cases b<;>simp[Builtin.append_,run_underlying ht,sizeOf,typeInfo,hi,Builtin.lenOf,hle,hf,storeCells]
theorem B5 (hG:fD (C.G δ)) (hR:Rel (C.G δ) I β (s.st nt b) a w) {t ty:TypeId} {d x:PV} {u v:Value} {q:PV->CS->Bool} (h:sd C s t d x q=true) (hd:d.Is w I β v) (hx:x.Is w I β u) :
  ∃ r w',(Builtin.append_ #[t,t] ty #[v,u]).run C.cx.P w = .ok r w'/\bF (C.G δ) (s.st nt b) I β w a (Kq nt b q) r w':=by
 unfold sd at h
 replace h:=ar h
 obtain⟨td,hu,h⟩:=h
 split at h
 ·rename_i elem
  replace h:=ar h
  obtain⟨n,hn,h⟩:=h
  replace h:=cj h
  obtain⟨fS,h⟩:=h
  have fS:0 < n:=Nat.le_of_ble_eq_true fS
  replace h:=oL hG.ok hR.heap fS (xZ (C:=C) h) hx
  obtain⟨src,ad,len,c,news,h,rfl,ja,rI,G5,zd⟩:=h
  have ZP:=mo ja
  have G9:(tJ src).length=len*n:=by rw[← ZP.1,rI]
  unfold o8 at h
  replace h:=ar h
  obtain⟨bE,yP,h⟩:=h
  replace h:=gj (w:=w) (I:=I) (β:=β) hG.ok (kq (fun _ h=>h) h)
  obtain⟨z,i,zv,h,hi,Bx,rF⟩:=h
  rw[cX,Nat.zero_add] at h
  replace h:=cj h
  obtain⟨Zk,h⟩:=h
  have Zk:z.length=n:=Nat.eq_of_beq_eq_true Zk
  obtain⟨i1,Qx,r9⟩:=Ev.gw hG.ok hn
  rw[hi] at Qx
  cases Qx
  obtain⟨i3,xu,EY⟩:=hG.bE _ (Ev.dJ yP)
  simp only at xu EY
  rw[hi] at xu
  cases xu
  have Qy:=rF.length
  simp only[Array.length_toList] at Qy
  split at h
  ·rename_i x4
   rw[x4] at G9
   have ze:len=0:=by
    rcases Nat.eq_zero_or_pos len with h0|h0
    ·exact h0
    ·have:=Nat.mul_pos h0 fS
     rw[← G9] at this
     simp at this
   subst ze
   replace h:=cj h
   obtain⟨b',m,c',rfl,hle⟩:=Jn hR h.1 hd
   exact⟨_,w,qy t elem i (hG.ok.un hu) hi b' ad m c' c hle,bF.same hR ⟨s,rfl,h.2⟩ hd⟩
  ·rename_i x4
   have sP:0 < len:=by
    rcases Nat.eq_zero_or_pos len with h0|h0
    ·subst h0
     rw[Nat.zero_mul] at G9
     exact absurd (List.eq_nil_of_length_eq_zero G9) x4
    ·exact h0
   replace h:=sM hR.heap fS (zW h) hd
   obtain⟨dst,jn,xs,gF,⟨cs,hh,rfl,rfl,h⟩,dh,rJ,mI,hk,qj,uV,hv,hvf⟩:=h
   rw[k8,cX,Nat.zero_add] at h
   replace h:=cj h
   obtain⟨iW,h⟩:=h
   simp only[Bool.and_eq_true] at iW
   have xj:cs.length=gF*n:=by rw[← rJ.1,mI]
   have e1:gF<=gF*n:=Nat.le_mul_of_pos_right _ fS
   have e2:len<=len*n:=Nat.le_mul_of_pos_right _ fS
   have u3:=Nat.le_of_ble_eq_true iW.1
   have dS:=Nat.le_of_ble_eq_true iW.2
   rw[List.length_append] at u3 dS
   have j6:(gF+len)*bE<=140737488355328:=Nat.le_trans (Nat.mul_le_mul_right _ (by omega)) u3
   rcases G5 with h0|⟨g,o,rfl⟩
   ·omega
   ·obtain⟨r,w',hr,h3,h4,_,h5⟩:=run_append_own_at (P:=C.cx.P) w 0 t ty elem i zv n bE (hG.ok.un hu) hi Bx r9 EY (by omega) fS v gF xs dh ⟨g,o,none⟩ len c news rI (fun j u hj=>by
     rw[Ev.gx]; exact zd g o rfl j u hj) ja.BD (by omega) j6 (Nat.zero_le _)
    refine⟨r,w',hr,tK hR fS hk uV qj hv rJ mI ZP rI sP h3 h4 h5 ?_⟩
    rw[mn]
    exact pq (s:=⟨s.t,hh,s.n⟩) (mR (fun s1 hq=>⟨s1,rfl,hq⟩) h)
 ·cases h
theorem B6 {P:Program} {w w':World} {r:Value} (t u ty e:TypeId) (i:TypeInfo) (ht:P.underlying t=some (.slice e)) (hu:P.underlying u=some .string) (hi:P.info? e=some i) (hz:i.zero=some (.int .u8 0))
  (QS:i.size=1) (yP:i.bytes=1) (v:Value) (n:Nat) (xs:List Value) (dh:w.ownsRow 0 e 1 v n xs) (s:ByteArray) (h0:0 < s.size) (h63:n+s.size<=maxLen) (hbytes:n+s.size<=140737488355328)
  (hr:(Builtin.append_ #[t,u] ty #[v,.string s]).run P w = .ok r w'):r.ownBlock=v.ownBlock\/r.ownBlock=some w.heap.size:=by
 have hsmall:n+s.size<=9223372036854775807:=by simp only[maxLen] at h63; omega
 have mI:xs.length=n:=by simpa using dh.1
 rcases dh.2 with ⟨rfl,rfl⟩|⟨g,cap,cur,rfl,hbg,hg,hnc,hcm,fj,cz⟩
 ·rw[run_append_nil_string (P:=P) w t u ty e i (.int .u8 0) ht hu hi hz s (by omega) (by omega) (by rw[yP]; omega)] at hr
  injection hr with e1 e2
  subst e1
  exact .inr rfl
 ·by_cases ZQ:n+s.size<=cap
  ·have NH:cur.size=cap:=by simpa using fj
   rw[run_append_room_string (P:=P) w t u ty e i ht hu hi QS g n cap cur hg s ZQ (by omega)] at hr
   injection hr with e1 e2
   subst e1
   exact .inl rfl
  ·have holds:∀ j u,xs[j]?=some u->w.cell? ((⟨g,0,none⟩:Addr).add j)=some u:=dh.cells (g:=g) rfl
   rw[run_append_grow_string (P:=P) w t u ty e i (.int .u8 0) ht hu hi hz ⟨g,0,none⟩ n cap xs (by rw[QS]; simpa using mI) holds s (by omega) (by omega) (by rw[yP]; exact growslice_fits (by omega) (by omega))] at hr
   injection hr with e1 e2
   subst e1
   exact .inr rfl
theorem vN:∀ (l:List UInt8) (q:List PV->Bool),tl l q=q (l.map fun u=>.lit .u8 u.toNat)
 | [],q=>rfl
 | u::l,q=>by rw[tl,eO,vN l]; rfl
theorem zX (u:ByteArray):aS w I β (u.data.toList.map fun u=>.lit .u8 u.toNat) (strCells u):=by
 refine⟨by simp[strCells],fun j c hc=>?_⟩
 rw[List.getElem?_map] at hc
 cases hu:u.data.toList[j]? with
 | none=>rw[hu] at hc; cases hc
 | some x =>
  rw[hu] at hc
  cases hc
  refine⟨.int .u8 x.toNat,?_,rfl,rfl⟩
  unfold strCells
  rw[List.getElem?_map,hu]
  rfl
theorem zY (hG:fD (C.G δ)) (hR:Rel (C.G δ) I β (s.st nt b) a w) {t t' ty:TypeId} {d:PV} {u:ByteArray} {v:Value} {q:PV->CS->Bool} (h:o9 C s t t' d (u.data.toList.map fun u=>.lit .u8 u.toNat) q=true) (hd:d.Is w I β v) :
  ∃ r w',(Builtin.append_ #[t,t'] ty #[v,.string u]).run C.cx.P w = .ok r w'/\bF (C.G δ) (s.st nt b) I β w a (Kq nt b q) r w':=by
 unfold o9 at h
 replace h:=ar h
 obtain⟨td,hu,h⟩:=h
 split at h
 ·rename_i elem
  replace h:=ar h
  obtain⟨u',Bv,h⟩:=h
  split at h
  ·replace h:=ar h
   obtain⟨z,hz,h⟩:=h
   split at h
   ·replace h:=ar h
    obtain⟨n,hn,h⟩:=h
    replace h:=ar h
    obtain⟨by1,ZR,h⟩:=h
    replace h:=cj h
    obtain⟨G6,h⟩:=h
    simp only[Bool.and_eq_true] at G6
    have lT:n=1:=Nat.eq_of_beq_eq_true G6.1
    have ZS:by1=1:=Nat.eq_of_beq_eq_true G6.2
    subst lT
    subst ZS
    split at h
    ·cases h
    ·rename_i x4
     unfold o8 at h
     replace h:=ar h
     obtain⟨bE,yP,h⟩:=h
     rw[ZR] at yP
     cases yP
     replace h:=gj (w:=w) (I:=I) (β:=β) hG.ok (kq (fun _ h=>h) h)
     obtain⟨z,i,zv,h,hi,Bx,rF⟩:=h
     rw[cX,Nat.zero_add] at h
     replace h:=cj h
     replace h:=h.2
     rw[Option.bind_eq_some_iff] at hz
     obtain⟨ti,Ru,hz⟩:=hz
     obtain⟨i2,r9,h21,YG⟩:=hG.ok.inf _ (Ev.dJ Ru)
     rw[hi] at r9
     cases r9
     obtain⟨i1,Qx,r9⟩:=Ev.gw hG.ok hn
     rw[hi] at Qx
     cases Qx
     obtain⟨i3,xu,EY⟩:=hG.bE _ (Ev.dJ ZR)
     simp only at xu EY
     rw[hi] at xu
     cases xu
     have hiz:i.zero=some (.int .u8 0):=YG.trans hz
     have hu0:0 < u.size:=by
      rcases Nat.eq_zero_or_pos u.size with h0|h0
      ·exact absurd (List.eq_nil_of_length_eq_zero (by rw[List.length_map,Array.length_toList]; exact h0)) x4
      ·exact h0
     split at h
     ·rename_i e0; exact absurd e0 x4
     replace h:=sM hR.heap (Nat.succ_pos 0) (zW h) hd
     obtain⟨dst,jn,xs,gF,⟨cs,hh,rfl,rfl,h⟩,dh,rJ,mI,hk,qj,uV,hv,hvf⟩:=h
     rw[k8,cX,Nat.zero_add] at h
     replace h:=cj h
     obtain⟨iW,h⟩:=h
     simp only[Bool.and_eq_true] at iW
     have xj:cs.length=gF*1:=by rw[← rJ.1,mI]
     have u3:=Nat.le_of_ble_eq_true iW.1
     have dS:=Nat.le_of_ble_eq_true iW.2
     have hsl:(u.data.toList.map fun u=>PV.lit .u8 u.toNat).length=u.size:=by rw[List.length_map,Array.length_toList]; rfl
     rw[List.length_append,hsl] at u3 dS
     replace u3:(cs.length+u.size)*1<=140737488355328:=u3
     obtain⟨r,w',hr,h3,h4,_⟩:=run_append_own_string (P:=C.cx.P) w 0 t t' ty elem i (hG.ok.un hu) (hG.ok.un Bv) hi hiz r9 EY v gF xs dh u (by omega) (by omega) (Nat.zero_le _)
     have h5:=B6 t t' ty elem i (hG.ok.un hu) (hG.ok.un Bv) hi hiz r9 EY v gF xs dh u hu0 (by omega) (by omega) hr
     refine⟨r,w',hr,tK hR (Nat.succ_pos 0) hk uV qj hv rJ mI (zX u) (len:=u.size) (by rw[strCells_length,Nat.mul_one]) hu0 h3 h4 h5 ?_⟩
     rw[mn]
     exact pq (s:=⟨s.t,hh,s.n⟩) (mR (fun s1 hq=>⟨s1,rfl,hq⟩) h)
   ·cases h
  ·cases h
 ·cases h
end
section
variable {w w':World} {I I':Nat->Prop} {β ay:an} {C:ib} {δ:List Deferred} {s:CS} {nt b:Nat} {a:Act} {st:List aj}
theorem Jo (hh:aC I β st w) {l:Nat} {bl:aj} {p:na} {g o off:Nat} {ds:List PV} {vs:List Value} (hb:st[l]?=some bl) (cU:bl.mem=true) (rG:bl.can=true) (hp:β l=some p) (ha:p.a=some (g,o))
  (Nq:bg w I ds β vs) (xp:∀ v∈vs,v.oneCell'=true) (hle:off+ds.length<=bl.cs.length) (h0:0 < ds.length) :
  ∃ arr ty,w.heap[g]?=some (.cells arr ty (0,0))/\o+off+vs.length<=arr.size /\
   aC I β (st.set l (bl.c8 (bl.cs.take off++ds++bl.cs.drop (off+ds.length)))) (w.setRow g (arr.toList.take (o+off)++vs++arr.toList.drop (o+off+vs.length)).toArray) /\
   Ext I β st w I β (st.set l (bl.c8 (bl.cs.take off++ds++bl.cs.drop (off+ds.length)))) (w.setRow g (arr.toList.take (o+off)++vs++arr.toList.drop (o+off+vs.length)).toArray):=by
 obtain⟨az,hm⟩:=nQ rG
 obtain⟨arr,ty,fr,gU,lQ,dh⟩:=hZ hh hb cU hp ha
 have BC:fr=(0,0):=(dh.1 (by rw[hm]; decide)).1
 subst BC
 have Zi:=Nq.length
 have eL:o+off+vs.length<=arr.size:=by
  obtain⟨z,hz,_⟩:=lQ _ _ (List.getElem?_eq_getElem (show off+ds.length - 1 < bl.cs.length by omega))
  have:=(Array.getElem?_eq_some_iff.1 hz).1
  omega
 obtain⟨cs,NH⟩:∃ cs,cs=bl.cs.take off++ds++bl.cs.drop (off+ds.length):=⟨_,rfl⟩
 have fj:rE bl.cs ds off=some cs:=by
  unfold rE
  rw[if_pos (Nat.ble_eq_true_of_le hle),NH]
 rw[← NH]
 obtain⟨k1,k2,k3,k4,k5,k6⟩:=ki bl cs
 have HY:cs.length=bl.cs.length:=by
  rw[NH]; simp only[List.length_append,List.length_take,List.length_drop]; omega
 have Nd:((arr.toList.take (o+off)++vs++arr.toList.drop (o+off+vs.length)).toArray).size=arr.size:=by
  simp only[List.size_toArray,List.length_append,List.length_take,List.length_drop,Array.length_toList]
  omega
 have rH:=xo fj lQ Nq xp eL
 refine⟨arr,ty,gU,eL,?_⟩
 exact hh.write (b':=bl.c8 cs) hb az hm hp ha gU (by rw[k5]; exact az) (by rw[k4]; exact hm) (arr':=(arr.toList.take (o+off)++vs++arr.toList.drop (o+off+vs.length)).toArray) (fun hI hO=>by
  have l6:=setRow_heap w g arr (arr.toList.take (o+off)++vs++arr.toList.drop (o+off+vs.length)).toArray ty (0,0) gU
  obtain⟨q',kL,hk⟩:=hh.dX l bl hb az
  rw[hp] at kL
  cases kL
  refine⟨p,hp,?_⟩
  rw[k1]
  unfold aj.mem at cU
  split at hk
  ·rename_i cm
   refine⟨g,o,_,ty,(0,0),ha,l6,?_,hO⟩
   rw[k6]; exact rH.mono (fun _ h=>h) hI (fun _ _ h=>h)
  ·rename_i cm
   obtain⟨g',RF,fr',cJ,HZ,_,_,h1,h2,h3,h4,h5⟩:=hk
   rw[ha] at cJ; cases cJ
   rw[gU] at HZ; cases HZ
   refine⟨g,_,(0,0),ha,by rw[k2]; exact l6,?_,hO,by rw[k6,k3,HY]; exact h1,h2,h3,by rw[k3,Nd]; exact h4,by rw[k3]; exact h5⟩
   rw[k6]; exact rH.mono (fun _ h=>h) hI (fun _ _ h=>h)
  ·rename_i cm
   rw[cm] at cU; simp at cU
  ·rename_i cm
   rw[cm] at cU; simp at cU
  ·rename_i cm
   rw[cm] at cU; simp at cU)
theorem aS.take {cs:List PV} {xs:List Value} (h:aS w I β cs xs) (k:Nat):aS w I β (cs.take k) (xs.take k):=by
 refine⟨by rw[List.length_take,List.length_take,h.1],fun j c hc=>?_⟩
 rw[List.getElem?_take] at hc
 split at hc
 ·rename_i hj
  obtain⟨v,hv,h1⟩:=h.2 j c hc
  exact⟨v,by rw[List.getElem?_take,if_pos hj]; exact hv,h1⟩
 ·cases hc
theorem aS.isL:∀ {cs:List PV} {xs:List Value},aS w I β cs xs->bg w I cs β xs/\∀ v∈xs,v.oneCell'=true
 | [],xs,h=>by
  have:xs = []:=List.eq_nil_of_length_eq_zero (by rw[h.1]; rfl)
  subst this
  exact⟨by simp only[bg],fun v hv=>absurd hv List.not_mem_nil⟩
 | c::cs,[],h=>by have:=h.1; simp at this
 | c::cs,x::xs,h=>by
  obtain⟨v,hv,h1,h2⟩:=h.2 0 c rfl
  simp only[List.getElem?_cons_zero,Option.some.injEq] at hv
  subst hv
  obtain⟨h3,h4⟩:=aS.isL (cs:=cs) (xs:=xs) ⟨by have:=h.1; simpa using this,fun j c hc=>by
   have:=h.2 (j+1) c (by simpa using hc)
   simpa using this⟩
  exact⟨by simp only[bg]; exact⟨h1,h3⟩,fun v hv=>by
   rcases List.mem_cons.1 hv with rfl|hv
   ·exact h2
   ·exact h4 v hv⟩
theorem tL {z:List PV} {vs:List Value} (h:bg w I z β vs):∀ n,bg w I (List.replicate n z).flatten β (List.replicate n vs).flatten
 | 0=>by simp only[List.replicate_zero,List.flatten_nil,bg]
 | n+1=>by
  rw[List.replicate_succ,List.flatten_cons,List.replicate_succ,List.flatten_cons]
  exact bg.append h (tL h n)
theorem Jp (hG:fD (C.G δ)) {t:TypeId} {l c:Operand} {q:PV->CS->Bool} {o:Oper} (h_:o.op = .makeSlice t l c) {call:eV} (h:BR C call s o q=true):fO (C.G δ) (s.st nt b) o (Kq nt b q):=fO.intro fun I β a w hR=>by
 unfold BR at h
 simp only[h_] at h
 replace h:=ar h
 obtain⟨d,hu,h⟩:=h
 split at h
 ·rename_i elem
  replace h:=ar h
  obtain⟨n,hn,h⟩:=h
  replace h:=ar h
  obtain⟨bE,yP,h⟩:=h
  replace h:=gj (w:=w) (I:=I) (β:=β) hG.ok (kq (fun _ h=>h) h)
  obtain⟨z,i,v,h,hi,Bx,rF⟩:=h
  replace h:=aD.cd hR (cp (nt:=nt) (b:=b) (fun _ h=>h) h)
  obtain⟨x,h,hx⟩:=h
  replace h:=aD.cd hR (cp (nt:=nt) (b:=b) (fun _ h=>h) h)
  obtain⟨y,h,hy⟩:=h
  split at h
  ·rename_i m1 m2
   rw[cX,Nat.zero_add] at h
   replace h:=cj h
   obtain⟨hc,h⟩:=h
   simp only[Bool.and_eq_true] at hc
   obtain⟨⟨⟨⟨h1,h2⟩,h3⟩,h4⟩,h5⟩:=hc
   obtain rfl:=Nat.eq_of_beq_eq_true h1
   have Zk:z.length=n:=Nat.eq_of_beq_eq_true h2
   have fS:0 < n:=Nat.le_of_ble_eq_true h3
   have h4:=Nat.le_of_ble_eq_true h4
   have h5:=Nat.le_of_ble_eq_true h5
   rw[xL] at h
   replace h:=cj h
   obtain⟨xp,h⟩:=h
   simp only[PV.Is] at hx hy
   obtain⟨i2,r9,hib⟩:=hG.bE _ (Ev.dJ yP)
   simp only at r9 hib
   rw[hi] at r9; cases r9
   obtain⟨i3,xu,his⟩:=Ev.gw hG.ok hn
   rw[hi] at xu; cases xu
   have Qy:=rF.length
   simp only[Array.length_toList] at Qy
   have bp:(execOp a.eval o).run C.cx.P w = .ok (.value (.slice (some ⟨w.heap.size,0,none⟩) m1 m1)) (w.alloc (.cells (madeCells v.cells (m1*n)) elem)):=by
    have h7:((bE*m1:Nat):Int)<=281474976710656:=Int.ofNat_le.2 h4
    have h8:(i.bytes:Int)*(m1:Int)<=281474976710656:=by rw[hib,← Int.natCast_mul]; exact h7
    have:=run_make (P:=C.cx.P) w t elem i v (hG.ok.un hu) hi Bx .i64 .i64 m1 m1 (by omega) (Int.le_refl _) h8 (by unfold maxLen at h5; omega)
    rw[his] at this
    simp only[Int.toNat_natCast] at this
    unfold execOp
    rw[h_]
    simp only[hx,hy]
    exact (show _=_ from by simp only[Sem.run_bind,show Int.ofNat m1=(m1:Int) from rfl,this,Result.andThen_ok,Sem.run_pure])
   rw[bp]
   have iP:(madeCells v.cells (m1*n)).toList=(List.replicate m1 v.cells.toList).flatten:=by
    unfold madeCells
    rw[show n=v.cells.size by omega]
    exact Ev.yZ m1 (by omega)
   refine y_ hR (pq (mR (K:=Kq nt b q) (fun s1 hq=>⟨s1,rfl,hq⟩) h)) (by rw[iP]; exact tL rF m1) (fun c hc=>?_) ?_ fS h5
   ·exact List.all_eq_true.1 (mm xp) c hc
   ·simp[Zk]
  ·cases h
 ·cases h
end
section
variable {w w':World} {I I':Nat->Prop} {β ay:an} {C:ib} {δ:List Deferred} {s:CS} {nt b:Nat} {a:Act} {st:List aj}
theorem SC (hR:Rel (C.G δ) I β (s.st nt b) a w) {n:Nat} {d:PV} {v:Value} {q:Nat->Nat->Nat->aj->Bool} (h:cto s n d q=true) (hd:d.Is w I β v) (hn:0 < n) :
  ∃ l off len bl p g o cap,q l off len bl=true/\s.dX l=some bl/\yQ bl=true/\β l=some p/\p.a=some (g,o)/\v = .slice (some ⟨g,o+off,none⟩) len cap:=by
 unfold cto at h
 split at h<;>try simp only[PV.Is] at hd
 ·replace h:=ar h
  obtain⟨bl,hb,h⟩:=h
  replace h:=cj h
  obtain⟨p,g,o,cap,hp,ha,hv,_⟩:=hd
  exact⟨_,_,_,bl,p,g,o,cap,h.2,hb,h.1,hp,ha,hv⟩
 ·replace h:=ar h
  obtain⟨bl,hb,h⟩:=h
  replace h:=cj h
  obtain⟨hc,h⟩:=h
  simp only[Bool.and_eq_true] at hc
  split at h
  ·rename_i hk
   rw[cX,Nat.zero_add,eO] at h
   obtain⟨p,hp,rfl⟩:=hd
   have az:=(nQ (qx hc.1).2).1
   obtain⟨g,arr,fr,ha,hw,_,_,_,xj,_⟩:=eP hR.heap (ga hb).1 az hk hp
   have r5:bl.size=n:=Nat.eq_of_beq_eq_true hc.2
   refine⟨_,_,_,bl,p,g,0,p.cap,h,hb,hc.1,hp,ha,?_⟩
   rw[hw,xj,r5]
   congr 2
   exact (Nat.mul_div_cancel _ hn).symm
  ·cases h
 ·cases h
theorem Jq (hG:fD (C.G δ)) (hR:Rel (C.G δ) I β (s.st nt b) a w) {t:TypeId} {r:List TypeId} {ty:TypeId} {d x:PV} {u v:Value} {q:PV->CS->Bool} (h:Dr C s t d x q=true) (hd:d.Is w I β v) (hx:x.Is w I β u) :
  ∃ y w',(Builtin.copy_ (t::r).toArray ty #[v,u]).run C.cx.P w = .ok y w'/\bF (C.G δ) (s.st nt b) I β w a (Kq nt b q) y w':=by
 have hh:=hR.heap
 unfold Dr at h
 replace h:=ar h
 obtain⟨td,hu,h⟩:=h
 split at h
 ·rename_i elem
  replace h:=ar h
  obtain⟨n,hn,h⟩:=h
  replace h:=cj h
  obtain⟨fS,h⟩:=h
  have fS:0 < n:=Nat.le_of_ble_eq_true fS
  obtain⟨l,off,len,bl,p,g,o,cap,h,hb,hw,hp,ha,rfl⟩:=SC hR h hd fS
  replace h:=oL hG.ok hR.heap fS (xZ (C:=C) h) hx
  obtain⟨src,ad,qz,c,news,h,rfl,ja,rI,sP,MI⟩:=h
  have ZP:=mo ja
  have G9:(tJ src).length=qz*n:=by rw[← ZP.1,rI]
  rw[cX,Nat.zero_add,eO,G9,show Nat.div (qz*n) n=qz from Nat.mul_div_cancel _ fS] at h
  replace h:=jA h
  obtain⟨u5,h⟩:=h
  replace h:=cj h
  obtain⟨hone1,h⟩:=h
  replace h:=k9 h
  obtain⟨ZT,h⟩:=h
  obtain⟨h',hq,hg⟩:=BM.aT h
  obtain⟨m,E0⟩:∃ m,m=Nat.min len qz:=⟨_,rfl⟩
  rw[← E0] at hq u5 ZT hg
  have u5:m*n<=(tJ src).length:=u5
  have hml:m<=qz:=by rw[E0]; exact Nat.min_le_right ..
  have tE:Nat.min qz len=m:=by rw[E0]; exact Nat.min_comm ..
  have hct:=ZP.take (m*n)
  obtain⟨hL,sN⟩:=hct.isL
  have Jr:(news.take (m*n)).length=m*n:=by rw[hct.1,List.length_take]; omega
  have SD:((tJ src).take (m*n)).length=m*n:=by rw[List.length_take]; omega
  have ZU:(Builtin.firstCells n m (.slice ad qz c)).run C.cx.P w = .ok (news.take (m*n)).toArray w:=by
   have ig:∀ j v,(news.take (m*n))[j]?=some v->news[j]?=some v:=fun j v hv=>by
    rw[List.getElem?_take] at hv
    split at hv
    ·exact hv
    ·cases hv
   rcases sP with h0|⟨g',o',rfl⟩
   ·have l5:m=0:=by omega
    have x4:news.take (m*n) = []:=by rw[l5,Nat.zero_mul]; rfl
    cases ad with
    | none=>rw[x4,run_firstCells_none w]
    | some b'=>exact run_firstCells_some w n m b' qz c _ Jr fun j v hv=>by rw[x4] at hv; simp at hv
   ·exact run_firstCells_some w n m ⟨g',o',none⟩ qz c _ Jr fun j v hv=>by have h0:=MI g' o' rfl j v (ig j v hv); by_cases hj:j=0<;>simpa [Addr.add,hj] using h0
  have cO:=ga hb
  have Js:(⟨s.t,h',s.n⟩:CS).st nt b=(s.st nt b).store ((s.st nt b).st.set l (bl.c8 (bl.cs.take off++(tJ src).take (m*n)++bl.cs.drop (off+m*n)))):=by
   rw[← mn s nt b h' s.n,se cO.2.2 hg,← B3]
   show aD.store _ _=aD.store _ _
   congr 3
   simp only[Nat.mul_eq,SD]
  rcases Nat.eq_zero_or_pos m with h0|h0
  ·rw[h0,Nat.zero_mul] at ZU
   refine⟨.int .i64 (m:Nat),w,?_,?_⟩
   ·simp[Builtin.copy_,run_underlying (hG.ok.un hu),Builtin.lenOf,tE,h0,Ev.di hG.ok hn,ZU,goInt,storeCells]
   ·refine bF.same hR ⟨_,?_,hq⟩ (by simp only[PV.Is]; rfl)
    rw[Js,h0,Nat.zero_mul,List.take_zero,List.append_nil,Nat.add_zero,List.take_append_drop]
    have:(s.st nt b).st.set l (bl.c8 bl.cs)=(s.st nt b).st:=by
     refine List.ext_getElem? fun i=>?_
     by_cases hi:l=i
     ·subst hi
      rw[List.getElem?_set_self (by show l < (eD s.h s.n).length; rw[cV]; exact cO.2.2)]
      rw[show (s.st nt b).st[l]?=some bl from cO.1]
      cases bl
      rfl
     ·rw[List.getElem?_set_ne hi]
    rw[this]
    rfl
  ·have G7:0 < m*n:=Nat.mul_pos h0 fS
   obtain⟨arr,YE,gU,eL,hH,hE⟩:=Jo hR.heap cO.1 (qx hw).1 (qx hw).2 hp ha hL sN ZT (by rw[SD]; exact G7)
   have qi:=run_storeCells_at (P:=C.cx.P) g (o+off) YE (news.take (m*n)) 0 arr w gU (by simpa using eL) sN
   rw[Nat.add_zero] at qi
   refine⟨.int .i64 (m:Nat),_,?_,bF.mk' hR ⟨_,?_,hq⟩ hH hE (fun _ _ h=>h) (by simp) (fun _ _=>rfl) (by simp only[PV.Is]; rfl)⟩
   ·simp[Builtin.copy_,run_underlying (hG.ok.un hu),Builtin.lenOf,tE,Ev.di hG.ok hn,ZU,qi,goInt]
   ·rw[Js,SD]
 ·cases h
end
section
variable {w w':World} {I I':Nat->Prop} {β ay:an} {C:ib} {s:CS} {nt b:Nat} {a:Act} {st:List aj}
abbrev rQ (es:List MapEntry):List Value:=es.flatMap fun e=>[e.key,e.val]
theorem aS.QT {c d:PV} {cs:List PV} {x y:Value} {xs:List Value} (h:aS w I β (c::d::cs) (x::y::xs)):(c.Is w I β x/\x.oneCell'=true)/\(d.Is w I β y/\y.oneCell'=true)/\aS w I β cs xs:=by
 obtain⟨v,h1,h2,h3⟩:=h.2 0 c rfl
 obtain⟨u,h4,h5,h6⟩:=h.2 1 d rfl
 simp only[List.getElem?_cons_zero,List.getElem?_cons_succ,Option.some.injEq] at h1 h4
 subst h1
 subst h4
 refine⟨⟨h2,h3⟩,⟨h5,h6⟩,by have:=h.1; simpa using this,fun j c hc=>?_⟩
 have:=h.2 (j+2) c (by simpa using hc)
 simpa using this
theorem aS.cons {c:PV} {cs:List PV} {x:Value} {xs:List Value} (h1:c.Is w I β x) (h2:x.oneCell'=true) (h:aS w I β cs xs):aS w I β (c::cs) (x::xs):=by
 refine⟨by simpa using h.1,fun j d hd=>?_⟩
 cases j with
 | zero =>
  simp only[List.getElem?_cons_zero,Option.some.injEq] at hd
  subst hd
  exact⟨x,rfl,h1,h2⟩
 | succ j=>simpa using h.2 j d (by simpa using hd)
theorem aS.nil:aS w I β [] []:=⟨rfl,fun j c hc=>by simp at hc⟩
theorem zZ {k0 kk:IntKind} {k:Int}:∀ {es:List MapEntry} {i:Nat} {cs:List PV} {q:Option PV->Bool},aS w I β cs (rQ es)->zu kk k cs q=true ->
  ∃ r,Instr.findNow (.int k0) (.int kk k) es i=some r/\((r=none/\q none=true)\/∃ j u v,r=some (j,u)/\v.Is w I β u/\q (some v)=true)
 | [],i,cs,q,h,hm=>by
  have:cs = []:=List.eq_nil_of_length_eq_zero (by have:=h.1; simpa using this.symm)
  subst this
  exact⟨none,rfl,.inl ⟨rfl,hm⟩⟩
 | e::es,i,cs,q,h,hm=>by
  have hl:cs.length=2+(rQ es).length:=by rw[← h.1]; simp[rQ]; omega
  match cs,h,hm,hl with
  | [],_,_,hl=>simp at hl; omega
  | [_],_,_,hl=>simp at hl; omega
  | c::v::cs,h,hm,hl =>
   obtain⟨⟨h1,h2⟩,⟨h3,h4⟩,h5⟩:=aS.QT (show aS w I β (c::v::cs) (e.key::e.val::rQ es) from h)
   cases c with
   | lit j z =>
    unfold zu at hm
    replace hm:=cj hm
    obtain⟨hk,hm⟩:=hm
    obtain rfl:=kp hk
    simp only[PV.Is] at h1
    simp only[Instr.findNow,h1,Instr.sameNow,if_true]
    rw[xN] at hm
    by_cases hz:z=k
    ·subst hz
     simp only[decide_true,cond_true] at hm
     refine⟨some (i,e.val),by simp,.inr ⟨i,e.val,_,rfl,h3,hm⟩⟩
    ·simp only[hz,decide_false,cond_false] at hm
     have M_:(k == z)=false:=by simp; exact fun e=>hz e.symm
     obtain⟨r,hr,hq⟩:=zZ (k0:=k0) (es:=es) (i:=i+1) h5 hm
     rw[M_]
     exact⟨r,hr,hq⟩
   | _=>unfold zu at hm; cases hm
theorem DO {k0 kk:IntKind} {k:Int} {v:PV} {u:Value} {cl:Nat} (hv:v.Is w I β u) (hu:u.oneCell'=true):∀ {es:List MapEntry} {i:Nat} {cs:List PV} {q:List PV->Bool},aS w I β cs (rQ es)->Iv kk k v cs q=true ->
  ∃ r zI,Instr.findNow (.int k0) (.int kk k) es i=some r/\q zI=true/\((r=none/\aS w I β zI (rQ (es++[⟨.int kk k,u,cl⟩]))) \/
   ∃ j y,r=some (i+j,y)/\(es[j]?).map (·.key)=some (.int kk k)/\aS w I β zI (rQ (es.modify j fun e=>{ e with key:=.int kk k,val:=u })))
 | [],i,cs,q,h,hm=>by
  have:cs = []:=List.eq_nil_of_length_eq_zero (by have:=h.1; simpa using this.symm)
  subst this
  exact⟨none,_,rfl,hm,.inl ⟨rfl,aS.cons (by simp only[PV.Is]) rfl (aS.cons hv hu aS.nil)⟩⟩
 | e::es,i,cs,q,h,hm=>by
  have hl:cs.length=2+(rQ es).length:=by rw[← h.1]; simp[rQ]; omega
  match cs,h,hm,hl with
  | [],_,_,hl=>simp at hl; omega
  | [_],_,_,hl=>simp at hl; omega
  | c::d::cs,h,hm,hl =>
   obtain⟨⟨h1,h2⟩,⟨h3,h4⟩,h5⟩:=aS.QT (show aS w I β (c::d::cs) (e.key::e.val::rQ es) from h)
   cases c with
   | lit j z =>
    unfold Iv at hm
    replace hm:=cj hm
    obtain⟨hk,hm⟩:=hm
    obtain rfl:=kp hk
    have nP:=h1
    simp only[PV.Is] at h1
    simp only[Instr.findNow,h1,Instr.sameNow,if_true]
    rw[xN] at hm
    by_cases hz:z=k
    ·subst hz
     simp only[decide_true,cond_true] at hm
     refine⟨some (i,e.val),_,by simp,hm,.inr ⟨0,e.val,rfl,by simp[h1],?_⟩⟩
     exact aS.cons (by simp only[PV.Is]) rfl (aS.cons hv hu h5)
    ·simp only[hz,decide_false,cond_false] at hm
     have M_:(k == z)=false:=by simp; exact fun e=>hz e.symm
     obtain⟨r,zI,hr,hq,hc⟩:=DO (k0:=k0) (cl:=cl) hv hu (es:=es) (i:=i+1) h5 hm
     rw[M_]
     refine⟨r,_,hr,hq,?_⟩
     rcases hc with ⟨rfl,hc⟩|⟨j,y,rfl,hj,hc⟩
     ·exact .inl ⟨rfl,aS.cons nP h2 (aS.cons h3 h4 hc)⟩
     ·refine .inr ⟨j+1,y,by rw[Nat.add_assoc,Nat.add_comm 1 j],by simpa using hj,?_⟩
      rw[List.modify_succ_cons]
      exact aS.cons nP h2 (aS.cons h3 h4 hc)
   | _=>unfold Iv at hm; cases hm
theorem QU (hH:aC I β st w) {l:Nat} {bl:aj} {v:Value} (hb:st[l]?=some bl) (hl:bl.live=true) (hk:bl.k = .mx) (hx:(PV.mref l).Is w I β v):∃ p g es clock,β l=some p/\p.a=some (g,0)/\v = .map (some g)/\w.heap[g]?=some (.map es clock)/\aS w I β bl.cs (rQ es.toList)/\Own I β st l g (0,0) bl:=by
 simp only[PV.Is] at hx
 obtain⟨p,g,hp,ha,rfl⟩:=hx
 obtain⟨p',dM,hB⟩:=hH.dX l bl hb hl
 rw[hp] at dM
 cases dM
 rw[hk] at hB
 obtain⟨g',es,clock,cJ,hm,hc,ho,ZV⟩:=hB
 rw[ha] at cJ
 cases cJ
 refine⟨p,g,es,clock,hp,ha,rfl,hm,⟨ZV.symm,fun j c hj=>?_⟩,ho⟩
 obtain⟨v,h1,h2⟩:=hc j c hj
 exact⟨v,by simpa [mxL] using h1,h2⟩
theorem z3 (hh:aC I β st w) {l:Nat} {bl:aj} {p:na} {g:Nat} {es es':Array MapEntry} {clock clock':Nat} {cs:List PV} (hb:st[l]?=some bl) (az:bl.live=true) (NI:bl.m = .w) (hk:bl.k = .mx) (hp:β l=some p) (ha:p.a=some (g,0)) (hg:w.heap[g]?=some (.map es clock)) (ho:Own I β st l g (0,0) bl)
  (fj:aS w I β cs (rQ es'.toList)) :
  aC I β (st.set l (bl.c8 cs)) { w with heap:=w.heap.setIfInBounds g (.map es' clock') }/\Ext I β st w I β (st.set l (bl.c8 cs)) { w with heap:=w.heap.setIfInBounds g (.map es' clock') }:=by
 obtain⟨k1,k2,k3,k4,k5,k6⟩:=ki bl cs
 have uU:g < w.heap.size:=aV hg
 have bZ:l < st.length:=(List.getElem?_eq_some_iff.1 hb).1
 obtain⟨_,M8,qY⟩:=ho.1 (by rw[NI]; decide)
 obtain⟨SE,QV⟩:=MapKept.heap_set (o':=.map es' clock') hg
 have hold:∀ y,y < w.heap.size->y≠g->(w.heap.setIfInBounds g (.map es' clock'))[y]?=w.heap[y]?:=fun y _ cN=>QV y cN
 have qf:∀ y,I y->(w.heap.setIfInBounds g (.map es' clock'))[y]?=w.heap[y]?:=fun y hy=>QV y fun e=>M8 (e ▸ hy)
 have BA:∀ l' lP,l'≠l->(st.set l (bl.c8 cs))[l']?=some lP->lP.live=true->∀ p g' o',β l'=some p->p.a=some (g',o')->g'≠g:=fun l' lP cN Bo xm p g' o' dM cJ=>by
  rw[List.getElem?_set_ne (fun e=>cN e.symm)] at Bo
  exact qY l' lP cN Bo xm p g' o' dM cJ
 refine⟨⟨fun l2 eR=>hh.p8 l2 (by simpa using eR),fun l2 b2 eR bC=>?_⟩,?_⟩
 ·by_cases cN:l2=l
  ·subst cN
   rw[List.getElem?_set_self bZ] at eR
   cases eR
   refine⟨p,hp,?_⟩
   rw[k1,hk]
   refine⟨g,es',clock',ha,SE,?_,⟨fun _=>⟨rfl,M8,BA⟩,fun hr=>by rw[k4,NI] at hr; cases hr⟩,by rw[k6]; exact fj.1.symm⟩
   rw[k6]
   intro j c hj
   obtain⟨v,h1,h2,h3⟩:=fj.2 j c hj
   exact⟨v,by simpa [mxL] using h1,PV.Is.mono (fun _ h=>h) qf c β β v (fun _ _ _ h=>h) h2,h3⟩
  ·rw[List.getElem?_set_ne (fun e=>cN e.symm)] at eR
   have dS:=hh.dX l2 b2 eR bC
   refine dS.mono (fun _ h=>h) qf (fun _ _ h=>h) fun q2 g2 o2 hq gX=>?_
   obtain⟨ob,_,fr2,hh2,HU⟩:=dS.place hq gX
   have jq:g2≠g:=qY l2 b2 cN eR bC q2 g2 o2 hq gX
   refine⟨hold g2 (aV hh2) jq,fun hr=>⟨(HU.1 hr).2.1,fun l3 b3 RG Bd BB p3 g3 o3 RH RI=>?_⟩⟩
   by_cases h3:l3=l
   ·subst h3
    rw[hp] at RH
    cases RH
    rw[ha] at RI
    cases RI
    exact fun e=>jq e.symm
   ·rw[List.getElem?_set_ne (fun e=>h3 e.symm)] at Bd
    exact (HU.1 hr).2.2 l3 b3 RG Bd BB p3 g3 o3 RH RI
 ·exact⟨rfl,rfl,rfl,by simp,fun y hy hn=>hold y hy fun e=>hn (e ▸ ⟨l,bl,p,0,hb,az,NI,hp,ha⟩),fun y hy hw=>Bz (.inr ⟨bl,hb,by rw[k5],by rw[k4]⟩) hw,fun _ h=>h,fun _ _ h=>.inl h⟩
end
def cY (C:ib) (δ:List Deferred) (call:eV):Prop:=∀ f args h n k,call f args h n k=true ->
 (Spec (C.G δ) f args (eD h n) [] fun r S=>∃ h' n',S=eD h' n'/\k r h' n'=true)\/∃ r,Jg (C.G δ) f args r/\k r h n=true
section
variable {w w':World} {I I':Nat->Prop} {β ay:an} {C:ib} {δ:List Deferred} {s:CS} {nt b:Nat} {a:Act} {st:List aj} {call:eV}
theorem nC {P:Program} {w:World} {kt:TypeId} {k0 kk:IntKind} {k:Int} (hd:P.underlying kt=some (.int k0)) (e:Bool) (n:Nat):(Instr.checkKey e (n+1) kt (.int kk k)).run P w = .ok () w:=by
 unfold Instr.checkKey
 simp only[Sem.run_bind,run_underlying hd,Result.andThen]
 rfl
theorem z4 (hG:fD (C.G δ)) (hR:Rel (C.G δ) I β (s.st nt b) a w) {t:TypeId} {x i:PV} {xv iv:Value} {q:PV->Bool->Bool} (h:vI C s t x i q=true) (hx:x.Is w I β xv) (hi:i.Is w I β iv) :
  ∃ v ok r,q v ok=true/\v.Is w I β r/\(Instr.lookup t xv iv false).run C.cx.P w = .ok r w/\(Instr.lookup t xv iv true).run C.cx.P w = .ok (.tuple #[r,.bool ok]) w:=by
 unfold vI at h
 replace h:=ar h
 obtain⟨d,hu,h⟩:=h
 split at h
 ·rename_i ky e
  replace h:=ar h
  obtain⟨dk,hk,h⟩:=h
  split at h
  ·rename_i k0 l kk k
   replace h:=ar h
   obtain⟨bl,hb,h⟩:=h
   replace h:=cj h
   obtain⟨az,h⟩:=h
   split at h
   ·rename_i ZW
    obtain⟨p,g,es,clock,hp,ha,rfl,hg,hc,ho⟩:=QU hR.heap (ga hb).1 az ZW hx
    simp only[PV.Is] at hi
    subst hi
    obtain⟨r,hr,hq⟩:=zZ (k0:=k0) (i:=0) hc h
    have ZX:=fun em=>nC (P:=C.cx.P) (w:=w) (kk:=kk) (k:=k) (hG.ok.un hk) em 9999
    have YH:=MapKept.run_findKey (P:=C.cx.P) (w:=w) (hG.ok.un hk) hr
    have G_:=MapKept.run_getObj_map (P:=C.cx.P) hg
    rcases hq with ⟨rfl,hq⟩|⟨j,u,v,rfl,hv,hq⟩
    ·replace hq:=ar hq
     obtain⟨z,hz,hq⟩:=hq
     replace hq:=sH (w:=w) (I:=I) (β:=β) (IE (fun _ h=>h) hq)
     obtain⟨x,hq,hxz,_⟩:=hq
     rw[Option.bind_eq_some_iff] at hz
     obtain⟨ti,Ru,hz⟩:=hz
     obtain⟨i2,r9,h21,YG⟩:=hG.ok.inf _ (Ev.dJ Ru)
     have hzr:(zeroValue e).run C.cx.P w = .ok z w:=by simp[zeroValue,typeInfo,r9,YG.trans hz]
     refine⟨x,false,z,(cj hq).2,hxz,?_,?_⟩<;>simp[Instr.lookup,run_underlying (hG.ok.un hu),G_,ZX,YH,hzr]
    ·refine⟨v,true,u,hq,hv,?_,?_⟩<;>simp[Instr.lookup,run_underlying (hG.ok.un hu),G_,ZX,YH]
   ·cases h
  ·cases h
 ·cases h
theorem B7 (hG:fD (C.G δ)) {o:Oper} {t:TypeId} {ox oi ov:Operand} (h_:o.op = .mapUpdate t ox oi ov) {q:PV->CS->Bool} (h:BR C call s o q=true):fO (C.G δ) (s.st nt b) o (Kq nt b q):=fO.intro fun I β a w hR=>by
 unfold BR at h
 simp only[h_] at h
 replace h:=ar h
 obtain⟨d,hu,h⟩:=h
 split at h
 ·rename_i ky e
  replace h:=ar h
  obtain⟨dk,hk,h⟩:=h
  split at h
  ·rename_i k0
   replace h:=aD.cd hR (cp (nt:=nt) (b:=b) (fun _ h=>h) h)
   obtain⟨x,h,hx⟩:=h
   replace h:=aD.cd hR (cp (nt:=nt) (b:=b) (fun _ h=>h) h)
   obtain⟨i,h,hi⟩:=h
   replace h:=aD.cd hR (cp (nt:=nt) (b:=b) (fun _ h=>h) h)
   obtain⟨v,h,hv⟩:=h
   split at h
   ·rename_i l kk k
    replace h:=ar h
    obtain⟨bl,hb,h⟩:=h
    split at h
    ·rename_i ZW NI
     replace h:=cj h
     obtain⟨hc,h⟩:=h
     simp only[Bool.and_eq_true] at hc
     obtain⟨az,h1⟩:=hc
     have cO:=ga hb
     obtain⟨p,g,es,clock,hp,ha,hxv,hg,fj,ho⟩:=QU hR.heap cO.1 az ZW hx
     simp only[PV.Is] at hi
     have xp:(a.eval ov).oneCell'=true:=lW (hv.flat (by rw[NF] at h1; exact h1))
     obtain⟨r,zI,hr,h,hq⟩:=DO (k0:=k0) (cl:=clock) (i:=0) hv xp fj h
     obtain⟨h',kL,SA⟩:=BM.aT h
     have ZX:=fun em=>nC (P:=C.cx.P) (w:=w) (kk:=kk) (k:=k) (hG.ok.un hk) em 9999
     have YH:=MapKept.run_findKey (P:=C.cx.P) (w:=w) (hG.ok.un hk) hr
     have G_:=MapKept.run_getObj_map (P:=C.cx.P) hg
     have Js:(⟨s.t,h',s.n⟩:CS).st nt b=(s.st nt b).store ((s.st nt b).st.set l (bl.c8 zI)):=by
      rw[← mn s nt b h' s.n,se cO.2.2 SA,← B3]
      rfl
     rcases hq with ⟨rfl,uT⟩|⟨j,y,rfl,hj,uT⟩
     ·obtain⟨hH,hE⟩:=z3 (es':=es.push ⟨.int kk k,a.eval ov,clock⟩) (clock':=clock+1) hR.heap cO.1 az NI ZW hp ha hg ho (by simpa using uT)
      have bp:(execOp a.eval o).run C.cx.P w = .ok .skip { w with heap:=w.heap.setIfInBounds g (.map (es.push ⟨.int kk k,a.eval ov,clock⟩) (clock+1)) }:=by
       unfold execOp
       rw[h_]
       simp[hxv,hi,Instr.mapUpdate,run_underlying (hG.ok.un hu),G_,ZX,YH,MapKept.run_setObj_map (P:=C.cx.P) _ hg]
      rw[bp]
      exact bF.mk' hR ⟨_,Js.symm,kL⟩ hH hE (fun _ _ h=>h) (by simp) (fun _ _=>rfl) (by simp only[PV.Is]; exact⟨#[],rfl,by simp only[bg]⟩)
     ·rw[Nat.zero_add] at hr YH
      obtain⟨hH,hE⟩:=z3 (es':=es.modify j fun e=>{ e with key:=.int kk k,val:=a.eval ov }) (clock':=clock) hR.heap cO.1 az NI ZW hp ha hg ho (by rw[Array.toList_modify]; exact uT)
      have sL:(es[j]?).map (·.key)=some (.int kk k):=by simpa using hj
      have qi:(Instr.keyThatStays (.int kk k) (.int kk k)).run C.cx.P w = .ok (.int kk k) w:=by
       simp[Instr.keyThatStays,Instr.sameBits]
      have bp:(execOp a.eval o).run C.cx.P w = .ok .skip { w with heap:=w.heap.setIfInBounds g (.map (es.modify j fun e=>{ e with key:=.int kk k,val:=a.eval ov }) clock) }:=by
       unfold execOp
       rw[h_]
       simp[hxv,hi,Instr.mapUpdate,run_underlying (hG.ok.un hu),G_,ZX,YH,sL,qi,MapKept.run_setObj_map (P:=C.cx.P) _ hg]
      rw[bp]
      exact bF.mk' hR ⟨_,Js.symm,kL⟩ hH hE (fun _ _ h=>h) (by simp) (fun _ _=>rfl) (by simp only[PV.Is]; exact⟨#[],rfl,by simp only[bg]⟩)
    ·cases h
   ·cases h
  ·cases h
 ·cases h
end
section
variable {w w':World} {I I':Nat->Prop} {β ay:an} {C:ib} {δ:List Deferred} {s:CS} {nt b:Nat} {a:Act} {st:List aj} {call:eV}
theorem fO.tM (hG:fD (C.G δ)) {S:aD} {o:Oper} {q:PV->aD->Prop} (h:pop (C.G δ) S o q):fO (C.G δ) S o q:=fO.intro fun _ _ _ _ hR=>sR hG hR h
theorem B8 (hh:aC I β st w) (hI:∀ g,I g->g < w.heap.size) {ob:Obj} {b:aj} {p:na} (hp:p.a=some (w.heap.size,0))
  (hb:Own I (β.set st.length p) (st++[b]) st.length w.heap.size (0,0) b->fF I (β.set st.length p) (st++[b]) (w.alloc ob) st.length b) (hm:b.m = .w) :
  aC I (β.set st.length p) (st++[b]) (w.alloc ob)/\Ext I β st w I (β.set st.length p) (st++[b]) (w.alloc ob):=by
 have eH:∀ g o,p.a=some (g,o)->¬ I g/\¬ gD β st g:=fun g o ha=>by
  rw[hp] at ha; cases ha
  exact⟨fun h=>by have:=hI _ h; omega,fun h=>by have:=hh.cH h; omega⟩
 refine⟨hh.add (iF hh hI _) eH (hb ⟨fun _=>⟨rfl,(eH _ _ hp).1,fun l' b' cN iu fi p' g' o' dM cJ e=>?_⟩,fun hr=>by rw[hm] at hr; cases hr⟩),Ext.add (w':=w.alloc ob) hh rfl rfl rfl (by simp) (fun g hg _=>Ev.ot w _ g hg) (fun g o ha hg=>by rw[hp] at ha; cases ha; omega)⟩
 subst e
 unfold an.set at dM
 rw[if_neg cN] at dM
 have:=hh.lt dM
 rw[List.getElem?_append_left this] at iu
 exact (eH _ _ hp).2 ⟨l',b',p',o',iu,fi,dM,cJ⟩
theorem z5 (hC:cY C δ call) (hR:Rel (C.G δ) I β (s.st nt b) a w) {f:FuncId} {args:List PV} {vals:List Value} {q:PV->CS->Bool} (h:call f args s.h s.n (fun r h n=>q r ⟨s.t,h,n⟩)=true) (ha:bg w I args β vals) :
  Ev.lU C.cx.P (bF (C.G δ) (s.st nt b) I β w a (Kq nt b q)) ((callFunc f vals.toArray).run C.cx.P w):=by
 rcases hC _ _ _ _ _ h with hs|⟨r,hx,hq⟩
 ·have hp:C9 (C.G δ) (s.st nt b) f args (Kq nt b q):=by
   refine⟨[],fun l hl=>absurd hl List.not_mem_nil,?_⟩
   refine Spec.mono hs fun r S ⟨h',n',hS,hk⟩=>?_
   subst hS
   exact⟨⟨s.t,h',n'⟩,rfl,hk⟩
  obtain⟨RO,sS⟩:=zg hR hp ha
  rw[RO]
  exact sS
 ·obtain⟨v,hv,hr⟩:=hx I β w _ ha
  rw[hv]
  exact bF.same hR ⟨s,rfl,hq⟩ hr
theorem pr (hR:Rel (C.G δ) I β (s.st nt b) a w) {os:List Operand} {q:List PV->Bool} (h:mb s.t os q=true):∃ l,q l=true/\bg w I l β (os.map a.eval) :=
 sQ hR (zU (nt:=nt) (b:=b) (fun _ h=>h) h)
theorem ft (hR:Rel (C.G δ) I β (s.st nt b) a w) {o:Operand} {q:PV->Bool} (h:fe s.t o q=true):∃ x,q x=true/\x.Is w I β (a.eval o) :=
 aD.cd hR (cp (nt:=nt) (b:=b) (fun _ h=>h) h)
theorem DP:∀ {cs:List PV} {xs:List Value} {q:List UInt8->Bool},BR.Iw cs q=true->aS w I β cs xs->∃ l:List Int,xs=l.map (Value.int .u8)/\q (l.map fun n=>UInt8.ofNat n.toNat)=true
 | [],xs,q,h,hc=>by
  have:xs = []:=List.eq_nil_of_length_eq_zero hc.1
  subst this
  exact⟨[],rfl,h⟩
 | c::cs,[],q,h,hc=>by have:=hc.1; simp at this
 | c::cs,x::xs,q,h,hc=>by
  obtain⟨v,h1,h2,_⟩:=hc.2 0 c rfl
  simp only[List.getElem?_cons_zero,Option.some.injEq] at h1
  subst h1
  have uT:aS w I β cs xs:=⟨by have:=hc.1; simpa using this,fun j d hd=>by simpa using hc.2 (j+1) d (by simpa using hd)⟩
  unfold BR.Iw at h
  split at h
  ·rename_i heq; cases heq
  ·rename_i heq
   cases heq
   rename_i n
   obtain⟨l,hl,hq⟩:=DP h uT
   simp only[PV.Is] at h2
   exact⟨(n:Int)::l,by rw[h2,hl]; rfl,hq⟩
  ·cases h
set_option maxHeartbeats 1000000 in
theorem x5 (hG:fD (C.G δ)) (hC:cY C δ call) {o:Oper} {q:PV->CS->Bool} (h:BR C call s o q=true):fO (C.G δ) (s.st nt b) o (Kq nt b q):=by
 have jo:o7 C s o.op (fun v=>q v s)=true->fO (C.G δ) (s.st nt b) o (Kq nt b q):=fun h=>fO.intro fun I β a w hR=>by
  obtain⟨x,r,hx,hi,hr⟩:=zT hG.ok hR h
  rw[hr w]
  exact bF.same hR ⟨s,rfl,hx⟩ hi
 obtain⟨dst,op,ty,pos,after,guard⟩:=o
 cases op with
 | load t ad =>
  refine fO.tM hG ?_
  show (s.st nt b).ev ad fun a=>nv (C.G δ) (s.st nt b).st t a fun v=>Kq nt b q v (s.st nt b)
  exact cp (fun x h=>po (fun v h=>⟨s,rfl,h⟩) h) h
 | store t ad x =>
  refine fO.tM hG ?_
  show (s.st nt b).ev ad fun a=>(s.st nt b).ev x fun x=>xa (C.G δ) (s.st nt b).st t a x fun st=>Kq nt b q (.tup []) ((s.st nt b).store st)
  exact cp (fun ad h=>cp (fun x h=>Fl (fun h' hq=>⟨_,mn ..,hq⟩) h) h) h
 | alloc t =>
  refine fO.tM hG ?_
  show kR C.cx t fun z=>dv z fun z=>bif z.all PV.iC then y4 (s.st nt b) ⟨.loc,t,1,.w,true,z⟩ (Kq nt b q) else False
  unfold BR at h
  refine kq (fun z h=>dP ?_) h
  replace h:=cj h
  exact fX (mm h.1) (DN (mR (K:=Kq nt b q) (fun s1 hq=>⟨s1,rfl,hq⟩) h.2))
 | makeSlice t l c=>exact Jp hG rfl h
 | mapUpdate t x i v=>exact B7 hG rfl h
 | makeMap t r =>
  cases r with
  | some r=>cases h
  | none =>
  replace h:rM s ⟨.mx,0,1,.w,true,[]⟩ (fun l s=>q (.mref l) s)=true:=h
  refine fO.intro fun I β a w hR=>?_
  have bp:(execOp a.eval ⟨dst,.makeMap t none,ty,pos,after,guard⟩).run C.cx.P w = .ok (.value (.map (some w.heap.size))) (w.alloc (.map #[] 0)):=by
   unfold execOp
   simp only[Option.map_none,Sem.run_bind,run_makeMap,Result.andThen_ok,Sem.run_pure]
  rw[bp]
  have kj:=an.iD hR.heap ⟨some (w.heap.size,0),0,0⟩
  obtain⟨hH,hE⟩:=B8 (ob:=.map #[] 0) hR.heap hR.au.au (b:=⟨.mx,0,1,.w,true,[]⟩) (p:=⟨some (w.heap.size,0),0,0⟩) rfl (fun ho=>⟨_,an.dy ..,⟨w.heap.size,#[],0,rfl,Ev.kb w _,fun j c hc=>by simp at hc,ho,rfl⟩⟩) rfl
  obtain⟨s1,hq,d_⟩:=DM (nt:=nt) (b:=b) h
  refine bF.mk' (q:=Kq nt b q) (x:=.mref s.n) hR ⟨s1,d_.symm,hq⟩ hH hE kj (by simp) (fun l hl=>if_neg (by omega)) ?_
  simp only[PV.Is]
  exact⟨_,w.heap.size,by rw[show s.n=(s.st nt b).st.length from (cV ..).symm]; exact an.dy ..,rfl,rfl⟩
 | lookup t x i ok=>
  cases ok with
  | false =>
   replace h:fe s.t x (fun x=>fe s.t i fun i=>vI C s t x i fun v _=>q v s)=true:=h
   refine fO.intro fun I β a w hR=>?_
   replace h:=ft hR h
   obtain⟨xv,h,hx⟩:=h
   replace h:=ft hR h
   obtain⟨iv,h,hi⟩:=h
   obtain⟨v,ok,r,hq,hv,h1,h2⟩:=z4 hG hR h hx hi
   rw[show (execOp a.eval ⟨dst,.lookup t x i false,ty,pos,after,guard⟩).run C.cx.P w = .ok (.value r) w from by unfold execOp; simp only[Sem.run_bind,h1,Result.andThen_ok,Sem.run_pure]]
   exact bF.same hR ⟨s,rfl,hq⟩ hv
  | true =>
   replace h:fe s.t x (fun x=>fe s.t i fun i=>vI C s t x i fun v b=>match b with
    | true=>q (.tup [v,.tt]) s
    | false=>q (.tup [v,.ff]) s)=true:=h
   refine fO.intro fun I β a w hR=>?_
   replace h:=ft hR h
   obtain⟨xv,h,hx⟩:=h
   replace h:=ft hR h
   obtain⟨iv,h,hi⟩:=h
   obtain⟨v,ok,r,hq,hv,h1,h2⟩:=z4 hG hR h hx hi
   rw[show (execOp a.eval ⟨dst,.lookup t x i true,ty,pos,after,guard⟩).run C.cx.P w = .ok (.value (.tuple #[r,.bool ok])) w from by unfold execOp; simp only[Sem.run_bind,h2,Result.andThen_ok,Sem.run_pure]]
   cases ok with
   | true=>exact bF.same hR ⟨s,rfl,hq⟩ (by simp only[PV.Is]; exact⟨_,rfl,by simp only[bg,PV.Is]; exact⟨hv,trivial,trivial⟩⟩)
   | false=>exact bF.same hR ⟨s,rfl,hq⟩ (by simp only[PV.Is]; exact⟨_,rfl,by simp only[bg,PV.Is]; exact⟨hv,trivial,trivial⟩⟩)
 | makeFunc f first eB =>
  obtain⟨first⟩:=first
  obtain⟨eB⟩:=eB
  cases f with
  | func f =>
   cases first with
   | nil =>
    replace h:mb s.t eB (fun cs=>bif nh nd cs then q (.clo f cs) s else false)=true:=h
    refine fO.intro fun I β a w hR=>?_
    obtain⟨l,h,hl⟩:=pr hR h
    rw[show (execOp a.eval ⟨dst,.makeFunc (.func f) ⟨[]⟩ ⟨eB⟩,ty,pos,after,guard⟩).run C.cx.P w = .ok (.value (.func (.func f) #[] (eB.map a.eval).toArray)) w from by
     unfold execOp
     simp[Instr.makeFunc]]
    exact bF.same hR ⟨s,rfl,(cj h).2⟩ (by simp only[PV.Is]; exact⟨_,rfl,hl⟩)
   | cons o os =>
    cases eB with
    | cons _ _=>cases h
    | nil =>
     replace h:mb s.t (o::os) (fun cs=>bif nh nd cs then q (.mth f cs) s else false)=true:=h
     refine fO.intro fun I β a w hR=>?_
     obtain⟨l,h,hl⟩:=pr hR h
     rw[show (execOp a.eval ⟨dst,.makeFunc (.func f) ⟨o::os⟩ ⟨[]⟩,ty,pos,after,guard⟩).run C.cx.P w = .ok (.value (.func (.func f) ((o::os).map a.eval).toArray #[])) w from by
      unfold execOp
      simp[Instr.makeFunc]]
     exact bF.same hR ⟨s,rfl,(cj h).2⟩ (by simp only[PV.Is]; exact⟨_,rfl,hl⟩)
  | _=>cases h
 | buildSlice t len ps =>
  refine fO.tM hG ?_
  show aU (C.cx.fg t) fun d=>(match d with
   | .slice elem=>aU (Ev.cC C.cx elem) fun n=>kR C.cx elem fun z=>nL (s.st nt b) ps.toList fun l =>
    bif Nat.beq z.length n && Nat.ble (len*n) 16777216 && Nat.blt 0 n then ow (fun i=>some (i*n,n)) ((List.replicate len z).flatten) l fun cs=>dv cs fun cs=>bif cs.all PV.iC && Nat.beq cs.length (len*n) && Nat.ble len maxLen then kf (s.st nt b) ⟨.arr,elem,n,.w,true,cs⟩ (Kq nt b q) else False else False
   | _=>False)
  unfold BR at h
  replace h:=ar h
  obtain⟨d,hd,h⟩:=h
  refine a_ hd ?_
  cases d<;>first|(cases h; done)|skip
  replace h:=ar h
  obtain⟨n,hn,h⟩:=h
  refine a_ hn ?_
  refine kq (fun z h=>nV (fun l h=>?_) h) h
  rw[cX,Nat.zero_add] at h
  replace h:=cj h
  obtain⟨hc,h⟩:=h
  rw[xL] at h
  refine fX hc (pf (fun cs h=>dP ?_) h)
  rw[cX,Nat.zero_add] at h
  replace h:=cj h
  obtain⟨hc,h⟩:=h
  simp only[Bool.and_eq_true] at hc
  refine fX ?_ (pq (mR (K:=Kq nt b q) (fun s1 hq=>⟨s1,rfl,hq⟩) h))
  rw[mm hc.1.1]
  simp only[Bool.true_and,Bool.and_eq_true]
  exact⟨hc.1.2,hc.2⟩
 | box t x =>
  refine fO.tM hG ?_
  show (s.st nt b).ev x fun x=>(match x with
   | .tup _=>False
   | x=>bif x.cells.all PV.iC then dv x.cells fun cs=>y4 (s.st nt b) ⟨.loc,t,1,.w,true,cs⟩ (Kq nt b q) else False)
  replace h:fe s.t x (fun x=>match x with
   | .tup _=>false
   | x=>bif nh nd x.cells then rM s ⟨.loc,t,1,.w,true,x.cells⟩ fun l s=>q (.ptr l 0) s else false)=true:=h
  refine cp (fun x h=>?_) h
  have key:(∀ ts,x≠.tup ts)->(bif nh nd x.cells then rM s ⟨.loc,t,1,.w,true,x.cells⟩ fun l s=>q (.ptr l 0) s else false)=true->(bif x.cells.all PV.iC then dv x.cells fun cs=>y4 (s.st nt b) ⟨.loc,t,1,.w,true,cs⟩ (Kq nt b q) else False):=fun _ h=>by
   replace h:=cj h
   exact fX (mm h.1) (dP (DN (mR (K:=Kq nt b q) (fun s1 hq=>⟨s1,rfl,hq⟩) h.2)))
  cases x<;>first|(cases h; done)|exact key (fun _ e=>by cases e) h
 | convert src dt x =>
  replace h:=ar (show aK (C.cx.fg dt) _=true from h)
  obtain⟨d,hd,h⟩:=h
  have hp:(∀ k,d≠.string)->o7 C s (.convert src dt x) (fun v=>q v s)=true:=fun hn=>by
   cases d<;>first|exact h|exact absurd rfl (hn 0)
  cases d with
  | string =>
   replace h:=ar (show aK (C.cx.fg src) _=true from h)
   obtain⟨d1,hd1,h⟩:=h
   cases d1<;>first|(cases h; done)|skip
   rename_i e
   replace h:=ar (show aK (C.cx.fg e) _=true from h)
   obtain⟨d2,Dh,h⟩:=h
   cases d2<;>first|(cases h; done)|skip
   rename_i k
   cases k<;>first|(cases h; done)|skip
   replace h:fe s.t x (fun x=>E5 s 1 x fun cs=>BR.Iw cs fun u=>q (.val (.string ⟨⟨u⟩⟩)) s)=true:=h
   refine fO.intro fun I β a w hR=>?_
   replace h:=ft hR h
   obtain⟨xv,h,hx⟩:=h
   replace h:=oL hG.ok hR.heap (Nat.succ_pos 0) (xZ (C:=C) h) hx
   obtain⟨srcv,ad,len,c,news,h,hv,ja,rI,G5,zd⟩:=h
   obtain⟨l,rfl,hq⟩:=DP h (mo ja)
   rw[List.length_map,Nat.mul_one] at rI
   have bp:(convert src dt (a.eval x)).run C.cx.P w = .ok (.string (strOfNums l)) w:=by
    rw[hv]
    cases ad with
    | none =>
     have h0:len=0:=by rcases G5 with h|⟨g,o,h⟩<;>first|exact h|cases h
     have:l = []:=List.eq_nil_of_length_eq_zero (by omega)
     subst this
     exact run_convert_bytes_nil w src e (hG.ok.un hd1) (hG.ok.un Dh) _ _ dt (hG.ok.un hd)
    | some ad =>
     rcases G5 with h0|⟨g,o,e1⟩
     ·have:l = []:=List.eq_nil_of_length_eq_zero (by omega)
      subst this
      subst h0
      rw[run_convert_bytes_string w src dt e _ _ c (hG.ok.un hd1) (hG.ok.un Dh) (hG.ok.un hd)]
      exact (run_bytesToString (P:=C.cx.P) w ad 0 c [] (run_loadCells_list (P:=C.cx.P) w ad [] fun j v hj=>by simp at hj)).trans rfl
     ·cases e1
      refine run_convert_bytes_arg w src e (hG.ok.un hd1) (hG.ok.un Dh) g o len c l rI (fun i hi=>?_) dt (hG.ok.un hd)
      refine zd g o rfl i _ ?_
      rw[List.getElem?_map,List.getElem?_eq_getElem (by omega),List.getD_eq_getElem?_getD,List.getElem?_eq_getElem (by omega)]
      rfl
   rw[show (execOp a.eval ⟨dst,.convert src dt x,ty,pos,after,guard⟩).run C.cx.P w = .ok (.value (.string (strOfNums l))) w from by unfold execOp; simp only[Sem.run_bind,bp,Result.andThen_ok,Sem.run_pure]]
   exact bF.same hR ⟨s,rfl,hq⟩ (by simp only[PV.Is]; exact⟨rfl,rfl⟩)
  | _=>exact jo (hp fun _ e=>by cases e)
 | call c =>
  obtain⟨callee,⟨sG⟩,ZY⟩:=c
  cases callee with
  | value y =>
   refine fO.intro fun I β a w hR=>?_
   obtain⟨x,h,hx⟩:=ft hR (show fe s.t y _=true from h)
   cases x<;>first|(cases h; done)|skip
   ·rename_i f eB
    replace h:mb s.t sG (fun l=>uY l eB fun l=>call f l s.h s.n fun r h n=>q r ⟨s.t,h,n⟩)=true:=h
    obtain⟨l,h,hl⟩:=pr hR h
    rw[k8] at h
    simp only[PV.Is] at hx
    obtain⟨H_,Zo,Zp⟩:=hx
    have sS:=z5 hC hR h (hl.append Zp)
    have bp:(execOp a.eval ⟨dst,.call ⟨.value y,⟨sG⟩,ZY⟩,ty,pos,after,guard⟩).run C.cx.P w=(callFunc f (sG.map a.eval++H_.toList).toArray).run C.cx.P w:=by
     unfold execOp
     have e1:(Array.mk sG).map a.eval++H_=(sG.map a.eval++H_.toList).toArray:=by simp
     simp only[resolve,Zo,Deferred.ofValue,Sem.run_bind,Sem.run_pure,Result.andThen_ok,invoke]
     simp only[Array.empty_append]
     rw[e1]
    rw[bp]
    exact sS
   ·rename_i f eB
    replace h:mb s.t sG (fun l=>uY eB l fun l=>call f l s.h s.n fun r h n=>q r ⟨s.t,h,n⟩)=true:=h
    obtain⟨l,h,hl⟩:=pr hR h
    rw[k8] at h
    simp only[PV.Is] at hx
    obtain⟨H_,Zo,Zp⟩:=hx
    have sS:=z5 hC hR h (Zp.append hl)
    have bp:(execOp a.eval ⟨dst,.call ⟨.value y,⟨sG⟩,ZY⟩,ty,pos,after,guard⟩).run C.cx.P w=(callFunc f (H_.toList++sG.map a.eval).toArray).run C.cx.P w:=by
     unfold execOp
     have e1:H_++(Array.mk sG).map a.eval=(H_.toList++sG.map a.eval).toArray:=by simp
     simp only[resolve,Zo,Deferred.ofValue,Sem.run_bind,Sem.run_pure,Result.andThen_ok,invoke]
     simp only[Array.append_empty]
     rw[e1]
    rw[bp]
    exact sS
  | invoke r m=>exact jo h
  | builtin bi =>
   cases bi<;>first|exact jo h|skip
   ·
    have hpc:o7 C s (.call ⟨.builtin .append,⟨sG⟩,ZY⟩) (fun v=>q v s)=false:=rfl
    match sG,ZY,h with
    | [od,ox],⟨[t,t']⟩,h =>
     replace h:(bif Nat.beq t t' then fe s.t od fun d=>fe s.t ox fun x=>sd C s t d x q else fe s.t od fun d=>fe s.t ox fun x=>(match x with
      | .val (.string u)=>tl u.data.toList fun cs=>o9 C s t t' d cs q
      | _=>false))=true:=h
     refine fO.intro fun I β a w hR=>?_
     cases ZZ:Nat.beq t t' with
     | true =>
      rw[ZZ] at h
      have:=Nat.eq_of_beq_eq_true ZZ
      subst this
      obtain⟨d,h,hd⟩:=ft hR (show fe s.t od _=true from h)
      obtain⟨x,h,hx⟩:=ft hR h
      obtain⟨r,w',hr,hp⟩:=B5 (ty:=ty) hG hR h hd hx
      have bp:(execOp a.eval ⟨dst,.call ⟨.builtin .append,⟨[od,ox]⟩,⟨[t,t]⟩⟩,ty,pos,after,guard⟩).run C.cx.P w = .ok (.value r) w':=by
       unfold execOp
       simp[resolve,invoke,builtin,hr]
      rw[bp]
      exact hp
     | false =>
      rw[ZZ] at h
      obtain⟨d,h,hd⟩:=ft hR (show fe s.t od _=true from h)
      obtain⟨x,h,hx⟩:=ft hR h
      split at h
      ·rename_i u
       rw[vN] at h
       simp only[PV.Is] at hx
       obtain⟨r,w',hr,hp⟩:=zY (ty:=ty) hG hR h hd
       have bp:(execOp a.eval ⟨dst,.call ⟨.builtin .append,⟨[od,ox]⟩,⟨[t,t']⟩⟩,ty,pos,after,guard⟩).run C.cx.P w = .ok (.value r) w':=by
        unfold execOp
        simp[resolve,invoke,builtin,hx.1,hr]
       rw[bp]
       exact hp
      ·cases h
    | [],_,h=>exact absurd h (by intro h; cases h)
    | [_],_,h=>exact absurd h (by intro h; cases h)
    | _::_::_::_,_,h=>exact absurd h (by intro h; cases h)
    | [_,_],⟨[]⟩,h=>exact absurd h (by intro h; cases h)
    | [_,_],⟨[_]⟩,h=>exact absurd h (by intro h; cases h)
    | [_,_],⟨_::_::_::_⟩,h=>exact absurd h (by intro h; cases h)
   ·
    match sG,ZY,h with
    | [od,ox],⟨t::ts⟩,h =>
     replace h:fe s.t od (fun d=>fe s.t ox fun x=>Dr C s t d x q)=true:=h
     refine fO.intro fun I β a w hR=>?_
     obtain⟨d,h,hd⟩:=ft hR h
     obtain⟨x,h,hx⟩:=ft hR h
     obtain⟨r,w',hr,hp⟩:=Jq (ty:=ty) (r:=ts) hG hR h hd hx
     have bp:(execOp a.eval ⟨dst,.call ⟨.builtin .copy,⟨[od,ox]⟩,⟨t::ts⟩⟩,ty,pos,after,guard⟩).run C.cx.P w = .ok (.value r) w':=by
      unfold execOp
      simp[resolve,invoke,builtin,hr]
     rw[bp]
     exact hp
    | [],_,h=>exact absurd h (by intro h; cases h)
    | [_],_,h=>exact absurd h (by intro h; cases h)
    | _::_::_::_,_,h=>exact absurd h (by intro h; cases h)
    | [_,_],⟨[]⟩,h=>exact absurd h (by intro h; cases h)
 | _=>exact jo h
end
end Go.Proofs.YtbnoodjnpooocaaGreatDoor.Pw
