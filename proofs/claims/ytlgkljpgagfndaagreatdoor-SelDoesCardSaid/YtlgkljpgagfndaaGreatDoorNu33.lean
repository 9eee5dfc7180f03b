/- What this claim is proved with: no condition. -/
import Derived.Test.YtlgkljpgagfndaaGreatDoorNu32
import Derived.Test.YtlgkljpgagfndaaGreatDoorNu31
import Derived.Test.YtlgkljpgagfndaaGreatDoorNu27
import Derived.Test.YtlgkljpgagfndaaGreatDoorNu21
set_option maxRecDepth 100000
set_option maxHeartbeats 16000000
set_option linter.unusedVariables false
set_option linter.unusedSimpArgs false
namespace Go.Proofs.YtlgkljpgagfndaaGreatDoor.Pw
open Go Go.RowKit
def rfU:Code->Code
 | .rangeFunc _ _ a _=>a
 | c=>c
def rfV:Code->Code
 | .rangeFunc _ _ _ b=>b
 | c=>c
def Wv (b:an):an:={ b with m:=.p }
theorem zq {w:World} {I:Nat->Prop} {β:aB} {st:List an} (h:aN I β st w) (hw:∀ b∈st,b.m≠.r):aN I β (st.map Wv) w:=by
 refine⟨fun l hl=>h.qG l (by simpa using hl),fun l b hb aP=>?_⟩
 rw[List.getElem?_map,Option.map_eq_some_iff] at hb
 obtain⟨b0,gq,rfl⟩:=hb
 obtain⟨p,hp,hk⟩:=h.gM l b0 gq aP
 have own:∀ {g:Nat} {fr:Nat × Nat},Own I β st l g fr b0->Own I β (st.map Wv) l g fr (Wv b0):=fun ho=>by
  obtain⟨h1,h2,h3⟩:=ho.1 (hw b0 (List.mem_of_getElem? gq))
  refine⟨fun _=>⟨h1,h2,fun l' b' dk dw fA p' g' o' e_ dH=>?_⟩,fun e=>(by cases e)⟩
  rw[List.getElem?_map,Option.map_eq_some_iff] at dw
  obtain⟨b1,O5,rfl⟩:=dw
  exact h3 l' b1 dk O5 fA p' g' o' e_ dH
 refine⟨p,hp,?_⟩
 obtain⟨k,ty,n,m,live,cs⟩:=b0
 cases k
 ·obtain⟨g,o,arr,t,fr,h1,h2,h3,ho⟩:=hk
  exact⟨g,o,arr,t,fr,h1,h2,h3,own ho⟩
 ·obtain⟨g,arr,fr,h1,h2,h3,ho,h4⟩:=hk
  exact⟨g,arr,fr,h1,h2,h3,own ho,h4⟩
 ·obtain⟨h0,hk⟩:=hk
  refine⟨h0,?_⟩
  rcases hk with h|⟨g,arr,fr,h1,h2,h3,ho,h4⟩
  ·exact .inl h
  ·exact .inr ⟨g,arr,fr,h1,h2,h3,own ho,h4⟩
 ·obtain⟨g,h1,h2,ho⟩:=hk
  exact⟨g,h1,h2,own ho⟩
noncomputable def myC:Code:=(Tryz.f21).body.getD .skip
noncomputable def myT:Code:=sU 2 myC
noncomputable def myR:Code:=inC (qU (E_ myT))
theorem Ww:sU 2 myC = .seq (.seq (E_ (E_ myT)) (.block 0 (.rangeFunc (.tmp 13) #[14,15] (rfU myR) (rfV myR)))) (qU myT):=by kernel_rfl
noncomputable def Kg (w:Nat->Int) (fl R:List Int) (a:Int) (L:List (Int × Int)) (n:Int) (r:PV):List an:=qp w fl++[⟨.loc,46,1,.w,true,sFs R a L⟩,⟨.loc,4,1,.w,true,[r]⟩,⟨.loc,3,1,.w,true,[.int .i64 n]⟩,⟨.loc,47,1,.w,true,[.ptr 1 0]⟩]
def Xc:List (Nat × PV):=[(3,.ptr 2 0),(4,.ptr 3 0),(5,.ptr 4 0),(13,.clo 92 [.ptr 5 0])]
section
variable (w:Nat->Int) (fl R:List Int) (a:Int) (L:List (Int × Int))
theorem Wx:bif Nat.ble [PV.ptr 1 0,sP R a L].length (Tryz.f21).ntmps && Nat.ble (Tryz.f21).ntmps 16777215 && !((Tryz.f21).name == "runtime.NumGoroutine") then lz (qp w fl) 0 fun b=>zZ [PV.ptr 1 0,sP R a L] 0 .nil fun t=>pw gT X_ 100 (Cw 2 myC) (fun e s'=>match e with
   | .f_=>pw gT X_ 100 (E_ (E_ myT)) (fun e s'=>match e with
    | .f_=>∃ π,fD gT.cx π s' ⟨(Tryz.f21).ntmps,ig Xc .nil,Kg w fl R a L 0 .ff,(qp w fl).length,[]⟩
    | _=>False) s'
   | _=>False) ⟨(Tryz.f21).ntmps,t,qp w fl,b,[]⟩ else False:=by
 refine⟨[],bf,Spec.kB al P49 100 Tryz.func49 rfl (by kernel_rfl) ?_⟩
 refine Exists.intro [some 0,some 1,some 2,some 3,some 4,some 5] (Exists.intro [(2,.clo 92 [.ptr 5 0])] (Exists.intro (Kg w fl R a L 0 .ff) (And.intro ?_ (And.intro (Nat.le_of_ble_eq_true rfl) ?_))))
 ·repeat' first|exact trivial|exact rfl|exact Iff.rfl|exact not_false|refine And.intro ?_ ?_
 refine⟨[some 0,some 1,some 2,some 3,some 4,some 5],?_⟩
 repeat' first|exact trivial|exact rfl|exact Iff.rfl|exact not_false|refine And.intro ?_ ?_
theorem Kh (hr:tq w L) (n j:Nat) (hn:n<=16384) (hj:j < 16384):ba.put ⟨(Tryz.f21).ntmps,ig Xc .nil,Kg w fl R a L n .ff,(Kg w fl R a L n .ff).length,[]⟩ (some 14) (.int .u32 (iN w j).1) fun s1=>s1.put (some 15) (.int .u32 (iN w j).2) fun s2=>AY gT 100 (rfU myR) (rfV myR) (Kg w fl R a L n .ff) (Kg w fl R a L (n+1:Nat) .ff) s2:=by
 have ha:aY (536870912+4*(j:Int)):=by unfold aY; omega
 have kl:=zj [] L (536870912+4*(j:Int)) ha (fun z hz=>by cases hz) (Nat.zero_le _)
 have h4:¬ (536870912+4*(j:Int)) % 4≠0:=by omega
 have xu:da (536870912+4*(j:Int)):=by unfold da; omega
 rw[Bc hr ha,Ct h4 xu,Cs h4 xu,show mD (536870912+4*(j:Int))=j by unfold mD; omega] at kl
 refine⟨rfl,?_⟩
 refine kl.u ?_
 refine⟨fun h=>(h rfl).elim,fun _=>?_⟩
 refine⟨fun h=>(h rfl).elim,fun _=>?_⟩
 refine li ?_ (show _<=(n:Int)+1/\(n:Int)+1<=_ by omega)
 refine⟨[some 0,some 1,some 2,some 3,some 4,some 5],?_⟩
 repeat' first|exact trivial|exact rfl|exact Iff.rfl|exact not_false|refine And.intro ?_ ?_
theorem Fh {L:List (Int × Int)} {k:Nat} {p:Int × Int} (h:L[k]?=some p):nD (L.take (k+1))=nD (L.take k)+(if p.2≠0 then 1 else 0):=by
 rw[List.take_add_one,h,qV]
 show _+((if p.2≠0 then 1 else 0)+0)=_
 omega
theorem Wy (hL:L.length<=100000) (N:Nat) (hN:(N:Int)=nD L) (D:Nat):pw (qd gT D) X_ 100 (qU myT) (fun e s'=>qz s'.st=true/\C3 (qd gT D) (Tryz.f21).results.toList (qp w fl).length (fun y S'=>y = .tt/\r_ S' (qp w fl)) e s') ⟨(Tryz.f21).ntmps,ig Xc .nil,Kg w fl R a L N .ff,(qp w fl).length,[]⟩:=by
 have el:(L.map wP).length=L.length:=List.length_map ..
 refine fun tE=>?_
 refine SW.p_ (G:=qd gT D) ⟨al.ok,al.bF⟩ X_ (by kernel_rfl) (α:={k:Nat // k<=L.length}) (fun k=>[(4,.ptr 3 0),(5,.ptr 4 0),(34,.sl 2 (L.map wP)),(35,.int .i64 ((L.map wP).length:Nat)),(36,.int .i64 k.1)]) (fun k=>Kg w fl R a L (N - nD (L.take k.1)) .ff) (fun k=>L.length - k.1) ⟨0,Nat.zero_le _⟩ 100 [some 0,some 1,some 2,some 3,some 4,some 5] ?_ ?_
 ·repeat' first|exact trivial|exact rfl|exact Iff.rfl|exact not_false|refine And.intro ?_ ?_
 rintro⟨k,hk⟩
 have hb:=w4 (L.take k)
 have eu:=w4 L
 refine⟨fun h=>?_,fun h=>?_⟩
 ·have h':(k:Int) < ((L.map wP).length:Nat):=h
  rw[el] at h'
  obtain⟨p,hp⟩:∃ p,L[k]?=some p:=⟨_,List.getElem?_eq_getElem (by omega)⟩
  have hs:=Fh hp
  refine⟨Int × Int,L,wP,rfl,show (0:Int)<=(k:Int) by omega,show (k:Int) < (L.length:Int) by omega,fun q hq=>?_⟩
  obtain rfl:p=q:=Option.some.inj (hp.symm.trans hq)
  have kv:=w4 (L.drop (k+1))
  have eQ:nD L=nD (L.take (k+1))+nD (L.drop (k+1)):=by rw[← qV,List.take_append_drop]
  refine⟨fun hz=>?_,fun hz=>?_⟩
  ·rw[if_pos (show p.2≠0 from hz)] at hs
   refine li ?_ (show _<=(N:Int) - nD (L.take k) - 1/\(N:Int) - nD (L.take k) - 1<=_ by omega)
   refine .inl ⟨aq (show _<=(k:Int)+1/\(k:Int)+1<=_ by omega),⟨⟨k+1,by omega⟩,[some 0,some 1,some 2,some 3,some 4,some 5],show L.length - (k+1) < L.length - k by omega,?_⟩⟩
   repeat' first|exact trivial|exact rfl|exact Iff.rfl|exact not_false|refine And.intro ?_ ?_
   all_goals exact (show (N:Int) - nD (L.take k) - 1=N - nD (L.take (k+1)) by rw[hs]; omega)
  ·rw[if_neg (show ¬ p.2≠0 from hz),Int.add_zero] at hs
   refine .inl ⟨aq (show _<=(k:Int)+1/\(k:Int)+1<=_ by omega),⟨⟨k+1,by omega⟩,[some 0,some 1,some 2,some 3,some 4,some 5],show L.length - (k+1) < L.length - k by omega,?_⟩⟩
   repeat' first|exact trivial|exact rfl|exact Iff.rfl|exact not_false|refine And.intro ?_ ?_
   all_goals exact (show (N:Int) - nD (L.take k)=N - nD (L.take (k+1)) by rw[hs])
 ·have h':¬ (k:Int) < ((L.map wP).length:Nat):=h
  rw[el] at h'
  have cX:L.take k=L:=List.take_of_length_le (by omega)
  refine⟨rfl,?_⟩
  exact bo (fo (show (N:Int) - nD (L.take k)=0 by rw[cX]; omega)) (aj rfl)
theorem CN {W:World} {I:Nat->Prop} {β:aB} {v:Value} {f:FuncId} {l:Nat} (h:(PV.clo f [.ptr l 0]).Is W I β v):∃ p g o,β l=some p/\p.a=some (g,o)/\v = .func (.func f) #[] #[.pointer (some ⟨g,o+0,none⟩)]:=by
 simp only[PV.Is] at h
 obtain⟨kY,rfl,hc⟩:=h
 obtain⟨l⟩:=kY
 match l,hc with
 | [x],hc =>
  simp only[bG,PV.Is] at hc
  obtain⟨⟨p,g,o,h1,h2,rfl⟩,_⟩:=hc
  exact⟨p,g,o,h1,h2,rfl⟩
 | [],hc=>simp only[bG] at hc
 | _::_::_,hc=>simp only[bG,and_false] at hc
theorem my_it (n:Nat):fD gT.cx [some 0,some 1,some 5] ⟨(Tryz.f21).ntmps,ig Xc .nil,Kg w fl R a L n .ff,0,[]⟩ ⟨(Tryz.f21).ntmps,ig [(13,.clo 92 [.ptr 2 0])] .nil,[AP w,MO fl,⟨.loc,47,1,.w,true,[.ptr 1 0]⟩],0,[]⟩:=by
 repeat' first|exact trivial|exact rfl|exact Iff.rfl|exact not_false|refine And.intro ?_ ?_
theorem Fi {w:Nat->Int} {pre:List (Int × Int)} {x:Int × Int} (h:pre++[x] <+: cB w 16384):pre.length < 16384/\∃ j,j < 16384/\x=iN w j:=by
 have hl:=h.length_le
 have hb:=mR w 16384
 rw[List.length_append,List.length_singleton] at hl
 refine⟨by omega,?_⟩
 have hx:x∈cB w 16384:=h.subset (List.mem_append.2 (.inr (List.mem_singleton.2 rfl)))
 have key:∀ n,x∈cB w n->∃ j,j < n/\x=iN w j:=by
  intro n
  induction n with
  | zero=>intro h; cases h
  | succ n ih =>
   intro h
   rw[cB] at h
   split at h
   ·obtain⟨j,hj,e⟩:=ih h; exact⟨j,by omega,e⟩
   ·rcases List.mem_append.1 h with h|h
    ·obtain⟨j,hj,e⟩:=ih h; exact⟨j,by omega,e⟩
    ·exact⟨n,by omega,List.mem_singleton.1 h⟩
 exact key _ hx
theorem Fj (hw:∀ k,aY (w k)) (hr:tq w L) (hk:KD L) (hL:L.length<=100000):Spec gT 21 [.ptr 1 0,sP R a L] (qp w fl) [] fun y S'=>y = .tt/\S'=qp w fl:=by
 refine Spec.jP (Spec.VD (c:=myC) al X_ 100 2 Tryz.func21 (by kernel_rfl) (by kernel_rfl) (by kernel_rfl) Ww (by kernel_rfl) (by kernel_rfl) (fun x:Int × Int=>.int .u32 x.1) (fun x=>.int .u32 x.2) (fun x=>.int .u32 x.1) (fun x=>.int .u32 x.2) (fun x w I β=>⟨by simp only[PV.Is],by simp only[PV.Is]⟩) (cB w 16384) (fun pre=>Kg w fl R a L pre.length .ff) (fun pre=>rfl) Xc (Wx w fl R a L) ?_ ?_ ?_)
 ·intro I β ac W hR
  obtain⟨v,hv,hi⟩:=hR.get 13 (.clo 92 [.ptr 5 0]) rfl
  obtain⟨p,g,o,_,_,rfl⟩:=CN hi
  have ev:ac.eval (.tmp 13) = .func (.func 92) #[] #[.pointer (some ⟨g,o+0,none⟩)]:=by simp only[Act.eval,Array.getD_eq_getD_getElem?,hv,Option.getD_some]
  refine⟨_,_,_,ev,fY Tryz.func92 rfl (by kernel_rfl),Ff w fl hw g o 4,fun pre W I' aU dm _=>?_⟩
  have W_:Rel gT I' aU ⟨(Tryz.f21).ntmps,ig Xc .nil,Kg w fl R a L pre.length .ff,0,[]⟩ ac W:=⟨dm.small,dm.defers,dm.size,Nat.zero_le _,dm.get,dm.heap,dm.ay⟩
  obtain⟨I2,gl,kO,_⟩:=cL al.ok (my_it w fl R a L pre.length) I' aU ac W W_
  obtain⟨v2,WE,vB⟩:=kO.get 13 (.clo 92 [.ptr 2 0]) rfl
  rw[hv] at WE
  cases WE
  obtain⟨p2,g2,o2,h1,h2,h3⟩:=CN vB
  simp only[Value.func.injEq,Array.mk.injEq,List.cons.injEq,Value.pointer.injEq,Option.some.injEq,Addr.mk.injEq,true_and,and_true,Nat.add_zero] at h3
  obtain⟨rfl,rfl⟩:=h3
  exact⟨I2,gl,zq kO.heap (by intro b hb; simp only[List.mem_cons,List.not_mem_nil,or_false] at hb; rcases hb with rfl|rfl|rfl<;>exact nofun),kO.ay,p2,h1,h2⟩
 ·intro pre x hp
  obtain⟨hn,j,hj,rfl⟩:=Fi hp
  have:=Kh w fl R a L hr pre.length j (by omega) hj
  rw[show (pre++[iN w j]).length=pre.length+1 by rw[List.length_append,List.length_singleton]]
  exact this
 ·intro D
  exact Wy w fl R a L hL _ (Kb hr hk) D
end
theorem Bf (o:VO) (hf:aO o/\dQ o) (hk:o.kind=2\/o.kind=5) (R:List Int) (hl:R.length=8) (a:Int) (L:List (Int × Int)):ai gT 15 [sP R a L,nC o] (.int .u32 (dK R a o)):=by
 obtain⟨g1,g2,g3,g4,g5,g6,_⟩:=jh hf
 obtain⟨_,_,f5,_⟩:=CL hf
 have ew:(gv R).length=8:=by show (R.map (PV.int .u32)).length=8; rw[List.length_map,hl]
 have hx:∀ f:Int,∀ x,R[f.toNat]?=some x->x=fP R f:=fun f x h=>by unfold fP; rw[List.getD_eq_getElem?_getD,h]; rfl
 refine Spec.enter al P15 100 Tryz.func15 rfl (by kernel_rfl) ?_
 refine⟨fun h=>?_,fun h=>?_⟩
 ·have h':o.kind=2:=h
  rw[show dK R a o=IntKind.u32.wrap (a+o.n) from if_neg (by omega)]
  refine .inr ?_
  exact rA
 ·have h':o.kind=5:=by have:¬ o.kind=2:=h; omega
  obtain⟨h0,h1,_⟩:=f5 h'
  rw[show dK R a o=IntKind.u32.wrap (fP R o.f0+IntKind.u32.wrap (4*fP R o.f1)) from if_pos (by omega)]
  refine⟨fun h=>absurd (show o.f0 < 0 from h) (by omega),fun _=>?_⟩
  refine⟨fun h=>absurd (show o.f1 < 0 from h) (by omega),fun _=>?_⟩
  refine⟨fun h=>absurd (show 7 < o.f0 from h) (by omega),fun _=>?_⟩
  refine⟨fun h=>absurd (show 7 < o.f1 from h) (by omega),fun _=>?_⟩
  refine⟨Int,R,PV.int .u32,rfl,h0,show o.f0 < (R.length:Int) by omega,fun x hq=>?_⟩
  obtain rfl:=hx o.f0 x hq
  refine⟨Int,R,PV.int .u32,rfl,h1,show o.f1 < (R.length:Int) by omega,fun x hq=>?_⟩
  obtain rfl:=hx o.f1 x hq
  refine .inr ?_
  refine .inr ?_
  exact rA
def o4:List (Nat × aS):=[(10,.pure 1 <| .pure 2 <| .pure 4 <| .pure 5 <| .load 6 [9,7] <| .bq 0 (.bq 3 (.pure 7 <| .bq 8 (.bq 9 (.done) (.nil)) (.nil)) (.sub 8 (.bq 3 (.pure 7 <| .bq 9 (.done) (.nil)) (.nil)) (.nil))) (.sub 8 (.bq 0 (.bq 3 (.pure 7 <| .bq 9 (.done) (.nil)) (.nil)) (.nil)) (.nil))),(46,.pure 0 <| .load 2 [19,18,17,16,15,14,13,12,11,10,9,8,7,6,5,4,3] <| .bq 1 (.bq 3 (.pure 4 <| .pure 5 <| .pure 6 <| .pure 7 <| .pure 8 <| .pure 9 <| .pure 10 <| .pure 11 <| .pure 12 <| .pure 13 <| .pure 14 <| .pure 15 <| .pure 16 <| .pure 17 <| .pure 18 <| .pure 19 <| .done) (.nil)) (.nil))]
def l5 (s:RS):RS:={ s with R:=kS s.R 13 (bits .andNot .u32 (s.R 13) 3) }
def qD (s:RS):List Int:=[s.R 0,s.R 1,s.R 2,s.R 3,s.R 4,s.R 5,s.R 6,s.R 7]
def xB (s:RS) (L:List (Int × Int)):an:=⟨.loc,46,1,.w,true,[.wref 5,.int .u32 (bits .andNot .u32 (s.R 13) 3),.sl 1 (gI []),.sl 2 (L.map wP)]⟩
def rg8B (m:Md) (s:RS):an:=⟨.dyn,24,1,m,true,gv (qD s)⟩
noncomputable def Px (o:VO) (s:RS) (m:MS) (L:List (Int × Int)):List an:=[oB o,va 29 (AO (l5 s))]++stD 2 m++[rg8B .w s,xB s L]
noncomputable def Py (o:VO) (s:RS) (F:List IN) (words:List Int):ba:=⟨(Tryz.f4).ntmps,ig [(2,.sl 1 (gv words)),(3,.ptr 0 0),(4,.ptr 1 0),(7,.sl 11 (bO F)),(9,.ptr 4 0),(10,.ptr 6 0)] .nil,Px o s (o5 (cV F) 0) [],0,[]⟩
theorem Wz (s:RS) (R:Nat->Int) (h:∀ n:Nat,n < 8->R n=s.R n):∀ n:Nat,n < 8->(qD s).getD n 0=R n:=fun n hn=>by
 rw[h n hn]
 match n,hn with
 | 0,_|1,_|2,_|3,_|4,_|5,_|6,_|7,_=>rfl
theorem Fk {x:Int} (h:aY x):aY (bits .andNot .u32 x 3):=(dG h (show aY 3 from ⟨by decide,by decide⟩)).2.2.2
theorem tC (s:RS):∀ k:Nat,k < 16->(AO s)[0+k*1]?=some (.int .u32 (s.R k))
 | 0,_|1,_|2,_|3,_|4,_|5,_|6,_|7,_|8,_|9,_|10,_|11,_|12,_|13,_|14,_|15,_=>rfl
 | k+16,h=>absurd h (by omega)
theorem WA (R:List Int) (a:Int) (L:List (Int × Int)) (o:VO):(dR R a L o).length=R.length:=by
 unfold dR iL
 repeat' split
 all_goals simp only[List.length_set]
def yB (R:List Int) (a:Int) (L:List (Int × Int)):an:=⟨.loc,46,1,.w,true,sFs R a L⟩
def vf (s:RS) (k:Nat):Int:=IntKind.u32.wrap ((l5 s).R 13+4*(k:Int))
structure WdI (n:Nat) where
 w:Nat->Int
 L:List (Int × Int)
 k:Nat
 bd:∀ j,aY (w j)
 ram:tq w L
 lok:KD L
 len:L.length<=k
 kn:k<=n
theorem w7 (o:VO) (ho:o.Ok) (s:RS) (hs:J6 s) (words:List Int) (hwd:∀ z∈words,aY z):ai gT 4 [nC o,qy s,.sl 1 (gv words)] .tt:=by
 have hn:=ho.n
 have ew:(gv words).length=words.length:=List.length_map ..
 refine Spec.enter al o4 100 Tryz.func4 rfl (by kernel_rfl) ?_
 refine⟨[],bf,tZ.use trivial rfl rfl ?_⟩
 by_cases hf:aO o/\dQ o
 ·refine (uX o hn).u ?_
  refine⟨fun h=>absurd hf h,fun _=>?_⟩
  refine fun qF=>?_
  refine⟨fun h20=>?_,fun h20=>?_⟩
  ·exact rA
  have h20':¬ (20:Int) < ((gv words).length:Nat):=h20
  rw[ew] at h20'
  have hi:=EP o ho hf
  have hle:=kk o
  have u9:=tj o hf hn
  have uc:=fun {m:MS}=>@Ow o hf hn m
  generalize ar o=F at hi hle u9 uc
  have hb:=Oo F 0 (by omega) u9 (by decide)
  refine hi.u ?_
  refine⟨[],bf,hb.MA rfl (by repeat' first|exact trivial|exact rfl|exact Iff.rfl|exact Or.inl rfl|refine And.intro ?_ ?_) rfl ?_⟩
  refine⟨fun h=>absurd rfl h,fun _=>?_⟩
  refine Exists.intro (Py o s F words) (And.intro ?sub (And.intro (Exists.intro (Py o s F words) (And.intro Sub.refl (And.intro ?K (And.intro ?a2 ?r2)))) (And.intro ?a1 ?r1)))
  case sub =>
   refine cL al.ok (π:=[some 0,some 1,some 2,some 3,some 4,some 6,some 7]) ?_
   repeat' first|exact trivial|exact rfl|exact Iff.rfl|exact not_false|refine And.intro ?_ ?_
  case a2 =>
   refine cL al.ok (π:=[some 0,some 1,some 2,some 3,some 4,some 7,some 5]) ?_
   repeat' first|exact trivial|exact rfl|exact Iff.rfl|exact not_false|refine And.intro ?_ ?_
  case r2=>exact trivial
  case a1 =>
   refine cL al.ok (π:=[some 0,some 1,some 2,some 3,some 4,some 7,some 6]) ?_
   repeat' first|exact trivial|exact rfl|exact Iff.rfl|exact not_false|refine And.intro ?_ ?_
  case r1=>exact trivial
  case K =>
   refine fun xp=>?_
   refine SW.p_ al o4 (by kernel_rfl) (α:=WdI words.length) (fun x=>[(3,.ptr 0 0),(4,.ptr 1 0),(7,.sl 11 (bO F)),(9,.ptr 4 0),(10,.ptr 6 0),(65,.sl 1 (gv words)),(66,.int .i64 ((gv words).length:Nat)),(67,.int .i64 x.k)]) (fun x=>Px o s (fM (o5 (cV F) 0) x.w) x.L) (fun x=>words.length - x.k) ⟨fun _=>0,[],0,fun _=>⟨by decide,by decide⟩,fun j _=>rfl,⟨List.nodup_nil,fun p hp=>by cases hp⟩,Nat.zero_le _,Nat.zero_le _⟩ 100 [some 0,some 1,some 2,some 3,some 4,some 5,some 6] ?_ ?_
   ·repeat' first|exact trivial|exact rfl|exact Iff.rfl|exact not_false|refine And.intro ?_ ?_
   rintro⟨w,L,k,Bw,km,lh,hlen,hkn⟩
   refine⟨fun h=>?_,fun h=>?_⟩
   ·have h':(k:Int) < ((gv words).length:Nat):=h
    rw[ew] at h'
    obtain⟨x,hx⟩:∃ x,words[k]?=some x:=⟨_,List.getElem?_eq_getElem (by omega)⟩
    have Wg:=hwd x (List.mem_of_getElem? hx)
    have ha:aY (vf s k):=wrap_u32 _
    have ks:=Bb [] L (vf s k) x ha (by omega)
    refine⟨Int,words,PV.int .u32,rfl,show (0:Int)<=(k:Int) by omega,show (k:Int) < (words.length:Int) by omega,fun q hq=>?_⟩
    obtain rfl:x=q:=Option.some.inj (hx.symm.trans hq)
    refine li ?_ (show _<=4*(k:Int)/\4*(k:Int)<=_ by omega)
    refine lu ?_ (show 0<=4*(k:Int)/\4*(k:Int)<=_ by omega)
    refine .inr ?_
    refine⟨[],bf,Spec.enter al P11 100 Tryz.func11 rfl (by kernel_rfl) ?_⟩
    refine Exists.intro _ (And.intro (zx.refl _) ?_)
    refine (jd w (cV F) (vf s k) x ha).q [2,3] ?_
    refine ks.u ?_
    refine⟨fun h=>absurd rfl h,fun _=>?_⟩
    have hsl:=zk L (vf s k) x
    refine li ?_ (show _<=(k:Int)+1/\(k:Int)+1<=_ by omega)
    refine⟨⟨wI w (vf s k) x,kL L (vf s k) x,k+1,A8 Bw _ Wg,ve km ha x,zo lh ha x,by omega,by omega⟩,[some 0,some 1,some 2,some 3,some 4,some 5,some 6],show words.length - (k+1) < words.length - k by omega,?_⟩
    repeat' first|exact trivial|exact rfl|exact Iff.rfl|exact not_false|refine And.intro ?_ ?_
   ·clear h
    have hbl:=ji F
    have hs13:aY (bits .andNot .u32 (s.R 13) 3):=Fk (hs.r 13)
    have Yg:J6 (nx (l5 s)):=⟨tc (tc hs.r hs13) ⟨by decide,by decide⟩,hs.n,hs.z,hs.c,hs.v⟩
    have m0:=V6 (wait:=0) (On F) (by omega) (by decide)
    have hmw:qA (fM (o5 (cV F) 0) w):=⟨⟨Bw,m0.mem.fl,m0.mem.len⟩,m0.s,m0.wait,m0.mB⟩
    have rZ:qA (ua (fM (o5 (cV F) 0) w) (nx (l5 s))):=N4 hmw Yg.ok
    have hA:KB (ua (fM (o5 (cV F) 0) w) (nx (l5 s))) F 0:=⟨rfl,rfl,rfl⟩
    have hR8:∀ n:Nat,n < 8->(qD s).getD n 0=(ua (fM (o5 (cV F) 0) w) (nx (l5 s))).s.R n:=Wz s _ fun n hn=>by
     show kS (kS s.R 13 _) 15 _ n=_
     unfold kS
     rw[if_neg (by omega),if_neg (by omega)]
    have hR13:(ua (fM (o5 (cV F) 0) w) (nx (l5 s))).s.R 13=bits .andNot .u32 (s.R 13) 3:=rfl
    have hRb:∀ n:Nat,8<=n->n < 15->(ua (fM (o5 (cV F) 0) w) (nx (l5 s))).s.R n=(nx (l5 s)).R n:=fun n _ _=>rfl
    have hcy:(ua (fM (o5 (cV F) 0) w) (nx (l5 s))).mB=0:=rfl
    have Pz:tq (ua (fM (o5 (cV F) 0) w) (nx (l5 s))).w L:=km
    refine (V0 (fM (o5 (cV F) 0) w) (nx (l5 s))).q [2,3,4] ?_
    generalize ua (fM (o5 (cV F) 0) w) (nx (l5 s))=m at rZ hA hR8 hR13 hRb hcy Pz ⊢
    have XQ:=fun hg=>uc rZ hA (R:=qD s) (L:=L) rfl hR8 Pz lh hg
    rw[hR13] at XQ
    have hu8:∀ z∈qD s,aY z:=fun z hz=>by
     simp only[qD,List.mem_cons,List.not_mem_nil,or_false] at hz
     rcases hz with rfl|rfl|rfl|rfl|rfl|rfl|rfl|rfl<;>exact hs.r _
    have hld:∀ x,aY x->aY (qh [] L x):=fun x hx=>by rw[Bc km hx]; exact CM Bw x
    have hdo:=Ou o hf hn (qD s) rfl hu8 _ hs13 L (by omega) hld
    have rY:=fun hk=>Bf o hf hk (qD s) rfl (bits .andNot .u32 (s.R 13) 3) L
    refine⟨fun k5=>?c5,fun k5=>?d5⟩
    case' c5 =>
     refine⟨[],bf,(rY (.inr k5)).x5 [5] rfl (by repeat' first|exact trivial|exact rfl|exact Iff.rfl|exact Or.inl rfl|refine And.intro ?_ ?_) rfl rfl ?_⟩
     refine⟨fun Bz=>?e5,fun Bz=>?f5⟩
     case' e5 =>
      refine⟨[],bf,(rY (.inr k5)).x5 [5] rfl (by repeat' first|exact trivial|exact rfl|exact Iff.rfl|exact Or.inl rfl|refine And.intro ?_ ?_) rfl rfl ?_⟩
      refine⟨fun cE=>?g5,fun cE=>?i5⟩
      case g5=>exact rA
      case' i5=>have hg:o.kind=2\/o.kind=5->¬ (134217728<=dK (qD s) (bits .andNot .u32 (s.R 13) 3) o/\dK (qD s) (bits .andNot .u32 (s.R 13) 3) o < 134283264):=fun _ h=>cE h.2
     case' f5=>have hg:o.kind=2\/o.kind=5->¬ (134217728<=dK (qD s) (bits .andNot .u32 (s.R 13) 3) o/\dK (qD s) (bits .andNot .u32 (s.R 13) 3) o < 134283264):=fun _ h=>Bz h.1
    case' d5 =>
     refine⟨fun k2=>?c2,fun k2=>?d2⟩
     case' c2 =>
      refine⟨[],bf,(rY (.inl k2)).x5 [5] rfl (by repeat' first|exact trivial|exact rfl|exact Iff.rfl|exact Or.inl rfl|refine And.intro ?_ ?_) rfl rfl ?_⟩
      refine⟨fun Bz=>?e2,fun Bz=>?f2⟩
      case' e2 =>
       refine⟨[],bf,(rY (.inl k2)).x5 [5] rfl (by repeat' first|exact trivial|exact rfl|exact Iff.rfl|exact Or.inl rfl|refine And.intro ?_ ?_) rfl rfl ?_⟩
       refine⟨fun cE=>?g2,fun cE=>?i2⟩
       case g2=>exact rA
       case' i2=>have hg:o.kind=2\/o.kind=5->¬ (134217728<=dK (qD s) (bits .andNot .u32 (s.R 13) 3) o/\dK (qD s) (bits .andNot .u32 (s.R 13) 3) o < 134283264):=fun _ h=>cE h.2
      case' f2=>have hg:o.kind=2\/o.kind=5->¬ (134217728<=dK (qD s) (bits .andNot .u32 (s.R 13) 3) o/\dK (qD s) (bits .andNot .u32 (s.R 13) 3) o < 134283264):=fun _ h=>Bz h.1
     case' d2=>have hg:o.kind=2\/o.kind=5->¬ (134217728<=dK (qD s) (bits .andNot .u32 (s.R 13) 3) o/\dK (qD s) (bits .andNot .u32 (s.R 13) 3) o < 134283264):=fun h=>h.elim (fun h=>absurd h k2) (fun h=>absurd h k5)
    all_goals
     have Xd:=XQ hg
     clear XQ uc rY hg
     refine⟨[],bf,hdo.x5 [5] rfl (by repeat' first|exact trivial|exact rfl|exact Iff.rfl|exact Or.inl rfl|refine And.intro ?_ ?_) rfl rfl ?_⟩
     refine fun Mb=>?_
     have eF:(bO F).length=F.length:=List.length_map ..
     have eR:=WA (qD s) (bits .andNot .u32 (s.R 13) 3) L o
     have eL:(dL (qD s) (bits .andNot .u32 (s.R 13) 3) L o).length<=100000:=by have:=Ws (qD s) (bits .andNot .u32 (s.R 13) 3) L o; omega
     generalize dR (qD s) (bits .andNot .u32 (s.R 13) 3) L o=R2 at Xd eR ⊢
     generalize dL (qD s) (bits .andNot .u32 (s.R 13) 3) L o=L2 at Xd eL ⊢
     generalize dT (qD s) o=T at Xd ⊢
     generalize dE (qD s) (bits .andNot .u32 (s.R 13) 3) o=E at Xd ⊢
     refine SW.p_ al o4 (by kernel_rfl) (α:={k:Nat // k<=F.length/\∀ j,j < k->gu (mv j m)=0}) (fun k=>[(3,.ptr 0 0),(4,.ptr 1 0),(7,.sl 11 (bO F)),(9,.ptr 4 0),(17,.ptr 5 0),(18,.int .i64 T),(19,.int .i64 E),(131,.int .i64 ((bO F).length:Nat)),(132,.int .i64 k.1)]) (fun k=>[oB o,va 29 (AO (nx (l5 s)))]++stD 2 (mv k.1 m)++[yB R2 (bits .andNot .u32 (s.R 13) 3) L2]) (fun k=>F.length - k.1) ⟨0,Nat.zero_le _,fun j hj=>absurd hj (Nat.not_lt_zero _)⟩ 100 [some 0,some 1,some 2,some 3,some 4,some 7] ?_ ?_
     ·repeat' first|exact trivial|exact rfl|exact Iff.rfl|exact not_false|refine And.intro ?_ ?_
     rintro⟨k,hk,hj⟩
     obtain⟨hM,hcy2⟩:=Kc rZ hcy k (by omega)
     refine⟨fun h=>?_,fun h=>?_⟩
     ·have h':(k:Int) < ((bO F).length:Nat):=h
      rw[eF] at h'
      refine (NY (mv k m) hM).q [2,3,4] ?_
      refine⟨fun he=>?_,fun he=>?_⟩
      ·refine ax (fo (show E≠0 from ?_))
       rcases Xd with ⟨_,h2,_⟩|⟨h1,_,_⟩
       ·exact absurd (h2 k (by omega)) he
       ·exact h1
      ·have CT:gu (mv k m)=0:=Classical.not_not.1 he
       refine .inl ⟨aq (show _<=(k:Int)+1/\(k:Int)+1<=_ by omega),⟨⟨k+1,by omega,fun j XC=>?_⟩,[some 0,some 1,some 2,some 3,some 4,some 5],show F.length - (k+1) < F.length - k by omega,?_⟩⟩
       ·by_cases e:j=k
        ·rw[e]; exact CT
        ·exact hj j (by omega)
       repeat' first|exact trivial|exact rfl|exact Iff.rfl|exact not_false|refine And.intro ?_ ?_
     ·have h':¬ (k:Int) < ((bO F).length:Nat):=h
      rw[eF] at h'
      obtain rfl:k=F.length:=by omega
      obtain⟨hE,_,uc⟩:E=0/\(∀ k,k < F.length->gu (mv k m)=0)/\tA o m (mv F.length m) R2 L2 T:=by
       rcases Xd with h3|⟨h1,h2,h3⟩
       ·exact h3
       ·exact absurd (hj 0 (by omega)) h3
      refine⟨fun h=>absurd hE h,fun _=>?_⟩
      refine (JV (mv F.length m)).q [2,3,4] ?_
      obtain⟨kP,_⟩:=Kc rZ hcy F.length (by omega)
      generalize mv F.length m=m2 at kP uc ⊢
      have hidx:∀ k:Nat,0+((k:Int)).toNat*1=0+k*1:=fun k=>by omega
      refine SW.p_ al o4 (by kernel_rfl) (α:={k:Nat // k<=15}) (fun k=>[(3,.ptr 0 0),(4,.ptr 1 0),(9,.ptr 4 0),(17,.ptr 5 0),(18,.int .i64 T),(22,.ptr 6 0),(148,.int .i64 k.1)]) (fun _=>[oB o,va 29 (AO (nx (l5 s)))]++stD 2 m2++[yB R2 (bits .andNot .u32 (s.R 13) 3) L2,va 29 (AO m2.s)]) (fun k=>15 - k.1) ⟨0,Nat.zero_le _⟩ 100 [some 0,some 1,some 2,some 3,some 4,some 5,some 6] ?_ ?_
      ·repeat' first|exact trivial|exact rfl|exact Iff.rfl|exact not_false|refine And.intro ?_ ?_
      rintro⟨k,hk⟩
      refine⟨fun h=>?_,fun h=>?_⟩
      ·have h':(k:Int) < 15:=h
       have hr:=uc.r k (by omega)
       refine⟨show (0:Int)<=(k:Int) by omega,show (k:Int) < 16 by omega,?_⟩
       refine .inr ⟨rfl,show (0:Int)<=(k:Int) by omega,show 0+(k:Int).toNat*1 < 20 by omega,fun c hc=>?_⟩
       obtain rfl:=Option.some.inj (hc.symm.trans (tC (nx (l5 s)) k (by omega)))
       refine⟨fun h8=>?_,fun h8=>?_⟩
       ·have h8':(k:Int) < 8:=h8
        rw[if_pos (show k < 8 by omega)] at hr
        refine⟨Int,R2,PV.int .u32,rfl,show (0:Int)<=(k:Int) by omega,show (k:Int) < (R2.length:Int) by rw[eR]; show (k:Int) < ((8:Nat):Int); omega,fun x hq=>?_⟩
        refine⟨show (0:Int)<=(k:Int) by omega,show (k:Int) < 16 by omega,?_⟩
        refine .inr ⟨rfl,show (0:Int)<=(k:Int) by omega,show 0+(k:Int).toNat*1 < 20 by omega,fun c hc=>?_⟩
        obtain rfl:=Option.some.inj (hc.symm.trans (tC m2.s k (by omega)))
        have hx:R2.getD k 0=x:=by
         have tJ:R2[k]?=some x:=hq
         rw[List.getD_eq_getElem?_getD,tJ]; rfl
        refine⟨fun dk=>absurd (show m2.s.R k=x by rw[hr,hx]) dk,fun _=>?_⟩
        refine .inl ⟨aq (show _<=(k:Int)+1/\(k:Int)+1<=_ by omega),⟨⟨k+1,by omega⟩,[some 0,some 1,some 2,some 3,some 4,some 5,some 6],show 15 - (k+1) < 15 - k by omega,?_⟩⟩
        repeat' first|exact trivial|exact rfl|exact Iff.rfl|exact not_false|refine And.intro ?_ ?_
       ·have h8':¬ (k:Int) < 8:=h8
        rw[if_neg (show ¬ k < 8 by omega)] at hr
        refine⟨show (0:Int)<=(k:Int) by omega,show (k:Int) < 16 by omega,?_⟩
        refine .inr ⟨rfl,show (0:Int)<=(k:Int) by omega,show 0+(k:Int).toNat*1 < 20 by omega,fun c hc=>?_⟩
        obtain rfl:=Option.some.inj (hc.symm.trans (tC m2.s k (by omega)))
        refine⟨fun dk=>absurd (show m2.s.R k=(nx (l5 s)).R k by rw[hr,hRb k (by omega) (by omega)]) dk,fun _=>?_⟩
        refine .inl ⟨aq (show _<=(k:Int)+1/\(k:Int)+1<=_ by omega),⟨⟨k+1,by omega⟩,[some 0,some 1,some 2,some 3,some 4,some 5,some 6],show 15 - (k+1) < 15 - k by omega,?_⟩⟩
        repeat' first|exact trivial|exact rfl|exact Iff.rfl|exact not_false|refine And.intro ?_ ?_
      ·refine (ER o).u ?_
       refine (zl m2.s kP.s (lX o.kind)).u ?_
       refine⟨[],bf,Spec.enter al P11 100 Tryz.func11 rfl (by kernel_rfl) ?_⟩
       refine Exists.intro _ (And.intro (zx.refl _) ?_)
       refine (Fj m2.w m2.fl R2 (bits .andNot .u32 (s.R 13) 3) L2 kP.mem.w uc.ram uc.lok eL).q [2,3] ?_
       refine⟨fun _=>?_,fun h=>absurd uc.holds.symm h⟩
       refine⟨fun _=>?_,fun h0=>?_⟩
       ·exact rA
       ·exact ax (fo (show T=qf o.kind from uc.Kd.resolve_left h0))
 ·refine (uX o hn).u ?_
  refine⟨fun _=>?_,fun h=>absurd hf h⟩
  exact rA
def Ox (n:Nat) (S:PV->Prop) (x:PV):Prop:=∃ xs:List PV,xs.length=n/\(∀ y∈xs,S y)/\x = .agg xs
theorem zr {w:World} {I:Nat->Prop} {β:aB}:∀ {xs:List PV} {cs:List Value},xs.length=cs.length->(∀ (i:Nat) (y:PV) (c:Value),xs[i]?=some y->cs[i]?=some c->y.Is w I β c)->bG w I xs β cs:=fun {xs cs} hl h =>
 bG.of hl fun i c hc=>by
  have cE:i < cs.length:=by rw[← hl]; exact (List.getElem?_eq_some_iff.1 hc).1
  exact⟨cs[i],List.getElem?_eq_getElem cE,h i c _ hc (List.getElem?_eq_getElem cE)⟩
theorem opArr {P:Program} {t e:TypeId} {S:PV->Prop} {n:Nat} (he:Op P e S) (ht:P.underlying t=some (.array n e)) (Yd:P.cellsOf e=1) (hc:P.cellsOf t=n) (h1:∀ y,S y->y.cells = [y]):Op P t (Ox n S):=fun {H} ec w base held fuel cs x h rY=>by
 obtain⟨xs,m,_,rfl,hl,rr,hx⟩:=DataW.trod_array ht h
 rw[hc] at hl
 have each:∀ i,i < n->∃ y,S y/\∃ c,cs[i]?=some c/\y.Is w (In w) no c/\c.oneCell'=true:=fun i hi=>by
  have hxi:=hx i hi
  rw[Yd,Nat.mul_one,List.getElem?_eq_getElem (by omega)] at hxi
  obtain⟨y,hS,_,hy,Kq,lC⟩:=he ec w base held m _ _ hxi fun k hk=>rY k (by
   simp only[DataW.weights,ht]
   exact jy (List.mem_map.2 ⟨xs[i],List.getElem_mem _,rfl⟩) hk)
  have hci:i < cs.length:=by omega
  have e1:(cs.drop i).take 1 = [cs[i]]:=by
   rw[List.drop_eq_getElem_cons hci]; rfl
  rw[e1,h1 y hS] at hy
  simp only[bG,and_true] at hy
  exact⟨y,hS,cs[i],List.getElem?_eq_getElem hci,hy,lC _ (by rw[e1]; simp)⟩
 obtain⟨ys,hys,hp⟩:=lI n each
 refine⟨.agg ys,⟨ys,hys,fun y hy=>?_,rfl⟩,nofun,zr (by show ys.length=cs.length; omega) fun i y c hy hci=>?_,by rw[hl,hc],fun c hcc=>?_⟩
 ·obtain⟨i,hi⟩:=List.getElem?_of_mem hy
  exact (hp i y hi).1
 ·obtain⟨_,c2,iP,h2,_⟩:=hp i y hy
  rw[hci] at iP; cases iP; exact h2
 ·obtain⟨i,hi⟩:=List.getElem?_of_mem hcc
  have cE:i < ys.length:=by have:=(List.getElem?_eq_some_iff.1 hi).1; omega
  obtain⟨_,c2,iP,_,h2⟩:=hp i ys[i] (List.getElem?_eq_getElem cE)
  rw[hi] at iP; cases iP; exact h2
def w8 (x:PV):Prop:=∃ s:RS,J6 s/\x=qy s
theorem Fl (x:PV) (h:om [Ox 16 (SInt .u32),SInt .u32,SInt .u32,SInt .u32,SInt .u32] x):w8 x:=by
 obtain⟨xs,h,rfl⟩:=h
 obtain⟨_,_,rfl,⟨rs,hr,eQ,rfl⟩,h_1⟩:=cY h
 obtain⟨_,_,rfl,⟨n,bn,rfl⟩,h_2⟩:=cY h_1
 obtain⟨_,_,rfl,⟨z,bz,rfl⟩,h_3⟩:=cY h_2
 obtain⟨_,_,rfl,⟨c,bc,rfl⟩,h_4⟩:=cY h_3
 obtain⟨_,_,rfl,⟨v,bv,rfl⟩,h_5⟩:=cY h_4
 obtain rfl:=oo h_5
 obtain⟨zs,hz,rfl⟩:=decode (S:=SInt .u32) (enc:=PV.int .u32) (ok:=aY) (fun x ⟨z,hz,e⟩=>⟨z,j9 hz,e⟩) rs eQ
 rw[List.length_map] at hr
 refine⟨⟨fun k=>zs.getD k 0,n,z,c,v⟩,⟨fun k=>?_,(j9 bn).1,(j9 bz).1,(j9 bc).1,(j9 bv).1⟩,?_⟩
 ·show aY (zs.getD k 0)
  rw[List.getD_eq_getElem?_getD]
  cases e:zs[k]? with
  | none=>exact y_
  | some y=>exact hz y (List.mem_of_getElem? e)
 ·match zs,hr with
  | [a0,a1,a2,a3,a4,a5,a6,a7,a8,a9,a10,a11,a12,a13,a14,a15],_=>rfl
theorem Ki:Op Tryz.prog 29 (om [Ox 16 (SInt .u32),SInt .u32,SInt .u32,SInt .u32,SInt .u32]) :=
 O3 (Ss:=[Ox 16 (SInt .u32),SInt .u32,SInt .u32,SInt .u32,SInt .u32]) Tryz.underlying29
  ⟨rfl,opArr pA Tryz.underlying27 (by kernel_rfl) (by kernel_rfl) SInt.cell,(show _=_ by kernel_rfl),pA,(show _=_ by kernel_rfl),pA,(show _=_ by kernel_rfl),pA,(show _=_ by kernel_rfl),pA,(show _=_ by kernel_rfl)⟩
theorem Oy:Op Tryz.prog 29 w8:=Ki.GM Fl
theorem zt (y:PV) (h:w8 y):∃ xs,y = .agg xs:=by
 obtain⟨s,_,rfl⟩:=h; exact⟨_,rfl⟩
theorem Fm (y:PV) (h:SVO y):∃ xs,y = .agg xs:=by
 obtain⟨o,_,rfl⟩:=h
 exact⟨_,rfl⟩
theorem Kj:Op Tryz.prog 38 (WN 1 4 (PV.int .u32) aY) :=
 Qn (Li pA 1 4 (by kernel_rfl) Tryz.underlying38 (by kernel_rfl) (by decide) (by kernel_rfl)) fun x ⟨a,ha,e⟩=>⟨a,j9 ha,e⟩
theorem ud (x:PV) (sx:SVO x) (z:PV) (sz:w8 z) (u:PV) (su:WN 1 4 (PV.int .u32) aY u):ai gT 4 [x,z,u] .tt:=by
 obtain⟨o,ho,rfl⟩:=sx
 obtain⟨r,hr,rfl⟩:=sz
 obtain⟨l,_,hl,rfl⟩:=su
 exact w7 o ho r hr l hl
end Go.Proofs.YtlgkljpgagfndaaGreatDoor.Pw
