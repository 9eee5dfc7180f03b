/- What this claim is proved with: no condition. -/
import Derived.Test.YtbnoodjnpooocaaGreatDoorNw15
import Derived.Test.YtbnoodjnpooocaaGreatDoorNwCwNa
import Derived.Test.YtbnoodjnpooocaaGreatDoorNw8
import Derived.Test.YtbnoodjnpooocaaGreatDoorNw25
import Derived.Test.YtbnoodjnpooocaaGreatDoorNw11
import Derived.Test.YtbnoodjnpooocaaGreatDoorNw24
import Derived.Test.YtbnoodjnpooocaaGreatDoorNw22
import Derived.Test.YtbnoodjnpooocaaGreatDoorRows
import Derived.Test.YtbnoodjnpooocaaGreatDoorNw7
import Derived.ProofKit
import Derived.LaidMore
import Derived.OpenShut
import Derived.Stop.Joined
import Derived.Lib.LaidTab
set_option maxRecDepth 100000
set_option maxHeartbeats 16000000
set_option linter.unusedVariables false
set_option linter.unusedSimpArgs false
namespace Go.Proofs.YtbnoodjnpooocaaGreatDoor.Pw
open Go Go.RowKit
theorem wW:∀ {cs:List PV} {c:PV} {l:Nat},c∈cs->l∈c.df->l∈dp cs
 | d::cs,c,l,h,hl=>by
  simp only[dp,List.mem_append]
  rcases List.mem_cons.1 h with rfl|h
  ·exact .inl hl
  ·exact .inr (wW h hl)
theorem EP {I:Nat->Prop} {β:an} {st:List aj} {w:World} {l:Nat} {ty n:Nat} {m:Md} {cs:List PV} (hH:aC I β st w) (hl:st[l]?=some ⟨.loc,ty,n,m,true,cs⟩) (hm:m≠.r) (hu:dp cs = []) :
  ∃ p g o,β l=some p/\p.a=some (g,o)/\aC I (fun k=>if k=0 then some p else none) [⟨.loc,ty,n,.p,true,cs⟩] w:=by
 obtain⟨p,hp,g,o,arr,t,fr,ha,hh,hc,ho⟩:=hH.dX l _ hl rfl
 refine⟨p,g,o,hp,ha,fun k hk=>if_neg (by simp at hk; omega),fun k b hk az=>?_⟩
 match k,hk with
 | 0,hk =>
  simp at hk
  subst hk
  refine⟨p,rfl,g,o,arr,t,fr,ha,hh,fun i c hic=>?_,fun _=>?_,fun h=>by cases h⟩
  ·obtain⟨v,h1,h2,h3⟩:=hc i c hic
   refine⟨v,h1,PV.Is.mono (fun _ h=>h) (fun _ _=>rfl) c β _ v (fun l' p' iu _=>?_) h2,h3⟩
   have:l'∈dp cs:=wW (List.mem_of_getElem? hic) iu
   rw[hu] at this
   cases this
  ·obtain⟨h1,h2,_⟩:=ho.1 hm
   refine⟨h1,h2,fun l' b' cN iu _ p' g' o' dM _=>?_⟩
   match l',iu with
   | 0,_=>exact absurd rfl cN
   | _+1,iu=>simp at iu
 | _+1,hk=>simp at hk
theorem iM {G:Gx} {I I':Nat->Prop} {β ay:an} {s s':aD} {w w':World} (hg:aG I β s w I' ay s' w') (hm:s.st.all (fun b=>match b.m with
  | .w=>false
  | _=>true)=true):Below w.heap.size w w':=⟨hg.ext.os,hg.ext.tape,hg.ext.output,hg.ext.size,fun g h=>hg.ext.block g h fun ⟨l,b,p,o,h1,_,h3,_⟩=>by
 rw[List.all_eq_true] at hm
 have:=hm b (List.mem_of_getElem? h1)
 rw[h3] at this
 cases this⟩
def inL2:Code->Code
 | .loop c=>c
 | c=>c
def uK:Code->Array Oper
 | .region _ ops _=>ops
 | _=>#[]
noncomputable def exC:Code:=(Tryz.f42).body.getD .skip
noncomputable def Hp:Code:=inL2 (Yc (iK exC))
noncomputable def Rl:Code:=Yc (lA (iK (iK Hp)))
noncomputable def Qa:Code:=lA (iK Rl)
noncomputable def GX:List Oper:=(uK Qa).toList
noncomputable def Rn:Oper:=GX.getD 5 default
theorem Yg:exC = .seq (lA exC) (.block 0 (.loop Hp)):=by kernel_rfl
theorem Yh:Hp = .seq (lA Hp) (.seq (lA (iK Hp)) (.seq (.block 1 Rl) (iK (iK (iK Hp))))):=by kernel_rfl
theorem Yi:Rl = .seq (lA Rl) (.seq Qa (iK (iK Rl))):=by kernel_rfl
theorem Yj:Qa = .region 3 (uK Qa) false:=by kernel_rfl
theorem Yk:GX=GX.take 5++Rn::GX.drop 6:=by kernel_rfl
theorem Yl:Rn.op = .call { callee:=.value (.tmp 16),args:=#[.tmp 17],argTypes:=#[3] }:=by kernel_rfl
theorem Qb:Rn.dst=some 18:=by kernel_rfl
def CY:aj:=⟨.loc,72,1,.p,true,[wE]⟩
noncomputable abbrev yvC (l:Nat):PV:=.val (.func (.yield l) #[] #[])
noncomputable def xJ (l:Nat):Nat->aD
 | 0=>⟨22,lf [(0,yvC l),(1,.ptr 0 0),(6,wE),(7,.int .i64 1),(8,.int .i64 0)] .nil,[CY],1,[]⟩
 | _=>⟨22,lf [(7,.int .i64 1),(8,.int .i64 1)] .nil,[CY],1,[]⟩
noncomputable def xE:aD:=⟨22,.nil,[CY],1,[]⟩
section
variable (l:Nat)
theorem Mh:BV [yvC l,.ptr 0 0] 0 .nil fun t=>pw gT [] 100 (lA exC) (fun x s'=>match x with
  | .cA=>∃ π,fK gT.cx π s' (xJ l 0)
  | _=>False) ⟨22,t,[CY],1,[]⟩:=by
 refine fun _=>⟨[some 0],?_⟩
 repeat' first|exact trivial|exact rfl|exact Iff.rfl|exact not_false|refine And.intro ?_ ?_
theorem Mi:pw gT [] 100 (lA Hp) (fun x s'=>match x with
  | .cA=>pw gT [] 100 (lA (iK Hp)) (fun x s'=>match x with
   | .cA=>∃ π,fK gT.cx π s' (xJ l 0)
   | _=>False) s'
  | _=>False) (xJ l 0):=by
 refine⟨fun _=>?_,fun h=>absurd (show (0:Int) < 1 by decide) h⟩
 refine⟨[some 0],?_⟩
 repeat' first|exact trivial|exact rfl|exact Iff.rfl|exact not_false|refine And.intro ?_ ?_
theorem Mj:pw gT [] 100 (lA Hp) (fun x s'=>match x with
  | .cA=>pw gT [] 100 (lA (iK Hp)) (fun x s'=>match x with
   | .exit id=>id=0
   | _=>False) s'
  | _=>False) (xJ l 1):=by
 refine⟨fun h=>absurd (show (1:Int) < 1 from h) (by decide),fun _=>?_⟩
 exact rfl
structure AtYC (s:aD):Prop where
 g7:s.t.get 7=some (.int .i64 1)
 g8:s.t.get 8=some (.int .i64 0)
 g15:s.t.get 15=some .tt
 g16:s.t.get 16=some (yvC l)
 g17:s.t.get 17=some (.int .i64 0)
theorem Ml:pw gT [] 100 (lA Rl) (fun x s'=>x = .cA/\xb gT GX (fun x s''=>x = .cA/\gB GX s'' Rn (AtYC l) (fun _=>False)) (GX.take 5) s') (xJ l 0):=by
 refine⟨PV,[X0],id,rfl,by decide,by decide,fun x hx=>?_⟩
 obtain rfl:X0=x:=Option.some.inj hx
 refine⟨rfl,rfl,?_⟩
 exact⟨rfl,rfl,rfl,rfl,rfl⟩
theorem GY:xE.put (some 7) (.int .i64 1) fun s=>s.put (some 8) (.int .i64 0) fun s=>s.put (some 15) .tt fun s=>s.put (some 18) .tt fun s=>xb gT GX (fun x s'=>x = .cA/\pw gT [] 100 (iK (iK Rl)) (fun x s'=>match x with
  | .cA=>pw gT [] 100 (iK (iK (iK Hp))) (fun x s'=>match x with
   | .cA=>∃ π,fK gT.cx π s' (xJ l 1)
   | _=>False) s'
  | _=>False) s') (GX.drop 6) s:=by
 refine⟨rfl,?_⟩
 refine li ?_ (show _<=(0:Int)+1/\(0:Int)+1<=_ by decide)
 refine⟨[some 0],?_⟩
 repeat' first|exact trivial|exact rfl|exact Iff.rfl|exact not_false|refine And.intro ?_ ?_
end
def Qc (a:Act):Nat:=match a.tmps[8]? with
 | some (Value.int _ z)=>(1 - z).toNat
 | _=>0
def exI:Nat->List Int
 | 0=>[]
 | _=>[0]
theorem ER {j:Nat} (hj:j<=1) {l:Nat} {I:Nat->Prop} {β:an} {a:Act} {w:World} (hR:Rel gT I β (xJ l j) a w):Qc a=1 - j:=by
 match j,hj with
 | 0,_ =>
  obtain⟨v,hv,hi⟩:=hR.get 8 (.int .i64 0) rfl
  simp only[PV.Is] at hi
  subst hi
  unfold Qc
  rw[hv]
  rfl
 | 1,_ =>
  obtain⟨v,hv,hi⟩:=hR.get 8 (.int .i64 1) rfl
  simp only[PV.Is] at hi
  subst hi
  unfold Qc
  rw[hv]
  rfl
def exF0 (g o:Nat) (W:World):Prop:=∃ I β p,aC I β [CY] W/\cE gT I W/\β 0=some p/\p.a=some (g,o)
theorem Mm (g o n:Nat):vW n gT.cx.P 42 #[.pointer (some ⟨g,o,none⟩)] (fun x:Int=>#[.int .i64 x]) [0] (exF0 g o):=by
 intro l J W hJ ⟨I0,eU,p0,hH,hM,hp0,ha0⟩ hY h0
 refine callsIn_of_wp Tryz.func42 (show Tryz.f42.body=some exC by kernel_rfl) trivial ?_ rfl
 rw[Yg]
 obtain⟨t,ht,ig⟩:=mO (Mh l)
 have YK:=Rel.first (G:=gT) (S:=[CY]) (rl:=[]) (n:=22) (vals:=[.func (.yield l) #[] #[],.pointer (some ⟨g,o,none⟩)]) rfl (Nat.le_of_ble_eq_true rfl) (by decide) ig hH hM (by simp only[bg,PV.Is]; exact⟨⟨trivial,rfl⟩,⟨p0,g,o,hp0,ha0,rfl⟩,trivial⟩)
 rw[show Tryz.f42.ntmps=22 by kernel_rfl]
 refine wpIn_seq (wpIn_mono (wpIn_wide.2 ((er aA 100 _ _ _ (by kernel_rfl) ht).run YK)) fun e a1 W1 hp=>?_)
 obtain⟨x',s1,I1,jc,rfl,hq,cI,gV⟩:=hp.goes
 cases x' with
 | exit id=>exact hq.elim
 | ret=>exact hq.elim
 | cA =>
 obtain⟨π,hs⟩:=hq
 obtain⟨I2,ee,eM,jq⟩:=dD aA.ok hs I1 jc a1 W1 cI
 have hg:=gV.trans jq
 have hB:=iM (G:=gT) hg rfl
 refine wpIn_block (wpIn_loop (fun a W'=>∃ j,j<=1/\J (exI j) W'/\∃ I β,Rel gT I β (xJ l j) a W') (fun a _=>Qc a) ⟨0,Nat.zero_le _,hJ _ _ _ h0 hB,I2,ee,eM⟩ ?_)
 clear eM jq hg gV cI hB YK
 rintro a W' ⟨j,hj,hJj,I,β,hR⟩
 have hm:=ER hj hR
 rw[Yh]
 match j,hj with
 | 1,_ =>
  refine wpIn_seq (wpIn_mono (wpIn_wide.2 ((er aA 100 _ _ _ (by kernel_rfl) (Mj l)).run hR)) fun e a1 W1 hp=>?_)
  obtain⟨x',s1,I1,jc,rfl,hq,cI,gV⟩:=hp.goes
  cases x' with
  | exit id=>exact hq.elim
  | ret=>exact hq.elim
  | cA =>
  refine wpIn_seq (wpIn_mono (wpIn_wide.2 ((er aA 100 _ _ _ (by kernel_rfl) hq).run cI)) fun e a2 W2 hp=>?_)
  obtain⟨x',s2,I2,ee,rfl,hq,eM,jq⟩:=hp.goes
  have hJ2:=hJ _ _ _ hJj (iM (G:=gT) (gV.trans jq) rfl)
  cases x' with
  | cA=>exact hq.elim
  | ret=>exact hq.elim
  | exit id =>
   obtain rfl:=hq
   exact⟨eM.defers,_,results_none rfl _ _ _,⟨_,rfl⟩,hJ2⟩
 | 0,_ =>
  refine wpIn_seq (wpIn_mono (wpIn_wide.2 ((er aA 100 _ _ _ (by kernel_rfl) (Mi l)).run hR)) fun e a1 W1 hp=>?_)
  obtain⟨x',s1,I1,jc,rfl,hq,cI,gV⟩:=hp.goes
  cases x' with
  | exit id=>exact hq.elim
  | ret=>exact hq.elim
  | cA =>
  refine wpIn_seq (wpIn_mono (wpIn_wide.2 ((er aA 100 _ _ _ (by kernel_rfl) hq).run cI)) fun e a2 W2 hp=>?_)
  obtain⟨x',s2,I2,ee,rfl,hq,eM,jq⟩:=hp.goes
  cases x' with
  | exit id=>exact hq.elim
  | ret=>exact hq.elim
  | cA =>
  obtain⟨π,hs⟩:=hq
  obtain⟨I3,sY,nz,xy⟩:=dD aA.ok hs I2 ee a2 W2 eM
  have hJ3:=hJ _ _ _ hJj (iM (G:=gT) ((gV.trans jq).trans xy) rfl)
  refine wpIn_seq (wpIn_block ?_)
  rw[Yi]
  refine wpIn_seq (wpIn_mono (wpIn_wide.2 ((er aA 100 _ _ _ (by kernel_rfl) (Ml l)).run nz)) fun e a4 W4 hp=>?_)
  obtain⟨x',s4,I4,SP,rfl,hq,DZ,yc⟩:=hp.goes
  obtain⟨rfl,hq⟩:=hq
  refine wpIn_seq ?_
  rw[Yj]
  refine wpIn_region_list ?_
  show wpListIn (Hc none) n gT.cx.P (uK Qa) _ GX a4 W4
  rw[Yk]
  refine pA (ops:=uK Qa) aA (GX.take 5) (by kernel_rfl) hq DZ fun s5 I5 β5 a5 W5 hq SQ Q1=>?_
  have hJ5:=hJ _ _ _ hJ3 (iM (G:=gT) (yc.trans Q1) rfl)
  unfold wpListIn
  rcases c9 (ops:=uK Qa) SQ hq.2 with ⟨cP,s6,hA,hs6,Ym⟩|⟨_,_,hf,_⟩
  rotate_left
  ·exact hf.elim
  rw[cP,if_pos rfl]
  obtain⟨v7,hv7,i7⟩:=Ym.get _ _ hA.g7
  obtain⟨v8,hv8,i8⟩:=Ym.get _ _ hA.g8
  obtain⟨v15,hv15,i15⟩:=Ym.get _ _ hA.g15
  obtain⟨v16,hv16,i16⟩:=Ym.get _ _ hA.g16
  obtain⟨v17,hv17,i17⟩:=Ym.get _ _ hA.g17
  simp only[PV.Is] at i7 i8 i15 i16 i17
  obtain⟨rfl,_⟩:=i16
  subst i7
  subst i8
  subst i15
  subst i17
  obtain⟨fn,tmps,assign,body,hy,tZ⟩:=hY [] 0 W5 (List.prefix_refl _) hJ5
  have bp:(Rn.semAt none a5.eval).run gT.cx.P W5 = .ok (.round l fn tmps assign body) W5:=by
   rw[Oper.semAt_none]
   unfold execOp
   rw[Yl]
   simp[resolve,invoke,hv16,hv17,go_sem]
   exact hy
  refine⟨fun _ _=>trivial,?_⟩
  show Rn.uponIn _ _ _ _ _ _ ((Rn.semAt none a5.eval).run gT.cx.P W5)
  rw[bp,Oper.uponIn_round]
  refine⟨fun h=>(by cases h),tZ.mono ?_⟩
  rintro e W7 ⟨rfl,hJ7,I7,β7,_,hH7,hM7,_,_⟩
  show wpListIn (Hc none) n gT.cx.P (uK Qa) _ (GX.drop 6) (a5.put Rn.dst (.bool true)) W7
  rw[Qb]
  have eL:a5.tmps.size=22:=Ym.size.trans (hs6.n.trans (Q1.n.trans yc.n))
  have hRE:Rel gT I7 β7 xE (a5.put (some 18) (.bool true)) W7:=⟨Nat.le_of_ble_eq_true rfl,Ym.defers,by simp only[Act.put,Array.size_setIfInBounds]; exact eL,Nat.le_refl _,fun m x hx=>(by cases hx),hH7,hM7⟩
  have oH:∀ {m:Nat} {v:Value},a5.tmps[m]?=some v->m≠18->(a5.put (some 18) (.bool true)).tmps[m]?=some v:=fun h cN=>by simp only[Act.put,Array.getElem?_setIfInBounds_ne (Ne.symm cN)]; exact h
  obtain⟨u7,h,q7,r7⟩:=aD.gk hRE (oH hv7 (by decide)) (by simp only[PV.Is]) (GY l)
  obtain⟨u8,h,q8,r8⟩:=aD.gk r7 (oH hv8 (by decide)) (by simp only[PV.Is]) h
  obtain⟨u15,h,q15,r15⟩:=aD.gk r8 (oH hv15 (by decide)) (by simp only[PV.Is]) h
  obtain⟨u18,h,q18,r18⟩:=aD.gk r15 (v:=.bool true) (t:=18) (by simp only[Act.put]; rw[Array.getElem?_setIfInBounds,if_pos rfl,if_pos (by omega)]) (by simp only[PV.Is]) h
  refine vV (ops:=uK Qa) aA (GX.drop 6) (by kernel_rfl) h r18 fun s8 I8 β8 a8 W8 hq hR8 hg8=>?_
  have est:u18.st = [CY]:=q18.st.trans (q15.st.trans (q8.st.trans q7.st))
  show (iK (iK Rl)).wpIn Fence.wide n gT.cx.P _ a8 W8
  refine wpIn_mono (wpIn_wide.2 ((er aA 100 _ _ _ (by kernel_rfl) hq.2).run hR8)) fun e a9 W9 hp=>?_
  obtain⟨x',s9,I9,β9,rfl,hq,hR9,hg9⟩:=hp.goes
  cases x' with
  | exit id=>exact hq.elim
  | ret=>exact hq.elim
  | cA =>
  show (iK (iK (iK Hp))).wpIn Fence.wide n gT.cx.P _ a9 W9
  refine wpIn_mono (wpIn_wide.2 ((er aA 100 _ _ _ (by kernel_rfl) hq).run hR9)) fun e R4 W10 hp=>?_
  obtain⟨x',s10,I10,β10,rfl,hq,hR10,hg10⟩:=hp.goes
  cases x' with
  | exit id=>exact hq.elim
  | ret=>exact hq.elim
  | cA =>
  obtain⟨π,hs⟩:=hq
  obtain⟨I11,β11,hR11,hg11⟩:=dD aA.ok hs I10 β10 R4 W10 hR10
  have hJ11:=hJ _ _ _ hJ7 (iM (G:=gT) (((hg8.trans hg9).trans hg10).trans hg11) (by rw[est]; rfl))
  refine⟨⟨1,Nat.le_refl _,hJ11,I11,β11,hR11⟩,?_⟩
  rw[hm,ER (Nat.le_refl 1) hR11]
  decide
theorem Yn {b:aj} (h:exB b=true):b=⟨.loc,72,1,.w,true,[wE]⟩:=by
 obtain⟨k,ty,n,m,live,cs⟩:=b
 unfold exB at h
 simp only[Bool.and_eq_true] at h
 obtain⟨⟨⟨⟨⟨h1,h2⟩,h3⟩,h4⟩,h5⟩,h6⟩:=h
 subst h1
 obtain rfl:=Nat.eq_of_beq_eq_true h3
 obtain rfl:=Nat.eq_of_beq_eq_true h4
 have h6:=gO h6
 cases k<;>first|cases h2|skip
 cases m<;>first|cases h5|skip
 rw[h6]
theorem A_ {s:CS} {gv:PV} (h:A6 s gv=true):∃ l,gv = .clo 42 [.ptr l 0]/\l < s.n/\(eD s.h s.n)[l]?=some ⟨.loc,72,1,.w,true,[wE]⟩:=by
 unfold A6 at h
 split at h
 ·rename_i f l
  rw[Bool.and_eq_true] at h
  obtain rfl:=Nat.eq_of_beq_eq_true h.1
  obtain⟨b,hb,h2⟩:=ar h.2
  obtain rfl:=Yn h2
  unfold CS.dX at hb
  cases bZ:Nat.blt l s.n with
  | false=>rw[bZ] at hb; cases hb
  | true =>
   rw[bZ] at hb
   replace bZ:l < s.n:=Nat.le_of_ble_eq_true bZ
   replace hb:s.h.get l=some _:=hb
   exact⟨l,rfl,bZ,by rw[dC,if_pos bZ,hb]; rfl⟩
 ·cases h
noncomputable def Yo:Func:=Tryz.f13
theorem Yp:CD.cx.P.funcs[13]?=some Yo:=Tryz.func13
theorem Qd:Nat.ble Yo.ntmps 16777215=true:=by kernel_rfl
theorem Mn:(Yo.name == "runtime.NumGoroutine")=false:=by kernel_rfl
theorem Mo:Yo.body=some YX:=by kernel_rfl
theorem Mp:cf P13 YX=true:=by kernel_rfl
theorem Qe:Fx 4 YX=true:=by kernel_rfl
theorem cpF_a:fT (rfA Ri)=true:=by kernel_rfl
theorem cpF_b:fT (rfB Ri)=true:=by kernel_rfl
theorem cpF_n:Nat.ble 1 Yo.ntmps=true:=by kernel_rfl
noncomputable def cpK (r:PV) (h:BM) (n:Nat):Bool:=ye CD.cx h n 9 r fun y=>BS y (.tup [nJ,kI 0,kI 0])
theorem Qf:(tp [pW] 0 .nil fun t=>yf CD (QJ CD 99) P13 Yo.ntmps 4 (.tmp 35) 36 0 (rfA Ri) (rfB Ri) (lA (lA Rh)) (iK Rh) YX A6 (fun x s=>match x with
  | .exit _=>false
  | _=>xK CD s Yo.results.toList fun r=>cpK r s.h s.n) ⟨t,.nil,0⟩)=true:=Ye
theorem yM:Spec gT 13 [pW] (eD .nil 0) [] fun r S=>∃ h' n',S=eD h' n'/\cpK r h' n'=true:=by
 refine Spec.bodyR (C:=CD) (K:=cpK) cdOk.g (Cd cdOk 99) Yp (Nat.le_of_ble_eq_true Qd) Mn Mo Mp Qe Yd cpF_a cpF_b (chk:=A6) (Nat.le_of_ble_eq_true cpF_n) ?YJ Qf
 intro s1 gv I β w v hc hH hM hv
 obtain⟨l,rfl,hl,hb⟩:=A_ hc
 obtain⟨p,g,o,hp,ha,hH1⟩:=EP hH hb (by decide) (by kernel_rfl)
 simp only[PV.Is] at hv
 obtain⟨vs,rfl,Db⟩:=hv
 match Zi:vs.toList,Db with
 | [u],Db =>
  simp only[bg,PV.Is,and_true] at Db
  obtain⟨p',g',o',dM,cJ,rfl⟩:=Db
  rw[hp] at dM
  cases dM
  rw[ha] at cJ
  cases cJ
  have Db:vs = #[.pointer (some ⟨g,o,none⟩)]:=by rw[← Array.toArray_toList (xs:=vs),Zi]; rfl
  subst Db
  refine⟨_,_,exF0 g o,rfl,je Tryz.func42 rfl (by kernel_rfl),Mm g o 4,fun s4 I' ay W hc4 hH4 hM4 dU=>?_⟩
  obtain⟨l',e',hl4,hb4⟩:=A_ hc4
  cases e'
  obtain⟨p4,g4,o4,hp4,ha4,hH5⟩:=EP hH4 hb4 (by decide) (by kernel_rfl)
  have e:ay l=some p4:=hp4
  rw[dU l hl,hp] at e
  cases e
  rw[ha] at ha4
  cases ha4
  exact⟨I',_,p,hH5,hM4,rfl,ha⟩
 | [],Db=>simp only[bg] at Db
 | _::_::_,Db=>simp only[bg,and_false] at Db
theorem yN:al gT 13 [pW] (.tup [nJ,kI 0,kI 0]) :=
 al.made (Spec.mono (show Spec gT 13 [pW] [] [] _ from yM) fun r S ⟨h',n',h1,h2⟩=>⟨h',n',h1,h2⟩)
theorem aR_bd (k:Nat):bQ (aR k):=by
 unfold aR
 split<;>(unfold bQ; decide)
theorem atA_0:Bl 0 (yJ (qo kO 0) Yb) where
 ok:=EK (L8 (by unfold K9; decide) (by decide) (by decide)) ⟨aR_bd,by decide,by decide,by decide,by decide⟩
 w:=rfl
 fl:=rfl
 wait:=rfl
 s:=rfl
 kind:=rfl
 fP:=Int.le_refl _
open Classical in
theorem Bl.next {m:MS} {k:Nat} {i:IN} (h:Bl k m) (hi:aI k=i) (hk:k<=9) (hf:e_ kO ((aN k).2.R 15)=0/\dA kO ((aN k).2.R 15)=i) (hd:qa (aM (aN k).1 (aN k).2) (bD (aN k).2 i)=0/\(jN (aM (aN k).1 (aN k).2) (bD (aN k).2 i)).kind=0) (hb:∀ (t:Prop) [Decidable t] a b,cT i t a b<=10):iq m=0/\Bl (k+1) (cM m):=by
 obtain⟨e,e1,e2,e3,e4,e5,e6,e7⟩:=L9 h hi hk hf hd.1 hb
 exact⟨e,⟨e1,e2,e3,e4,e5,e6.trans hd.2,e7⟩⟩
def sB:PV:=.agg [.sl 1 [.int .u64 41],.nil]
theorem Qg:qq sB qT:=fun w I β v h=>by
 unfold sB at h
 unfold qT
 simp only[PV.Is] at h ⊢
 obtain⟨vs,rfl,h⟩:=h
 refine⟨vs,rfl,?_⟩
 match hl:vs.toList,h with
 | [a,b],h =>
  simp only[bg,PV.Is,ca,List.length_cons,List.length_nil] at h ⊢
  exact h
 | [],h=>simp only[bg] at h
 | [_],h=>simp only[bg,and_false] at h
 | _::_::_::_,h=>simp only[bg,and_false] at h
theorem GZ:Spec gT 24 [nJ,jJ,sB,kI 0] [] [] fun r S'=>r = .tup [.ptr 2 0,.lit .i64 0]/\S'=stM (yJ (qo kO 0) Yb) :=
 Mc.argsP (And.intro (qq.refl _) (And.intro (qq.refl _) (And.intro Qg (And.intro (qq.refl _) trivial))))
noncomputable abbrev Mq (m:MS) (r:PV) (T:List aj):List aj:=[⟨.arr,5,1,.w,false,[]⟩,⟨.loc,48,1,.w,true,nJ.cells⟩,⟨.arr,51,1,.r,true,[.lit .u64 41]⟩,⟨.loc,48,1,.w,true,nJ.cells⟩,⟨.loc,60,1,.w,true,[.wref 2,.nil]⟩,⟨.loc,55,1,.w,true,[kI 0,kV 0,.nil,kI 0,.nil]⟩,⟨.loc,109,1,.w,true,jJ.cells⟩]++stD 7 m++[⟨.loc,55,1,.w,true,[kI 0,kV 0,.nil,kI 0,r]⟩]++T
abbrev uL (l:List PV):aj:=⟨.arr,38,5,.w,true,l⟩
abbrev dN:aj:=⟨.arr,38,5,.w,false,[]⟩
noncomputable abbrev fQ (m:MS):List PV:=[.int .u32 (evA m),.int .u32 (evD m),.int .i64 (evW m),.int .i64 (EH m),.int .i64 (Bk m)]
noncomputable abbrev dc (m:MS):aj:=⟨.loc,38,1,.w,true,fQ m⟩
theorem CZ:al gT 4 [] .tt:=by
 have qi:=GZ
 have Hd:=atA_0
 generalize yJ (qo kO 0) Yb=m0 at qi Hd
 refine Spec.CX aA [8] P4 100 Tryz.func4 rfl (by kernel_rfl) ?_
 refine Mf aA ?_
 refine yN.u ?_
 refine⟨[],bI,Spec.enter aA P14 100 Tryz.func14 rfl (by kernel_rfl) ?_⟩
 refine L_.u ?_
 refine⟨[],bI,Spec.lend (args':=[nJ,jJ,sB,kI 0]) [2] rfl (by repeat' first|exact trivial|exact rfl|exact Iff.rfl|refine And.intro ?_ ?_|((conv=>whnf); first|exact Or.inl rfl|exact Or.inr (And.intro rfl rfl))) rfl (qi.x_ rfl (by repeat' first|exact trivial|exact rfl|exact Iff.rfl|exact Or.inl rfl|refine And.intro ?_ ?_) rfl ?_)⟩
 refine⟨[],bI,Spec.fq aA P8 100 Tryz.func8 rfl (by kernel_rfl) ?_⟩
 refine SW.rounds aA P8 (by kernel_rfl) (N:=100) 11 ?_
 obtain⟨hE0,SK⟩:=Bl.next Hd rfl (by decide) aFl0 aD0 aB0
 refine⟨fun _=>?_,fun h=>absurd Hd.kind h⟩
 refine⟨fun h=>absurd (show (100:Int)<=m0.fP from h) (by have:=Hd.fP; omega),fun _=>?_⟩
 refine (gS m0 Hd.ok).q [7,8,9] ?_
 refine⟨fun he=>absurd hE0 he,fun _=>?_⟩
 refine⟨[],bI,Spec.fq aA Jv 100 Tryz.func25 rfl (by kernel_rfl) ?_⟩
 refine Exists.intro [some 0,some 1,some 2,some 3,some 4,some 5,some 6,some 7,some 8,some 9,some 10,some 11,some 14] (Exists.intro [] (Exists.intro (Mq (cM m0) (.wref 12) [dc m0,uL (fQ m0)]) (And.intro ?_ (And.intro (Nat.le_of_ble_eq_true rfl) ?_))))
 ·repeat' first|exact trivial|exact rfl|exact Iff.rfl|exact not_false|refine And.intro ?_ ?_
 generalize cM m0=m1 at SK ⊢
 obtain⟨MC,SO⟩:=Bl.next SK rfl (by decide) aFl1 aD1 aB1
 refine⟨fun _=>?_,fun h=>absurd SK.kind h⟩
 refine⟨fun h=>absurd (show (100:Int)<=m1.fP from h) (by have:=SK.fP; omega),fun _=>?_⟩
 refine (gS m1 SK.ok).q [7,8,9] ?_
 refine⟨fun he=>absurd MC he,fun _=>?_⟩
 refine⟨[],bI,Spec.fq aA Jv 100 Tryz.func25 rfl (by kernel_rfl) ?_⟩
 refine Exists.intro [some 0,some 1,some 2,some 3,some 4,some 5,some 6,some 7,some 8,some 9,some 10,some 11,some 12,some 13,some 16] (Exists.intro [] (Exists.intro (Mq (cM m1) (.wref 14) [dc m0,dN,dc m1,uL (fQ m0++fQ m1)]) (And.intro ?_ (And.intro (Nat.le_of_ble_eq_true rfl) ?_))))
 ·repeat' first|exact trivial|exact rfl|exact Iff.rfl|exact not_false|refine And.intro ?_ ?_
 generalize cM m1=m2 at SO ⊢
 obtain⟨RV,hA3⟩:=Bl.next SO rfl (by decide) aFl2 aD2 aB2
 refine⟨fun _=>?_,fun h=>absurd SO.kind h⟩
 refine⟨fun h=>absurd (show (100:Int)<=m2.fP from h) (by have:=SO.fP; omega),fun _=>?_⟩
 refine (gS m2 SO.ok).q [7,8,9] ?_
 refine⟨fun he=>absurd RV he,fun _=>?_⟩
 refine⟨[],bI,Spec.fq aA Jv 100 Tryz.func25 rfl (by kernel_rfl) ?_⟩
 refine Exists.intro [some 0,some 1,some 2,some 3,some 4,some 5,some 6,some 7,some 8,some 9,some 10,some 11,some 12,some 13,some 14,some 15,some 18] (Exists.intro [] (Exists.intro (Mq (cM m2) (.wref 16) [dc m0,dN,dc m1,dN,dc m2,uL (fQ m0++fQ m1++fQ m2)]) (And.intro ?_ (And.intro (Nat.le_of_ble_eq_true rfl) ?_))))
 ·repeat' first|exact trivial|exact rfl|exact Iff.rfl|exact not_false|refine And.intro ?_ ?_
 generalize cM m2=m3 at hA3 ⊢
 obtain⟨hE3,hA4⟩:=Bl.next hA3 rfl (by decide) aFl3 aD3 aB3
 refine⟨fun _=>?_,fun h=>absurd hA3.kind h⟩
 refine⟨fun h=>absurd (show (100:Int)<=m3.fP from h) (by have:=hA3.fP; omega),fun _=>?_⟩
 refine (gS m3 hA3.ok).q [7,8,9] ?_
 refine⟨fun he=>absurd hE3 he,fun _=>?_⟩
 refine⟨[],bI,Spec.fq aA Jv 100 Tryz.func25 rfl (by kernel_rfl) ?_⟩
 refine Exists.intro [some 0,some 1,some 2,some 3,some 4,some 5,some 6,some 7,some 8,some 9,some 10,some 11,some 12,some 13,some 14,some 15,some 16,some 17,some 20] (Exists.intro [] (Exists.intro (Mq (cM m3) (.wref 18) [dc m0,dN,dc m1,dN,dc m2,dN,dc m3,uL (fQ m0++fQ m1++fQ m2++fQ m3)]) (And.intro ?_ (And.intro (Nat.le_of_ble_eq_true rfl) ?_))))
 ·repeat' first|exact trivial|exact rfl|exact Iff.rfl|exact not_false|refine And.intro ?_ ?_
 generalize cM m3=m4 at hA4 ⊢
 obtain⟨hE4,hA5⟩:=Bl.next hA4 rfl (by decide) aFl4 aD4 aB4
 refine⟨fun _=>?_,fun h=>absurd hA4.kind h⟩
 refine⟨fun h=>absurd (show (100:Int)<=m4.fP from h) (by have:=hA4.fP; omega),fun _=>?_⟩
 refine (gS m4 hA4.ok).q [7,8,9] ?_
 refine⟨fun he=>absurd hE4 he,fun _=>?_⟩
 refine⟨[],bI,Spec.fq aA Jv 100 Tryz.func25 rfl (by kernel_rfl) ?_⟩
 refine Exists.intro [some 0,some 1,some 2,some 3,some 4,some 5,some 6,some 7,some 8,some 9,some 10,some 11,some 12,some 13,some 14,some 15,some 16,some 17,some 18,some 19,some 22] (Exists.intro [] (Exists.intro (Mq (cM m4) (.wref 20) [dc m0,dN,dc m1,dN,dc m2,dN,dc m3,dN,dc m4,uL (fQ m0++fQ m1++fQ m2++fQ m3++fQ m4)]) (And.intro ?_ (And.intro (Nat.le_of_ble_eq_true rfl) ?_))))
 ·repeat' first|exact trivial|exact rfl|exact Iff.rfl|exact not_false|refine And.intro ?_ ?_
 generalize cM m4=m5 at hA5 ⊢
 obtain⟨hE5,hA6⟩:=Bl.next hA5 rfl (by decide) aFl5 aD5 aB5
 refine⟨fun _=>?_,fun h=>absurd hA5.kind h⟩
 refine⟨fun h=>absurd (show (100:Int)<=m5.fP from h) (by have:=hA5.fP; omega),fun _=>?_⟩
 refine (gS m5 hA5.ok).q [7,8,9] ?_
 refine⟨fun he=>absurd hE5 he,fun _=>?_⟩
 refine⟨[],bI,Spec.fq aA Jv 100 Tryz.func25 rfl (by kernel_rfl) ?_⟩
 refine Exists.intro [some 0,some 1,some 2,some 3,some 4,some 5,some 6,some 7,some 8,some 9,some 10,some 11,some 12,some 13,some 14,some 15,some 16,some 17,some 18,some 19,some 20,some 21,some 24] (Exists.intro [] (Exists.intro (Mq (cM m5) (.wref 22) [dc m0,dN,dc m1,dN,dc m2,dN,dc m3,dN,dc m4,dN,dc m5,uL (fQ m0++fQ m1++fQ m2++fQ m3++fQ m4++fQ m5)]) (And.intro ?_ (And.intro (Nat.le_of_ble_eq_true rfl) ?_))))
 ·repeat' first|exact trivial|exact rfl|exact Iff.rfl|exact not_false|refine And.intro ?_ ?_
 generalize cM m5=m6 at hA6 ⊢
 obtain⟨hE6,hA7⟩:=Bl.next hA6 rfl (by decide) aFl6 aD6 aB6
 refine⟨fun _=>?_,fun h=>absurd hA6.kind h⟩
 refine⟨fun h=>absurd (show (100:Int)<=m6.fP from h) (by have:=hA6.fP; omega),fun _=>?_⟩
 refine (gS m6 hA6.ok).q [7,8,9] ?_
 refine⟨fun he=>absurd hE6 he,fun _=>?_⟩
 refine⟨[],bI,Spec.fq aA Jv 100 Tryz.func25 rfl (by kernel_rfl) ?_⟩
 refine Exists.intro [some 0,some 1,some 2,some 3,some 4,some 5,some 6,some 7,some 8,some 9,some 10,some 11,some 12,some 13,some 14,some 15,some 16,some 17,some 18,some 19,some 20,some 21,some 22,some 23,some 26] (Exists.intro [] (Exists.intro (Mq (cM m6) (.wref 24) [dc m0,dN,dc m1,dN,dc m2,dN,dc m3,dN,dc m4,dN,dc m5,dN,dc m6,uL (fQ m0++fQ m1++fQ m2++fQ m3++fQ m4++fQ m5++fQ m6)]) (And.intro ?_ (And.intro (Nat.le_of_ble_eq_true rfl) ?_))))
 ·repeat' first|exact trivial|exact rfl|exact Iff.rfl|exact not_false|refine And.intro ?_ ?_
 generalize cM m6=m7 at hA7 ⊢
 obtain⟨hE7,hA8⟩:=Bl.next hA7 rfl (by decide) aFl7 aD7 aB7
 refine⟨fun _=>?_,fun h=>absurd hA7.kind h⟩
 refine⟨fun h=>absurd (show (100:Int)<=m7.fP from h) (by have:=hA7.fP; omega),fun _=>?_⟩
 refine (gS m7 hA7.ok).q [7,8,9] ?_
 refine⟨fun he=>absurd hE7 he,fun _=>?_⟩
 refine⟨[],bI,Spec.fq aA Jv 100 Tryz.func25 rfl (by kernel_rfl) ?_⟩
 refine Exists.intro [some 0,some 1,some 2,some 3,some 4,some 5,some 6,some 7,some 8,some 9,some 10,some 11,some 12,some 13,some 14,some 15,some 16,some 17,some 18,some 19,some 20,some 21,some 22,some 23,some 24,some 25,some 28] (Exists.intro [] (Exists.intro (Mq (cM m7) (.wref 26) [dc m0,dN,dc m1,dN,dc m2,dN,dc m3,dN,dc m4,dN,dc m5,dN,dc m6,dN,dc m7,uL (fQ m0++fQ m1++fQ m2++fQ m3++fQ m4++fQ m5++fQ m6++fQ m7)]) (And.intro ?_ (And.intro (Nat.le_of_ble_eq_true rfl) ?_))))
 ·repeat' first|exact trivial|exact rfl|exact Iff.rfl|exact not_false|refine And.intro ?_ ?_
 generalize cM m7=m8 at hA8 ⊢
 obtain⟨hE8,Yq⟩:=Bl.next hA8 rfl (by decide) aFl8 aD8 aB8
 refine⟨fun _=>?_,fun h=>absurd hA8.kind h⟩
 refine⟨fun h=>absurd (show (100:Int)<=m8.fP from h) (by have:=hA8.fP; omega),fun _=>?_⟩
 refine (gS m8 hA8.ok).q [7,8,9] ?_
 refine⟨fun he=>absurd hE8 he,fun _=>?_⟩
 refine⟨[],bI,Spec.fq aA Jv 100 Tryz.func25 rfl (by kernel_rfl) ?_⟩
 refine Exists.intro [some 0,some 1,some 2,some 3,some 4,some 5,some 6,some 7,some 8,some 9,some 10,some 11,some 12,some 13,some 14,some 15,some 16,some 17,some 18,some 19,some 20,some 21,some 22,some 23,some 24,some 25,some 26,some 27,some 30] (Exists.intro [] (Exists.intro (Mq (cM m8) (.wref 28) [dc m0,dN,dc m1,dN,dc m2,dN,dc m3,dN,dc m4,dN,dc m5,dN,dc m6,dN,dc m7,dN,dc m8,uL (fQ m0++fQ m1++fQ m2++fQ m3++fQ m4++fQ m5++fQ m6++fQ m7++fQ m8)]) (And.intro ?_ (And.intro (Nat.le_of_ble_eq_true rfl) ?_))))
 ·repeat' first|exact trivial|exact rfl|exact Iff.rfl|exact not_false|refine And.intro ?_ ?_
 generalize cM m8=m9 at Yq ⊢
 replace Yq:Bl 9 m9:=Yq
 obtain⟨hE9,hM10,_,_,_,Qh,G0,_⟩:=L9 Yq rfl (by decide) aFl9 aD9.1 aB9
 replace G0:(cM m9).kind=1:=G0.trans aD9.2
 replace Qh:(cM m9).s.R 0=42:=by rw[Qh]; exact aE
 have hr10:yF (cM m9).s:=hM10.s
 refine⟨fun _=>?_,fun h=>absurd Yq.kind h⟩
 refine⟨fun h=>absurd (show (100:Int)<=m9.fP from h) (by have:=Yq.fP; omega),fun _=>?_⟩
 refine (gS m9 Yq.ok).q [7,8,9] ?_
 refine⟨fun he=>absurd hE9 he,fun _=>?_⟩
 refine⟨[],bI,Spec.fq aA Jv 100 Tryz.func25 rfl (by kernel_rfl) ?_⟩
 refine Exists.intro [some 0,some 1,some 2,some 3,some 4,some 5,some 6,some 7,some 8,some 9,some 10,some 11,some 12,some 13,some 14,some 15,some 16,some 17,some 18,some 19,some 20,some 21,some 22,some 23,some 24,some 25,some 26,some 27,some 28,some 29,some 32] (Exists.intro [] (Exists.intro (Mq (cM m9) (.wref 30) [dc m0,dN,dc m1,dN,dc m2,dN,dc m3,dN,dc m4,dN,dc m5,dN,dc m6,dN,dc m7,dN,dc m8,dN,dc m9,uL (fQ m0++fQ m1++fQ m2++fQ m3++fQ m4++fQ m5++fQ m6++fQ m7++fQ m8++fQ m9)]) (And.intro ?_ (And.intro (Nat.le_of_ble_eq_true rfl) ?_))))
 ·repeat' first|exact trivial|exact rfl|exact Iff.rfl|exact not_false|refine And.intro ?_ ?_
 generalize cM m9=Qi at hM10 Qh G0 hr10 ⊢
 refine⟨fun h=>absurd (show Qi.kind=0 from h) (by rw[G0]; decide),fun _=>?_⟩
 refine⟨fun h=>absurd (show Qi.kind=3 from h) (by rw[G0]; decide),fun _=>?_⟩
 refine Exists.intro [some 0,some 1,some 2,some 3,some 4,some 5,some 6,some 7,some 8,some 9,some 10,some 30] (Exists.intro [(6,.lit .i64 0)] (Exists.intro (Mq Qi (.wref 11) [uL (fQ m0++fQ m1++fQ m2++fQ m3++fQ m4++fQ m5++fQ m6++fQ m7++fQ m8++fQ m9)]) (And.intro ?_ (And.intro (Nat.le_of_ble_eq_true rfl) ?_))))
 ·repeat' first|exact trivial|exact rfl|exact Iff.rfl|exact not_false|refine And.intro ?_ ?_
 refine (mZ Qi).q [7,8,9] ?_
 refine⟨[],bI,Spec.enter aA P27 100 Tryz.func27 rfl (by kernel_rfl) ?_⟩
 refine Exists.intro _ (And.intro (qq.refl _) ?_)
 refine (CV Qi).q [7,8,9] ?_
 refine (sA Qi).q [7,8,9] ?_
 refine⟨fun h=>absurd (show Qi.kind=2 from h) (by rw[G0]; decide),fun _=>?_⟩
 refine (L6 Qi).q [7,8,9] ?_
 refine (CW Qi.s (hr10.r 0)).u ?_
 refine Exists.intro _ (And.intro (qq.refl _) ?_)
 exact aF Qh
structure Qj (s:RS):Prop where
 r:∀ k,bQ (s.R k)
 n:0<=s.N
 z:0<=s.Z
 c:0<=s.C
 v:0<=s.V
theorem Qj.ok {s:RS} (h:Qj s):yF (yI s):=GR h.r h.n h.z h.c h.v
theorem C0 {m:MS} (h:iq m=0):m.kind=0/\e_ m.fl (m.s.R 15)=0/\cM m=p5 m/\EH m=dK m/\Bk m=du m:=by
 have h0:=h
 unfold iq at h
 split at h
 ·cases h
 rename_i h1
 split at h
 ·cases h
 rename_i h2
 split at h
 ·cases h
 rename_i h3
 refine⟨Classical.not_not.1 h1,Classical.not_not.1 h2,?_,?_,?_⟩
 ·unfold cM; rw[if_neg h1,if_neg h2,if_neg h3]
 ·unfold EH; rw[if_neg (fun h=>h h0)]
 ·unfold Bk; rw[if_neg (fun h=>h h0)]
theorem G1 {m:MS} (hm:rW m) (h:iq m=0):(cM m).kind=0\/(cM m).kind=1\/(cM m).kind=2:=by
 obtain⟨_,hf,e,_⟩:=C0 h
 obtain⟨hr,L4⟩:=mY hf
 rw[e]
 exact (EG hm.mem (pY hm.s (dA m.fl (m.s.R 15))) (mW hm.s hr L4)).k
theorem Mr {m:MS} (h:iq m=0):m.fP+(EH m+Bk m*m.wait)=(cM m).fP:=by
 obtain⟨_,_,e,e1,e2⟩:=C0 h
 rw[e,e1,e2]
 rfl
open Classical in
theorem Qk {m:MS} (hm:rW m):0<=EH m/\EH m<=20/\0<=Bk m*m.wait/\Bk m*m.wait<=14:=by
 by_cases h:iq m=0
 ·obtain⟨_,hf,_,e1,e2⟩:=C0 h
  obtain⟨hr,L4⟩:=mY hf
  have MN:=j1 hr L4
  have hy:=EG hm.mem (pY hm.s (dA m.fl (m.s.R 15))) (mW hm.s hr L4)
  have hb:1<=dK m/\dK m<=20:=by unfold dK; exact yG _ _ hy.a hy.b MN.1 MN.2
  have NI:=CQ (n:=du m) (by unfold du; exact yH _ _ _ _) hm.wait
  rw[e1,e2]
  omega
 ·have e1:EH m=0:=by unfold EH; rw[if_pos h]
  have e2:Bk m=0:=by unfold Bk; rw[if_pos h]
  rw[e1,e2,Int.zero_mul]
  decide
theorem Ql {m:MS} (hk:m.kind=0) (h:iq m≠0):iq m=10/\(cM m).fP=m.fP/\(cM m).kind=3:=by
 have kE:iq m=if m.kind≠0 then 71 else if e_ m.fl (m.s.R 15)≠0 then 10 else if oe m≠0 then 10 else 0:=rfl
 have kM:cM m=if m.kind≠0 then m else if e_ m.fl (m.s.R 15)≠0 then oc m (e_ m.fl (m.s.R 15)) else if oe m≠0 then oc (lF m (vj m (bD m.s (dA m.fl (m.s.R 15))))) (oe m) else p5 m:=rfl
 rw[if_neg (fun x=>x hk)] at kE kM
 by_cases h2:e_ m.fl (m.s.R 15)≠0
 ·rw[if_pos h2] at kE kM
  rw[kE,kM]
  exact⟨rfl,rfl,rfl⟩
 rw[if_neg h2] at kE kM
 by_cases h3:oe m≠0
 ·rw[if_pos h3] at kE kM
  rw[kE,kM]
  exact⟨rfl,rfl,rfl⟩
 rw[if_neg h3] at kE
 exact absurd kE h
structure AnyI (F:List Int) (wait:Int) where
 m:MS
 ok:rW m
 low:m.fP<=4000
 kind:m.kind=0\/m.kind=1\/m.kind=2
 wait:m.wait=wait
 fl:m.fl=F
abbrev stAny (wait:Int) (s:RS) (m:MS):List aj:=[uI 26 (Pa s),uI 3 [.int .i64 wait]]++stD 2 m++[uI 3 [.int .i64 m.fP]]
theorem vk (F:List Int) (hF:K9 F) (s:RS) (hs:Qj s) (wait fuel:Int):al gT 3 [.sl 1 (lR F),uw s,.int .i64 wait,.int .i64 fuel] .tt:=by
 have el:(lR F).length=F.length:=List.length_map ..
 refine Spec.enter aA P3 100 Tryz.func3 rfl (by kernel_rfl) ?_
 refine CZ.u ?_
 refine fun oF=>?_
 refine⟨fun _=>?_,fun h2000=>?_⟩
 ·exact rA
 have h2':¬ (2000:Int) < ((lR F).length:Nat):=h2000
 rw[el] at h2'
 refine⟨fun _=>?_,fun h3000=>?_⟩
 ·exact rA
 have h3':¬ (3000:Int) < fuel:=h3000
 refine⟨fun _=>?_,fun h0=>?_⟩
 ·exact rA
 have h0':¬ wait < 0:=h0
 refine⟨fun _=>?_,fun h7=>?_⟩
 ·exact rA
 have h7':¬ 7 < wait:=h7
 have hw:0<=wait/\wait<=7:=by omega
 have MP:F.length<=65536:=by omega
 have l5:rW (yJ (qo F wait) s):=EK (L8 hF MP hw) hs.ok
 refine⟨[],bI,(wU (lR F) F el MP (uH F MP)).x_ rfl (by repeat' first|exact trivial|exact rfl|exact Iff.rfl|exact Or.inl rfl|refine And.intro ?_ ?_) rfl ?_⟩
 refine⟨[],bI,Spec.fq aA P6 100 Tryz.func6 rfl (by kernel_rfl) ?_⟩
 refine⟨fun h=>absurd h0' (fun k=>k h),fun _=>?_⟩
 refine⟨fun h=>absurd h7' (fun k=>k h),fun _=>?_⟩
 refine Exists.intro [some 0,some 1,some 2,some 3,some 4] (Exists.intro [(4,.ptr 4 0),(5,.lit .i64 0)] (Exists.intro ([uI 26 (Pa s),uI 3 [.int .i64 wait]]++stD 2 (qo F wait)) (And.intro ?_ (And.intro (Nat.le_of_ble_eq_true rfl) ?_))))
 ·repeat' first|exact trivial|exact rfl|exact Iff.rfl|exact not_false|refine And.intro ?_ ?_
 refine (L5 (qo F wait) s).q [2,3,4] ?_
 refine⟨[],bI,?_⟩
 refine Spec.enter aA P8 100 Tryz.func8 rfl (by kernel_rfl) ?_
 refine SW.Jk aA P8 (by kernel_rfl) (α:=AnyI F wait) (fun _=>[(0,.ptr 4 0),(1,.int .i64 fuel),(2,.clo 9 [.ptr 5 0,.ptr 1 0]),(6,.int .i64 0)]) (fun x=>stAny wait s x.m) (fun x=>(fuel - x.m.fP).toNat) ⟨yJ (qo F wait) s,l5,show (0:Int)<=4000 by decide,.inl rfl,rfl,rfl⟩ 100 [some 0,some 1,some 2,some 3,some 4,some 5] ?_ ?_
 ·repeat' first|exact trivial|exact rfl|exact Iff.rfl|exact not_false|refine And.intro ?_ ?_
 rintro⟨m,hm,hc,hk,yV,YL⟩
 subst YL
 refine⟨fun Dl=>?_,fun u5=>?_⟩
 ·have hk0':m.kind=0:=Dl
  refine⟨fun hf=>?_,fun hf=>?_⟩
  ·refine Exists.intro _ (And.intro (qq.refl _) ?_)
   refine (sA m).q [2,3,4] ?_
   refine (mZ m).q [2,3,4] ?_
   refine⟨fun _=>?_,fun h=>absurd rfl h⟩
   refine⟨fun _=>?_,fun h=>absurd hk0' h⟩
   refine (iL m MP).q [2,3,4] ?_
   refine cS aA ?_
   refine⟨rfl,m.fl,rfl,?_⟩
   refine cS aA ?_
   refine⟨rfl,m.fl,rfl,?_⟩
   conv=>whnf
   rw[beq_self_eq_true]
   refine And.intro ?_ ?_
   ·refine And.intro ?_ ?_
    ·exact rA
    refine And.intro ?_ ?_
    ·conv=>whnf
     refine cS aA ?_
     refine⟨rfl,m.fl,rfl,?_⟩
     conv=>whnf
     refine (iL m MP).q [2,3,4] ?_
     conv=>whnf
     refine cS aA ?_
     refine⟨rfl,m.fl,rfl,?_⟩
     conv=>whnf
     rw[beq_self_eq_true]
     exact rfl
    ·first|exact trivial|((conv=>whnf); exact trivial)
   refine And.intro ?_ ?_
   ·conv=>whnf
    refine cS aA ?_
    refine⟨rfl,m.fl,rfl,?_⟩
    conv=>whnf
    refine cS aA ?_
    refine⟨rfl,m.fl,rfl,?_⟩
    conv=>whnf
    rw[beq_self_eq_true]
    exact rfl
   ·first|exact trivial|((conv=>whnf); exact trivial)
  ·have hf':¬ fuel<=m.fP:=hf
   have hmc:=hm.fP
   obtain⟨hM,G6,iW,Yu,j4,X8⟩:=EJ hm (by omega)
   refine (gS m hm).q [2,3,4] ?_
   refine⟨fun he=>?_,fun he=>?_⟩
   ·refine Exists.intro _ (And.intro (qq.refl _) ?_)
    obtain⟨he10,hcy,YB⟩:=Ql hk0' he
    have hFe:(cM m).fl.length<=65536:=by rw[X8]; exact MP
    have ees:lR (cM m).fl=m.fl.map (PV.int .u8):=by rw[X8]; rfl
    refine (sA (cM m)).q [2,3,4] ?_
    refine (mZ (cM m)).q [2,3,4] ?_
    refine⟨fun _=>?_,fun h=>absurd hcy.symm h⟩
    refine⟨fun h=>absurd (show iq m=70 from h) (by omega),fun _=>?_⟩
    refine⟨fun h=>absurd (show iq m=0 from h) he,fun _=>?_⟩
    refine⟨fun _=>?_,fun h=>absurd he10 h⟩
    refine⟨fun _=>?_,fun h=>absurd YB h⟩
    refine (iL (cM m) hFe).q [2,3,4] ?_
    refine cS aA ?_
    refine⟨rfl,m.fl,ees,?_⟩
    refine cS aA ?_
    refine⟨rfl,m.fl,rfl,?_⟩
    conv=>whnf
    rw[beq_self_eq_true]
    refine And.intro ?_ ?_
    ·refine And.intro ?_ ?_
     ·exact rA
     refine And.intro ?_ ?_
     ·conv=>whnf
      refine cS aA ?_
      refine⟨rfl,m.fl,rfl,?_⟩
      conv=>whnf
      refine (iL (cM m) hFe).q [2,3,4] ?_
      conv=>whnf
      refine cS aA ?_
      refine⟨rfl,m.fl,ees,?_⟩
      conv=>whnf
      rw[beq_self_eq_true]
      exact rfl
     ·first|exact trivial|((conv=>whnf); exact trivial)
    refine And.intro ?_ ?_
    ·conv=>whnf
     refine cS aA ?_
     refine⟨rfl,m.fl,rfl,?_⟩
     conv=>whnf
     refine cS aA ?_
     refine⟨rfl,m.fl,ees,?_⟩
     conv=>whnf
     rw[beq_self_eq_true]
     exact rfl
    ·first|exact trivial|((conv=>whnf); exact trivial)
   ·refine⟨[],bI,?_⟩
    refine Spec.enter aA P9 100 Tryz.func9 rfl (by kernel_rfl) ?_
    have RL:iq m=0:=Classical.not_not.1 he
    have PF:=Mr RL
    have hbd:=Qk hm
    have hc3':=Yu RL
    have cm:=G1 hm RL
    rw[yV] at PF hbd
    refine li ?_ (show _<=Bk m*wait/\Bk m*wait<=_ by omega)
    refine li ?_ (show _<=EH m+Bk m*wait/\EH m+Bk m*wait<=_ by omega)
    refine li ?_ (show _<=m.fP+(EH m+Bk m*wait)/\m.fP+(EH m+Bk m*wait)<=_ by omega)
    refine Exists.intro _ (And.intro (qq.refl _) ?_)
    refine⟨⟨cM m,hM,by omega,cm,j4.trans yV,X8⟩,[some 0,some 1,some 2,some 3,some 4,some 5],show (fuel - (cM m).fP).toNat < (fuel - m.fP).toNat by omega,?_⟩
    repeat' first|exact trivial|exact rfl|exact Iff.rfl|exact not_false|refine And.intro ?_ ?_
    ·exact PF
 ·refine⟨fun h3=>?_,fun h3=>?_⟩
  ·exact absurd (show m.kind=3 from h3) (by omega)
  ·have hk1':¬ m.kind=0:=u5
   refine Exists.intro _ (And.intro (qq.refl _) ?_)
   refine (sA m).q [2,3,4] ?_
   refine (mZ m).q [2,3,4] ?_
   refine⟨fun _=>?_,fun h=>absurd rfl h⟩
   refine⟨fun _=>?_,fun h=>?_⟩
   ·skip
    refine (iL m MP).q [2,3,4] ?_
    refine cS aA ?_
    refine⟨rfl,m.fl,rfl,?_⟩
    refine cS aA ?_
    refine⟨rfl,m.fl,rfl,?_⟩
    conv=>whnf
    rw[beq_self_eq_true]
    refine And.intro ?_ ?_
    ·refine And.intro ?_ ?_
     ·exact rA
     refine And.intro ?_ ?_
     ·conv=>whnf
      refine cS aA ?_
      refine⟨rfl,m.fl,rfl,?_⟩
      conv=>whnf
      refine (iL m MP).q [2,3,4] ?_
      conv=>whnf
      refine cS aA ?_
      refine⟨rfl,m.fl,rfl,?_⟩
      conv=>whnf
      rw[beq_self_eq_true]
      exact rfl
     ·first|exact trivial|((conv=>whnf); exact trivial)
    refine And.intro ?_ ?_
    ·conv=>whnf
     refine cS aA ?_
     refine⟨rfl,m.fl,rfl,?_⟩
     conv=>whnf
     refine cS aA ?_
     refine⟨rfl,m.fl,rfl,?_⟩
     conv=>whnf
     rw[beq_self_eq_true]
     exact rfl
    ·first|exact trivial|((conv=>whnf); exact trivial)
   ·have h1:¬ m.kind=1:=h
    refine⟨fun _=>?_,fun h2=>absurd (show m.kind=2 by omega) h2⟩
    refine (iL m MP).q [2,3,4] ?_
    refine cS aA ?_
    refine⟨rfl,m.fl,rfl,?_⟩
    refine cS aA ?_
    refine⟨rfl,m.fl,rfl,?_⟩
    conv=>whnf
    rw[beq_self_eq_true]
    refine And.intro ?_ ?_
    ·refine And.intro ?_ ?_
     ·exact rA
     refine And.intro ?_ ?_
     ·conv=>whnf
      refine cS aA ?_
      refine⟨rfl,m.fl,rfl,?_⟩
      conv=>whnf
      refine (iL m MP).q [2,3,4] ?_
      conv=>whnf
      refine cS aA ?_
      refine⟨rfl,m.fl,rfl,?_⟩
      conv=>whnf
      rw[beq_self_eq_true]
      exact rfl
     ·first|exact trivial|((conv=>whnf); exact trivial)
    refine And.intro ?_ ?_
    ·conv=>whnf
     refine cS aA ?_
     refine⟨rfl,m.fl,rfl,?_⟩
     conv=>whnf
     refine cS aA ?_
     refine⟨rfl,m.fl,rfl,?_⟩
     conv=>whnf
     rw[beq_self_eq_true]
     exact rfl
    ·first|exact trivial|((conv=>whnf); exact trivial)
def Qm (n:Nat) (S:PV->Prop) (x:PV):Prop:=∃ xs:List PV,xs.length=n/\(∀ y∈xs,S y)/\x = .agg xs
theorem Ba {w:World} {I:Nat->Prop} {β:an}:∀ {xs:List PV} {cs:List Value},xs.length=cs.length->(∀ (i:Nat) (y:PV) (c:Value),xs[i]?=some y->cs[i]?=some c->y.Is w I β c)->bg w I xs β cs:=fun {xs cs} hl h =>
 bg.of hl fun i c hc=>by
  have bZ:i < cs.length:=by rw[← hl]; exact (List.getElem?_eq_some_iff.1 hc).1
  exact⟨cs[i],List.getElem?_eq_getElem bZ,h i c _ hc (List.getElem?_eq_getElem bZ)⟩
theorem opArr {P:Program} {t e:TypeId} {S:PV->Prop} {n:Nat} (he:Op P e S) (ht:P.underlying t=some (.array n e)) (ZM:P.cellsOf e=1) (hc:P.cellsOf t=n) (h1:∀ y,S y->y.cells = [y]):Op P t (Qm n S):=fun {H} ec w base held fuel cs x h yV=>by
 obtain⟨xs,m,_,rfl,hl,mI,hx⟩:=DataW.trod_array ht h
 rw[hc] at hl
 have each:∀ i,i < n->∃ y,S y/\∃ c,cs[i]?=some c/\y.Is w (In w) no c/\c.oneCell'=true:=fun i hi=>by
  have hxi:=hx i hi
  rw[ZM,Nat.mul_one,List.getElem?_eq_getElem (by omega)] at hxi
  obtain⟨y,hS,_,hy,Nc,EX⟩:=he ec w base held m _ _ hxi fun k hk=>yV k (by
   simp only[DataW.weights,ht]
   exact mi (List.mem_map.2 ⟨xs[i],List.getElem_mem _,rfl⟩) hk)
  have hci:i < cs.length:=by omega
  have e1:(cs.drop i).take 1 = [cs[i]]:=by
   rw[List.drop_eq_getElem_cons hci]; rfl
  rw[e1,h1 y hS] at hy
  simp only[bg,and_true] at hy
  exact⟨y,hS,cs[i],List.getElem?_eq_getElem hci,hy,EX _ (by rw[e1]; simp)⟩
 obtain⟨ys,hys,hp⟩:=mh n each
 refine⟨.agg ys,⟨ys,hys,fun y hy=>?_,rfl⟩,nofun,Ba (by show ys.length=cs.length; omega) fun i y c hy hci=>?_,by rw[hl,hc],fun c hcc=>?_⟩
 ·obtain⟨i,hi⟩:=List.getElem?_of_mem hy
  exact (hp i y hi).1
 ·obtain⟨_,c2,iW,h2,_⟩:=hp i y hy
  rw[hci] at iW; cases iW; exact h2
 ·obtain⟨i,hi⟩:=List.getElem?_of_mem hcc
  have bZ:i < ys.length:=by have:=(List.getElem?_eq_some_iff.1 hi).1; omega
  obtain⟨_,c2,iW,_,h2⟩:=hp i ys[i] (List.getElem?_eq_getElem bZ)
  rw[hi] at iW; cases iW; exact h2
def yO (x:PV):Prop:=∃ s:RS,Qj s/\x=uw s
theorem G2 (x:PV) (h:IV [Qm 16 (SInt .u32),SInt .u32,SInt .u32,SInt .u32,SInt .u32] x):yO x:=by
 obtain⟨xs,h,rfl⟩:=h
 obtain⟨_,_,rfl,⟨rs,hr,eC,rfl⟩,h_1⟩:=ks h
 obtain⟨_,_,rfl,⟨n,bn,rfl⟩,h_2⟩:=ks h_1
 obtain⟨_,_,rfl,⟨z,bz,rfl⟩,h_3⟩:=ks h_2
 obtain⟨_,_,rfl,⟨c,bc,rfl⟩,h_4⟩:=ks h_3
 obtain⟨_,_,rfl,⟨v,bv,rfl⟩,h_5⟩:=ks h_4
 obtain rfl:=IW h_5
 obtain⟨zs,hz,rfl⟩:=decode (S:=SInt .u32) (enc:=PV.int .u32) (ok:=bQ) (fun x ⟨z,hz,e⟩=>⟨z,mB hz,e⟩) rs eC
 rw[List.length_map] at hr
 refine⟨⟨fun k=>zs.getD k 0,n,z,c,v⟩,⟨fun k=>?_,(mB bn).1,(mB bz).1,(mB bc).1,(mB bv).1⟩,?_⟩
 ·show bQ (zs.getD k 0)
  rw[List.getD_eq_getElem?_getD]
  cases e:zs[k]? with
  | none=>exact A4
  | some y=>exact hz y (List.mem_of_getElem? e)
 ·match zs,hr with
  | [a0,a1,a2,a3,a4,a5,a6,a7,a8,a9,R4,a11,a12,a13,a14,a15],_=>rfl
theorem Ms:Op Tryz.prog 26 (IV [Qm 16 (SInt .u32),SInt .u32,SInt .u32,SInt .u32,SInt .u32]) :=
 ZG (Ss:=[Qm 16 (SInt .u32),SInt .u32,SInt .u32,SInt .u32,SInt .u32]) Tryz.underlying26
  ⟨rfl,opArr uv Tryz.underlying24 (by kernel_rfl) (by kernel_rfl) SInt.cell,(show _=_ by kernel_rfl),uv,(show _=_ by kernel_rfl),uv,(show _=_ by kernel_rfl),uv,(show _=_ by kernel_rfl),uv,(show _=_ by kernel_rfl)⟩
theorem Qn:Op Tryz.prog 26 yO:=Ms.IZ G2
theorem Bb (y:PV) (h:yO y):∃ xs,y = .agg xs:=by
 obtain⟨s,_,rfl⟩:=h; exact⟨_,rfl⟩
end Go.Proofs.YtbnoodjnpooocaaGreatDoor.Pw
namespace Go.Proofs.YtbnoodjnpooocaaGreatDoor.gr
open Go.ChangeShapes Go.WideShapes Go.ChangeAt Go.RowKit Go.Deep
def kK:List (String × DataW Unit):=[("remontoire/imm.factors",Rows.laid_remontoire_imm_factors),("remontoire/inst.shapes",Rows.laid_remontoire_inst_shapes),("remontoire/term.all",Rows.laid_remontoire_term_all),("remontoire/cost.rules",Rows.laid_remontoire_cost_rules),("remontoire/vop.rows",Rows.laid_remontoire_vop_rows),("remontoire/lex.signs",Rows.laid_remontoire_lex_signs),("remontoire/parse.words",Rows.laid_remontoire_parse_words),("remontoire/parse.levels",Rows.laid_remontoire_parse_levels),("remontoire/check.built",Rows.laid_remontoire_check_built),("remontoire/interp.ops",Rows.laid_remontoire_interp_ops),("remontoire/gen.simple",Rows.laid_remontoire_gen_simple)]
def fuel:Nat:=6000
theorem Mt (os:Os) (args:Array Value):laidMetH Tryz.prog kK ((World.doorLaid Tryz.prog fuel os).forCall (fun _ _=>0) ⟨#[],args,[]⟩).memory :=
 laidMetH_of_parts3 (fuel:=8) (laidMet_of_run' 8 (by kernel_rfl) (by kernel_rfl)) (by kernel_rfl) (by kernel_rfl)
end Go.Proofs.YtbnoodjnpooocaaGreatDoor.gr
namespace Go.Proofs.YtbnoodjnpooocaaGreatDoor.Pw
open Go Go.RowKit
theorem Mu {W:World} (h:laidMetH Tryz.prog gr.kK W):cE gT (In W) W :=
 BX (laid:=gr.kK) (by kernel_rfl) h fun x hx=>by
  have xl:x∈[(3,Su),(1,shP),(10,QO),(2,IM),(11,IP),(4,IQ),(5,IS),(8,DD),(0,IT),(9,QP),(7,DE)]:=hx
  simp only[List.mem_cons,List.not_mem_nil,or_false] at xl
  rcases xl with rfl|rfl|rfl|rfl|rfl|rfl|rfl|rfl|rfl|rfl|rfl
  ·exact⟨ "remontoire/imm.factors",_,409,List.mem_cons_self,by kernel_rfl,by kernel_rfl,by kernel_rfl,nofun⟩
  ·exact⟨ "remontoire/inst.shapes",_,357,List.mem_cons_of_mem _ List.mem_cons_self,by kernel_rfl,by kernel_rfl,by kernel_rfl,nofun⟩
  ·exact⟨ "remontoire/term.all",_,494,List.mem_cons_of_mem _ (List.mem_cons_of_mem _ List.mem_cons_self),by kernel_rfl,by kernel_rfl,by kernel_rfl,nofun⟩
  ·exact⟨ "remontoire/cost.rules",_,399,List.mem_cons_of_mem _ (List.mem_cons_of_mem _ (List.mem_cons_of_mem _ List.mem_cons_self)),by kernel_rfl,by kernel_rfl,by kernel_rfl,nofun⟩
  ·exact⟨ "remontoire/vop.rows",_,524,List.mem_cons_of_mem _ (List.mem_cons_of_mem _ (List.mem_cons_of_mem _ (List.mem_cons_of_mem _ List.mem_cons_self))),by kernel_rfl,by kernel_rfl,by kernel_rfl,nofun⟩
  ·exact⟨ "remontoire/lex.signs",_,413,List.mem_cons_of_mem _ (List.mem_cons_of_mem _ (List.mem_cons_of_mem _ (List.mem_cons_of_mem _ (List.mem_cons_of_mem _ List.mem_cons_self)))),by kernel_rfl,by kernel_rfl,by kernel_rfl,nofun⟩
  ·exact⟨ "remontoire/parse.words",_,416,List.mem_cons_of_mem _ (List.mem_cons_of_mem _ (List.mem_cons_of_mem _ (List.mem_cons_of_mem _ (List.mem_cons_of_mem _ (List.mem_cons_of_mem _ List.mem_cons_self))))),by kernel_rfl,by kernel_rfl,by kernel_rfl,nofun⟩
  ·exact⟨ "remontoire/parse.levels",_,516,List.mem_cons_of_mem _ (List.mem_cons_of_mem _ (List.mem_cons_of_mem _ (List.mem_cons_of_mem _ (List.mem_cons_of_mem _ (List.mem_cons_of_mem _ (List.mem_cons_of_mem _ List.mem_cons_self)))))),by kernel_rfl,by kernel_rfl,by kernel_rfl,nofun⟩
  ·exact⟨ "remontoire/check.built",_,293,List.mem_cons_of_mem _ (List.mem_cons_of_mem _ (List.mem_cons_of_mem _ (List.mem_cons_of_mem _ (List.mem_cons_of_mem _ (List.mem_cons_of_mem _ (List.mem_cons_of_mem _ (List.mem_cons_of_mem _ List.mem_cons_self))))))),by kernel_rfl,by kernel_rfl,by kernel_rfl,nofun⟩
  ·exact⟨ "remontoire/interp.ops",_,521,List.mem_cons_of_mem _ (List.mem_cons_of_mem _ (List.mem_cons_of_mem _ (List.mem_cons_of_mem _ (List.mem_cons_of_mem _ (List.mem_cons_of_mem _ (List.mem_cons_of_mem _ (List.mem_cons_of_mem _ (List.mem_cons_of_mem _ List.mem_cons_self)))))))),by kernel_rfl,by kernel_rfl,by kernel_rfl,nofun⟩
  ·exact⟨ "remontoire/gen.simple",_,503,List.mem_cons_of_mem _ (List.mem_cons_of_mem _ (List.mem_cons_of_mem _ (List.mem_cons_of_mem _ (List.mem_cons_of_mem _ (List.mem_cons_of_mem _ (List.mem_cons_of_mem _ (List.mem_cons_of_mem _ (List.mem_cons_of_mem _ (List.mem_cons_of_mem _ List.mem_cons_self))))))))),by kernel_rfl,by kernel_rfl,by kernel_rfl,nofun⟩
theorem uM (x:PV) (sx:YC 1 1 (PV.int .u8) (fun z:Int=>0<=z/\z<=255) x) (y:PV) (sy:yO y) (z:PV) (sz:SInt .i64 z) (u:PV) (su:SInt .i64 u):al gT 3 [x,y,z,u] .tt:=by
 obtain⟨l,_,hl,rfl⟩:=sx
 obtain⟨s,hs,rfl⟩:=sy
 obtain⟨w,hw,rfl⟩:=sz
 obtain⟨n,hn,rfl⟩:=su
 exact vk l hl s hs w n
end Go.Proofs.YtbnoodjnpooocaaGreatDoor.Pw
