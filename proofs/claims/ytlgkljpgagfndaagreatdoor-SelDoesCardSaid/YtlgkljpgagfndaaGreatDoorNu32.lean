/- What this claim is proved with: no condition. -/
import Derived.Test.YtlgkljpgagfndaaGreatDoorNu23
import Derived.Test.YtlgkljpgagfndaaGreatDoorNu12
import Derived.Test.YtlgkljpgagfndaaGreatDoorNu31
import Derived.Test.YtlgkljpgagfndaaGreatDoorNu24
import Derived.Test.YtlgkljpgagfndaaGreatDoorNu15
import Derived.Test.YtlgkljpgagfndaaGreatDoorNu28
set_option maxRecDepth 100000
set_option maxHeartbeats 8000000
set_option linter.unusedVariables false
set_option linter.unusedSimpArgs false
set_option linter.unusedSectionVars false
namespace Go.Proofs.YtlgkljpgagfndaaGreatDoor.Pw
open Go Go.RowKit
def iN (w:Nat->Int) (j:Nat):Int × Int:=(536870912+4*(j:Int),w j)
def cB (w:Nat->Int):Nat->List (Int × Int)
 | 0=>[]
 | n+1=>if w n=0 then cB w n else cB w n++[iN w n]
theorem tx (w:Nat->Int):∀ k n,cB w n <+: cB w (n+k)
 | 0,n=>List.prefix_refl _
 | k+1,n=>by
  have ih:=tx w k n
  rw[← Nat.add_assoc,cB]
  split
  ·exact ih
  ·exact ih.trans (List.prefix_append _ _)
def Og (w:Nat->Int) (fl:List Int):List an:=[⟨.dyn,5,1,.p,true,gr w⟩,⟨.loc,94,1,.p,true,[.sl 1 (gI fl),.wref 0]⟩,⟨.loc,47,1,.p,true,[.ptr 1 0]⟩]
theorem E' (w:Nat->Int) (fl:List Int) (j:Nat) (hj:j < 16384) (hw:aY (w j)):Spec gT 93 [.ref 0 (4*j) 4] (Og w fl) [] fun y S'=>y = .int .u32 (w j)/\S'=Og w fl:=by
 have el:(List.range 65536).length=65536:=List.length_range
 have hg:∀ r x:Nat,r < 4->(List.range 65536)[4*j+r]?=some x->x=4*j+r:=fun r x hr hx=>by
  rw[List.getElem?_range (by omega)] at hx; exact (Option.some.inj hx).symm
 have e0:=jE w j 0 (by decide)
 have e1:=jE w j 1 (by decide)
 have e2:=jE w j 2 (by decide)
 have e3:=jE w j 3 (by decide)
 have b0:=lT (w j) 0
 have b1:=lT (w j) 1
 have b2:=lT (w j) 2
 have b3:=lT (w j) 3
 have Vr:=Cq (w j) hw
 have d0:jQ 0=1:=rfl
 have d1:jQ 1=256:=rfl
 have d2:jQ 2=65536:=rfl
 have d3:jQ 3=16777216:=rfl
 refine Spec.jP (Spec.enter al WO 100 Tryz.func93 rfl (by kernel_rfl) ?_)
 refine SW.rounds al WO (by kernel_rfl) (N:=60) 5 ?_
 refine⟨Nat,List.range 65536,la w,rfl,show 4*j+0 < (List.range 65536).length by rw[el]; omega,fun x hx=>?_⟩
 obtain rfl:=hg 0 x (by decide) hx
 rw[e0]
 refine lu ?_ (show 0<=gK (w j) 0/\gK (w j) 0<=_ by omega)
 refine⟨by decide,.inl ⟨ah (show 0<=gK (w j) 0*jQ 0/\gK (w j) 0*jQ 0<=_ by rw[d0]; omega),?_⟩⟩
 refine⟨Nat,List.range 65536,la w,rfl,show 4*j+1 < (List.range 65536).length by rw[el]; omega,fun x hx=>?_⟩
 obtain rfl:=hg 1 x (by decide) hx
 rw[e1]
 refine lu ?_ (show 0<=gK (w j) 1/\gK (w j) 1<=_ by omega)
 refine⟨by decide,.inl ⟨ah (show 0<=gK (w j) 1*jQ 1/\gK (w j) 1*jQ 1<=_ by rw[d1]; omega),?_⟩⟩
 refine⟨Nat,List.range 65536,la w,rfl,show 4*j+2 < (List.range 65536).length by rw[el]; omega,fun x hx=>?_⟩
 obtain rfl:=hg 2 x (by decide) hx
 rw[e2]
 refine lu ?_ (show 0<=gK (w j) 2/\gK (w j) 2<=_ by omega)
 refine⟨by decide,.inl ⟨ah (show 0<=gK (w j) 2*jQ 2/\gK (w j) 2*jQ 2<=_ by rw[d2]; omega),?_⟩⟩
 refine⟨Nat,List.range 65536,la w,rfl,show 4*j+3 < (List.range 65536).length by rw[el]; omega,fun x hx=>?_⟩
 obtain rfl:=hg 3 x (by decide) hx
 rw[e3]
 refine lu ?_ (show 0<=gK (w j) 3/\gK (w j) 3<=_ by omega)
 refine⟨by decide,.inl ⟨ah (show 0<=gK (w j) 3*jQ 3/\gK (w j) 3*jQ 3<=_ by rw[d3]; omega),?_⟩⟩
 exact bo (show bits .or .u32 (bits .or .u32 (bits .or .u32 (bits .or .u32 0 (gK (w j) 0*1)) (gK (w j) 1*256)) (gK (w j) 2*65536)) (gK (w j) 3*16777216)=w j by rw[Int.mul_one,sN _ _ _ _ b0 b1 b2 b3,Vr]) (aj rfl)
def E_:Code->Code
 | .seq a _=>a
 | c=>c
def qU:Code->Code
 | .seq _ b=>b
 | c=>c
def inC:Code->Code
 | .block _ c=>c
 | .loop c=>c
 | c=>c
def Be:Code->Array Oper
 | .region _ ops _=>ops
 | _=>#[]
noncomputable def C7:Code:=(Tryz.f92).body.getD .skip
noncomputable def Pu:Code:=inC (inC (qU C7))
noncomputable def FD:Code:=inC (E_ (qU Pu))
noncomputable def J8:Code:=E_ (qU FD)
theorem Wi:C7 = .seq (E_ C7) (.block 0 (.loop Pu)):=by kernel_rfl
theorem Wj:Pu = .seq (E_ Pu) (.seq (.block 1 FD) (qU (qU Pu))):=by kernel_rfl
theorem Wk:FD = .seq (E_ FD) (.seq J8 (qU (qU FD))):=by kernel_rfl
theorem Wl:J8 = .region 4 (Be J8) false:=by kernel_rfl
noncomputable abbrev yv (l:Nat):PV:=.val (.func (.yield l) #[] #[])
noncomputable def sJ (l:Nat) (w:Nat->Int) (fl:List Int) (j:Nat):ba:=⟨34,ig [(0,yv l),(1,.ptr 2 0),(3,.int .i64 (4*(j:Int)))] .nil,Og w fl,3,[]⟩
noncomputable def sK (l:Nat) (w:Nat->Int) (fl:List Int) (j:Nat):ba:=⟨34,ig [(0,yv l),(1,.ptr 2 0),(3,.int .i64 (4*(j:Int))),(4,.int .u32 (w j))] .nil,Og w fl,3,[]⟩
noncomputable def sE (w:Nat->Int) (fl:List Int):ba:=⟨34,.nil,Og w fl,3,[]⟩
section
variable (l:Nat) (w:Nat->Int) (fl:List Int) (hw:∀ k,aY (w k))
theorem J9:zZ [yv l,.ptr 2 0] 0 .nil fun t=>pw gT [] 100 (E_ C7) (fun x s'=>match x with
  | .f_=>∃ π,fD gT.cx π s' (sJ l w fl 0)
  | _=>False) ⟨34,t,Og w fl,3,[]⟩:=by
 refine⟨[some 0,some 1,some 2],?_⟩
 repeat' first|exact trivial|exact rfl|exact Iff.rfl|exact not_false|refine And.intro ?_ ?_
theorem Oh (j:Nat) (hj:j<=16384):pw gT [] 100 (E_ Pu) (fun x s'=>match x with
  | .f_=>j < 16384/\∃ π,fD gT.cx π s' (sJ l w fl j)
  | .exit id=>id=0/\j=16384
  | .ret=>False) (sJ l w fl j):=by
 have el:=j_ w
 refine fun hm=>?_
 refine⟨fun h=>?_,fun h=>?_⟩
 ·have h':4*(j:Int) < ((gr w).length:Nat):=h
  rw[el] at h'
  refine⟨by omega,[some 0,some 1,some 2],?_⟩
  repeat' first|exact trivial|exact rfl|exact Iff.rfl|exact not_false|refine And.intro ?_ ?_
 ·have h':¬ 4*(j:Int) < ((gr w).length:Nat):=h
  rw[el] at h'
  exact⟨rfl,by omega⟩
theorem Oi (j:Nat) (hj:j < 16384) (hw:aY (w j)):pw gT [] 100 (E_ FD) (fun x s'=>match x with
  | .f_=>∃ π,fD gT.cx π s' (sK l w fl j)
  | _=>False) (sJ l w fl j):=by
 have el:=j_ w
 refine li ?_ (show _<=4*(j:Int)+4/\4*(j:Int)+4<=_ by omega)
 refine⟨4*j,4*j+4,show 4*(j:Int)=((4*j:Nat):Int) by omega,show 4*(j:Int)+4=((4*j+4:Nat):Int) by omega,by omega,show 4*j+4<=(gr w).length by rw[el]; omega,show 4*j < (gr w).length by rw[el]; omega,?_⟩
 refine⟨[],bf,(E' w fl j hj hw).useE rfl ⟨show kZ (.ref 0 (4*j*1) (4*j+4 - 4*j)) (.ref 0 (4*j) 4) by rw[Nat.mul_one,Nat.add_sub_cancel_left]; exact AR _ _ _,trivial⟩ rfl ?_⟩
 refine⟨[some 0,some 1,some 2],?_⟩
 repeat' first|exact trivial|exact rfl|exact Iff.rfl|exact not_false|refine And.intro ?_ ?_
theorem Oj (j:Nat) (h0:w j=0):pw gT [] 100 (qU FD) (fun x s'=>match x with
  | .f_=>∃ π,fD gT.cx π s' (sJ l w fl j)
  | _=>False) (sK l w fl j):=by
 refine⟨fun h=>absurd h0 h,fun _=>?_⟩
 refine⟨[some 0,some 1,some 2],?_⟩
 repeat' first|exact trivial|exact rfl|exact Iff.rfl|exact not_false|refine And.intro ?_ ?_
theorem Ol (j:Nat) (hj:j < 16384):pw gT [] 100 (qU (qU Pu)) (fun x s'=>match x with
  | .f_=>∃ π,fD gT.cx π s' (sJ l w fl (j+1))
  | _=>False) (sJ l w fl j):=by
 refine li ?_ (show _<=4*(j:Int)+4/\4*(j:Int)+4<=_ by omega)
 refine⟨[some 0,some 1,some 2],?_⟩
 repeat' first|exact trivial|exact rfl|exact Iff.rfl|exact not_false|refine And.intro ?_ ?_
structure AtY (j:Nat) (s:ba):Prop where
 g0:s.t.get 0=some (yv l)
 g1:s.t.get 1=some (.ptr 2 0)
 g3:s.t.get 3=some (.int .i64 (4*(j:Int)))
 g25:s.t.get 25=some .tt
 g26:s.t.get 26=some (yv l)
 g29:s.t.get 29=some (.int .u32 (536870912+4*(j:Int)))
 g30:s.t.get 30=some (.int .u32 (w j))
noncomputable def Fa:List Oper:=(Be J8).toList
noncomputable def Pv:Oper:=Fa.getD 8 default
theorem Wm:Fa=Fa.take 8++Pv::Fa.drop 9:=by kernel_rfl
theorem Wn:Pv.op = .call { callee:=.value (.tmp 26),args:=#[.tmp 29,.tmp 30],argTypes:=#[24,24] }:=by kernel_rfl
theorem Om:Pv.dst=some 31:=by kernel_rfl
theorem J' (j:Nat) (hj:j < 16384) (h0:w j≠0):xk gT Fa (fun x s'=>x = .f_/\mX Fa s' Pv (AtY l w j) (fun _=>False)) (Fa.take 8) (sK l w fl j):=by
 refine⟨fun _=>?_,fun h=>absurd h0 h⟩
 refine lu ?_ (show 0<=4*(j:Int)/\4*(j:Int)<=_ by omega)
 refine lu ?_ (show 0<=536870912+4*(j:Int)/\536870912+4*(j:Int)<=_ by omega)
 exact⟨rfl,rfl,rfl,rfl,rfl,rfl,rfl,rfl⟩
theorem Fb (j:Nat):(sE w fl).put (some 0) (yv l) fun s=>s.put (some 1) (.ptr 2 0) fun s=>s.put (some 3) (.int .i64 (4*(j:Int))) fun s=>s.put (some 25) .tt fun s=>s.put (some 31) .tt fun s=>xk gT Fa (fun x s'=>x = .f_/\pw gT [] 100 (qU (qU FD)) (fun x s'=>match x with
  | .f_=>∃ π,fD gT.cx π s' (sJ l w fl j)
  | _=>False) s') (Fa.drop 9) s:=by
 refine⟨rfl,[some 0,some 1,some 2],?_⟩
 repeat' first|exact trivial|exact rfl|exact Iff.rfl|exact not_false|refine And.intro ?_ ?_
end
theorem fH {G:Gx} {I I':Nat->Prop} {β aU:aB} {s s':ba} {w w':World} (hg:bW I β s w I' aU s' w') (hm:s.st.all (fun b=>match b.m with
  | .w=>false
  | _=>true)=true):Below w.heap.size w w':=⟨hg.ext.os,hg.ext.tape,hg.ext.output,hg.ext.size,fun g h=>hg.ext.block g h fun ⟨l,b,p,o,h1,_,h3,_⟩=>by
 rw[List.all_eq_true] at hm
 have:=hm b (List.mem_of_getElem? h1)
 rw[h3] at this
 cases this⟩
def Fe (a:Act):Nat:=match a.tmps[3]? with
 | some (Value.int _ z)=>(65536 - z).toNat
 | _=>0
def wZ (g o:Nat) (β:aB):Prop:=∃ p,β 2=some p/\p.a=some (g,o)
theorem wZ.of {g o:Nat} {β aU:aB} (h:aU 2=β 2) (hb:wZ g o β):wZ g o aU:=by
 obtain⟨p,h1,h2⟩:=hb
 exact⟨p,h.trans h1,h2⟩
theorem Ff (w:Nat->Int) (fl:List Int) (hw:∀ k,aY (w k)) (g o n:Nat):Cv n gT.cx.P 92 #[.pointer (some ⟨g,o+0,none⟩)] (fun x:Int × Int=>#[.int .u32 x.1,.int .u32 x.2]) (cB w 16384) (fun W=>∃ I β,aN I β (Og w fl) W/\de gT I W/\wZ g o β):=by
 intro l J W hJ ⟨I0,gd,hH,hM,hb⟩ hY h0
 refine callsIn_of_wp Tryz.func92 (show Tryz.f92.body=some C7 by kernel_rfl) trivial ?_ rfl
 rw[Wi]
 obtain⟨t,ht,vP⟩:=og (J9 l w fl)
 have W_:=Rel.first (G:=gT) (S:=Og w fl) (rl:=[]) (n:=34) (vals:=[.func (.yield l) #[] #[],.pointer (some ⟨g,o+0,none⟩)]) rfl (Nat.le_of_ble_eq_true rfl) (by decide) vP hH hM (by simp only[bG,PV.Is]; exact⟨⟨trivial,rfl⟩,(let ⟨p,h1,h2⟩:=hb; ⟨p,g,o,h1,h2,rfl⟩),trivial⟩)
 rw[show Tryz.f92.ntmps=34 by kernel_rfl]
 refine wpIn_seq (wpIn_mono (wpIn_wide.2 ((gE al 100 _ _ _ (by kernel_rfl) ht).run W_)) fun e a1 W1 hp=>?_)
 obtain⟨x',s1,I1,ll,rfl,hq,ib,m8⟩:=hp.goes
 cases x' with
 | exit id=>exact hq.elim
 | ret=>exact hq.elim
 | f_ =>
 obtain⟨π,hs⟩:=hq
 obtain⟨I2,gl,kO,xa⟩:=cL al.ok hs I1 ll a1 W1 ib
 have hg:=m8.trans xa
 have hB:=fH (G:=gT) hg rfl
 refine wpIn_block (wpIn_loop (fun a W'=>∃ j,j<=16384/\J (cB w j) W'/\∃ I β,Rel gT I β (sJ l w fl j) a W'/\wZ g o β) (fun a _=>Fe a) ⟨0,Nat.zero_le _,hJ _ _ _ h0 hB,I2,gl,kO,wZ.of (hg.low 2 (show 2 < 3 by decide) (show 2 ∉ [] by simp)) hb⟩ ?_)
 clear kO xa hg m8 ib hB W_
 rintro a W' ⟨j,hj,hJj,I,β,hR,hb⟩
 have hm:Fe a=65536 - 4*j:=by
  obtain⟨v,hv,hi⟩:=hR.get 3 (.int .i64 (4*(j:Int))) rfl
  simp only[PV.Is] at hi
  subst hi
  unfold Fe
  rw[hv]
  show (65536 - 4*(j:Int)).toNat=_
  omega
 rw[Wj]
 refine wpIn_seq (wpIn_mono (wpIn_wide.2 ((gE al 100 _ _ _ (by kernel_rfl) (Oh l w fl j hj)).run hR)) fun e a1 W1 hp=>?_)
 obtain⟨x',s1,I1,ll,rfl,hq,ib,m8⟩:=hp.goes
 have hJ1:=hJ _ _ _ hJj (fH (G:=gT) m8 rfl)
 cases x' with
 | ret=>exact hq.elim
 | exit id =>
  obtain⟨rfl,rfl⟩:=hq
  exact⟨ib.defers,_,results_none rfl _ _ _,⟨_,rfl⟩,hJ1⟩
 | f_ =>
 obtain⟨vz,π,hs⟩:=hq
 obtain⟨I2,gl,kO,xa⟩:=cL al.ok hs I1 ll a1 W1 ib
 have eu:wZ g o gl:=wZ.of ((m8.trans xa).low 2 (show 2 < 3 by decide) (show 2 ∉ [] by simp)) hb
 have nS:∀ a3 W3 I3 Fw,Rel gT I3 Fw (sJ l w fl j) a3 W3->J (cB w (j+1)) W3->wZ g o Fw->(qU (qU Pu)).wpIn Fence.wide n gT.cx.P (Exit.then (fun a' w'=>(∃ j,j<=16384/\J (cB w j) w'/\∃ I β,Rel gT I β (sJ l w fl j) a' w'/\wZ g o β)/\Fe a' < Fe a) (Exit.inBlock 0 (bodyPost gT.cx.P Tryz.f92 fun e W'=>(∃ v,e = .returned v)/\J (cB w 16384) W'))) a3 W3:=by
  intro a3 W3 I3 Fw vJ hJ3 kv
  refine wpIn_mono (wpIn_wide.2 ((gE al 100 _ _ _ (by kernel_rfl) (Ol l w fl j vz)).run vJ)) fun e a4 W4 hp=>?_
  obtain⟨x',s4,I4,VA,rfl,hq,Nj,Kz⟩:=hp.goes
  cases x' with
  | exit id=>exact hq.elim
  | ret=>exact hq.elim
  | f_ =>
  obtain⟨π,hs⟩:=hq
  obtain⟨I5,VB,KA,FB⟩:=cL al.ok hs I4 VA a4 W4 Nj
  refine⟨⟨j+1,by omega,hJ _ _ _ hJ3 (fH (G:=gT) Kz rfl),I5,VB,KA,wZ.of ((Kz.trans FB).low 2 (show 2 < 3 by decide) (show 2 ∉ [] by simp)) kv⟩,?_⟩
  rw[hm]
  obtain⟨v,hv,hi⟩:=KA.get 3 (.int .i64 (4*((j+1:Nat):Int))) rfl
  simp only[PV.Is] at hi
  subst hi
  unfold Fe
  rw[hv]
  show (65536 - 4*((j+1:Nat):Int)).toNat < _
  omega
 refine wpIn_seq (wpIn_block ?_)
 rw[Wk]
 refine wpIn_seq (wpIn_mono (wpIn_wide.2 ((gE al 100 _ _ _ (by kernel_rfl) (Oi l w fl j vz (hw j))).run kO)) fun e a2 W2 hp=>?_)
 obtain⟨x',s3,I3,Fw,rfl,hq,vJ,OV⟩:=hp.goes
 cases x' with
 | exit id=>exact hq.elim
 | ret=>exact hq.elim
 | f_ =>
 obtain⟨π,hs⟩:=hq
 obtain⟨I4,VA,Nj,Kz⟩:=cL al.ok hs I3 Fw a2 W2 vJ
 have hJ2:=hJ _ _ _ hJ1 (fH (G:=gT) OV rfl)
 have hb4:wZ g o VA:=wZ.of ((OV.trans Kz).low 2 (show 2 < 3 by decide) (show 2 ∉ [] by simp)) eu
 by_cases hz:w j=0
 ·have e:qU FD = .seq J8 (qU (qU FD)):=by kernel_rfl
  show (Code.seq J8 (qU (qU FD))).wpIn _ _ _ _ _ _
  rw[← e]
  refine wpIn_mono (wpIn_wide.2 ((gE al 100 _ _ _ (by kernel_rfl) (Oj l w fl j hz)).run Nj)) fun e a5 W5 hp=>?_
  obtain⟨x',s5,I5,VB,rfl,hq,KA,FB⟩:=hp.goes
  cases x' with
  | exit id=>exact hq.elim
  | ret=>exact hq.elim
  | f_ =>
  obtain⟨π,hs⟩:=hq
  obtain⟨I6,β6,J_,hg6⟩:=cL al.ok hs I5 VB a5 W5 KA
  refine nS a5 W5 I6 β6 J_ ?_ (wZ.of ((FB.trans hg6).low 2 (show 2 < 3 by decide) (show 2 ∉ [] by simp)) hb4)
  rw[cB,if_pos hz]
  exact hJ _ _ _ hJ2 (fH (G:=gT) FB rfl)
 ·have WZ:cB w (j+1)=cB w j++[iN w j]:=by rw[cB,if_neg hz]
  refine wpIn_seq ?_
  rw[Wl]
  refine wpIn_region_list ?_
  show wpListIn (Jn none) n gT.cx.P (Be J8) _ Fa a2 W2
  rw[Wm]
  refine oS (ops:=Be J8) al (Fa.take 8) (by kernel_rfl) (J' l w fl j vz hz) Nj fun s5 I5 VB a5 W5 hq KA FB=>?_
  have hJ5:=hJ _ _ _ hJ2 (fH (G:=gT) FB rfl)
  have hb5:wZ g o VB:=wZ.of (FB.low 2 (show 2 < 3 by decide) (show 2 ∉ [] by simp)) hb4
  unfold wpListIn
  rcases iQ (ops:=Be J8) KA hq.2 with ⟨ic,s6,hA,hs6,J_⟩|⟨_,_,hf,_⟩
  rotate_left
  ·exact hf.elim
  rw[ic,if_pos rfl]
  obtain⟨v0,XH,i0⟩:=J_.get _ _ hA.g0
  obtain⟨v1,hv1,i1⟩:=J_.get _ _ hA.g1
  obtain⟨v3,hv3,i3⟩:=J_.get _ _ hA.g3
  obtain⟨v25,hv25,i25⟩:=J_.get _ _ hA.g25
  obtain⟨v26,hv26,i26⟩:=J_.get _ _ hA.g26
  obtain⟨v29,hv29,i29⟩:=J_.get _ _ hA.g29
  obtain⟨v30,hv30,i30⟩:=J_.get _ _ hA.g30
  simp only[PV.Is] at i0 i3 i25 i26 i29 i30
  obtain⟨rfl,_⟩:=i0
  obtain⟨rfl,_⟩:=i26
  subst i3
  subst i25
  subst i29
  subst i30
  obtain⟨fn,tmps,assign,body,hy,sT⟩:=hY (cB w j) (iN w j) W5 (by rw[← WZ]; have:=tx w (16384 - (j+1)) (j+1); rwa [show j+1+(16384 - (j+1))=16384 by omega] at this) hJ5
  have cj:(Pv.semAt none a5.eval).run gT.cx.P W5 = .ok (.round l fn tmps assign body) W5:=by
   rw[Oper.semAt_none]
   unfold execOp
   rw[Wn]
   simp[resolve,invoke,hv26,hv29,hv30,go_sem]
   exact hy
  refine⟨fun _ _=>trivial,?_⟩
  show Pv.uponIn _ _ _ _ _ _ ((Pv.semAt none a5.eval).run gT.cx.P W5)
  rw[cj,Oper.uponIn_round]
  refine⟨fun h=>(by cases h),sT.mono ?_⟩
  rintro e W7 ⟨rfl,hJ7,I7,β7,hH7,hM7,hb7⟩
  rw[← WZ] at hJ7
  show wpListIn (Jn none) n gT.cx.P (Be J8) _ (Fa.drop 9) (a5.put Pv.dst (.bool true)) W7
  rw[Om]
  have ga:a5.tmps.size=34:=J_.size.trans (hs6.n.trans FB.n)
  have hRE:Rel gT I7 β7 (sE w fl) (a5.put (some 31) (.bool true)) W7:=⟨Nat.le_of_ble_eq_true rfl,J_.defers,by simp only[Act.put,Array.size_setIfInBounds]; exact ga,Nat.le_refl _,fun m x hx=>(by cases hx),hH7,hM7⟩
  have nP:∀ {m:Nat} {v:Value},a5.tmps[m]?=some v->m≠31->(a5.put (some 31) (.bool true)).tmps[m]?=some v:=fun h dk=>by simp only[Act.put,Array.getElem?_setIfInBounds_ne (Ne.symm dk)]; exact h
  obtain⟨u0,h,q0,r0⟩:=ba.fI hRE (nP XH (by decide)) (by simp only[PV.Is]; exact⟨trivial,rfl⟩) (Fb l w fl j)
  obtain⟨u1,h,q1,r1⟩:=ba.fI r0 (nP hv1 (by decide)) (by
   simp only[PV.Is] at i1 ⊢
   obtain⟨p,g',o',e1,e2,e3⟩:=i1
   obtain⟨p5,h5,k5⟩:=hb5
   obtain⟨p7,h7,k7⟩:=hb7
   rw[h5] at e1
   cases e1
   rw[k5] at e2
   cases e2
   exact⟨p7,g,o,h7,k7,e3⟩) h
  obtain⟨u3,h,q3,r3⟩:=ba.fI r1 (nP hv3 (by decide)) (by simp only[PV.Is]) h
  obtain⟨u25,h,q25,r25⟩:=ba.fI r3 (nP hv25 (by decide)) (by simp only[PV.Is]) h
  obtain⟨u31,h,q31,r31⟩:=ba.fI r25 (v:=.bool true) (t:=31) (by simp only[Act.put]; rw[Array.getElem?_setIfInBounds,if_pos rfl,if_pos (by omega)]) (by simp only[PV.Is]) h
  refine uV (ops:=Be J8) al (Fa.drop 9) (by kernel_rfl) h r31 fun s8 I8 β8 a8 W8 hq hR8 hg8=>?_
  have est:u31.st=Og w fl:=q31.st.trans (q25.st.trans (q3.st.trans (q1.st.trans q0.st)))
  have eba:u31.base=3:=q31.base.trans (q25.base.trans (q3.base.trans (q1.base.trans q0.base)))
  have erl:u31.rl = []:=q31.rl.trans (q25.rl.trans (q3.rl.trans (q1.rl.trans q0.rl)))
  have hb8:wZ g o β8:=wZ.of (hg8.low 2 (by rw[eba]; decide) (by rw[erl]; simp)) hb7
  have hJ8:=hJ _ _ _ hJ7 (fH (G:=gT) hg8 (by rw[est]; rfl))
  show (qU (qU FD)).wpIn Fence.wide n gT.cx.P _ a8 W8
  refine wpIn_mono (wpIn_wide.2 ((gE al 100 _ _ _ (by kernel_rfl) hq.2).run hR8)) fun e a9 W9 hp=>?_
  obtain⟨x',s9,I9,β9,rfl,hq,hR9,hg9⟩:=hp.goes
  cases x' with
  | exit id=>exact hq.elim
  | ret=>exact hq.elim
  | f_ =>
  obtain⟨π,hs⟩:=hq
  obtain⟨I10,β10,hR10,hg10⟩:=cL al.ok hs I9 β9 a9 W9 hR9
  have hg9':=(hg8.trans hg9).trans hg10
  refine nS a9 W9 I10 β10 hR10 ?_ (wZ.of (hg9'.low 2 (by rw[eba]; decide) (by rw[erl]; simp)) hb7)
  exact hJ _ _ _ hJ7 (fH (G:=gT) (hg8.trans hg9) (by rw[est]; rfl))
structure KD (L:List (Int × Int)):Prop where
 nd:(L.map Prod.fst).Nodup
 inr:∀ p∈L,∃ j:Nat,j < 16384/\p.1=536870912+4*(j:Int)
def nD:List (Int × Int)->Int
 | []=>0
 | p::L=>(if p.2≠0 then 1 else 0)+nD L
theorem qV:∀ (A B:List (Int × Int)),nD (A++B)=nD A+nD B
 | [],B=>by rw[List.nil_append]; show _=0+nD B; omega
 | p::A,B=>by
  have ih:=qV A B
  rw[List.cons_append,nD,nD,ih]
  omega
theorem w4:∀ L:List (Int × Int),0<=nD L/\nD L<=L.length
 | []=>by simp[nD]
 | p::L=>by
  have ih:=w4 L
  rw[nD,List.length_cons]
  split<;>omega
theorem mR (w:Nat->Int):∀ n,(cB w n).length<=n
 | 0=>Nat.le_refl _
 | n+1=>by
  have ih:=mR w n
  rw[cB]
  split
  ·omega
  ·rw[List.length_append,List.length_singleton]; omega
theorem tz (w w':Nat->Int) (j:Nat) (h0:w' j=0) (hs:∀ k,k≠j->w k=w' k):∀ n,((cB w n).length:Int)=(cB w' n).length+(if j < n/\w j≠0 then 1 else 0)
 | 0=>by rw[if_neg (by omega)]; rfl
 | n+1=>by
  have ih:=tz w w' j h0 hs n
  rw[cB,cB]
  by_cases hn:n=j
  ·subst hn
   rw[if_pos h0]
   rw[if_neg (by omega)] at ih
   by_cases hz:w n=0
   ·rw[if_pos hz,if_neg (fun h=>h.2 hz)]; exact ih
   ·rw[if_neg hz,if_pos ⟨by omega,hz⟩,List.length_append,List.length_singleton]; omega
  ·have e:=hs n hn
   have ec:(j < n/\w j≠0)↔(j < n+1/\w j≠0):=⟨fun h=>⟨by omega,h.2⟩,fun h=>⟨by omega,h.2⟩⟩
   have e2:(if j < n+1/\w j≠0 then (1:Int) else 0)=if j < n/\w j≠0 then 1 else 0:=by
    by_cases hc:j < n/\w j≠0
    ·rw[if_pos hc,if_pos (ec.1 hc)]
    ·rw[if_neg hc,if_neg (fun h=>hc (ec.2 h))]
   rw[e2]
   by_cases hz:w' n=0
   ·rw[if_pos (e.trans hz),if_pos hz]; exact ih
   ·rw[if_neg (fun h=>hz (e.symm.trans h)),if_neg hz,List.length_append,List.length_append,List.length_singleton,List.length_singleton]; omega
theorem Ka {L:List (Int × Int)} {a:Int} (h:a ∉ L.map Prod.fst):qC L a=0:=by
 have key:∀ (n:Nat) (L:List (Int × Int)),L.length=n->a ∉ L.map Prod.fst->qC L a=0:=by
  intro n
  induction n with
  | zero=>intro L hl _; rw[List.eq_nil_of_length_eq_zero hl]; rfl
  | succ n ih =>
   intro L hl h
   rcases List.eq_nil_or_concat L with rfl|⟨M,p,rfl⟩
   ·rfl
   ·rw[List.concat_eq_append] at hl h ⊢
    rw[List.length_append,List.length_singleton] at hl
    simp only[List.map_append,List.map_cons,List.map_nil,List.mem_append,List.mem_singleton,not_or] at h
    rw[kj,if_neg (fun e=>h.2 e.symm)]
    exact ih M (by omega) h.1
 exact key _ L rfl h
theorem qj:∀ n,cB (fun _=>0) n = []
 | 0=>rfl
 | n+1=>by rw[cB,if_pos rfl]; exact qj n
theorem o1 {w w':Nat->Int}:∀ n,(∀ k,k < n->w k=w' k)->cB w n=cB w' n
 | 0,_=>rfl
 | n+1,h=>by
  rw[cB,cB,o1 n (fun k hk=>h k (by omega)),h n (by omega)]
  unfold iN
  rw[h n (by omega)]
theorem Kb {w:Nat->Int} {L:List (Int × Int)} (h:tq w L) (hL:KD L):((cB w 16384).length:Int)=nD L:=by
 have key:∀ (n:Nat) (L:List (Int × Int)),L.length=n->KD L->((cB (fun j=>qC L (536870912+4*(j:Int))) 16384).length:Int)=nD L:=by
  intro n
  induction n with
  | zero =>
   intro L hl _
   rw[List.eq_nil_of_length_eq_zero hl]
   rw[show (fun j:Nat=>qC [] (536870912+4*(j:Int)))=fun _=>0 from rfl,qj]
   rfl
  | succ n ih =>
   intro L hl hL
   rcases List.eq_nil_or_concat L with rfl|⟨M,p,rfl⟩
   ·cases hl
   ·rw[List.concat_eq_append] at hl hL ⊢
    rw[List.length_append,List.length_singleton] at hl
    have GA:=hL.nd
    rw[List.map_append,List.nodup_append] at GA
    have hM:KD M:=⟨GA.1,fun q hq=>hL.inr q (List.mem_append.2 (.inl hq))⟩
    have hp:p.1 ∉ M.map Prod.fst:=fun hm=>GA.2.2 p.1 hm p.1 (by simp) rfl
    obtain⟨j,hj,Gr⟩:=hL.inr p (List.mem_append.2 (.inr (List.mem_singleton.2 rfl)))
    rw[qV,← ih M (by omega) hM]
    have hj0:qC M (536870912+4*(j:Int))=0:=Ka (by rw[← Gr]; exact hp)
    have:=tz (fun k=>qC (M++[p]) (536870912+4*(k:Int))) (fun k=>qC M (536870912+4*(k:Int))) j hj0 (fun k hk=>by
     show qC (M++[p]) _=qC M _
     rw[kj,if_neg (by rw[Gr]; omega)]) 16384
    rw[this]
    have ep:qC (M++[p]) (536870912+4*(j:Int))=p.2:=by rw[kj,if_pos Gr]
    show _+(if j < 16384/\qC (M++[p]) (536870912+4*(j:Int))≠0 then (1:Int) else 0)=_
    rw[ep]
    have:nD [p]=if p.2≠0 then 1 else 0:=by rw[nD,nD]; omega
    rw[this]
    by_cases hz:p.2≠0
    ·rw[if_pos ⟨hj,hz⟩,if_pos hz]
    ·rw[if_neg (fun h=>hz h.2),if_neg hz]
 rw[← key _ L rfl hL]
 rw[o1 16384 (w':=fun j=>qC L (536870912+4*(j:Int))) fun k hk=>h k hk]
theorem zo {L:List (Int × Int)} (hL:KD L) {a:Int} (ha:aY a) (v:Int):KD (kL L a v):=by
 unfold kL
 split
 ·rename_i he
  unfold A_
  have m7:∀ q∈fv L a,q∈L/\q.1≠a:=fun q hq=>by
   unfold fv at hq
   rw[List.mem_filter] at hq
   exact⟨hq.1,by simpa using hq.2⟩
  refine⟨?_,fun q hq=>?_⟩
  ·rw[List.map_append,List.nodup_append]
   refine⟨?_,by simp,fun x hx y hy=>?_⟩
   ·unfold fv
    exact List.Nodup.sublist (List.Sublist.map _ List.filter_sublist) hL.nd
   ·obtain⟨q,hq,rfl⟩:=List.mem_map.1 hx
    simp only[List.map_cons,List.map_nil,List.mem_singleton] at hy
    subst hy
    exact (m7 q hq).2
  ·rcases List.mem_append.1 hq with hq|hq
   ·exact hL.inr q (m7 q hq).1
   ·rw[List.mem_singleton] at hq
    subst hq
    unfold jD at he
    split at he
    ·cases he
    rename_i h4
    split at he
    ·cases he
    split at he
    ·rename_i hr
     unfold da at hr
     exact⟨((a - 536870912) / 4).toNat,by omega,by show a=_; omega⟩
    ·cases he
 ·exact hL
theorem ji (l:List IN):(cV l).length<=4*l.length:=by
 induction l with
 | nil=>exact Nat.le_refl _
 | cons i l ih =>
  have h1:=JX i
  have e:cV (i::l)=mN i++cV l:=rfl
  rw[e,List.length_append,List.length_cons]
  omega
theorem On (l:List IN):Cg (cV l):=fun z hz=>by
 unfold cV at hz
 obtain⟨i,_,h⟩:=List.mem_flatMap.1 hz
 exact JY i z h
theorem Oo (l:List IN) (wait:Int) (hl:l.length<=200) (hi:∀ i∈l,aw i/\B5 i) (hw:0<=wait/\wait<=7):Spec gT 10 [.sl 11 (bO l),.int .i64 wait] [] [] fun r S'=>r = .ptr 2 0/\S'=stM (o5 (cV l) wait):=by
 have el:(bO l).length=l.length:=List.length_map ..
 refine Spec.kB al P10 100 Tryz.func10 rfl (by kernel_rfl) ?_
 refine fun hm=>?_
 refine SW.p_ al P10 (by kernel_rfl) (α:={k:Nat // k<=l.length}) (fun k=>[(1,.int .i64 wait),(5,.wref 0),(14,.sl 11 (bO l)),(15,.int .i64 (bO l).length),(16,.int .i64 k.1)]) (fun k=>[⟨.dyn,5,1,.w,true,gI (cV (l.take k.1))⟩]) (fun k=>l.length - k.1) ⟨0,Nat.zero_le _⟩ 60 [none] ?_ ?_
 ·repeat' first|exact trivial|exact rfl|exact Iff.rfl|refine And.intro ?_ ?_
 rintro⟨k,hk⟩
 refine⟨fun h=>?_,fun h=>?_⟩
 ·have h':(k:Int) < ((bO l).length:Nat):=h
  rw[el] at h'
  obtain⟨i,vB⟩:∃ i,l[k]?=some i:=⟨_,List.getElem?_eq_getElem (by omega)⟩
  obtain⟨hr,u9⟩:=hi i (List.mem_of_getElem? vB)
  have hs:=pN vB
  have hfl:=ji (l.take k)
  rw[List.length_take] at hfl
  have efl:(gI (cV (l.take k))).length=(cV (l.take k)).length:=List.length_map ..
  refine⟨IN,l,c9,rfl,show (0:Int)<=(k:Int) by omega,show (k:Int) < (l.length:Int) by omega,fun j hj=>?_⟩
  obtain rfl:i=j:=Option.some.inj (vB.symm.trans hj)
  have hb4:=JX i
  have ebl:(gI (mN i)).length=(mN i).length:=List.length_map ..
  refine (D6 i hr u9).u ?_
  refine⟨fun h=>absurd rfl h,fun _=>?_⟩
  refine⟨show (gI (cV (l.take k))).length+(gI (mN i)).length<=maxLen by rw[efl,ebl]; unfold maxLen; omega,show ((gI (cV (l.take k))).length+(gI (mN i)).length)*1<=140737488355328 by rw[efl,ebl]; omega,?_⟩
  refine .inl ⟨aq (show _<=(k:Int)+1/\(k:Int)+1<=_ by omega),⟨⟨k+1,by omega⟩,[some 2],show l.length - (k+1) < l.length - k by omega,?_⟩⟩
  repeat' first|exact trivial|exact rfl|exact Iff.rfl|refine And.intro ?_ ?_
  all_goals exact (show gI (cV (l.take k))++gI (mN i)=gI (cV (l.take (k+1))) by rw[hs,NZ])
 ·have h':¬ (k:Int) < ((bO l).length:Nat):=h
  rw[el] at h'
  have cX:l.take k=l:=List.take_of_length_le (by omega)
  have hfl:=ji l
  have hFl:(cV l).length<=65536:=by omega
  rw[cX]
  generalize cV l=F at hFl ⊢
  have eFl:(gI F).length=F.length:=List.length_map ..
  have hc:=JW F hFl
  refine⟨[],bf,Spec.kB al P36 100 Tryz.func36 rfl (by kernel_rfl) ?_⟩
  refine fun xp=>?_
  refine⟨fun h=>absurd (show (65536:Int) < ((gI F).length:Nat) from h) (by rw[eFl]; omega),fun _=>?_⟩
  refine⟨[],bf,hc.x5 [0] rfl (And.intro rfl trivial) rfl rfl ?_⟩
  refine uK al ?_
  refine⟨65536,rfl,rfl,rfl,rfl,by decide,by decide,?_⟩
  rw[show List.replicate 65536 (PV.norm (.lit .u8 0))=gr fun _=>0 from u_]
  refine And.intro ?_ ?_
  ·refine Exists.intro [some 0,some 1,some 2] (Exists.intro [(2,.ptr 2 0),(3,.int .i64 0)] (Exists.intro [⟨.dyn,5,1,.r,true,gI F⟩,AP fun _=>0,⟨.loc,94,1,.w,true,[.sl 1 (gI F),.wref 1]⟩] (And.intro ?_ (And.intro (Nat.le_of_ble_eq_true rfl) ?_))))
   ·repeat' first|exact trivial|exact rfl|exact Iff.rfl|refine And.intro ?_ ?_
   refine⟨fun h=>absurd rfl h,fun _=>?_⟩
   refine⟨[],bf,Spec.kB al P37 100 Tryz.func37 rfl (by kernel_rfl) ?_⟩
   refine⟨fun h=>absurd hw.1 (Int.not_le.2 h),fun _=>?_⟩
   refine⟨fun h=>absurd hw.2 (Int.not_le.2 h),fun _=>?_⟩
   refine Exists.intro [some 0,some 1,some 2,some 3] (Exists.intro [(4,.ptr 3 0),(5,.int .i64 0)] (Exists.intro [⟨.dyn,5,1,.r,true,gI F⟩,AP fun _=>0,⟨.loc,94,1,.w,true,[.sl 1 (gI F),.wref 1]⟩,⟨.loc,91,1,.w,true,.ptr 2 0::(IA (o5 F wait)).cs.tail⟩] (And.intro ?_ (And.intro (Nat.le_of_ble_eq_true rfl) ?_))))
   ·repeat' first|exact trivial|exact rfl|exact Iff.rfl|exact not_false|refine And.intro ?_ ?_
   refine⟨fun h=>absurd rfl h,fun _=>?_⟩
   refine Exists.intro [some 1,some 2,some 3] (Exists.intro [(4,.ptr 2 0)] (Exists.intro (stM (o5 F wait)) (And.intro ?_ (And.intro (Nat.le_of_ble_eq_true rfl) ?_))))
   ·repeat' first|exact trivial|exact rfl|exact Iff.rfl|exact not_false|refine And.intro ?_ ?_
   exact⟨rfl,rfl⟩
  ·refine And.intro ?_ ?_
   ·refine uK al ?_
    refine⟨65536,rfl,rfl,rfl,rfl,by decide,by decide,?_⟩
    rw[show List.replicate 65536 (PV.norm (.lit .u8 0))=gr fun _=>0 from u_]
    refine⟨[],bf,hc.x5 [0] rfl (And.intro rfl trivial) rfl rfl ?_⟩
    exact rfl
   ·first|exact trivial|((conv=>whnf); exact trivial)
def nx (s:RS):RS:={ s with R:=kS s.R 15 134217728 }
theorem kk (o:VO):(ar o).length<=100:=by
 unfold ar
 split
 ·simp
 ·have:=Jx o
  simp only[List.length_append]; omega
theorem Fg (s:RS) {l:List IN} {k:Nat} {i:IN} (hi:l[k]?=some i):ez s (l.take (k+1))=bY (ez s (l.take k)) i:=by
 unfold ez
 rw[List.take_add_one,hi,List.foldl_append]
 rfl
theorem Wo {m:MS} {x:XS} (h:KC x.i.form):wQ m x=m.w:=by
 unfold wQ
 rw[if_neg (fun e=>e h.2),if_neg h.1.2.1]
theorem w5 {m:MS} {l:List IN} (h:KB m l 0) (hl:∀ i∈l,aw i/\B5 i) (hn:(cV l).length<=65536) (ha:∀ i∈l,KC i.form):∀ k,k<=l.length->KB (mv k m) l k/\(mv k m).s=ez m.s (l.take k)/\(mv k m).w=m.w/\(k < l.length->gu (mv k m)=0)
 | 0,hk=>by
  refine⟨h,rfl,rfl,fun hk=>?_⟩
  obtain⟨i,hi⟩:∃ i,l[0]?=some i:=⟨_,List.getElem?_eq_getElem hk⟩
  have hm:=List.mem_of_getElem? hi
  obtain⟨f1,f2⟩:=h.zg hl hn hi
  exact (oX h.kd f1 f2 (hl i hm).1 (ha i hm).1 (qT (ha i hm))).1
 | k+1,hk=>by
  obtain⟨h1,h2,h3,_⟩:=w5 h hl hn ha k (by omega)
  obtain⟨i,hi⟩:∃ i,l[k]?=some i:=⟨_,List.getElem?_eq_getElem (by omega)⟩
  have hm:=List.mem_of_getElem? hi
  obtain⟨f1,f2⟩:=h1.zg hl hn hi
  obtain⟨_,eM,_⟩:=oX h1.kd f1 f2 (hl i hm).1 (ha i hm).1 (qT (ha i hm))
  have hN:=h1.next hl hn hi (ha i hm).1 (qT (ha i hm))
  have es:(mv (k+1) m).s=(kU (mv k m) (ak (mv k m).s i)).s:=by show (kf (mv k m)).s=_; rw[eM]
  have ew:(mv (k+1) m).w=wQ (mv k m) (ak (mv k m).s i):=by show (kf (mv k m)).w=_; rw[eM]
  refine⟨hN,?_,?_,fun tN=>?_⟩
  ·rw[es,V_ (ha i hm),h2,Fg m.s hi]; rfl
  ·rw[ew,Wo (x:=ak (mv k m).s i) (ha i hm),h3]
  ·obtain⟨i2,vB⟩:∃ i,l[k+1]?=some i:=⟨_,List.getElem?_eq_getElem tN⟩
   have xp:=List.mem_of_getElem? vB
   obtain⟨f3,f4⟩:=hN.zg hl hn vB
   exact (oX hN.kd f3 f4 (hl i2 xp).1 (ha i2 xp).1 (qT (ha i2 xp))).1
theorem Kc {m:MS} (hm:qA m) (hc:m.mB=0):∀ k,k<=1000->qA (mv k m)/\(mv k m).mB<=34*k
 | 0,_=>⟨hm,by rw[show (mv 0 m).mB=m.mB from rfl,hc]; omega⟩
 | k+1,hk=>by
  obtain⟨h1,h2⟩:=Kc hm hc k (by omega)
  obtain⟨h3,_,h4,_⟩:=N3 h1 (by omega)
  exact⟨h3,by show (kf (mv k m)).mB<=_; omega⟩
structure tA (o:VO) (m m':MS) (R':List Int) (L':List (Int × Int)) (Kd:Int):Prop where
 r:∀ n:Nat,n < 15->m'.s.R n=if n < 8 then R'.getD n 0 else m.s.R n
 ram:tq m'.w L'
 lok:KD L'
 holds:aT m'.s (lX o.kind)↔Kd≠0
 Kd:Kd=0\/Kd=qf o.kind
theorem pP {R:List Int} {i n:Nat} {v:Int} (hi:i < R.length):(R.set i v).getD n 0=if i=n then v else R.getD n 0:=by
 rw[List.getD_eq_getElem?_getD,List.getElem?_set]
 by_cases h:i=n
 ·subst h; rw[if_pos rfl,if_pos hi,if_pos rfl]; rfl
 ·rw[if_neg h,if_neg h,List.getD_eq_getElem?_getD]
theorem zp {o:VO} (g:pO o) (ht:0<=o.t0) {R:List Int} (hl:R.length=8) {s s':RS} {x:Int} (hR:∀ n:Nat,n < 8->R.getD n 0=s.R n) (h:∀ n:Nat,n < 15->s'.R n=kS (kS s.R o.t0 (x % 4294967296)) o.t1 (x / 4294967296) n):∀ n:Nat,n < 15->s'.R n=if n < 8 then (iL R o x).getD n 0 else s.R n:=by
 intro n hn
 have g0:=g.t0
 have g1:=g.t1
 rw[h n hn]
 unfold kS iL
 by_cases h8:n < 8
 ·rw[if_pos h8]
  by_cases h1:0<=o.t1
  ·rw[if_pos h1,pP (by rw[List.length_set]; omega),pP (by omega),hR n h8]
   by_cases e1:o.t1.toNat=n
   ·have e2:o.t1=(n:Int):=by omega
    rw[if_pos e2,if_pos e1]
   ·have e2:¬ o.t1=(n:Int):=by omega
    rw[if_neg e2,if_neg e1]
    by_cases e0:o.t0.toNat=n
    ·have e3:o.t0=(n:Int):=by omega
     rw[if_pos e3,if_pos e0]
    ·have e3:¬ o.t0=(n:Int):=by omega
     rw[if_neg e3,if_neg e0]
  ·have e2:¬ o.t1=(n:Int):=by omega
   rw[if_neg h1,pP (by omega),hR n h8,if_neg e2]
   by_cases e0:o.t0.toNat=n
   ·have e3:o.t0=(n:Int):=by omega
    rw[if_pos e3,if_pos e0]
   ·have e3:¬ o.t0=(n:Int):=by omega
    rw[if_neg e3,if_neg e0]
 ·have e2:¬ o.t1=(n:Int):=by omega
  have e3:¬ o.t0=(n:Int):=by omega
  rw[if_neg h8,if_neg e2,if_neg e3]
theorem CJ {R:List Int} {s:RS} (hR:∀ n:Nat,n < 8->R.getD n 0=s.R n) {f:Int} (h:f<=7):vA R f=vD f s:=by
 unfold vA vD fP
 split
 ·exact hR _ (by omega)
 ·rfl
theorem Oq {o:VO} (g:pO o) {R:List Int} {s:RS} (hR:∀ n:Nat,n < 8->R.getD n 0=s.R n):tv R (s.R 13) o=cW o s:=by
 unfold tv cW
 rw[CJ hR g.f0.2,CJ hR g.f1.2,CJ hR g.f2.2,CJ hR g.f3.2]
theorem w6 {o:VO} (hf:aO o) (h2:o.kind≠2) (h3:o.kind≠3) (h5:o.kind≠5) (h6:o.kind≠6) (lp:o.kind≠28):∀ i∈ar o,KC i.form:=fun i h=>(V7 (List.all_eq_true.1 (V9 o hf h2 h3 h5 h6 lp) i h)).1
theorem al_28 {o:VO} (hk:o.kind=28):∀ i∈ar o,KC i.form:=by
 have e:ar o = [iF 97 o.t0 o.f0 o.f1]:=by unfold ar bp aK aL aM aA; rw[hk]; rfl
 rw[e]
 intro i hi
 rw[List.mem_singleton] at hi
 rw[hi]
 show KC 97
 unfold KC mF
 decide
section
variable {o:VO} (hf:aO o/\dQ o) (hn:0<=o.n/\o.n<=4294967295) {m:MS} (hm:qA m) (hA:KB m (ar o) 0) {R:List Int} {L:List (Int × Int)} (hl:R.length=8) (hR:∀ n:Nat,n < 8->R.getD n 0=m.s.R n) (km:tq m.w L) (lh:KD L)
include hf hn hm hA hl hR km lh
theorem Ot (h2:o.kind≠2) (h3:o.kind≠3) (h5:o.kind≠5) (h6:o.kind≠6) (Ph:o.kind≠30) (Ja:o.kind≠31):(∀ k,k < (ar o).length->gu (mv k m)=0)/\tA o m (mv (ar o).length m) (iL R o (tv R (m.s.R 13) o)) L 0:=by
 have u9:=tj o hf hn
 have O1:∀ i∈ar o,KC i.form:=by
  by_cases lp:o.kind=28
  ·exact al_28 lp
  ·exact w6 hf.1 h2 h3 h5 h6 lp
 have hb:(cV (ar o)).length<=65536:=by have:=ji (ar o); have:=kk o; omega
 have hr:=w5 hA u9 hb O1
 have g:=jh hf
 obtain⟨_,e1,e2,_⟩:=hr (ar o).length (Nat.le_refl _)
 rw[List.take_of_length_le (Nat.le_refl _)] at e1
 have ho:=Wc o hf hn h2 h3 h5 h6 Ph Ja m.s hm.s
 have ht0:0<=o.t0:=by
  have h1:=hf.1.1
  have hp:=hf.1.2.1.1
  have hv:1<=cv o.kind:=by
   rcases kinds h1 with h|h|h|h|h|h|h|h|h|h|h|h|h|h|h|h|h|h|h|h|h|h|h|h|h|h|h|h|h|h|h<;>rw[h]<;>first|decide|(exfalso; omega)
  unfold dd at hp
  omega
 refine⟨fun k hk=>(hr k (by omega)).2.2.2 hk,?_,by rw[e2]; exact km,lh,?_,.inl rfl⟩
 ·rw[Oq g hR]
  exact zp g ht0 hl hR (fun n h=>by rw[e1]; exact ho n h)
 ·unfold lX
  rw[if_neg Ph,if_neg Ja]
  unfold aT
  simp
theorem Wp (hk:o.kind=30):(∀ k,k < (ar o).length->gu (mv k m)=0)/\tA o m (mv (ar o).length m) R L (tu (o.n<=fP R o.f0)):=by
 have u9:=tj o hf hn
 have O1:=w6 hf.1 (by omega) (by omega) (by omega) (by omega) (by omega:o.kind≠28)
 have hb:(cV (ar o)).length<=65536:=by have:=ji (ar o); have:=kk o; omega
 have hr:=w5 hA u9 hb O1
 have g:=jh hf
 obtain⟨_,e1,e2,_⟩:=hr (ar o).length (Nat.le_refl _)
 rw[List.take_of_length_le (Nat.le_refl _)] at e1
 have eL:ar o=if o.n<=255 then [iM 9 o.f0 o.n] else [{ iZ with form:=65,rn:=o.f0,ay:=Rm.nz o.n }]:=by unfold ar bp aK aL aM aA; rw[hk]; simp
 have hp:=hf.1.2.2.1.1
 rw[hk,show aI 30=1 by decide] at hp
 unfold dd at hp
 have hf0:=g.f0
 have hv:=hf.1.2.2.2.2
 rw[hk] at hv
 unfold cC at hv
 have ho:(∀ n:Nat,n < 15->(ez m.s (ar o)).R n=m.s.R n)/\(ez m.s (ar o)).C=if o.n<=m.s.R o.f0.toNat then 1 else 0:=by
  rw[eL]
  by_cases h:o.n<=255
  ·rw[if_pos h]
   have:=f_9 (s:=m.s) (a:=o.f0) (n:=o.n) (by omega) (by omega) (hm.s.r _)
   exact⟨this.1,this.2.1⟩
  ·rw[if_neg h]
   have hw:Rm.dD (Rm.nz o.n)=o.n:=by
    refine tl hn ?_
    rcases hv with h1|h1|h1|h1|h1
    ·omega
    ·omega
    ·omega
    ·obtain⟨_,h1|h1⟩:=h1
     ·omega
     ·have key:∀ k:Fin 193,Rm.k_ (256+4*(k.1:Int))=0:=by decide +kernel
      have:=key ⟨((o.n - 256) / 4).toNat,by omega⟩
      rw[show 256+4*((((o.n - 256) / 4).toNat:Nat):Int)=o.n by omega] at this
      exact this
    ·omega
   exact f_65 (s:=m.s) (a:=o.f0) (n:=o.n) (by omega) hw (hm.s.r _)
 have er:fP R o.f0=m.s.R o.f0.toNat:=hR _ (by omega)
 refine⟨fun k hk=>(hr k (by omega)).2.2.2 hk,fun n h=>?_,by rw[e2]; exact km,lh,?_,?_⟩
 ·rw[e1,ho.1 n h]
  split
  ·rename_i h8; exact (hR n h8).symm
  ·rfl
 ·rw[show lX o.kind=2 by unfold lX; rw[if_pos hk],hl_2,e1,ho.2,er]
  unfold tu
  split<;>simp
 ·rw[show qf o.kind=1 by unfold qf; rw[if_pos hk]]
  unfold tu
  split
  ·exact .inr rfl
  ·exact .inl rfl
theorem Wq (hk:o.kind=31):(∀ k,k < (ar o).length->gu (mv k m)=0)/\tA o m (mv (ar o).length m) R L (2*tu (fP R o.f0=0)):=by
 have u9:=tj o hf hn
 have O1:=w6 hf.1 (by omega) (by omega) (by omega) (by omega) (by omega:o.kind≠28)
 have hb:(cV (ar o)).length<=65536:=by have:=ji (ar o); have:=kk o; omega
 have hr:=w5 hA u9 hb O1
 have g:=jh hf
 obtain⟨_,e1,e2,_⟩:=hr (ar o).length (Nat.le_refl _)
 rw[List.take_of_length_le (Nat.le_refl _)] at e1
 have eL:ar o = [iM 9 o.f0 0]:=by unfold ar bp aK aL aM aA; rw[hk]; rfl
 have hp:=hf.1.2.2.1.1
 rw[hk,show aI 31=1 by decide] at hp
 unfold dd at hp
 have hf0:=g.f0
 have ho:(∀ n:Nat,n < 15->(ez m.s (ar o)).R n=m.s.R n)/\(ez m.s (ar o)).Z=if m.s.R o.f0.toNat=0 then 1 else 0:=by
  rw[eL]
  have:=f_9 (s:=m.s) (a:=o.f0) (n:=0) (by omega) (by omega) (hm.s.r _)
  exact⟨this.1,this.2.2⟩
 have er:fP R o.f0=m.s.R o.f0.toNat:=hR _ (by omega)
 refine⟨fun k hk=>(hr k (by omega)).2.2.2 hk,fun n h=>?_,by rw[e2]; exact km,lh,?_,?_⟩
 ·rw[e1,ho.1 n h]
  split
  ·rename_i h8; exact (hR n h8).symm
  ·rfl
 ·rw[show lX o.kind=0 by unfold lX; rw[if_neg (by omega),if_pos hk],hl_0,e1,ho.2,er]
  unfold tu
  split<;>simp
 ·rw[show qf o.kind=2 by unfold qf; rw[if_neg (by omega),if_pos hk]]
  unfold tu
  split
  ·exact .inr rfl
  ·exact .inl rfl
theorem CK {i:IN} (hi:ar o = [i]) (hs:mF i.form) (hc:bw i.form≠0):(jm m (ak m.s i) (fU (ak m.s i))≠0->gu m≠0)/\(jm m (ak m.s i) (fU (ak m.s i))=0->gu m=0/\(kf m).s=(je m (ak m.s i) (fU (ak m.s i))).s/\(kf m).w=kJ m (ak m.s i) (fU (ak m.s i))):=by
 have u9:=tj o hf hn
 have hb:(cV (ar o)).length<=65536:=by have:=ji (ar o); have:=kk o; omega
 obtain⟨f1,f2⟩:=hA.zg u9 hb (k:=0) (i:=i) (by rw[hi]; rfl)
 have Xz:=(u9 i (by rw[hi]; exact List.mem_singleton.2 rfl)).1
 have hd:zA m (ak m.s i)=jm m (ak m.s i) (fU (ak m.s i)):=by unfold zA; rw[if_pos (show bw (ak m.s i).i.form≠0 from hc)]
 refine⟨fun h=>?_,fun h=>?_⟩
 ·unfold gu
  rw[if_neg (fun h=>h hA.kd),if_neg (fun h=>h f1)]
  unfold qB
  rw[f2,hd,if_pos h]
  decide
 ·obtain⟨k1,k2,_⟩:=oX hA.kd f1 f2 Xz hs (hd.trans h)
  refine⟨k1,?_,?_⟩
  ·rw[k2]
   show (kU m (ak m.s i)).s=_
   unfold kU
   rw[if_pos (show bw (ak m.s i).i.form≠0 from hc)]
  ·rw[k2]
   show wQ m (ak m.s i)=_
   unfold wQ
   rw[if_pos (show bw (ak m.s i).i.form≠0 from hc)]
end
def dK (R:List Int) (a:Int) (o:VO):Int:=if o.kind=5\/o.kind=6 then gX R o else iz a o
theorem tB (R:List Int) (a:Int) (o:VO):aY (dK R a o):=by unfold dK gX iz; split<;>exact wrap_u32 _
noncomputable def dR (R:List Int) (a:Int) (L:List (Int × Int)) (o:VO):List Int :=
 if o.kind=3\/o.kind=6\/o.kind=30\/o.kind=31 then R else if o.kind=2\/o.kind=5 then (if jj [] (dK R a o)≠0 then R else iL R o (qh [] L (dK R a o))) else iL R o (tv R a o)
def dL (R:List Int) (a:Int) (L:List (Int × Int)) (o:VO):List (Int × Int):=if o.kind=3 then kL L (dK R a o) (fP R o.f0) else if o.kind=6 then kL L (dK R a o) (fP R o.f2) else L
noncomputable def dT (R:List Int) (o:VO):Int:=if o.kind=30 then tu (o.n<=fP R o.f0) else if o.kind=31 then 2*tu (fP R o.f0=0) else 0
def dE (R:List Int) (a:Int) (o:VO):Int:=if o.kind=3\/o.kind=6 then jD (dK R a o) else if o.kind=2\/o.kind=5 then jj [] (dK R a o) else 0
theorem Ws (R:List Int) (a:Int) (L:List (Int × Int)) (o:VO):(dL R a L o).length<=L.length+1:=by
 have h:=zk L (dK R a o)
 unfold dL
 split
 ·exact h _
 ·split
  ·exact h _
  ·omega
theorem CL {o:VO} (hf:aO o/\dQ o):(o.kind=2\/o.kind=4->o.f0 = -1/\o.f1 = -1/\o.f2 = -1/\o.f3 = -1)/\(o.kind=3\/o.kind=30\/o.kind=31->0<=o.f0/\o.f1 = -1/\o.f2 = -1/\o.f3 = -1)/\(o.kind=5->0<=o.f0/\0<=o.f1/\o.f2 = -1/\o.f3 = -1)/\(o.kind=6->0<=o.f0/\0<=o.f1/\0<=o.f2/\o.f3 = -1):=by
 obtain⟨_,_,⟨q0,q1,q2,q3⟩,_⟩:=hf.1
 unfold dd at q0 q1 q2 q3
 refine⟨?_,?_,?_,?_⟩
 ·rintro (h|h)<;>rw[h] at q0 q1 q2 q3
  ·rw[show aI 2=0 by decide] at q0 q1 q2 q3; omega
  ·rw[show aI 4=0 by decide] at q0 q1 q2 q3; omega
 ·rintro (h|h|h)<;>rw[h] at q0 q1 q2 q3
  ·rw[show aI 3=1 by decide] at q0 q1 q2 q3; omega
  ·rw[show aI 30=1 by decide] at q0 q1 q2 q3; omega
  ·rw[show aI 31=1 by decide] at q0 q1 q2 q3; omega
 ·intro h; rw[h,show aI 5=2 by decide] at q0 q1 q2 q3; omega
 ·intro h; rw[h,show aI 6=3 by decide] at q0 q1 q2 q3; omega
theorem tos {o:VO} (hf:aO o/\dQ o):(o.kind≠3->o.kind≠6->o.kind≠30->o.kind≠31->0<=o.t0)/\(o.kind=2\/o.kind=5->o.t1 = -1):=by
 obtain⟨h1,⟨p0,p1⟩,_⟩:=hf.1
 unfold dd at p0 p1
 refine⟨fun h3 h6 Ph Ja=>?_,?_⟩
 ·have hv:1<=cv o.kind:=by
   rcases kinds h1 with h|h|h|h|h|h|h|h|h|h|h|h|h|h|h|h|h|h|h|h|h|h|h|h|h|h|h|h|h|h|h<;>rw[h]<;>first|decide|(exfalso; omega)
  omega
 ·rintro (h|h)<;>rw[h] at p1
  ·rw[show cv 2=1 by decide] at p1; omega
  ·rw[show cv 5=1 by decide] at p1; omega
theorem Ou (o:VO) (hf:aO o/\dQ o) (hn:aY o.n) (R:List Int) (hl:R.length=8) (hR:∀ z∈R,aY z) (a:Int) (ha:aY a) (L:List (Int × Int)) (hL:L.length<=100000) (hb:∀ x,aY x->aY (qh [] L x)):ai gT 16 [sP R a L,nC o] (.tup [sP (dR R a L o) a (dL R a L o),.int .i64 (dT R o),.int .i64 (dE R a o)]):=by
 have g:=jh hf
 obtain⟨f24,f31,f5,f6⟩:=CL hf
 obtain⟨t0,t1⟩:=tos hf
 have hk:=hf.1.1
 have hu:=tB R a o
 by_cases Ke:o.kind=30
 ·obtain⟨h0,hm⟩:=f31 (by omega)
  have:=do_30 o hn R hl hR a ha L g Ke h0 hm
  rw[show dR R a L o=R by unfold dR; rw[if_pos (by omega)],show dL R a L o=L by unfold dL; rw[if_neg (by omega),if_neg (by omega)],show dT R o=tu (o.n<=fP R o.f0) by unfold dT; rw[if_pos Ke],show dE R a o=0 by unfold dE; rw[if_neg (by omega),if_neg (by omega)]]
  exact this
 by_cases Ov:o.kind=31
 ·obtain⟨h0,hm⟩:=f31 (by omega)
  have:=do_31 o hn R hl hR a ha L g Ov h0 hm
  rw[show dR R a L o=R by unfold dR; rw[if_pos (by omega)],show dL R a L o=L by unfold dL; rw[if_neg (by omega),if_neg (by omega)],show dT R o=2*tu (fP R o.f0=0) by unfold dT; rw[if_neg Ke,if_pos Ov],show dE R a o=0 by unfold dE; rw[if_neg (by omega),if_neg (by omega)]]
  exact this
 have eT:dT R o=0:=by unfold dT; rw[if_neg Ke,if_neg Ov]
 rw[eT]
 by_cases k3:o.kind=3
 ·obtain⟨h0,hm⟩:=f31 (by omega)
  have:=do_3 o hn R hl hR a ha L g k3 h0 hm hL
  have e:dK R a o=iz a o:=if_neg (by omega)
  rw[show dR R a L o=R by unfold dR; rw[if_pos (by omega)],show dL R a L o=kL L (iz a o) (fP R o.f0) by unfold dL; rw[if_pos k3,e],show dE R a o=jD (iz a o) by unfold dE; rw[if_pos (by omega),e]]
  exact this
 by_cases k6:o.kind=6
 ·obtain⟨h0,h1,h2,h3⟩:=f6 k6
  have:=do_6 o hn R hl hR a ha L g k6 h0 h1 h2 h3 hL
  have e:dK R a o=gX R o:=if_pos (by omega)
  rw[show dR R a L o=R by unfold dR; rw[if_pos (by omega)],show dL R a L o=kL L (gX R o) (fP R o.f2) by unfold dL; rw[if_neg k3,if_pos k6,e],show dE R a o=jD (gX R o) by unfold dE; rw[if_pos (by omega),e]]
  exact this
 have eL:dL R a L o=L:=by unfold dL; rw[if_neg k3,if_neg k6]
 rw[eL]
 have Xb:=t0 k3 k6 Ke Ov
 by_cases KE:o.kind=2\/o.kind=5
 ·have eE:dE R a o=jj [] (dK R a o):=by unfold dE; rw[if_neg (by omega),if_pos KE]
  rw[eE,show dR R a L o=if jj [] (dK R a o)≠0 then R else iL R o (qh [] L (dK R a o)) by unfold dR; rw[if_neg (by omega),if_pos KE]]
  have t1':=t1 KE
  by_cases k2:o.kind=2
  ·have e:dK R a o=iz a o:=if_neg (by omega)
   rw[e] at hu ⊢
   by_cases he:jj [] (iz a o)=0
   ·rw[if_neg (fun h=>h he),he]
    exact do_2 o hn R hl hR a ha L g k2 (f24 (by omega)) he (hb _ hu) Xb t1'
   ·rw[if_pos he]
    exact Oe o hn R hl hR a ha L g k2 (f24 (by omega)) he
  ·have k5:o.kind=5:=by omega
   obtain⟨h0,h1,hm⟩:=f5 k5
   have e:dK R a o=gX R o:=if_pos (by omega)
   rw[e] at hu ⊢
   by_cases he:jj [] (gX R o)=0
   ·rw[if_neg (fun h=>h he),he]
    exact do_5 o hn R hl hR a ha L g k5 h0 h1 hm he (hb _ hu) Xb t1'
   ·rw[if_pos he]
    exact Of o hn R hl hR a ha L g k5 h0 h1 hm he
 rw[show dR R a L o=iL R o (tv R a o) by unfold dR; rw[if_neg (by omega),if_neg KE],show dE R a o=0 by unfold dE; rw[if_neg (by omega),if_neg KE]]
 by_cases k4:o.kind=4
 ·exact do_4 o hn R hl hR a ha L g k4 (f24 (by omega)) Xb
 ·exact Wh o hn R hl hR a ha L g (by omega) (by omega) k3 k4 (by omega) k6 Xb
theorem Kf {fl:List Int} {w:Nat->Int} {a:Int} (hl:fl.length<=65536) (h:¬ (134217728<=a/\a < 134283264)):jj fl a=jj [] a/\nB fl w a=nB [] w a:=by
 have h1:¬ gV fl a 4:=by unfold gV; omega
 have h2:¬ gV [] a 4:=by unfold gV; simp only[List.length_nil]; omega
 unfold jj nB
 constructor
 ·split
  ·rfl
  ·split
   ·rfl
   ·first|rfl|rw[if_neg h1,if_neg h2]
 ·split
  ·rfl
  ·split
   ·rfl
   ·first|rfl|rw[if_neg h1,if_neg h2]
theorem CM {w:Nat->Int} (hw:∀ k,aY (w k)) (a:Int):aY (nB [] w a):=by
 have z:aY 0:=⟨by decide,by decide⟩
 have h2:¬ gV [] a 4:=by unfold gV; simp only[List.length_nil]; omega
 unfold nB
 split
 ·exact z
 ·split
  ·exact hw _
  ·first|exact z|(rw[if_neg h2]; exact z)
section
variable {o:VO} (hf:aO o/\dQ o) (hn:0<=o.n/\o.n<=4294967295) {m:MS} (hm:qA m) (hA:KB m (ar o) 0) {R:List Int} {L:List (Int × Int)} (hl:R.length=8) (hR:∀ n:Nat,n < 8->R.getD n 0=m.s.R n) (km:tq m.w L) (lh:KD L)
include hf hn hm hA hl hR km lh
theorem Wt (hk:o.kind=3\/o.kind=6):(ar o).length=1/\(dE R (m.s.R 13) o≠0->gu m≠0)/\(dE R (m.s.R 13) o=0->gu m=0/\tA o m (kf m) R (dL R (m.s.R 13) L o) 0):=by
 have g:=jh hf
 obtain⟨_,f31,_,f6⟩:=CL hf
 have eE:dE R (m.s.R 13) o=jD (dK R (m.s.R 13) o):=by unfold dE; rw[if_pos hk]
 have hu:=tB R (m.s.R 13) o
 have eN:IntKind.u32.wrap o.n=o.n:=by rw[IntKind.wrap_u32']; omega
 
 obtain⟨i,v,e1,e2,e3,e4,e5,e6⟩:∃ i v,ar o = [i]/\mF i.form/\gW i.form/\bw i.form≠0/\fU (ak m.s i)=dK R (m.s.R 13) o/\(ao (ak m.s i) i.rd=v/\dL R (m.s.R 13) L o=kL L (dK R (m.s.R 13) o) v):=by
  rcases hk with hk|hk
  ·obtain⟨h0,_⟩:=f31 (by omega)
   refine⟨iM 37 o.f0 o.n,fP R o.f0,by unfold ar bp aK aL aM aA; rw[hk]; rfl,?_,.inr (.inr (.inr (.inl rfl))),by show bw 37≠0; decide,?_,?_,?_⟩
   ·show mF 37; unfold mF; decide
   ·rw[wG (show bw 37=4 by decide),aH (by decide) (by decide)]
    show IntKind.u32.wrap (m.s.R 13+IntKind.u32.wrap o.n)=_
    rw[eN]
    exact (if_neg (by omega):dK R (m.s.R 13) o=iz (m.s.R 13) o).symm
   ·show ao (ak m.s (iM 37 o.f0 o.n)) o.f0=_
    rw[aH h0 (by have:=g.f0; omega)]
    exact (hR _ (by have:=g.f0; omega)).symm
   ·unfold dL; rw[if_pos hk]
  ·obtain⟨h0,h1,h2,_⟩:=f6 hk
   refine⟨{ iF 86 o.f2 o.f0 o.f1 with bF:=2 },fP R o.f2,by unfold ar bp aK aL aM aA; rw[hk]; rfl,?_,.inr (.inr (.inr (.inr rfl))),by show bw 86≠0; decide,?_,?_,?_⟩
   ·show mF 86; unfold mF; decide
   ·rw[wH (show bw 86=5 by decide)]
    show IntKind.u32.wrap (ao (ak m.s { iF 86 o.f2 o.f0 o.f1 with bF:=2 }) o.f0+IntKind.u32.wrap (ao (ak m.s { iF 86 o.f2 o.f0 o.f1 with bF:=2 }) o.f1*Ev.aV .u32 2))=_
    rw[aH h0 (by have:=g.f0; omega),aH h1 (by have:=g.f1; omega),show Ev.aV .u32 2=4 by decide,Int.mul_comm]
    rw[show dK R (m.s.R 13) o=gX R o from if_pos (by omega)]
    unfold gX fP
    rw[hR _ (by have:=g.f0; omega),hR _ (by have:=g.f1; omega)]
   ·show ao (ak m.s { iF 86 o.f2 o.f0 o.f1 with bF:=2 }) o.f2=_
    rw[aH h2 (by have:=g.f2; omega)]
    exact (hR _ (by have:=g.f2; omega)).symm
   ·unfold dL; rw[if_neg (by omega),if_pos hk]
 obtain⟨k1,k2⟩:=CK hf hn hm hA hl hR km lh e1 e2 e4
 have ea:jm m (ak m.s i) (fU (ak m.s i))=dE R (m.s.R 13) o:=by unfold jm; rw[if_pos (show gW (ak m.s i).i.form from e3),e5,eE]
 rw[ea] at k1 k2
 refine⟨by rw[e1]; rfl,k1,fun h=>?_⟩
 obtain⟨k3,k4,k5⟩:=k2 h
 refine⟨k3,fun n hn=>?_,?_,?_,?_,.inl rfl⟩
 ·rw[k4]
  have:(je m (ak m.s i) (fU (ak m.s i))).s.R n=m.s.R n:=by
   unfold je
   rw[if_pos (show gW (ak m.s i).i.form from e3)]
   exact e9 hn
  rw[this]
  split
  ·rename_i h8; exact (hR n h8).symm
  ·rfl
 ·rw[k5,e6.2]
  unfold kJ
  rw[if_pos (show gW (ak m.s i).i.form from e3),e5,show ao (ak m.s i) (ak m.s i).i.rd=v from e6.1]
  exact ve km hu v
 ·rw[e6.2]; exact zo lh hu v
 ·unfold lX
  rw[if_neg (by omega),if_neg (by omega)]
  unfold aT
  simp
theorem Wu (hk:o.kind=2\/o.kind=5) (hg:¬ (134217728<=dK R (m.s.R 13) o/\dK R (m.s.R 13) o < 134283264)):(ar o).length=1/\(dE R (m.s.R 13) o≠0->gu m≠0)/\(dE R (m.s.R 13) o=0->gu m=0/\tA o m (kf m) (dR R (m.s.R 13) L o) L 0):=by
 have g:=jh hf
 obtain⟨_,_,f5,_⟩:=CL hf
 obtain⟨t0,t1⟩:=tos hf
 have Xb:=t0 (by omega) (by omega) (by omega) (by omega)
 have t1':=t1 hk
 have eE:dE R (m.s.R 13) o=jj [] (dK R (m.s.R 13) o):=by unfold dE; rw[if_neg (by omega),if_pos hk]
 have hu:=tB R (m.s.R 13) o
 have eN:IntKind.u32.wrap o.n=o.n:=by rw[IntKind.wrap_u32']; omega
 obtain⟨i,e1,e2,e3,e4,e5,e6⟩:∃ i,ar o = [i]/\mF i.form/\¬ gW i.form/\bw i.form≠0/\fU (ak m.s i)=dK R (m.s.R 13) o/\i.rd=o.t0:=by
  rcases hk with hk|hk
  ·refine⟨iM 38 o.t0 o.n,by unfold ar bp aK aL aM aA; rw[hk]; rfl,?_,?_,by show bw 38≠0; decide,?_,rfl⟩
   ·show mF 38; unfold mF; decide
   ·show ¬ gW 38; decide
   ·rw[wG (show bw 38=4 by decide),aH (by decide) (by decide)]
    show IntKind.u32.wrap (m.s.R 13+IntKind.u32.wrap o.n)=_
    rw[eN]
    exact (if_neg (by omega):dK R (m.s.R 13) o=iz (m.s.R 13) o).symm
  ·obtain⟨h0,h1,_⟩:=f5 hk
   refine⟨{ iF 87 o.t0 o.f0 o.f1 with bF:=2 },by unfold ar bp aK aL aM aA; rw[hk]; rfl,?_,?_,by show bw 87≠0; decide,?_,rfl⟩
   ·show mF 87; unfold mF; decide
   ·show ¬ gW 87; decide
   ·rw[wH (show bw 87=5 by decide)]
    show IntKind.u32.wrap (ao (ak m.s { iF 87 o.t0 o.f0 o.f1 with bF:=2 }) o.f0+IntKind.u32.wrap (ao (ak m.s { iF 87 o.t0 o.f0 o.f1 with bF:=2 }) o.f1*Ev.aV .u32 2))=_
    rw[aH h0 (by have:=g.f0; omega),aH h1 (by have:=g.f1; omega),show Ev.aV .u32 2=4 by decide,Int.mul_comm]
    rw[show dK R (m.s.R 13) o=gX R o from if_pos (by omega)]
    unfold gX fP
    rw[hR _ (by have:=g.f0; omega),hR _ (by have:=g.f1; omega)]
 obtain⟨k1,k2⟩:=CK hf hn hm hA hl hR km lh e1 e2 e4
 obtain⟨q1,q2⟩:=Kf (fl:=m.fl) (w:=m.w) hm.mem.len hg
 have ea:jm m (ak m.s i) (fU (ak m.s i))=dE R (m.s.R 13) o:=by unfold jm; rw[if_neg (show ¬ gW (ak m.s i).i.form from e3),e5,eE,q1]
 rw[ea] at k1 k2
 refine⟨by rw[e1]; rfl,k1,fun h=>?_⟩
 obtain⟨k3,k4,k5⟩:=k2 h
 rw[eE] at h
 have hv:aY (nB m.fl m.w (dK R (m.s.R 13) o)):=by rw[q2]; exact CM hm.mem.w _
 have eD:qh [] L (dK R (m.s.R 13) o)=nB m.fl m.w (dK R (m.s.R 13) o):=by rw[q2]; exact Bc km hu
 have er:dR R (m.s.R 13) L o=iL R o (nB m.fl m.w (dK R (m.s.R 13) o)):=by
  unfold dR
  rw[if_neg (by omega),if_pos hk,if_neg (fun k=>k h),eD]
 refine⟨k3,?_,?_,lh,?_,.inl rfl⟩
 ·rw[er]
  refine zp g Xb hl hR fun n hn=>?_
  rw[k4]
  unfold je
  rw[if_neg (show ¬ gW (ak m.s i).i.form from e3),e5,if_pos (q1.trans h)]
  show kS (ak m.s i).s.R (ak m.s i).i.rd _ n=_
  rw[show (ak m.s i).i.rd=o.t0 from e6,t1']
  unfold aY at hv
  unfold kS
  rw[if_neg (show ¬ (-1:Int)=(n:Int) by omega)]
  split
  ·omega
  ·exact e9 hn
 ·rw[k5]
  unfold kJ
  rw[if_neg (show ¬ gW (ak m.s i).i.form from e3)]
  exact km
 ·unfold lX
  rw[if_neg (by omega),if_neg (by omega)]
  unfold aT
  simp
theorem Ow (hg:o.kind=2\/o.kind=5->¬ (134217728<=dK R (m.s.R 13) o/\dK R (m.s.R 13) o < 134283264)):(dE R (m.s.R 13) o=0/\(∀ k,k < (ar o).length->gu (mv k m)=0)/\tA o m (mv (ar o).length m) (dR R (m.s.R 13) L o) (dL R (m.s.R 13) L o) (dT R o))\/(dE R (m.s.R 13) o≠0/\(ar o).length=1/\gu m≠0):=by
 have hk:=hf.1.1
 by_cases k36:o.kind=3\/o.kind=6
 ·obtain⟨h1,h2,h3⟩:=Wt hf hn hm hA hl hR km lh k36
  by_cases h:dE R (m.s.R 13) o=0
  ·obtain⟨h4,h5⟩:=h3 h
   refine .inl ⟨h,fun k hk=>?_,?_⟩
   ·obtain rfl:k=0:=by omega
    exact h4
   ·rw[h1,show dR R (m.s.R 13) L o=R by unfold dR; rw[if_pos (by omega)],show dT R o=0 by unfold dT; rw[if_neg (by omega),if_neg (by omega)]]
    exact h5
  ·exact .inr ⟨h,h1,h2 h⟩
 by_cases KE:o.kind=2\/o.kind=5
 ·obtain⟨h1,h2,h3⟩:=Wu hf hn hm hA hl hR km lh KE (hg KE)
  by_cases h:dE R (m.s.R 13) o=0
  ·obtain⟨h4,h5⟩:=h3 h
   refine .inl ⟨h,fun k hk=>?_,?_⟩
   ·obtain rfl:k=0:=by omega
    exact h4
   ·rw[h1,show dL R (m.s.R 13) L o=L by unfold dL; rw[if_neg (by omega),if_neg (by omega)],show dT R o=0 by unfold dT; rw[if_neg (by omega),if_neg (by omega)]]
    exact h5
  ·exact .inr ⟨h,h1,h2 h⟩
 have eE:dE R (m.s.R 13) o=0:=by unfold dE; rw[if_neg k36,if_neg KE]
 have eL:dL R (m.s.R 13) L o=L:=by unfold dL; rw[if_neg (by omega),if_neg (by omega)]
 rw[eE,eL]
 refine .inl ⟨rfl,?_⟩
 by_cases Ke:o.kind=30
 ·rw[show dR R (m.s.R 13) L o=R by unfold dR; rw[if_pos (by omega)],show dT R o=tu (o.n<=fP R o.f0) by unfold dT; rw[if_pos Ke]]
  exact Wp hf hn hm hA hl hR km lh Ke
 by_cases Ov:o.kind=31
 ·rw[show dR R (m.s.R 13) L o=R by unfold dR; rw[if_pos (by omega)],show dT R o=2*tu (fP R o.f0=0) by unfold dT; rw[if_neg Ke,if_pos Ov]]
  exact Wq hf hn hm hA hl hR km lh Ov
 rw[show dR R (m.s.R 13) L o=iL R o (tv R (m.s.R 13) o) by unfold dR; rw[if_neg (by omega),if_neg KE],show dT R o=0 by unfold dT; rw[if_neg Ke,if_neg Ov]]
 exact Ot hf hn hm hA hl hR km lh (by omega) (by omega) (by omega) (by omega) Ke Ov
end
end Go.Proofs.YtlgkljpgagfndaaGreatDoor.Pw
