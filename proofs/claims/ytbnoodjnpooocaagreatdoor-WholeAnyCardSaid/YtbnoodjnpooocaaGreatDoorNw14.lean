/- What this claim is proved with: no condition. -/
import Derived.Test.YtbnoodjnpooocaaGreatDoorNw13
import Derived.Test.YtbnoodjnpooocaaGreatDoorNw6
import Derived.Test.YtbnoodjnpooocaaGreatDoorNw7
import Derived.Test.YtbnoodjnpooocaaGreatDoorNw8
import Derived.Test.YtbnoodjnpooocaaGreatDoorNw12
import Derived.KernelRfl
import Derived.WalkKit
import Derived.Lib.Walk
import Derived.Lib.SliceRun
import Derived.Lib.AppendZerosOnto
import Derived.Laws.Externs
import Derived.Lib.Bytealg
set_option linter.unusedVariables false
set_option linter.unusedSimpArgs false
namespace Go.Proofs.YtbnoodjnpooocaaGreatDoor.Pw
open Go Go.RowKit Go.Lib
abbrev Kt (nt b:Nat) (K:CS->Bool) (s2:aD):Prop:=∃ s1:CS,s2=s1.st nt b/\K s1=true
section
variable {w w':World} {I I':Nat->Prop} {β ay:an} {C:ib} {δ:List Deferred} {s:CS} {nt b:Nat} {a:Act} {st:List aj} {call:eV}
theorem Fm {v:Option PV} {q q':TM->Prop} (hq:∀ t,q t->q' t):∀ {f:Nat} {t:TM} {n:Nat},TM.nc v f t n q->TM.nc v f t n q':=by
 intro f
 induction f generalizing q q' with
 | zero=>intro t n h; cases t<;>exact h.elim
 | succ f ih =>
  intro t n h
  cases t with
  | nil =>
   unfold TM.nc at h ⊢
   cases h0:Nat.beq n 0 with
   | true=>rw[h0] at h; exact hq _ h
   | false =>
    rw[h0] at h
    cases hn:Nat.beq (n % 2) 1 with
    | true=>rw[hn] at h; exact ih (fun t h=>hq _ h) h
    | false=>rw[hn] at h; exact ih (fun t h=>hq _ h) h
  | node u l r =>
   unfold TM.nc at h ⊢
   cases h0:Nat.beq n 0 with
   | true=>rw[h0] at h; exact hq _ h
   | false =>
    rw[h0] at h
    cases hn:Nat.beq (n % 2) 1 with
    | true=>rw[hn] at h; exact ih (fun t h=>hq _ h) h
    | false=>rw[hn] at h; exact ih (fun t h=>hq _ h) h
theorem eW {dst:Option Tmp} {x:PV} {k:CS->Bool} (h:iH nt s dst x k=true):(s.st nt b).put dst x (Kt nt b k):=by
 obtain⟨t,hh,n⟩:=s
 unfold iH at h
 unfold aD.put CS.st
 cases dst with
 | none=>exact⟨_,rfl,h⟩
 | some d =>
  replace h:(bif Nat.blt d nt then t.uX x 24 d fun t=>k ⟨t,hh,n⟩ else false)=true:=h
  replace h:=cj h
  refine fX h.1 (ZA ?_)
  refine Fm ?_ (TM.mM h.2)
  exact fun t h=>⟨⟨t,hh,n⟩,rfl,h⟩
theorem jk {ops:List Oper} {o:Oper} {run skip:CS->Bool} {run' skip':aD->Prop} (hr:run s=true->run' (s.st nt b)) (hs:skip s=true->skip' (s.st nt b)) (h:nU ops s o run skip=true):gB ops (s.st nt b) o run' skip':=by
 unfold nU at h
 unfold gB
 cases hg:o.guard with
 | none=>rw[hg] at h; exact hr h
 | some jw =>
  obtain⟨j,want⟩:=jw
  rw[hg] at h
  replace h:=ar h
  obtain⟨t,ht,h⟩:=h
  replace h:=ar h
  obtain⟨x,hx,h⟩:=h
  refine a_ ht (a_ (by rw[← TM.k_]; exact hx) ?_)
  split at h
  ·cases want with
   | true=>exact hr h
   | false=>exact hs h
  ·cases want with
   | true=>exact hs h
   | false=>exact hr h
  ·exact hs h
  ·cases h
theorem z6 (m:Md) (bl:aj):Ix m bl = { bl with m:=m }:=by cases bl; rfl
theorem tN {n l0:Nat} {ls us:List Nat} {h:BM} {q:BM->List Nat->Bool} {bl:aj} (hn:l0 < n) (yU:h.get l0=some bl) (az:bl.live=true) (hw:bl.m.yQ=false) {h':BM} {Fo:List Nat} (hq:q h' Fo=true)
  (xh:∀ l,l∈Fo↔l∈us\/(l∈ls/\∃ bl,h.get l=some bl/\bl.m = .w)) (vy:∀ l∈ls,l < n/\∃ bl,h.get l=some bl/\bl.live=true)
  (ig:∀ l,h'.get l=(h.get l).map fun bl=>bif bl.m.yQ && fk l ls then { bl with m:=.p } else bl) :
  ∃ h' Fo,q h' Fo=true/\(∀ l,l∈Fo↔l∈us\/(l∈l0::ls/\∃ bl,h.get l=some bl/\bl.m = .w))/\(∀ l∈l0::ls,l < n/\∃ bl,h.get l=some bl/\bl.live=true) /\
   ∀ l,h'.get l=(h.get l).map fun bl=>bif bl.m.yQ && fk l (l0::ls) then { bl with m:=.p } else bl:=by
 refine⟨h',Fo,hq,fun l=>?_,fun l hl=>?_,fun l=>?_⟩
 ·rw[xh]
  by_cases e:l=l0
  ·subst e
   have cN:¬ ∃ bl,h.get l=some bl/\bl.m = .w:=fun ⟨b2,h1,h2⟩=>by
    rw[yU] at h1; cases h1; rw[h2] at hw; cases hw
   exact⟨fun h=>h.imp id fun h=>absurd h.2 cN,fun h=>h.imp id fun h=>absurd h.2 cN⟩
  ·simp[e]
 ·rcases List.mem_cons.1 hl with rfl|hl
  ·exact⟨hn,bl,yU,az⟩
  ·exact vy l hl
 ·rw[ig]
  by_cases e:l=l0
  ·subst e
   rw[yU,Option.map_some,Option.map_some,hw]
   rfl
  ·have:fk l (l0::ls)=fk l ls:=by
    unfold fk
    rw[List.any_cons,show Nat.beq l l0=false from by rw[Bool.eq_false_iff]; exact fun h=>e (Nat.eq_of_beq_eq_true h),Bool.false_or]
   rw[this]
theorem sq {n:Nat}:∀ {ls:List Nat} {h:BM} {us:List Nat} {q:BM->List Nat->Bool},Iy n ls h us q=true ->
  ∃ h' Fo,q h' Fo=true/\(∀ l,l∈Fo↔l∈us\/(l∈ls/\∃ bl,h.get l=some bl/\bl.m = .w))/\(∀ l∈ls,l < n/\∃ bl,h.get l=some bl/\bl.live=true) /\
   ∀ l,h'.get l=(h.get l).map fun bl=>bif bl.m.yQ && fk l ls then { bl with m:=.p } else bl
 | [],h,us,q,hk=>⟨h,us,hk,fun l=>by simp,fun l hl=>absurd hl List.not_mem_nil,fun l=>by
  cases h.get l<;>simp[fk]⟩
 | l0::ls,h,us,q,hk=>by
  unfold Iy at hk
  replace hk:=cj hk
  obtain⟨hn,hk⟩:=hk
  have hn:l0 < n:=Nat.le_of_ble_eq_true hn
  replace hk:=ar hk
  obtain⟨bl,yU,hk⟩:=hk
  replace hk:=cj hk
  obtain⟨az,hk⟩:=hk
  cases hm:bl.m with
  | w =>
   rw[hm] at hk
   obtain⟨h1,hk,hg⟩:=BM.aT hk
   obtain⟨h',Fo,hq,xh,vy,ig⟩:=sq hk
   refine⟨h',Fo,hq,fun l=>?_,fun l hl=>?_,fun l=>?_⟩
   ·rw[xh,hg]
    by_cases e:l=l0
    ·subst e
     simp[yU,hm]
    ·rw[if_neg e]
     simp[e]
   ·rcases List.mem_cons.1 hl with rfl|hl
    ·exact⟨hn,bl,yU,az⟩
    ·obtain⟨h2,b2,h3,h4⟩:=vy l hl
     rw[hg] at h3
     by_cases e:l=l0
     ·subst e; exact⟨hn,bl,yU,az⟩
     ·rw[if_neg e] at h3
      exact⟨h2,b2,h3,h4⟩
   ·rw[ig,hg]
    by_cases e:l=l0
    ·subst e
     rw[if_pos rfl,yU,Option.map_some,Option.map_some,z6,hm]
     simp[Md.yQ,fk]
    ·rw[if_neg e]
     have:fk l (l0::ls)=fk l ls:=by
      unfold fk
      rw[List.any_cons,show Nat.beq l l0=false from by rw[Bool.eq_false_iff]; exact fun h=>e (Nat.eq_of_beq_eq_true h),Bool.false_or]
     rw[this]
  | p =>
   rw[hm] at hk
   obtain⟨h',Fo,hq,xh,vy,ig⟩:=sq hk
   exact tN hn yU az (by rw[hm]; rfl) hq xh vy ig
  | r =>
   rw[hm] at hk
   obtain⟨h',Fo,hq,xh,vy,ig⟩:=sq hk
   exact tN hn yU az (by rw[hm]; rfl) hq xh vy ig
theorem vO {n:Nat}:∀ {us:List Nat} {h:BM} {q:BM->Bool},xI n us h q=true->∃ h',q h'=true/\(∀ l∈us,l < n/\∃ bl,h.get l=some bl)/\∀ l,h'.get l=(h.get l).map fun bl=>{ bl with m:=fm (fk l us) bl.m }
 | [],h,q,hk=>⟨h,hk,fun l hl=>absurd hl List.not_mem_nil,fun l=>by
  cases h.get l with
  | none=>rfl
  | some bl=>cases hm:bl.m<;>simp[fk,fm,hm.symm]⟩
 | l0::us,h,q,hk=>by
  unfold xI at hk
  replace hk:=cj hk
  obtain⟨hn,hk⟩:=hk
  replace hk:=ar hk
  obtain⟨bl,yU,hk⟩:=hk
  split at hk
  ·rename_i hm
   obtain⟨h1,hk,hg⟩:=BM.aT hk
   obtain⟨h',hq,xh,ig⟩:=vO hk
   refine⟨h',hq,fun l hl=>?_,fun l=>?_⟩
   ·rcases List.mem_cons.1 hl with rfl|hl
    ·exact⟨Nat.le_of_ble_eq_true hn,bl,yU⟩
    ·obtain⟨h2,b2,h3⟩:=xh l hl
     rw[hg] at h3
     by_cases e:l=l0
     ·subst e; exact⟨h2,bl,yU⟩
     ·rw[if_neg e] at h3
      exact⟨h2,b2,h3⟩
   ·rw[ig,hg]
    by_cases e:l=l0
    ·subst e
     rw[if_pos rfl,yU,Option.map_some,Option.map_some,z6,hm]
     have:fk l (l::us)=true:=by unfold fk; rw[List.any_cons,show Nat.beq l l=true from Nat.beq_refl l,Bool.true_or]
     rw[this]
     cases fk l us<;>rfl
    ·rw[if_neg e]
     have:fk l (l0::us)=fk l us:=by
      unfold fk
      rw[List.any_cons,show Nat.beq l l0=false from by rw[Bool.eq_false_iff]; exact fun h=>e (Nat.eq_of_beq_eq_true h),Bool.false_or]
     rw[this]
  ·cases hk
theorem z7 {n:Nat} {h:BM}:∀ {ls:List Nat},Ds n h ls=true->YA (eD h n) ls=true
 | [],_=>rfl
 | l::ls,hk=>by
  unfold Ds at hk
  replace hk:=cj hk
  obtain⟨hn,hk⟩:=hk
  have hn:l < n:=Nat.le_of_ble_eq_true hn
  replace hk:=ar hk
  obtain⟨bl,yU,hk⟩:=hk
  replace hk:=cj hk
  unfold YA
  rw[List.all_cons,dC,if_pos hn,yU]
  show (bl.live && YA (eD h n) ls)=true
  rw[hk.1,z7 hk.2]
  rfl
theorem bF.imp {S:aD} {q q':PV->aD->Prop} (hq:∀ v s,q v s->q' v s) {v:Value} (h:bF (C.G δ) S I β w a q v w'):bF (C.G δ) S I β w a q' v w':=by
 obtain⟨x,s',I',ay,h1,h2⟩:=h
 exact⟨x,s',I',ay,hq _ _ h1,h2⟩
theorem fO.imp {S:aD} {o:Oper} {q q':PV->aD->Prop} (hq:∀ v s,q v s->q' v s) (h:fO (C.G δ) S o q):fO (C.G δ) S o q':=by
 unfold fO at h ⊢
 exact fun I β a w hR=>Ev.ke (fun _ _ h=>bF.imp hq h) (h I β a w hR)
theorem B9:∀ {st:List aj} {q:List aj->Prop},q st->G' st q
 | [],_,h=>h
 | ⟨k,ty,n,m,live,cs⟩::st,q,h=>by
  unfold G'
  cases m<;>exact B9 (st:=st) h
theorem z8 {h:BM} {n:Nat} {ls:List Nat} (vy:∀ l∈ls,l < n/\∃ bl,h.get l=some bl/\bl.live=true) (l:Nat):l∈fJ (eD h n) ls↔l∈ls/\∃ bl,h.get l=some bl/\bl.m = .w:=by
 unfold fJ
 rw[List.mem_filter]
 refine⟨fun ⟨h1,h2⟩=>?_,fun ⟨h1,bl,h2,h3⟩=>?_⟩
 ·obtain⟨hn,bl,hb,hl⟩:=vy l h1
  rw[dC,if_pos hn,hb] at h2
  refine⟨h1,bl,hb,?_⟩
  replace h2:(bl.live && bl.m.yQ)=true:=h2
  rw[hl,Bool.true_and] at h2
  cases hm:bl.m<;>rw[hm] at h2<;>first|rfl|cases h2
 ·obtain⟨hn,b2,hb,hl⟩:=vy l h1
  rw[hb] at h2
  cases h2
  refine⟨h1,?_⟩
  rw[dC,if_pos hn,hb]
  show (bl.live && bl.m.yQ)=true
  rw[hl,h3]
  rfl
theorem Fp {l:Nat} {A B:List Nat} (h:l∈A↔l∈B):fk l A=fk l B:=by
 rw[Bool.eq_iff_iff,cR,cR,h]
theorem SH {h h':BM} {n:Nat} {ls:List Nat} (vy:∀ l∈ls,l < n/\∃ bl,h.get l=some bl/\bl.live=true) (hg:∀ l,h'.get l=(h.get l).map fun bl=>bif bl.m.yQ && fk l ls then { bl with m:=.p } else bl) :
  mapM qm (fJ (eD h n) ls) 0 (eD h n)=eD h' n:=by
 refine List.ext_getElem? fun l=>?_
 rw[eN,dC,dC]
 by_cases hl:l < n
 ·rw[if_pos hl,if_pos hl,Option.map_some,hg,Nat.zero_add]
  cases hb:h.get l with
  | none=>cases fk l (fJ (eD h n) ls)<;>rfl
  | some bl =>
   have e:fk l (fJ (eD h n) ls)=(bl.m.yQ && fk l ls):=by
    rw[Bool.eq_iff_iff,cR,z8 vy,Bool.and_eq_true,cR]
    refine⟨fun ⟨h1,b2,h2,h3⟩=>?_,fun ⟨h1,h2⟩=>⟨h2,bl,hb,?_⟩⟩
    ·rw[hb] at h2; cases h2; rw[h3]; exact⟨rfl,h1⟩
    ·cases hm:bl.m<;>rw[hm] at h1<;>first|rfl|cases h1
   rw[e]
   obtain⟨k,ty,sz,m,live,cs⟩:=bl
   cases m<;>cases fk l ls<;>rfl
 ·rw[if_neg hl,if_neg hl]; rfl
theorem Jx {h h1 h':BM} {n n1:Nat} {ls us:List Nat} (vy:∀ l∈ls,l < n/\∃ bl,h.get l=some bl/\bl.live=true) (xh:∀ l,l∈us↔l∈ls/\∃ bl,h.get l=some bl/\bl.m = .w) (hu1:∀ l∈us,∃ bl,h1.get l=some bl)
  (hg:∀ l,h'.get l=(h1.get l).map fun bl=>{ bl with m:=fm (fk l us) bl.m }):mapM fm (fJ (eD h n) ls) 0 (eD h1 n1)=eD h' n1:=by
 refine List.ext_getElem? fun l=>?_
 rw[eN,dC,dC]
 by_cases hl:l < n1
 ·rw[if_pos hl,if_pos hl,Option.map_some,hg,Nat.zero_add,Fp (A:=fJ (eD h n) ls) (B:=us) (by rw[z8 vy,xh])]
  cases hb:h1.get l with
  | none =>
   have:fk l us=false:=by
    rw[Bool.eq_false_iff]
    intro e
    obtain⟨bl,h2⟩:=hu1 l (cR.1 e)
    rw[hb] at h2; cases h2
   rw[this]
   rfl
  | some bl=>rfl
 ·rw[if_neg hl,if_neg hl]; rfl
theorem Jy (hG:fD (C.G δ)) (hC:cY C δ call) {ops:List Oper} {i:Nat} {o:Oper} {pins:List mJ} {K:CS->Bool} (h:Dt C call nt ops s i o pins K=true) :
  Dj ops (fun S q=>fO (C.G δ) S o q) (s.st nt b) i o pins (Kt nt b K):=by
 unfold Dt at h
 unfold Dj
 refine jk (fun h=>?_) (fun h=>eW h) h
 cases hp:pinned i pins with
 | nil =>
  rw[hp] at h
  exact fO.imp (fun v s2 ⟨s1,hs,hq⟩=>by subst hs; exact eW hq) (x5 (nt:=nt) (b:=b) hG hC h)
 | cons l0 ls =>
  rw[hp] at h
  obtain⟨h',us,hk,xh,vy,ig⟩:=sq h
  refine B9 ?_
  rw[show (s.st nt b).st=eD s.h s.n from rfl,SH vy ig]
  refine fO.imp (fun v s2 ⟨s1,hs,hq⟩=>?_) (x5 (s:=⟨s.t,h',s.n⟩) (nt:=nt) (b:=b) hG hC hk)
  subst hs
  replace hq:=cj hq
  obtain⟨xj,hq⟩:=hq
  obtain⟨h2,hq,hu1,jq⟩:=vO hq
  refine fX (z7 xj) (B9 ?_)
  rw[show (s1.st nt b).st=eD s1.h s1.n from rfl,Jx vy (fun l=>by rw[xh]; simp) (fun l hl=>(hu1 l hl).2) jq]
  exact eW (s:=⟨s1.t,h2,s1.n⟩) hq
end
theorem DQ:∀ {l m:List UInt8},E2 l m=true->l=m
 | [],[],_=>rfl
 | a::l,b::m,h=>by
  unfold E2 at h
  replace h:=cj h
  rw[DQ h.2,UInt8.toNat_inj.1 (Nat.eq_of_beq_eq_true h.1)]
 | [],_::_,h=>by cases h
 | _::_,[],h=>by cases h
theorem DS {a b:ByteArray} (h:E2 a.data.toList b.data.toList=true):a=b:=by
 obtain⟨⟨a⟩⟩:=a
 obtain⟨⟨b⟩⟩:=b
 rw[show a=b from DQ h]
theorem NK {x:Value} {d:PV} (h:BS (.val x) d=true):PV.val x=d:=by
 cases x with
 | string s =>
  cases d<;>first|(cases h; done)|skip
  rename_i y
  cases y<;>first|(cases h; done)|skip
  rw[DS h]
 | pointer p =>
  cases p with
  | some p=>cases d<;>first|(cases h; done)|(rename_i y; cases y<;>cases h)
  | none =>
   cases d<;>first|(cases h; done)|skip
   rename_i y
   cases y<;>first|(cases h; done)|skip
   rename_i q
   cases q<;>first|rfl|cases h
 | _=>cases d<;>first|(cases h; done)|(rename_i y; cases y<;>cases h)
theorem NL {ρ:Nat->Nat} {x:Value} {d:PV} (h:Bf ρ (.val x) d=true):PV.val x=d:=by
 cases x with
 | string s =>
  cases d<;>first|(cases h; done)|skip
  rename_i y
  cases y<;>first|(cases h; done)|skip
  rw[DS h]
 | pointer p =>
  cases p with
  | some p=>cases d<;>first|(cases h; done)|(rename_i y; cases y<;>cases h)
  | none =>
   cases d<;>first|(cases h; done)|skip
   rename_i y
   cases y<;>first|(cases h; done)|skip
   rename_i q
   cases q<;>first|rfl|cases h
 | _=>cases d<;>first|(cases h; done)|(rename_i y; cases y<;>cases h)
mutual
theorem Jz:∀ {c d:PV},BS c d=true->c=d:=fun {c d} h=>by
 cases c with
 | lit j a =>
  cases d<;>first|(cases h; done)|skip
  simp only[BS,Bool.and_eq_true] at h
  rw[kp h.1,(xM _ _).1 h.2]
 | tt=>cases d<;>first|rfl|cases h
 | ff=>cases d<;>first|rfl|cases h
 | nil=>cases d<;>first|rfl|cases h
 | val x=>exact NK h
 | clo f cs =>
  cases d<;>first|(cases h; done)|skip
  simp only[BS,Bool.and_eq_true] at h
  rw[Nat.eq_of_beq_eq_true h.1,gO h.2]
 | mth f cs =>
  cases d<;>first|(cases h; done)|skip
  simp only[BS,Bool.and_eq_true] at h
  rw[Nat.eq_of_beq_eq_true h.1,gO h.2]
 | sl n es =>
  cases d<;>first|(cases h; done)|skip
  simp only[BS,Bool.and_eq_true] at h
  rw[Nat.eq_of_beq_eq_true h.1,gO h.2]
 | wref a =>
  cases d<;>first|(cases h; done)|skip
  rw[Nat.eq_of_beq_eq_true h]
 | ref a o n =>
  cases d<;>first|(cases h; done)|skip
  simp only[BS,Bool.and_eq_true] at h
  rw[Nat.eq_of_beq_eq_true h.1.1,Nat.eq_of_beq_eq_true h.1.2,Nat.eq_of_beq_eq_true h.2]
 | mref a =>
  cases d<;>first|(cases h; done)|skip
  rw[Nat.eq_of_beq_eq_true h]
 | ptr a o =>
  cases d<;>first|(cases h; done)|skip
  simp only[BS,Bool.and_eq_true] at h
  rw[Nat.eq_of_beq_eq_true h.1,Nat.eq_of_beq_eq_true h.2]
 | ep cs o =>
  cases d<;>first|(cases h; done)|skip
  simp only[BS,Bool.and_eq_true] at h
  rw[Nat.eq_of_beq_eq_true h.1,gO h.2]
 | gp a o =>
  cases d<;>first|(cases h; done)|skip
  simp only[BS,Bool.and_eq_true] at h
  rw[Nat.eq_of_beq_eq_true h.1,Nat.eq_of_beq_eq_true h.2]
 | agg cs =>
  cases d<;>first|(cases h; done)|skip
  rw[gO h]
 | tup cs =>
  cases d<;>first|(cases h; done)|skip
  rw[gO h]
 | _=>cases h
theorem gO:∀ {cs ds:List PV},o_ cs ds=true->cs=ds:=fun {cs ds} h=>by
 cases cs with
 | nil=>cases ds<;>first|rfl|cases h
 | cons c cs =>
  cases ds with
  | nil=>cases h
  | cons d ds =>
   simp only[o_,Bool.and_eq_true] at h
   rw[Jz h.1,gO h.2]
end
section
variable {w:World} {I:Nat->Prop} {ρ:Nat->Nat}
mutual
theorem B' {β:an}:∀ {c d:PV} {v:Value},Bf ρ c d=true->d.Is w I β v->c.Is w I (fun l=>β (ρ l)) v:=fun {c d v} h hd=>by
 cases c with
 | lit j a =>
  cases d<;>first|(cases h; done)|skip
  simp only[Bf,Bool.and_eq_true] at h
  rw[kp h.1,(xM _ _).1 h.2]
  simpa only [PV.Is] using hd
 | tt=>cases d<;>first|(cases h; done)|simpa only [PV.Is] using hd
 | ff=>cases d<;>first|(cases h; done)|simpa only [PV.Is] using hd
 | nil=>cases d<;>first|(cases h; done)|simpa only [PV.Is] using hd
 | val x =>
  rw[← NL h] at hd
  simpa only [PV.Is] using hd
 | clo f cs =>
  cases d<;>first|(cases h; done)|skip
  simp only[Bf,Bool.and_eq_true] at h
  simp only[PV.Is] at hd ⊢
  obtain⟨eB,h1,h2⟩:=hd
  exact⟨eB,by rw[h1,Nat.eq_of_beq_eq_true h.1],pt h.2 h2⟩
 | mth f cs =>
  cases d<;>first|(cases h; done)|skip
  simp only[Bf,Bool.and_eq_true] at h
  simp only[PV.Is] at hd ⊢
  obtain⟨eB,h1,h2⟩:=hd
  exact⟨eB,by rw[h1,Nat.eq_of_beq_eq_true h.1],pt h.2 h2⟩
 | sl n es =>
  cases d<;>first|(cases h; done)|skip
  simp only[Bf,Bool.and_eq_true] at h
  rw[Nat.eq_of_beq_eq_true h.1,gO h.2]
  simpa only [PV.Is] using hd
 | wref a =>
  cases d<;>first|(cases h; done)|skip
  have e:=Nat.eq_of_beq_eq_true (show Nat.beq (ρ a) _=true from h)
  simp only[PV.Is] at hd ⊢
  rw[e]; exact hd
 | ref a o n =>
  cases d<;>first|(cases h; done)|skip
  simp only[Bf,Bool.and_eq_true] at h
  simp only[PV.Is] at hd ⊢
  rw[Nat.eq_of_beq_eq_true h.1.1,Nat.eq_of_beq_eq_true h.1.2,Nat.eq_of_beq_eq_true h.2]
  exact hd
 | mref a =>
  cases d<;>first|(cases h; done)|skip
  have e:=Nat.eq_of_beq_eq_true (show Nat.beq (ρ a) _=true from h)
  simp only[PV.Is] at hd ⊢
  rw[e]; exact hd
 | ptr a o =>
  cases d<;>first|(cases h; done)|skip
  simp only[Bf,Bool.and_eq_true] at h
  simp only[PV.Is] at hd ⊢
  rw[Nat.eq_of_beq_eq_true h.1,Nat.eq_of_beq_eq_true h.2]
  exact hd
 | ep cs o =>
  cases d<;>first|(cases h; done)|skip
  simp only[Bf,Bool.and_eq_true] at h
  rw[Nat.eq_of_beq_eq_true h.1,gO h.2]
  simpa only [PV.Is] using hd
 | gp a o =>
  cases d<;>first|(cases h; done)|skip
  simp only[Bf,Bool.and_eq_true] at h
  rw[Nat.eq_of_beq_eq_true h.1,Nat.eq_of_beq_eq_true h.2]
  simpa only [PV.Is] using hd
 | agg cs =>
  cases d<;>first|(cases h; done)|skip
  simp only[Bf] at h
  simp only[PV.Is] at hd ⊢
  obtain⟨vs,h1,h2⟩:=hd
  exact⟨vs,h1,pt h h2⟩
 | tup cs =>
  cases d<;>first|(cases h; done)|skip
  simp only[Bf] at h
  simp only[PV.Is] at hd ⊢
  obtain⟨vs,h1,h2⟩:=hd
  exact⟨vs,h1,pt h h2⟩
 | _=>cases h
theorem pt {β:an}:∀ {cs ds:List PV} {vs:List Value},rN ρ cs ds=true->bg w I ds β vs->bg w I cs (fun l=>β (ρ l)) vs:=fun {cs ds vs} h hd=>by
 cases cs with
 | nil=>cases ds with
  | nil=>cases vs<;>simp only [bg] at hd ⊢
  | cons d ds=>cases h
 | cons c cs =>
  cases ds with
  | nil=>cases h
  | cons d ds =>
   simp only[rN,Bool.and_eq_true] at h
   cases vs with
   | nil=>simp only[bg] at hd
   | cons v vs =>
    simp only[bg] at hd ⊢
    exact⟨B' h.1 hd.1,pt h.2 hd.2⟩
end
end
section
variable {w:World} {I:Nat->Prop} {β:an} {C:ib} {δ:List Deferred} {nt b:Nat} {a:Act}
theorem tO {ρ:Nat->Nat}:∀ {t t':TM},QH ρ t t'=true->∀ n x,t.get n=some x->∃ x',t'.get n=some x'/\Bf ρ x x'=true
 | .nil,.nil,_,n,x,h=>by cases h
 | .nil,.node _ _ _,h,_,_,_=>by cases h
 | .node none l r,.nil,h,_,_,_=>by cases h
 | .node (some _) l r,.nil,h,_,_,_=>by cases h
 | .node none l r,.node (some _) l' r',h,_,_,_=>by cases h
 | .node (some _) l r,.node none l' r',h,_,_,_=>by cases h
 | .node none l r,.node none l' r',h,n,x,hx=>by
  simp only[QH,Bool.and_eq_true] at h
  unfold TM.get at hx ⊢
  cases h0:Nat.beq n 0 with
  | true=>rw[h0] at hx; cases hx
  | false =>
   rw[h0] at hx
   cases h1:Nat.beq (n % 2) 1 with
   | true=>rw[h1] at hx; exact tO h.1 _ _ hx
   | false=>rw[h1] at hx; exact tO h.2 _ _ hx
 | .node (some y) l r,.node (some y') l' r',h,n,x,hx=>by
  simp only[QH,Bool.and_eq_true] at h
  unfold TM.get at hx ⊢
  cases h0:Nat.beq n 0 with
  | true=>rw[h0] at hx; cases hx; exact⟨y',rfl,h.1.1⟩
  | false =>
   rw[h0] at hx
   cases h1:Nat.beq (n % 2) 1 with
   | true=>rw[h1] at hx; exact tO h.1.2 _ _ hx
   | false=>rw[h1] at hx; exact tO h.2 _ _ hx
theorem JA {ρ Zy:Nat->Nat} {n0 n:Nat} {h h':BM}:∀ {k:Nat},bmR ρ Zy n0 n h h' k=true->∀ l,l < k->Zy (ρ l)=l/\ρ l < n/\(l < n0->ρ l=l)/\((∃ bl qA,h.get l=some bl/\h'.get (ρ l)=some qA/\Iz ρ bl qA=true)\/(h.get l=none/\h'.get (ρ l)=none))
 | 0,_,l,hl=>absurd hl (Nat.not_lt_zero l)
 | k+1,hk,l,hl=>by
  unfold bmR at hk
  rw[Bool.and_eq_true,eO] at hk
  rcases Nat.lt_succ_iff_lt_or_eq.1 hl with hl|rfl
  ·exact JA hk.2 l hl
  ·have h1:=hk.1
   simp only[Bool.and_eq_true] at h1
   obtain⟨⟨⟨h1,h2⟩,h3⟩,h4⟩:=h1
   refine⟨Nat.eq_of_beq_eq_true h1,Nat.le_of_ble_eq_true h2,fun hn=>?_,?_⟩
   ·rw[show Nat.blt l n0=true from Nat.ble_eq_true_of_le hn] at h3
    exact Nat.eq_of_beq_eq_true h3
   ·split at h4
    ·rename_i bl qA e1 e2
     exact .inl ⟨bl,qA,e1,e2,h4⟩
    ·rename_i e1 e2
     exact .inr ⟨e1,e2⟩
    ·cases h4
theorem pv {ρ:Nat->Nat}:∀ {cs ds:List PV},rN ρ cs ds=true->cs.length=ds.length/\∀ (i:Nat) (c:PV),cs[i]?=some c->∃ d,ds[i]?=some d/\Bf ρ c d=true
 | [],[],_=>⟨rfl,fun i c h=>by simp at h⟩
 | [],_::_,h=>by cases h
 | _::_,[],h=>by cases h
 | c::cs,d::ds,h=>by
  simp only[rN,Bool.and_eq_true] at h
  obtain⟨h1,h2⟩:=pv h.2
  refine⟨by simp[h1],fun i x hx=>?_⟩
  cases i with
  | zero=>cases hx; exact⟨d,rfl,h.1⟩
  | succ i=>exact h2 i x (by simpa using hx)
theorem B_ {ρ:Nat->Nat} {cs ds:List PV} {arr:Array Value} {o:Nat} (h:rN ρ cs ds=true) (hd:bj w I β ds arr o):bj w I (fun l=>β (ρ l)) cs arr o:=fun i c hc=>by
 obtain⟨d,h1,h2⟩:=(pv h).2 i c hc
 obtain⟨v,h3,h4,h5⟩:=hd i d h1
 exact⟨v,h3,B' h2 h4,h5⟩
theorem NM {a b:Bool} (h:E3 a b=true):a=b:=by cases a<;>cases b<;>first|rfl|cases h
theorem NN {a b:Md} (h:Sb a b=true):a=b:=by cases a<;>cases b<;>first|rfl|cases h
theorem NO {n0:Nat} {s s':CS} {t t':List yS} (h:csR n0 s s' t t'=true) (hb:b<=n0):Sub (C.G δ) (s'.st nt b) (s.st nt b):=by
 intro I β a w hR
 unfold csR at h
 simp only[Bool.and_eq_true] at h
 obtain⟨⟨hn,ht⟩,hm⟩:=h
 have hn:s.n=s'.n:=Nat.eq_of_beq_eq_true hn
 obtain⟨ρ,hρ⟩:∃ ρ:Nat->Nat,ρ=fun l=>bif Nat.blt l s.n then Zx t' t l else l:=⟨_,rfl⟩
 rw[← hρ] at ht hm
 have oI:∀ l,¬ l < s.n->ρ l=l:=fun l hl=>by
  rw[hρ]
  show (bif Nat.blt l s.n then _ else l)=l
  rw[show Nat.blt l s.n=false from by rw[Bool.eq_false_iff]; exact fun e=>hl (Nat.le_of_ble_eq_true e)]
  rfl
 have iE:=JA hm
 have qj:(s.st nt b).st.length=s.n:=cV ..
 have QW:(s'.st nt b).st.length=s.n:=by rw[hn]; exact cV ..
 
 have ig:∀ l bl,(s.st nt b).st[l]?=some bl->bl.live=true->l < s.n/\∃ qA,(s'.st nt b).st[ρ l]?=some qA/\Iz ρ bl qA=true:=fun l bl hl az=>by
  replace hl:(eD s.h s.n)[l]?=some bl:=hl
  rw[dC] at hl
  split at hl
  ·rename_i bZ
   obtain⟨_,h2,_,h4⟩:=iE l bZ
   refine⟨bZ,?_⟩
   show ∃ qA,(eD s'.h s'.n)[ρ l]?=some qA/\_
   rw[dC,if_pos (by omega)]
   rcases h4 with ⟨b1,b2,e1,e2,e3⟩|⟨e1,_⟩
   ·rw[e1] at hl
    cases hl
    exact⟨b2,by rw[e2]; rfl,e3⟩
   ·rw[e1] at hl
    cases hl
    cases az
  ·cases hl
 have Ca:∀ {bl qA:aj},Iz ρ bl qA=true->bkB bl.k qA.k=true/\bl.ty=qA.ty/\bl.size=qA.size/\bl.m=qA.m/\bl.live=qA.live/\rN ρ bl.cs qA.cs=true:=fun {bl qA} h=>by
  unfold Iz at h
  simp only[Bool.and_eq_true] at h
  obtain⟨⟨⟨⟨⟨h1,h2⟩,h3⟩,h4⟩,h5⟩,h6⟩:=h
  exact⟨h1,Nat.eq_of_beq_eq_true h2,Nat.eq_of_beq_eq_true h3,NN h4,NM h5,h6⟩
 have dh:∀ {l g:Nat} {fr:Nat × Nat} {bl qA:aj},l < s.n->bl.m=qA.m->Own I β (s'.st nt b).st (ρ l) g fr qA->Own I (fun l=>β (ρ l)) (s.st nt b).st l g fr bl:=fun {l g fr bl qA} hl hm ho=>by
  refine⟨fun hr=>?_,fun hr=>ho.2 (by rw[← hm]; exact hr)⟩
  obtain⟨h1,h2,h3⟩:=ho.1 (by rw[← hm]; exact hr)
  refine⟨h1,h2,fun l2 b2 cN eR bC p g' o' hp ha=>?_⟩
  obtain⟨xq,b2',Sr,eM⟩:=ig l2 b2 eR bC
  refine h3 (ρ l2) b2' (fun e=>cN ?_) Sr (by rw[← (Ca eM).2.2.2.2.1]; exact bC) p g' o' hp ha
  rw[← (iE l2 xq).1,e,(iE l hl).1]
 have hheap:aC I (fun l=>β (ρ l)) (s.st nt b).st w:=by
  refine⟨fun l hl=>?_,fun l bl hl az=>?_⟩
  ·show β (ρ l)=none
   rw[qj] at hl
   rw[oI l (by omega)]
   exact hR.heap.p8 l (by rw[QW]; exact hl)
  ·obtain⟨bZ,qA,iu,hRb⟩:=ig l bl hl az
   obtain⟨k1,k2,k3,k4,k5,k6⟩:=Ca hRb
   obtain⟨p,hp,hk⟩:=hR.heap.dX (ρ l) qA iu (by rw[← k5]; exact az)
   refine⟨p,hp,?_⟩
   obtain⟨k,ty,sz,m,live,cs⟩:=bl
   obtain⟨k',YE,sz',m',DK,zI⟩:=qA
   simp only at k1 k2 k3 k4 k5 k6 hk ⊢
   subst k2
   subst k3
   cases k<;>cases k'<;>first|(cases k1; done)|skip
   ·obtain⟨g,o,arr,ty,fr,h1,h2,h3,h4⟩:=hk
    exact⟨g,o,arr,ty,fr,h1,h2,B_ k6 h3,dh bZ k4 h4⟩
   ·obtain⟨g,arr,fr,h1,h2,h3,h4,h5,h6⟩:=hk
    exact⟨g,arr,fr,h1,h2,B_ k6 h3,dh bZ k4 h4,by rw[(pv k6).1]; exact h5,h6⟩
   ·obtain⟨g,es,ck,h1,h2,h3,h4,h5⟩:=hk
    exact⟨g,es,ck,h1,h2,B_ k6 h3,dh bZ k4 h4,by rw[(pv k6).1]; exact h5⟩
 have Ny:∀ g,Wr (fun l=>β (ρ l)) (s.st nt b).st g->Wr β (s'.st nt b).st g:=fun g ⟨l,bl,p,o,h1,h2,h3,h4,h5⟩=>by
  obtain⟨bZ,qA,iu,hRb⟩:=ig l bl h1 h2
  obtain⟨k1,k2,k3,k4,k5,k6⟩:=Ca hRb
  exact⟨ρ l,qA,p,o,iu,by rw[← k5]; exact h2,by rw[← k4]; exact h3,h4,h5⟩
 refine⟨I,fun l=>β (ρ l),⟨hR.small,hR.defers,hR.size,?_,fun tt x hx=>?_,hheap,hR.au⟩,⟨⟨rfl,rfl,rfl,Nat.le_refl _,fun _ _ _=>rfl,fun g _ hw=>Ny g hw,fun _ h=>h,fun _ _ h=>.inl h⟩,rfl,rfl,rfl,fun l hl _=>?_⟩⟩
 ·have:=hR.base
  rw[QW] at this
  rw[qj]
  exact this
 ·obtain⟨x',xl,hr⟩:=tO ht tt x hx
  obtain⟨v,hv,hi⟩:=hR.get tt x' xl
  exact⟨v,hv,B' hr hi⟩
 ·show β (ρ l)=β l
  have hl:l < b:=hl
  by_cases bZ:l < s.n
  ·rw[(iE l bZ).2.2.1 (by omega)]
  ·rw[oI l bZ]
end
def Cb (ops:Array Oper) (i:Nat):Bool:=match ops[i]? with
 | some o=>!(Ev.g_ o.op)
 | none=>false
def DT (T:List qp) (i:Nat):Bool:=match T[i]? with
 | some x=>Nat.blt 0 x.k
 | none=>false
def x6 (chk:Nat->af->Bool):List Nat->gY->Bool
 | [],.nil=>true
 | j::l,.cons k r ms=>Nat.beq j k && chk j r && x6 chk l ms
 | _,_=>false
def px (T:List qp):Nat->Nat->af->Bool
 | _,m,.done=>(js T 0 m).isEmpty
 | 0,_,_=>false
 | fuel+1,m,.pure i r=>vA T 0 i m && l8 (Nat.lor m (lI i)) fun m=>px T fuel m r
 | fuel+1,m,.load i D r=>vA T 1 i m && okM T m i D && l8 (Nat.lor m (lI i)) fun m=>px T fuel m r
 | fuel+1,m,.ai i r ms=>(match js T 0 m with
  | i0::more=>Nat.beq i0 i && DT T i && more.all (DT T) && (l8 (Nat.lor m (lI i)) fun m=>px T fuel m r) && x6 (fun j r=>l8 (Nat.lor m (lI j)) fun m=>px T fuel m r) more ms
  | []=>false)
def py (chk:Nat->af->Prop):List Nat->gY->Prop
 | [],.nil=>True
 | j::l,.cons k r ms=>j=k/\chk j r/\py chk l ms
 | _,_=>False
def gP (ops:Array Oper):Nat->Array Bool->af->Prop
 | _,listed,.done=>Region.ready .any ops listed = []
 | 0,_,_=>False
 | fuel+1,listed,.pure i r=>i∈Region.ready .any ops listed/\gG ops listed i=true/\gP ops fuel (listed.setIfInBounds i true) r
 | fuel+1,listed,.load i D r=>i∈Region.ready .any ops listed/\gH ops listed i=true/\QC ops.toList listed i D=true/\gP ops fuel (listed.setIfInBounds i true) r
 | fuel+1,listed,.ai i r ms=>(match Region.ready .any ops listed with
  | i0::more=>i0=i/\Cb ops i=true/\(∀ j∈more,Cb ops j=true)/\gP ops fuel (listed.setIfInBounds i true) r/\py (fun j r=>gP ops fuel (listed.setIfInBounds j true) r) more ms
  | []=>False)
section
variable {ops:Array Oper} {l:Array Bool} {m:Nat}
theorem DU {i:Nat} (h:DT (ops.toList.map (rowOf ops)) i=true):Cb ops i=true:=by
 unfold DT at h
 unfold Cb
 rw[xz] at h
 cases ho:ops[i]? with
 | none=>rw[ho] at h; cases h
 | some o =>
  rw[ho] at h
  replace h:Nat.blt 0 (l9 o)=true:=h
  show (!Ev.g_ o.op)=true
  unfold l9 at h
  cases hp:Ev.g_ o.op with
  | false=>rfl
  | true=>rw[hp] at h; cases h
theorem vP {f:Nat->af->Bool} {g:Nat->af->Prop}:∀ {L:List Nat} {ms:gY},(∀ j∈L,∀ r,f j r=true->g j r)->x6 f L ms=true->py g L ms
 | [],.nil,_,_=>trivial
 | j::L,.cons k r ms,h,hp=>by
  simp only[x6,Bool.and_eq_true,Nat.beq_eq] at hp
  exact⟨hp.1.1,h j (List.mem_cons_self ..) r hp.1.2,vP (fun j hj=>h j (List.mem_cons_of_mem _ hj)) hp.2⟩
 | _::_,.alt ..,_,hp=>by cases hp
 | _::_,.sub ..,_,hp=>by cases hp
 | [],.cons ..,_,hp=>by cases hp
 | [],.alt ..,_,hp=>by cases hp
 | [],.sub ..,_,hp=>by cases hp
 | _::_,.nil,_,hp=>by cases hp
theorem mr:∀ (fuel:Nat) (p:af) (l:Array Bool) (m:Nat),Mk ops l m->px (ops.toList.map (rowOf ops)) fuel m p=true->gP ops fuel l p
 | fuel,.done,l,m,h,hp=>by
  have e:js (ops.toList.map (rowOf ops)) 0 m = []:=by cases fuel<;>exact List.isEmpty_iff.1 hp
  cases fuel<;>exact (oT h).trans e
 | 0,.pure ..,_,_,_,hp=>by cases hp
 | 0,.load ..,_,_,_,hp=>by cases hp
 | 0,.ai ..,_,_,_,hp=>by cases hp
 | fuel+1,.pure i r,l,m,h,hp=>by
  simp only[px,iw,Bool.and_eq_true] at hp
  obtain⟨o,ho,hk,hr,hf⟩:=r_ h hp.1
  refine⟨hr,?_,mr fuel r _ _ (h.set (kn hr)) hp.2⟩
  unfold gG
  rw[ho]
  simp only[Bool.and_eq_true]
  exact⟨vB hk,hf⟩
 | fuel+1,.load i D r,l,m,h,hp=>by
  simp only[px,iw,Bool.and_eq_true] at hp
  obtain⟨o,ho,hk,hr,hf⟩:=r_ h hp.1.1
  refine⟨hr,?_,Ii h hp.1.2,mr fuel r _ _ (h.set (kn hr)) hp.2⟩
  unfold gH
  rw[ho]
  simp only[Bool.and_eq_true]
  exact⟨vC hk,hf⟩
 | fuel+1,.ai i r ms,l,m,h,hp=>by
  have he:=oT h
  simp only[px,iw] at hp
  unfold gP
  split at hp
  ·rename_i i0 more iR
   rw[he,iR]
   simp only[Bool.and_eq_true,Nat.beq_eq] at hp
   obtain⟨⟨⟨⟨rfl,h1⟩,h2⟩,h3⟩,h4⟩:=hp
   have bZ:∀ j∈i0::more,j < ops.size:=fun j hj=>kn (l:=l) (by rw[he,iR]; exact hj)
   refine⟨rfl,DU h1,fun j hj=>DU (List.all_eq_true.1 h2 j hj),mr fuel r _ _ (h.set (bZ _ (List.mem_cons_self ..))) h3,vP (fun j hj r hr=>mr fuel r _ _ (h.set (bZ j (List.mem_cons_of_mem _ hj))) hr) h4⟩
  ·cases hp
end
section
variable {w w':World} {I I':Nat->Prop} {β ay:an} {C:ib} {δ:List Deferred} {s:CS} {nt b:Nat} {a:Act} {call:eV} {ops:Array Oper}
theorem NP {o:Oper} (h1:ai o.op=false) (h2:Ev.g_ o.op=false):∃ t ad,o.op = .load t ad:=by
 unfold ai at h1
 rw[h2] at h1
 cases ho:o.op<;>rw[ho] at h1<;>first|exact⟨_,_,rfl⟩|cases h1
theorem Fq (hG:fD (C.G δ)) (hC:cY C δ call) {i:Nat} {o:Oper} {pins:List mJ} {ys:List jL} {K:CS->Bool} (he:ai o.op=true) (h:mc C call nt ops.toList s i o pins K=true) (hR:Rel (C.G δ) I β (s.st nt b) a w) (hp:iQ pins ys I β (s.st nt b).st w) :
  Ev.nK C.cx.P ops o a w fun v w'=>∃ (s':CS) (I':Nat->Prop) (ay:an),K s'=true/\Rel (C.G δ) I' ay (s'.st nt b) (a.put o.dst v) w'/\aG I β (s.st nt b) w I' ay (s'.st nt b) w'/\(∀ y∈cF i ys,y.Y w')/\iQ (ct i pins) (cF i ys) I' ay (s'.st nt b).st w':=by
 have h':Dt C call nt ops.toList s i o pins K=true:=by
  unfold mc at h
  split at h
  ·rename_i h_
   rw[h_] at he
   cases he
  ·exact h
 refine gl ?_ (zh (fun {S q I β a w} hR hq=>by unfold fO at hq; exact hq I β a w hR) (Jy (nt:=nt) (b:=b) hG hC h') hR hp)
 rintro v w' ⟨s2,I',ay,⟨s1,hs,hK⟩,h1,h2,h3,h4⟩
 subst hs
 exact⟨s1,I',ay,hK,h1,h2,h3,h4⟩
theorem Cc (hG:fD (C.G δ)) {i:Nat} {o:Oper} {pins:List mJ} {K:CS->Bool} (he:ai o.op=false) (hpu:Ev.g_ o.op=false) (h:mc C call nt ops.toList s i o pins K=true) (hR:Rel (C.G δ) I β (s.st nt b) a w) :
  ∃ (v:Value) (s':CS),Yields C.cx.P ops (fun w2=>w2=w) o v a/\K s'=true/\Rel (C.G δ) I β (s'.st nt b) (a.put o.dst v) w/\jb (s.st nt b) (s'.st nt b):=by
 obtain⟨t,ad,h_⟩:=NP he hpu
 unfold mc at h
 simp only[h_] at h
 have hg:=jk (nt:=nt) (b:=b) (run':=fun S=>∃ s1:CS,S=s1.st nt b/\(fe s1.t ad fun x=>rh C s1 t x fun v=>iH nt s1 o.dst v K)=true) (skip':=fun S=>∃ s1:CS,S=s1.st nt b/\iH nt s1 o.dst (.tup []) K=true) (fun h=>⟨s,rfl,h⟩) (fun h=>⟨s,rfl,h⟩) h
 rcases c9 hR hg with ⟨cP,S,⟨s1,hS,h1⟩,d_,cI⟩|⟨cP,S,⟨s1,hS,h1⟩,d_,cI⟩
 ·subst hS
  obtain⟨x,h1,hx⟩:=ft cI h1
  obtain⟨z,v,g,h1,hz,hg,bp⟩:=jm hG.ok cI.heap cI.au (po (q':=fun v=>iH nt s1 o.dst v K=true) (fun _ h=>h) h1) hx
  obtain⟨S3,⟨s3,u6,h3⟩,eA,gW⟩:=aD.aT (G:=(C.G δ)) (eW (nt:=nt) (b:=b) h1)
  subst u6
  have sX:(execOp a.eval o).run C.cx.P w = .ok (.value v) w:=by
   unfold execOp
   rw[h_]
   simp only[Sem.run_bind,bp w rfl,Result.andThen_ok,Sem.run_pure]
  exact⟨v,s3,.inl ⟨cP,fun w2 e=>by rw[e]; exact sX⟩,h3,gW _ _ _ _ _ cI hz,⟨eA.n.trans d_.n,eA.st.trans d_.st,eA.base.trans d_.base,eA.rl.trans d_.rl⟩⟩
 ·subst hS
  obtain⟨S3,⟨s3,u6,h3⟩,eA,gW⟩:=aD.aT (G:=(C.G δ)) (eW (nt:=nt) (b:=b) h1)
  subst u6
  exact⟨undef,s3,.inr ⟨cP,rfl⟩,h3,gW _ _ _ _ _ cI Is.undef,⟨eA.n.trans d_.n,eA.st.trans d_.st,eA.base.trans d_.base,eA.rl.trans d_.rl⟩⟩
end
section
variable {C:ib} {δ:List Deferred} {nt b n0:Nat} {call:eV} {ops:Array Oper}
theorem tP {chk:Nat->af->Prop}:∀ {l:List Nat} {ms:gY},py chk l ms->∀ {s:CS} {pins:List mJ} {tr:List yS} {sf:CS} {yT:List yS},zw C call nt n0 ops.toList ms s pins tr sf yT=true->∀ j∈l,∃ r o,chk j r/\ops[j]?=some o /\
  (mc C call nt ops.toList s j o pins fun s2=>jy C call nt n0 ops.toList r s2 (ct j pins) (⟨j,s.n,s2.n⟩::tr) fun uW Sc=>csR n0 sf uW yT Sc)=true
 | [],_,_,_,_,_,_,_,_,_,hj=>absurd hj List.not_mem_nil
 | i::l,.nil,h,_,_,_,_,_,_,_,_=>False.elim h
 | i::l,.alt k r ms,h,_,_,_,_,_,_,_,_=>False.elim h
 | i::l,.sub k r ms,h,_,_,_,_,_,_,_,_=>False.elim h
 | i::l,.cons k r ms,h,s,pins,tr,sf,yT,hr,j,hj=>by
  obtain⟨rfl,h2,h3⟩:=h
  unfold zw at hr
  rw[Bool.and_eq_true] at hr
  rcases List.mem_cons.1 hj with rfl|hj
  ·obtain⟨o,ho,h4⟩:=ar hr.1
   rw[Array.getElem?_toList] at ho
   exact⟨r,o,h2,ho,h4⟩
  ·exact tP h3 hr.2 j hj
set_option maxHeartbeats 1000000 in
theorem NQ (hG:fD (C.G δ)) (hC:cY C δ call) (kY:Region.noSelect ops=true) (hb:b<=n0):∀ (fuel:Nat) (p:af) (Q:Exit->Act->World->Prop) (l:Array Bool) (s:CS) (a:Act) (I:Nat->Prop) (β:an) (w:World) (pins:List mJ) (ys:List jL) (tr:List yS) (K:CS->List yS->Bool),
  gP ops fuel l p->jy C call nt n0 ops.toList p s pins tr K=true->Rel (C.G δ) I β (s.st nt b) a w->iQ pins ys I β (s.st nt b).st w ->
  (∀ s' vQ I' ay a' w',K s' vQ=true->Rel (C.G δ) I' ay (s'.st nt b) a' w'->aG I β (s.st nt b) w I' ay (s'.st nt b) w'->Q .normal a' w')->cB C.cx.P ops Q fuel l a (fun w2=>w2=w) ys:=by
 intro fuel
 have fin:∀ (fuel:Nat) (Q:Exit->Act->World->Prop) (l:Array Bool) (s:CS) (a:Act) (I:Nat->Prop) (β:an) (w:World) (ys:List jL) (tr:List yS) (K:CS->List yS->Bool),Region.ready .any ops l = []->K s tr=true->Rel (C.G δ) I β (s.st nt b) a w->(∀ s' vQ I' ay a' w',K s' vQ=true->Rel (C.G δ) I' ay (s'.st nt b) a' w'->aG I β (s.st nt b) w I' ay (s'.st nt b) w'->Q .normal a' w')->cB C.cx.P ops Q fuel l a (fun w2=>w2=w) ys:=by
  intro fuel Q l s a I β w ys tr K hr h hR hQ
  cases fuel with
  | zero=>exact⟨hr,fun w2 hw=>by subst hw; exact hQ s tr I β a w2 h hR (aG.same ⟨rfl,rfl,rfl,rfl⟩)⟩
  | succ fuel=>exact⟨fun _ w2 hw=>by subst hw; exact hQ s tr I β a w2 h hR (aG.same ⟨rfl,rfl,rfl,rfl⟩),fun i hi=>by rw[hr] at hi; cases hi⟩
 induction fuel with
 | zero =>
  intro p Q l s a I β w pins ys tr K hp h hR _ hQ
  cases p with
  | done=>exact fin 0 Q l s a I β w ys tr K (by simpa only [gP] using hp) (by simpa only [jy] using h) hR hQ
  | pure=>exact hp.elim
  | load=>exact hp.elim
  | ai=>exact hp.elim
 | succ fuel ih =>
  intro p Q l s a I β w pins ys tr K hp h hR rb hQ
  cases p with
  | done=>exact fin (fuel+1) Q l s a I β w ys tr K (by simpa only [gP] using hp) (by simpa only [jy] using h) hR hQ
  | pure i r =>
   simp only[gP] at hp
   obtain⟨cU,cz,hp⟩:=hp
   unfold jy at h
   replace h:=ar h
   obtain⟨o,ho,h⟩:=h
   rw[Array.getElem?_toList] at ho
   unfold gG at cz
   rw[ho] at cz
   simp only[Bool.and_eq_true] at cz
   have he:ai o.op=false:=by unfold ai; rw[cz.1]; rfl
   have hg:=jk (nt:=nt) (b:=b) (run':=fun S=>∃ s1:CS,S=s1.st nt b/\(o7 C s1 o.op fun v=>iH nt s1 o.dst v fun s=>jy C call nt n0 ops.toList r s pins tr K)=true) (skip':=fun S=>∃ s1:CS,S=s1.st nt b/\(iH nt s1 o.dst (.tup []) fun s=>jy C call nt n0 ops.toList r s pins tr K)=true) (fun h=>⟨s,rfl,h⟩) (fun h=>⟨s,rfl,h⟩) h
   rcases c9 hR hg with ⟨cP,S,⟨s1,hS,h1⟩,d_,cI⟩|⟨cP,S,⟨s1,hS,h1⟩,d_,cI⟩
   ·subst hS
    obtain⟨x,v,h1,hx,bp⟩:=zT hG.ok cI h1
    obtain⟨S3,⟨s3,u6,h3⟩,eA,gW⟩:=aD.aT (G:=(C.G δ)) (eW (nt:=nt) (b:=b) h1)
    subst u6
    refine cB.first (v:=v) (D:=[]) (Y:=fun _=>True) ho he kY fuel l a _ ys (Region.free_spec ho cz.2) (fun j hj=>by cases hj) (.inl ⟨cP,fun w2 _=>bp w2⟩) (fun _ _=>trivial) cU (cB.gK _ _ _ _ _ ?_)
    exact ih r Q _ s3 _ I β w pins ys tr K hp h3 (gW _ _ _ _ _ cI hx) (by rw[eA.st,d_.st]; exact rb) (fun s' vQ I' ay a' w' hk br hg=>hQ s' vQ I' ay a' w' hk br (((aG.same d_).trans (aG.same eA)).trans hg))
   ·subst hS
    obtain⟨S3,⟨s3,u6,h3⟩,eA,gW⟩:=aD.aT (G:=(C.G δ)) (eW (nt:=nt) (b:=b) h1)
    subst u6
    refine cB.first (v:=undef) (D:=[]) (Y:=fun _=>True) ho he kY fuel l a _ ys (Region.free_spec ho cz.2) (fun j hj=>by cases hj) (.inr ⟨cP,rfl⟩) (fun _ _=>trivial) cU (cB.gK _ _ _ _ _ ?_)
    exact ih r Q _ s3 _ I β w pins ys tr K hp h3 (gW _ _ _ _ _ cI Is.undef) (by rw[eA.st,d_.st]; exact rb) (fun s' vQ I' ay a' w' hk br hg=>hQ s' vQ I' ay a' w' hk br (((aG.same d_).trans (aG.same eA)).trans hg))
  | load i D r =>
   simp only[gP] at hp
   obtain⟨cU,cz,hD,hp⟩:=hp
   unfold jy at h
   replace h:=ar h
   obtain⟨o,ho,h⟩:=h
   rw[Array.getElem?_toList] at ho
   unfold gH at cz
   rw[ho] at cz
   simp only[Bool.and_eq_true] at cz
   have he:ai o.op=false:=by unfold ai; rw[cz.1,Bool.or_true]; rfl
   obtain⟨t,ad,h_⟩:∃ t ad,o.op = .load t ad:=by
    have:=cz.1
    cases h_:o.op<;>rw[h_] at this<;>first|exact⟨_,_,rfl⟩|cases this
   rw[h_] at h
   have hg:=jk (nt:=nt) (b:=b) (run':=fun S=>∃ s1:CS,S=s1.st nt b/\(fe s1.t ad fun x=>rh C s1 t x fun v=>iH nt s1 o.dst v fun s=>jy C call nt n0 ops.toList r s (gI D x pins) tr K)=true) (skip':=fun S=>∃ s1:CS,S=s1.st nt b/\(iH nt s1 o.dst (.tup []) fun s=>jy C call nt n0 ops.toList r s pins tr K)=true) (fun h=>⟨s,rfl,h⟩) (fun h=>⟨s,rfl,h⟩) h
   rcases c9 hR hg with ⟨cP,S,⟨s1,hS,h1⟩,d_,cI⟩|⟨cP,S,⟨s1,hS,h1⟩,d_,cI⟩
   ·subst hS
    obtain⟨x,h1,hx⟩:=ft cI h1
    obtain⟨z,v,g,h1,hz,hg,bp⟩:=jm hG.ok cI.heap cI.au (po (q':=fun v=>(iH nt s1 o.dst v fun s=>jy C call nt n0 ops.toList r s (gI D x pins) tr K)=true) (fun _ h=>h) h1) hx
    obtain⟨S3,⟨s3,u6,h3⟩,eA,gW⟩:=aD.aT (G:=(C.G δ)) (eW (nt:=nt) (b:=b) h1)
    subst u6
    have sX:∀ w2:World,w2.heap[g]?=w.heap[g]?->(execOp a.eval o).run C.cx.P w2 = .ok (.value v) w2:=fun w2 j4=>by
     unfold execOp
     rw[h_]
     simp only[Sem.run_bind,bp w2 j4,Result.andThen_ok,Sem.run_pure]
    have uU:g < w.heap.size:=by
     rcases hg with hg|⟨l',b,p,o',_,hb,az,j3,BH⟩
     ·exact hR.au.au g hg
     ·exact cI.heap.cH ⟨l',b,p,o',hb,az,j3,BH⟩
    refine cB.first (v:=v) (D:=D) (Y:=fun w2=>w2.heap[g]?=w.heap[g]?) ho he kY fuel l a _ ys (Region.free_spec ho cz.2) (BJ hD) (.inl ⟨cP,sX⟩) (fun w2 j4=>by rw[j4]) cU ?_
    refine ih r Q _ s3 _ I β w (gI D x pins) _ tr K hp h3 (gW _ _ _ _ _ cI hz) ?_ (fun s' vQ I' ay a' w' hk br hg=>hQ s' vQ I' ay a' w' hk br (((aG.same d_).trans (aG.same eA)).trans hg))
    rw[eA.st,d_.st]
    intro y hy
    rcases List.mem_cons.1 hy with rfl|hy
    ·refine .inr ⟨g,fun _=>Iff.rfl,uU,?_⟩
     rcases hg with hg|⟨l',b,p,o',iE,hb,az,j3,BH⟩
     ·exact .inl hg
     ·refine .inr ⟨⟨D,l'⟩,by unfold gI; rw[iE]; exact List.mem_cons_self,rfl,b,p,o',by rw[← d_.st]; exact hb,az,j3,BH⟩
    ·rcases rb y hy with h|⟨g',k1,k2,k3⟩
     ·exact .inl h
     ·refine .inr ⟨g',k1,k2,k3.imp id fun ⟨p,rK,k4⟩=>⟨p,?_,k4⟩⟩
      unfold gI
      split
      ·exact List.mem_cons_of_mem _ rK
      ·exact rK
   ·subst hS
    obtain⟨S3,⟨s3,u6,h3⟩,eA,gW⟩:=aD.aT (G:=(C.G δ)) (eW (nt:=nt) (b:=b) h1)
    subst u6
    refine cB.first (v:=undef) (D:=[]) (Y:=fun _=>True) ho he kY fuel l a _ ys (Region.free_spec ho cz.2) (fun j hj=>by cases hj) (.inr ⟨cP,rfl⟩) (fun _ _=>trivial) cU (cB.gK _ _ _ _ _ ?_)
    exact ih r Q _ s3 _ I β w pins ys tr K hp h3 (gW _ _ _ _ _ cI Is.undef) (by rw[eA.st,d_.st]; exact rb) (fun s' vQ I' ay a' w' hk br hg=>hQ s' vQ I' ay a' w' hk br (((aG.same d_).trans (aG.same eA)).trans hg))
  | ai i r ms =>
   simp only[gP] at hp
   split at hp
   ·rename_i i0 more iR
    obtain⟨rfl,RX,Zu,ME,rK⟩:=hp
    unfold jy at h
    replace h:=ar h
    obtain⟨o,ho,h⟩:=h
    rw[Array.getElem?_toList] at ho
    have cN:Region.ready .any ops l≠[]:=by rw[iR]; simp
    have SI:∀ {j:Nat} {oj:Oper},ops[j]?=some oj->Cb ops j=true->Ev.g_ oj.op=false:=fun {j oj} iG hj=>by
     unfold Cb at hj
     rw[iG] at hj
     simpa using hj
    
    have go:∀ {j:Nat} {oj:Oper} {rj:af} {K':CS->List yS->Bool} {Q':Exit->Act->World->Prop},gP ops fuel (l.setIfInBounds j true) rj->ops[j]?=some oj->Cb ops j=true->(mc C call nt ops.toList s j oj pins fun s1=>jy C call nt n0 ops.toList rj s1 (ct j pins) (⟨j,s.n,s1.n⟩::tr) K')=true ->
      (∀ s' vQ I' ay a' w',K' s' vQ=true->Rel (C.G δ) I' ay (s'.st nt b) a' w'->aG I β (s.st nt b) w I' ay (s'.st nt b) w'->Q' .normal a' w') ->
      (ai oj.op=false->∃ v,Yields C.cx.P ops (fun w2=>w2=w) oj v a/\cB C.cx.P ops Q' fuel (l.setIfInBounds j true) (a.put oj.dst v) (fun w2=>w2=w) (cF j ys)) /\
      (ai oj.op=true->∀ w2,w2=w->Ev.nK C.cx.P ops oj a w2 fun v w'=>∃ S':World->Prop,(∀ p∈cF j ys,∀ w,S' w->p.Y w)/\S' w'/\cB C.cx.P ops Q' fuel (l.setIfInBounds j true) (a.put oj.dst v) S' (cF j ys)):=by
     intro j oj rj K' Q' QE iG RY h' hQ'
     refine⟨fun e=>?_,fun e w2 j4=>?_⟩
     ·obtain⟨v,s',hy,hk,br,hsb⟩:=Cc hG e (SI iG RY) h' hR
      refine⟨v,hy,ih rj Q' _ s' _ I β w _ _ _ K' QE hk br (by rw[hsb.st]; exact rb.cF) fun s2 Sc I2 ee a2 w3 qn eM jq=>hQ' s2 Sc I2 ee a2 w3 qn eM ((aG.same hsb).trans jq)⟩
     ·subst j4
      refine gl ?_ (Fq hG hC e h' hR rb)
      rintro v w' ⟨s',I',ay,hk,br,hg,hY,dM⟩
      refine⟨fun w2=>w2=w',fun p hp w2 j4=>by rw[j4]; exact hY p hp,rfl,?_⟩
      exact ih rj Q' _ s' _ I' ay w' _ _ _ K' QE hk br dM fun s2 Sc I2 ee a2 w3 qn eM jq=>hQ' s2 Sc I2 ee a2 w3 qn eM (hg.trans jq)
    
    have ends:∀ {K':CS->List yS->Bool},(mc C call nt ops.toList s i0 o pins fun s1=>jy C call nt n0 ops.toList r s1 (ct i0 pins) (⟨i0,s.n,s1.n⟩::tr) K')=true->∃ sf yT,K' sf yT=true:=fun {K'} h'=>by
     obtain⟨g1,g2⟩:=go (Q':=fun _ _ _=>∃ sf yT,K' sf yT=true) ME ho RX h' fun s' vQ _ _ _ _ hk _ _=>⟨s',vQ,hk⟩
     cases he:ai o.op with
     | false =>
      obtain⟨v,_,hn⟩:=g1 he
      obtain⟨_,_,h3⟩:=cB.ends _ _ _ _ _ w hn rfl
      exact h3
     | true =>
      obtain⟨v,w',S',_,qZ,hn⟩:=jQ (g2 he w rfl)
      obtain⟨_,_,h3⟩:=cB.ends _ _ _ _ _ w' hn qZ
      exact h3
    have single:∀ {K':CS->List yS->Bool},py (fun j r=>gP ops fuel (l.setIfInBounds j true) r) more ms->(mc C call nt ops.toList s i0 o pins fun s1=>jy C call nt n0 ops.toList r s1 (ct i0 pins) (⟨i0,s.n,s1.n⟩::tr) fun sf yT=>zw C call nt n0 ops.toList ms s pins tr sf yT && K sf yT)=true->cB C.cx.P ops Q (fuel+1) l a (fun w2=>w2=w) ys:=fun {_} rK h=>by
     obtain⟨sf,yT,hsf⟩:=ends h
     rw[Bool.and_eq_true] at hsf
     refine⟨fun e=>absurd e cN,fun j hj oj iG=>?_⟩
     rw[iR] at hj
     rcases List.mem_cons.1 hj with rfl|hj
     ·rw[ho] at iG
      cases iG
      exact go ME ho RX h fun s' vQ I' ay a' w' hk br hg=>hQ s' vQ I' ay a' w' (Bool.and_eq_true _ _ ▸ hk).2 br hg
     ·obtain⟨rj,oj',RZ,oO,h2⟩:=tP rK hsf.1 j hj
      rw[iG] at oO
      cases oO
      refine go RZ iG (Zu j hj) h2 fun s' vQ I' ay a' w' hk br hg=>?_
      obtain⟨I3,sY,nz,xy⟩:=NO (C:=C) (nt:=nt) hk hb I' ay a' w' br
      exact hQ sf yT I3 sY a' w' hsf.2 nz (hg.trans xy)
    cases ms with
    | nil =>
     cases more with
     | cons=>exact rK.elim
     | nil =>
      refine⟨fun e=>absurd e cN,fun j hj oj iG=>?_⟩
      rw[iR,List.mem_singleton] at hj
      subst hj
      rw[ho] at iG
      cases iG
      exact go ME ho RX h fun s' vQ I' ay a' w' hk br hg=>hQ s' vQ I' ay a' w' hk br hg
    | cons j0 r0 qo=>exact single (K':=K) rK h
    | sub j0 r0 qo=>cases more<;>exact rK.elim
    | alt j0 r0 qo=>cases more<;>exact rK.elim
   ·cases hp
end
def cf (R:List (Nat × af)):Code->Bool
 | .region id ops true=>(match Ev.lO id R with
  | some p=>Region.noSelect ops && zl ops ops.toList fun T=>px T ops.size 0 p
  | none=>true)
 | .seq a b=>cf R a && cf R b
 | .cond _ a b=>cf R a && cf R b
 | .block _ c=>cf R c
 | .scope c=>cf R c
 | .loop c=>cf R c
 | _=>true
abbrev Kx (nt b:Nat) (K:X->CS->Bool) (x:X) (s2:aD):Prop:=∃ s1:CS,s2=s1.st nt b/\K x s1=true
section
variable {C:ib} {δ:List Deferred} {nt b:Nat} {call:eV}
theorem x7 (hG:fD (C.G δ)) (hC:cY C δ call) {ops:Array Oper} {K:CS->Bool} {Q':Exit->Act->World->Prop}:∀ (l:List Oper) {s:CS} {a:Act} {I:Nat->Prop} {β:an} {w:World},xH C call nt ops.toList K l s=true->Rel (C.G δ) I β (s.st nt b) a w ->
  (∀ s' I' ay a' w',K s'=true->Rel (C.G δ) I' ay (s'.st nt b) a' w'->aG I β (s.st nt b) w I' ay (s'.st nt b) w'->Q' .normal a' w')->wpList C.cx.P ops Q' l a w
 | [],s,a,I,β,w,h,hR,hQ=>hQ s I β a w h hR (aG.same ⟨rfl,rfl,rfl,rfl⟩)
 | o::l,s,a,I,β,w,h,hR,hQ=>by
  have hg:=jk (nt:=nt) (b:=b) (run':=fun S=>∃ s1:CS,S=s1.st nt b/\BR C call s1 o (fun v s=>iH nt s o.dst v (xH C call nt ops.toList K l))=true) (skip':=fun S=>∃ s1:CS,S=s1.st nt b/\iH nt s1 o.dst (.tup []) (xH C call nt ops.toList K l)=true) (fun h=>⟨s,rfl,h⟩) (fun h=>⟨s,rfl,h⟩) h
  unfold wpList
  rcases c9 hR hg with ⟨hw,S,⟨s1,hS,h1⟩,d_,cI⟩|⟨hw,S,⟨s1,hS,h1⟩,d_,cI⟩
  ·subst hS
   rw[hw,if_pos rfl]
   have h_:=x5 (nt:=nt) (b:=b) hG hC h1
   unfold fO at h_
   refine .inl (Ev.ou (h_ I β a w cI) fun v w' hp=>?_)
   obtain⟨x,s2,I2,ee,⟨s2c,SJ,h2⟩,eM,hx,hE,e1,e2,e3,dU,_⟩:=hp
   subst SJ
   obtain⟨S3,⟨s3,u6,h3⟩,eA,gW⟩:=aD.aT (G:=(C.G δ)) (eW (nt:=nt) (b:=b) h2)
   subst u6
   have g1:aG I β (s.st nt b) w I2 ee (s2c.st nt b) w':=(aG.same d_).trans ⟨hE,e1,e2,e3,dU⟩
   exact x7 hG hC l h3 (gW _ _ _ _ v eM hx) fun s' I' ay a' m_ hq br hg=>hQ s' I' ay a' m_ hq br ((g1.trans (aG.same eA)).trans hg)
  ·subst hS
   rw[hw,if_neg (by simp)]
   obtain⟨S3,⟨s3,u6,h3⟩,eA,gW⟩:=aD.aT (G:=(C.G δ)) (eW (nt:=nt) (b:=b) h1)
   subst u6
   exact x7 hG hC l h3 (gW _ _ _ _ _ cI Is.undef) fun s' I' ay a' m_ hq br hg=>hQ s' I' ay a' m_ hq br (((aG.same d_).trans (aG.same eA)).trans hg)
theorem NR {body:CS->(X->CS->Bool)->Bool} {c:Code} {Q:X->CS->Bool} (JB:∀ s K,body s K=true->SW (C.G δ) c (Kx nt b K) (s.st nt b)):∀ (L:Nat) (s:CS),IA body L s Q=true->SW (C.G δ) (.loop c) (Kx nt b Q) (s.st nt b):=fun L s h=>by
 have key:∀ (n:Nat) (s0:aD) (s:CS) (I0 I:Nat->Prop) (eU β:an) (w0 w:World) (a:Act),IA body n s Q=true->Rel (C.G δ) I β (s.st nt b) a w->aG I0 eU s0 w0 I β (s.st nt b) w->Code.rounds C.cx.P c (bA (C.G δ) s0 I0 eU w0 (Kx nt b Q)) n a w:=by
  intro n
  induction n with
  | zero=>intro s0 s I0 I eU β w0 w a h _ _; cases h
  | succ n ih =>
   intro s0 s I0 I eU β w0 w a h hR hg
   rw[rounds_succ]
   unfold IA at h
   refine wp_mono ((JB s _ h).run hR) fun e a' w' hp=>?_
   obtain⟨x',S',I',ay,rfl,⟨s',qZ,hq⟩,br,re⟩:=hp.goes
   subst qZ
   cases x' with
   | cA=>exact ih s0 s' I0 I' eU ay w0 w' a' hq br (hg.trans re)
   | exit id=>exact bA.of (Q:=Kx nt b Q) (x:=.exit id) ⟨s',rfl,hq⟩ br (hg.trans re)
   | ret=>exact bA.of (Q:=Kx nt b Q) (x:=.ret) ⟨s',rfl,hq⟩ br (hg.trans re)
 exact SW.intro fun I β a w hR=>wp_loop_rounds L (key L (s.st nt b) s I I β β w w a h hR (aG.same ⟨rfl,rfl,rfl,rfl⟩))
theorem mu (hG:fD (C.G δ)) (hC:cY C δ call) {R:List (Nat × af)}:∀ (n:Nat) (c:Code) (s:CS) (K:X->CS->Bool),cf R c=true->cw C call R nt n c s K=true->SW (C.G δ) c (Kx nt b K) (s.st nt b)
 | 0,_,_,_,_,h=>by cases h
 | n+1,c,s,K,hc,h=>by
  cases c with
  | skip=>exact SW.intro fun I β a w hR=>wp_skip (bA.of (x:=.cA) ⟨s,rfl,h⟩ hR (aG.same ⟨rfl,rfl,rfl,rfl⟩))
  | label l=>exact SW.intro fun I β a w hR=>wp_label (bA.of (x:=.cA) ⟨s,rfl,h⟩ hR (aG.same ⟨rfl,rfl,rfl,rfl⟩))
  | ret=>exact SW.intro fun I β a w hR=>wp_ret (bA.of (x:=.ret) ⟨s,rfl,h⟩ hR (aG.same ⟨rfl,rfl,rfl,rfl⟩))
  | exit id=>exact SW.intro fun I β a w hR=>wp_exit (bA.of (x:=.exit id) ⟨s,rfl,h⟩ hR (aG.same ⟨rfl,rfl,rfl,rfl⟩))
  | seq x y =>
   simp only[cf,Bool.and_eq_true] at hc
   have h1:=mu hG hC n x s _ hc.1 h
   refine SW.intro fun I β a w hR=>wp_seq (wp_mono (h1.run hR) fun e a' w' hp=>?_)
   obtain⟨x',S',I',ay,rfl,⟨s',qZ,hq⟩,br,hg⟩:=hp.goes
   subst qZ
   cases x' with
   | cA=>exact (mu hG hC n y s' K hc.2 hq).from br hg
   | exit id=>exact bA.of (Q:=Kx nt b K) (x:=.exit id) ⟨s',rfl,hq⟩ br hg
   | ret=>exact bA.of (Q:=Kx nt b K) (x:=.ret) ⟨s',rfl,hq⟩ br hg
  | cond c x y =>
   simp only[cf,Bool.and_eq_true] at hc
   refine SW.intro fun I β a w hR=>?_
   obtain⟨v,h,hv⟩:=ft hR (show fe s.t c _=true from h)
   split at h
   ·simp only[PV.Is] at hv
    exact wp_cond hv ((mu hG hC n x s K hc.1 h).run hR)
   ·simp only[PV.Is] at hv
    exact wp_cond hv ((mu hG hC n y s K hc.2 h).run hR)
   ·cases h
  | block id c =>
   have h1:=mu hG hC n c s _ hc h
   refine SW.intro fun I β a w hR=>wp_block (wp_mono (h1.run hR) fun e a' w' hp=>?_)
   obtain⟨x',S',I',ay,rfl,⟨s',qZ,hq⟩,br,hg⟩:=hp.goes
   subst qZ
   cases x' with
   | cA=>exact bA.of (Q:=Kx nt b K) (x:=.cA) ⟨s',rfl,hq⟩ br hg
   | exit j =>
    show Exit.inBlock id _ (.exit j) a' w'
    simp only[Exit.inBlock]
    by_cases hj:j=id
    ·subst hj
     rw[if_pos rfl]
     have kL:K .cA s'=true:=by simpa [Nat.beq_refl] using hq
     exact bA.of (Q:=Kx nt b K) (x:=.cA) ⟨s',rfl,kL⟩ br hg
    ·have cO:Nat.beq j id=false:=by rw[Bool.eq_false_iff]; exact fun e=>hj (Nat.eq_of_beq_eq_true e)
     rw[if_neg hj]
     have kL:K (.exit j) s'=true:=by simpa [cO] using hq
     exact bA.of (Q:=Kx nt b K) (x:=.exit j) ⟨s',rfl,kL⟩ br hg
   | ret=>exact bA.of (Q:=Kx nt b K) (x:=.ret) ⟨s',rfl,hq⟩ br hg
  | scope c =>
   have h1:=mu hG hC n c s _ hc h
   refine SW.intro fun I β a w hR=>wp_scope_straight (wp_mono (h1.run hR) fun e a' w' hp=>?_)
   obtain⟨x',S',I',ay,rfl,hq,br,hg⟩:=hp.goes
   cases x' with
   | cA=>exact bA.of (Q:=Kx nt b K) (x:=.cA) hq br hg
   | exit j=>exact bA.of (Q:=Kx nt b K) (x:=.exit j) hq br hg
   | ret=>exact bA.of (Q:=Kx nt b K) (x:=.ret) hq br hg
  | loop c=>exact NR (fun s K h=>mu hG hC n c s K hc h) 100000 s h
  | region id ops draw =>
   refine SW.intro fun I β a w hR=>?_
   cases draw with
   | true =>
    obtain⟨p,hp,h⟩:=ar (show aK (Ev.lO id R) _=true from h)
    unfold cf at hc
    rw[hp] at hc
    simp only[Bool.and_eq_true,s7] at hc
    have r5:b<=s.n:=by
     have:=hR.base
     rwa [show (s.st nt b).st.length=s.n from cV ..] at this
    have br:Rel (C.G δ) I β (s.st nt b) a { w with drawn:=w.drawn+1 }:=hR.iS rfl rfl rfl rfl
    have hd:aG I β (s.st nt b) w I β (s.st nt b) { w with drawn:=w.drawn+1 }:=⟨Ext.iS rfl rfl rfl rfl,rfl,rfl,rfl,fun _ _ _=>rfl⟩
    have hA:=NQ (nt:=nt) (b:=b) (n0:=s.n) hG hC hc.1 r5 ops.size p (bA (C.G δ) (s.st nt b) I β w (Kx nt b K)) _ s a I β _ [] [] [] _ (mr _ _ _ _ (Mk.none ops) hc.2) h br (fun y hy=>by cases hy) fun s' _ I' ay a' w' hk eM hg=>bA.of (Q:=Kx nt b K) (x:=.cA) ⟨s',rfl,hk⟩ eM (hd.trans hg)
    exact wp_region_any hG.ok.mix (cB.sound _ _ _ _ _ _ hA rfl)
   | false=>exact wp_region_list (x7 hG hC _ h hR fun s' I' ay a' w' hq br hg=>bA.of (Q:=Kx nt b K) (x:=.cA) ⟨s',rfl,hq⟩ br hg)
  | _=>cases h
end
structure COk (C:ib):Prop where
 g:fD (C.G [])
 fns:∀ f F,(f,F)∈C.fns->C.cx.P.funcs[f]?=some F.1/\F.1.ntmps<=16777215/\(F.1.name == "runtime.NumGoroutine")=false/\∀ c,F.1.body=some c->cf F.2 c=true
 rL:∀ f l,(f,l)∈C.rL->∀ p∈l,(al (C.G []) f p.1 p.2/\dp p.1 = []/\p.2.df = [])\/Jg (C.G []) f p.1 p.2
 grow:∀ f e z,(f,e,z)∈C.grow->∀ k S,k<=1000000->Spec (C.G []) f [.nil,.lit .i64 (.ofNat (k+1))] S [] fun r S'=>r = .wref S.length/\S'=S++[⟨.arr,e,z,.w,true,[]⟩]
section
variable {C:ib} {δ:List Deferred} {nt b:Nat} {call:eV} {s:CS}
theorem JC {r:ResultVar} {q:PV->Bool} {q':PV->Prop} (hq:∀ x,q x=true->q' x) (h:QI C s r q=true):IJ (C.G δ) (s.st nt b) r q':=by
 cases r with
 | tmp t =>
  obtain⟨x,hx,h⟩:=ar (show aK (s.t.th t) _=true from h)
  refine a_ (by rw[← TM.k_]; exact hx) ?_
  cases x<;>first|exact hq _ h|cases h
 | cell a t =>
  obtain⟨x,hx,h⟩:=ar (show aK (s.t.th a) _=true from h)
  exact a_ (by rw[← TM.k_]; exact hx) (po hq h)
theorem z9:∀ {rs:List ResultVar} {q:List PV->Bool} {q':List PV->Prop},(∀ l,q l=true->q' l)->IB C s rs q=true->zE (C.G δ) (s.st nt b) rs q'
 | [],q,q',hq,h=>hq _ h
 | r::rs,q,q',hq,h=>JC (fun x h=>z9 (rs:=rs) (fun l hl=>hq _ hl) h) h
theorem NS {rs:List ResultVar} {q:PV->Bool} {q':PV->Prop} (hq:∀ x,q x=true->q' x) (h:xK C s rs q=true):E' (C.G δ) (s.st nt b) rs q':=by
 unfold xK at h
 unfold E'
 split at h
 ·obtain⟨x,hx,h⟩:=ar h
  exact a_ (by rw[← TM.k_]; exact hx) (hq _ h)
 ·rename_i cN
  split
  ·exact absurd rfl (cN _)
  ·refine z9 (fun l h=>?_) h
   match l,h with
   | [x],h=>exact hq _ h
   | [],h=>exact hq _ h
   | _::_::_,h=>exact hq _ h
theorem tQ:∀ {xs:List PV} {i:Nat} {t:TM} {k:TM->Bool},tp xs i t k=true->∃ t',k t'=true/\∀ n x,t'.get n=some x->(∃ j,n=i+j/\xs[j]?=some x)\/t.get n=some x
 | [],i,t,k,h=>⟨t,h,fun n x hx=>.inr hx⟩
 | x::xs,i,t,k,h=>by
  obtain⟨t1,h1,ht1⟩:=TM.oN (TM.mM h)
  obtain⟨t',hk,Bc⟩:=tQ h1
  refine⟨t',hk,fun n y hy=>?_⟩
  rcases Bc n y hy with ⟨j,hj,hx⟩|hy
  ·exact .inl ⟨j+1,by rw[hj]; omega,by simpa using hx⟩
  ·rw[ht1] at hy
   split at hy
   ·rename_i e
    cases hy
    exact .inl ⟨0,by rw[e]; rfl,rfl⟩
   ·exact .inr hy
theorem z_ {args:List PV} {r:PV}:∀ {l:List (List PV × PV)},Du args l=some r->(args,r)∈l
 | [],h=>by cases h
 | (a,r')::l,h=>by
  unfold Du at h
  cases hb:o_ args a with
  | true =>
   rw[hb] at h
   cases h
   rw[gO hb]
   exact List.mem_cons_self
  | false =>
   rw[hb] at h
   exact List.mem_cons_of_mem _ (z_ h)
theorem al.use0 {G:Gx} {f:FuncId} {args:List PV} {r:PV} {S:List aj} {K:PV->List aj->Prop} (h:al G f args r) (hu:dp args = []) (hr:r.df = []) (hK:K r S):Spec G f args S [] K:=by
 refine Spec.intro h.run.1 fun I β w vals hH hM hA=>?_
 have h0:aC I (fun _=>none) ([]:List aj) w:=⟨fun _ _=>rfl,fun l b hl=>by simp at hl⟩
 refine (h.run.2 I (fun _=>none) w vals h0 hM (jB hu hA)).mono fun e w' ⟨v,r',S',I',ay,he,sJ,hi,_,kN,hE,_,_⟩=>?_
 subst sJ
 have BI:∀ g,¬ Wr (fun _=>none) ([]:List aj) g:=fun g ⟨l,b,p,o,h1,_⟩=>by simp at h1
 have hold:∀ g,g < w.heap.size->w'.heap[g]?=w.heap[g]?:=fun g hg=>hE.block g hg (BI g)
 have DC:∀ g,g < w.heap.size->I' g->I g:=fun g hg h=>(hE.new g hg h).elim id fun h=>absurd h (BI g)
 refine⟨v,r',S,I',β,he,hK,kr hr hi,⟨hH.p8,fun l b hl az=>?_⟩,kN,⟨hE.os,hE.tape,hE.output,hE.size,fun g hg _=>hold g hg,fun g _ h=>h,hE.au,fun g hg h=>.inl (DC g hg h)⟩,Nat.le_refl _,fun _ _ _=>rfl⟩
 have hb:=hH.dX l b hl az
 refine hb.mono hE.au (fun g hg=>hold g (hM.au g hg)) (fun _ _ h=>h) fun p g o hp ha=>?_
 obtain⟨arr,ty,fr,hh,ho⟩:=hb.place hp ha
 have bZ:=aV hh
 exact⟨hold g bZ,fun hr=>⟨fun hI=>(ho.1 hr).2.1 (DC g bZ hI),(ho.1 hr).2.2⟩⟩
theorem tR (hG:fD (C.G δ)) {fn:Func} {a':Act} {I I':Nat->Prop} {β ay:an} {w w':World} {s0 s':CS} {K:PV->BM->Nat->Bool} (br:Rel (C.G δ) I' ay (s'.st nt s0.n) a' w') (hg:aG I β (s0.st nt s0.n) w I' ay (s'.st nt s0.n) w') (hq:xK C s' fn.results.toList (fun r=>K r s'.h s'.n)=true) :
  ∃ v,(results fn a'.tmps).run C.cx.P w' = .ok v w'/\∃ v' r S' I' ay,Ending.returned v = .returned v'/\(∃ h' n',S'=eD h' n'/\K r h' n'=true)/\r.Is w' I' ay v'/\aC I' ay S' w'/\cE (C.G δ) I' w'/\Ext I β (eD s0.h s0.n) w I' ay S' w'/\(eD s0.h s0.n).length<=S'.length/\∀ l,l < (eD s0.h s0.n).length->l ∉ ([]:List Nat)->ay l=β l:=by
 obtain⟨r,v,hk,hr,bp⟩:=xS (q:=fun r=>K r s'.h s'.n=true) hG br (NS (fun _ h=>h) hq)
 have vK:=br.base
 exact⟨v,bp,v,r,_,I',ay,rfl,⟨s'.h,s'.n,rfl,hk⟩,hr,br.heap,br.au,hg.ext,by rw[cV]; exact vK,fun l hl hr=>hg.low l (by rw[cV] at hl; exact hl) hr⟩
theorem Spec.body (hG:fD (C.G [])) (hC:cY C [] call) {R:List (Nat × af)} {f:FuncId} {fn:Func} {c:Code} (hf:C.cx.P.funcs[f]?=some fn) (jK:fn.ntmps<=16777215) (mg:(fn.name == "runtime.NumGoroutine")=false) (hb:fn.body=some c) (j3:cf R c=true)
  {args:List PV} {h:BM} {m:Nat} {K:PV->BM->Nat->Bool} (hle:args.length<=fn.ntmps) (hk:(tp args 0 .nil fun t=>cw C call R fn.ntmps 100 c ⟨t,h,m⟩ fun x s=>match x with
    | .exit _=>false
    | _=>xK C s fn.results.toList fun r=>K r s.h s.n)=true):Spec (C.G []) f args (eD h m) [] fun r S=>∃ h' n',S=eD h' n'/\K r h' n'=true:=by
 obtain⟨t,hk,ht⟩:=tQ hk
 refine Spec.intro (Ev.gi hf hb mg) fun I β w vals hH hM hA=>calls_of_wp hf hb ?_
 have ZD:=hA.length
 have hR:Rel (C.G []) I β ((⟨t,h,m⟩:CS).st fn.ntmps m) { tmps:=vals.toArray++Array.replicate (fn.ntmps - vals.toArray.size) Go.undef,defers:=[] } w:=by
  refine⟨jK,rfl,by show (vals.toArray++Array.replicate (fn.ntmps - vals.toArray.size) Go.undef).size=fn.ntmps; simp; omega,by show m<=(eD h m).length; rw[cV]; exact Nat.le_refl _,fun n x hx=>?_,hH,hM⟩
  rcases ht n x hx with ⟨j,hj,hx⟩|hx
  ·rw[Nat.zero_add] at hj
   subst hj
   obtain⟨v,hv,hi⟩:=hA.get hx
   have bZ:n < vals.length:=(List.getElem?_eq_some_iff.1 hv).1
   exact⟨v,by rw[Array.getElem?_append_left (by simpa using bZ)]; simpa using hv,hi⟩
  ·cases hx
 refine wp_mono ((mu (nt:=fn.ntmps) (b:=m) hG hC 100 c ⟨t,h,m⟩ _ j3 hk).run hR) fun e a' w' hp=>?_
 obtain⟨x,S',I',ay,rfl,⟨s',qZ,hq⟩,br,hg⟩:=hp.goes
 subst qZ
 cases x with
 | cA=>exact⟨br.defers,tR (s0:=⟨t,h,m⟩) hG br hg hq⟩
 | ret=>exact⟨br.defers,tR (s0:=⟨t,h,m⟩) hG br hg hq⟩
 | exit id=>cases hq
theorem Cd (hC:COk C):∀ n,cY C [] (QJ C n)
 | 0=>fun f args h m K hk=>by cases hk
 | n+1=>fun f args h m K hk=>by
  unfold QJ at hk
  split at hk
  ·rename_i r hr
   rw[Option.bind_eq_some_iff] at hr
   obtain⟨l,hl,hm⟩:=hr
   rcases hC.rL f l (Ev.dJ hl) _ (z_ hm) with ⟨h1,h2,h3⟩|h1
   ·exact .inl (h1.use0 h2 h3 ⟨h,m,rfl,hk⟩)
   ·exact .inr ⟨r,h1,hk⟩
  ·split at hk
   ·rename_i e z hez
    split at hk
    ·rename_i k _
     replace hk:=cj hk
     obtain⟨h',hq,hg⟩:=BM.aT hk.2
     refine .inl (Spec.mono (hC.grow f e z (Ev.dJ hez) k (eD h m) (Nat.le_of_ble_eq_true hk.1)) fun r S' ⟨h1,h2⟩=>⟨h',m+1,?_,?_⟩)
     ·rw[h2,Dx hg]
     ·rw[h1,cV]; exact hq
    ·cases hk
   ·obtain⟨F,hF,hk⟩:=ar hk
    obtain⟨fn,R⟩:=F
    obtain⟨h1,h2,h3,h4⟩:=hC.fns f _ (Ev.dJ hF)
    obtain⟨c,hb,hk⟩:=ar (show aK fn.body _=true from hk)
    rw[cX,Nat.zero_add] at hk
    replace hk:=cj hk
    exact .inl (Spec.body hC.g (Cd hC n) h1 h2 h3 hb (h4 c hb) (Nat.le_of_ble_eq_true hk.1) hk.2)
end
open Go
noncomputable def cfs:List (Nat × Func × List (Nat × af)):=[(3,Tryz.f3,P3),
 (4,Tryz.f4,P4),
 (13,Tryz.f13,P13),
 (17,Tryz.f17,P17),
 (36,Tryz.f36,P36),
 (83,Tryz.f83,P83),
 (145,Tryz.f145,P145),
 (222,Tryz.f222,P222),
 (223,Tryz.f223,P223),
 (288,Tryz.f288,P288),
 (224,Tryz.f224,P224),
 (289,Tryz.f289,P289),
 (146,Tryz.f146,P146),
 (225,Tryz.f225,P225),
 (226,Tryz.f226,P226),
 (227,Tryz.f227,P227),
 (228,Tryz.f228,P228),
 (290,Tryz.f290,P290),
 (346,Tryz.f346,P346),
 (229,Tryz.f229,P229),
 (84,Tryz.f84,P84),
 (147,Tryz.f147,P147),
 (85,Tryz.f85,P85),
 (86,Tryz.f86,P86),
 (148,Tryz.f148,P148),
 (230,Tryz.f230,P230),
 (231,Tryz.f231,P231),
 (291,Tryz.f291,P291),
 (347,Tryz.f347,P347),
 (149,Tryz.f149,P149),
 (150,Tryz.f150,P150),
 (152,Tryz.f152,P152),
 (232,Tryz.f232,P232),
 (292,Tryz.f292,P292),
 (151,Tryz.f151,P151),
 (153,Tryz.f153,P153),
 (233,Tryz.f233,P233),
 (234,Tryz.f234,P234),
 (293,Tryz.f293,P293),
 (294,Tryz.f294,P294),
 (348,Tryz.f348,P348),
 (396,Tryz.f396,P396),
 (439,Tryz.f439,P439),
 (397,Tryz.f397,P397),
 (295,Tryz.f295,P295),
 (296,Tryz.f296,P296),
 (297,Tryz.f297,P297),
 (349,Tryz.f349,P349),
 (37,Tryz.f37,P37),
 (40,Tryz.f40,P40),
 (94,Tryz.f94,P94),
 (87,Tryz.f87,P87),
 (155,Tryz.f155,P155),
 (154,Tryz.f154,P154),
 (88,Tryz.f88,P88),
 (89,Tryz.f89,P89),
 (38,Tryz.f38,P38),
 (90,Tryz.f90,P90),
 (91,Tryz.f91,P91),
 (156,Tryz.f156,P156),
 (157,Tryz.f157,P157),
 (235,Tryz.f235,P235),
 (59,Tryz.f59,P59),
 (39,Tryz.f39,P39),
 (92,Tryz.f92,P92),
 (158,Tryz.f158,P158),
 (236,Tryz.f236,P236),
 (298,Tryz.f298,P298),
 (304,Tryz.f304,P304),
 (302,Tryz.f302,P302),
 (350,Tryz.f350,P350),
 (351,Tryz.f351,P351),
 (398,Tryz.f398,P398),
 (352,Tryz.f352,P352),
 (399,Tryz.f399,P399),
 (400,Tryz.f400,P400),
 (401,Tryz.f401,P401),
 (353,Tryz.f353,P353),
 (402,Tryz.f402,P402),
 (403,Tryz.f403,P403),
 (300,Tryz.f300,P300),
 (237,Tryz.f237,P237),
 (299,Tryz.f299,P299),
 (240,Tryz.f240,P240),
 (306,Tryz.f306,P306),
 (307,Tryz.f307,P307),
 (308,Tryz.f308,P308),
 (354,Tryz.f354,P354),
 (303,Tryz.f303,P303),
 (238,Tryz.f238,P238),
 (301,Tryz.f301,P301),
 (239,Tryz.f239,P239),
 (305,Tryz.f305,P305),
 (241,Tryz.f241,P241),
 (242,Tryz.f242,P242),
 (93,Tryz.f93,P93),
 (41,Tryz.f41,P41),
 (18,Tryz.f18,P18),
 (19,Tryz.f19,P19),
 (42,Tryz.f42,P42),
 (20,Tryz.f20,P20),
 (43,Tryz.f43,P43),
 (95,Tryz.f95,P95),
 (159,Tryz.f159,P159),
 (243,Tryz.f243,P243),
 (244,Tryz.f244,P244),
 (309,Tryz.f309,P309),
 (247,Tryz.f247,P247),
 (310,Tryz.f310,P310),
 (245,Tryz.f245,P245),
 (248,Tryz.f248,P248),
 (311,Tryz.f311,P311),
 (246,Tryz.f246,P246),
 (44,Tryz.f44,P44),
 (96,Tryz.f96,P96),
 (160,Tryz.f160,P160),
 (161,Tryz.f161,P161),
 (249,Tryz.f249,P249),
 (216,Tryz.f216,P216),
 (312,Tryz.f312,P312),
 (162,Tryz.f162,P162),
 (163,Tryz.f163,P163),
 (250,Tryz.f250,P250),
 (251,Tryz.f251,P251),
 (313,Tryz.f313,P313),
 (355,Tryz.f355,P355),
 (342,Tryz.f342,P342),
 (357,Tryz.f357,P357),
 (405,Tryz.f405,P405),
 (406,Tryz.f406,P406),
 (356,Tryz.f356,P356),
 (404,Tryz.f404,P404),
 (440,Tryz.f440,P440),
 (441,Tryz.f441,P441),
 (442,Tryz.f442,P442),
 (443,Tryz.f443,P443),
 (453,Tryz.f453,P453),
 (452,Tryz.f452,P452),
 (252,Tryz.f252,P252),
 (314,Tryz.f314,P314),
 (358,Tryz.f358,P358),
 (407,Tryz.f407,P407),
 (444,Tryz.f444,P444),
 (445,Tryz.f445,P445),
 (454,Tryz.f454,P454),
 (217,Tryz.f217,P217),
 (455,Tryz.f455,P455),
 (97,Tryz.f97,P97),
 (165,Tryz.f165,P165),
 (164,Tryz.f164,P164),
 (166,Tryz.f166,P166),
 (98,Tryz.f98,P98),
 (167,Tryz.f167,P167),
 (253,Tryz.f253,P253),
 (255,Tryz.f255,P255),
 (316,Tryz.f316,P316),
 (361,Tryz.f361,P361),
 (319,Tryz.f319,P319),
 (315,Tryz.f315,P315),
 (359,Tryz.f359,P359),
 (408,Tryz.f408,P408),
 (416,Tryz.f416,P416),
 (360,Tryz.f360,P360),
 (409,Tryz.f409,P409),
 (362,Tryz.f362,P362),
 (321,Tryz.f321,P321),
 (369,Tryz.f369,P369),
 (370,Tryz.f370,P370),
 (322,Tryz.f322,P322),
 (363,Tryz.f363,P363),
 (410,Tryz.f410,P410),
 (364,Tryz.f364,P364),
 (365,Tryz.f365,P365),
 (411,Tryz.f411,P411),
 (412,Tryz.f412,P412),
 (413,Tryz.f413,P413),
 (446,Tryz.f446,P446),
 (456,Tryz.f456,P456),
 (447,Tryz.f447,P447),
 (448,Tryz.f448,P448),
 (414,Tryz.f414,P414),
 (366,Tryz.f366,P366),
 (415,Tryz.f415,P415),
 (368,Tryz.f368,P368),
 (367,Tryz.f367,P367),
 (254,Tryz.f254,P254),
 (317,Tryz.f317,P317),
 (318,Tryz.f318,P318),
 (256,Tryz.f256,P256),
 (320,Tryz.f320,P320),
 (99,Tryz.f99,P99),
 (168,Tryz.f168,P168),
 (257,Tryz.f257,P257),
 (323,Tryz.f323,P323),
 (371,Tryz.f371,P371),
 (417,Tryz.f417,P417),
 (418,Tryz.f418,P418),
 (324,Tryz.f324,P324),
 (373,Tryz.f373,P373),
 (372,Tryz.f372,P372),
 (325,Tryz.f325,P325),
 (374,Tryz.f374,P374),
 (419,Tryz.f419,P419),
 (449,Tryz.f449,P449),
 (376,Tryz.f376,P376),
 (421,Tryz.f421,P421),
 (426,Tryz.f426,P426),
 (423,Tryz.f423,P423),
 (422,Tryz.f422,P422),
 (420,Tryz.f420,P420),
 (377,Tryz.f377,P377),
 (375,Tryz.f375,P375),
 (378,Tryz.f378,P378),
 (169,Tryz.f169,P169),
 (170,Tryz.f170,P170),
 (186,Tryz.f186,P186),
 (50,Tryz.f50,P50),
 (178,Tryz.f178,P178),
 (177,Tryz.f177,P177),
 (258,Tryz.f258,P258),
 (180,Tryz.f180,P180),
 (172,Tryz.f172,P172),
 (182,Tryz.f182,P182),
 (171,Tryz.f171,P171),
 (173,Tryz.f173,P173),
 (174,Tryz.f174,P174),
 (259,Tryz.f259,P259),
 (326,Tryz.f326,P326),
 (379,Tryz.f379,P379),
 (425,Tryz.f425,P425),
 (424,Tryz.f424,P424),
 (450,Tryz.f450,P450),
 (380,Tryz.f380,P380),
 (119,Tryz.f119,Z0),
 (382,Tryz.f382,P382),
 (383,Tryz.f383,P383),
 (428,Tryz.f428,P428),
 (429,Tryz.f429,P429),
 (384,Tryz.f384,P384),
 (430,Tryz.f430,P430),
 (431,Tryz.f431,P431),
 (451,Tryz.f451,P451),
 (133,Tryz.f133,P133),
 (218,Tryz.f218,P218),
 (385,Tryz.f385,P385),
 (381,Tryz.f381,P381),
 (427,Tryz.f427,P427),
 (327,Tryz.f327,P327),
 (328,Tryz.f328,P328),
 (176,Tryz.f176,P176),
 (179,Tryz.f179,P179),
 (184,Tryz.f184,P184),
 (260,Tryz.f260,P260),
 (329,Tryz.f329,P329),
 (330,Tryz.f330,P330),
 (261,Tryz.f261,P261),
 (175,Tryz.f175,P175),
 (181,Tryz.f181,P181),
 (21,Tryz.f21,P21),
 (45,Tryz.f45,P45),
 (100,Tryz.f100,P100),
 (77,Tryz.f77,P77),
 (137,Tryz.f137,Z1),
 (136,Tryz.f136,Z2),
 (219,Tryz.f219,Z3),
 (138,Tryz.f138,Z4),
 (220,Tryz.f220,Z5),
 (139,Tryz.f139,Z6),
 (140,Tryz.f140,Z7),
 (141,Tryz.f141,Z8),
 (142,Tryz.f142,Z9),
 (221,Tryz.f221,Z'),
 (143,Tryz.f143,Z_),
 (212,Tryz.f212,P212),
 (214,Tryz.f214,P214),
 (287,Tryz.f287,P287),
 (183,Tryz.f183,P183),
 (185,Tryz.f185,P185),
 (46,Tryz.f46,P46),
 (101,Tryz.f101,P101),
 (32,Tryz.f32,P32),
 (66,Tryz.f66,P66),
 (114,Tryz.f114,aaa),
 (47,Tryz.f47,P47),
 (102,Tryz.f102,P102),
 (187,Tryz.f187,P187),
 (48,Tryz.f48,P48),
 (103,Tryz.f103,P103),
 (188,Tryz.f188,P188),
 (104,Tryz.f104,P104),
 (189,Tryz.f189,P189),
 (118,Tryz.f118,aab),
 (115,Tryz.f115,aac),
 (199,Tryz.f199,aad),
 (210,Tryz.f210,lj),
 (282,Tryz.f282,aae),
 (283,Tryz.f283,aaf),
 (280,Tryz.f280,aag),
 (284,Tryz.f284,aah),
 (285,Tryz.f285,aai),
 (281,Tryz.f281,aaj),
 (211,Tryz.f211,mq),
 (286,Tryz.f286,aak),
 (22,Tryz.f22,P22),
 (49,Tryz.f49,P49),
 (51,Tryz.f51,P51),
 (52,Tryz.f52,P52),
 (105,Tryz.f105,P105),
 (53,Tryz.f53,P53),
 (106,Tryz.f106,P106),
 (190,Tryz.f190,P190),
 (262,Tryz.f262,P262),
 (331,Tryz.f331,P331),
 (332,Tryz.f332,P332),
 (386,Tryz.f386,P386),
 (432,Tryz.f432,P432),
 (387,Tryz.f387,P387),
 (333,Tryz.f333,P333),
 (343,Tryz.f343,P343),
 (393,Tryz.f393,P393),
 (436,Tryz.f436,P436),
 (394,Tryz.f394,P394),
 (438,Tryz.f438,P438),
 (437,Tryz.f437,P437),
 (388,Tryz.f388,P388),
 (433,Tryz.f433,P433),
 (334,Tryz.f334,P334),
 (389,Tryz.f389,P389),
 (434,Tryz.f434,P434),
 (390,Tryz.f390,P390),
 (107,Tryz.f107,P107),
 (192,Tryz.f192,P192),
 (263,Tryz.f263,P263),
 (335,Tryz.f335,P335),
 (338,Tryz.f338,P338),
 (392,Tryz.f392,P392),
 (435,Tryz.f435,P435),
 (64,Tryz.f64,P64),
 (65,Tryz.f65,P65),
 (116,Tryz.f116,lK),
 (200,Tryz.f200,aal),
 (201,Tryz.f201,aam),
 (202,Tryz.f202,aan),
 (203,Tryz.f203,aao),
 (117,Tryz.f117,ll),
 (204,Tryz.f204,aap),
 (205,Tryz.f205,SF),
 (206,Tryz.f206,Jt),
 (207,Tryz.f207,NJ),
 (208,Tryz.f208,aaq),
 (209,Tryz.f209,aar),
 (391,Tryz.f391,P391),
 (35,Tryz.f35,P35),
 (80,Tryz.f80,P80),
 (82,Tryz.f82,P82),
 (81,Tryz.f81,P81),
 (336,Tryz.f336,P336),
 (34,Tryz.f34,P34),
 (78,Tryz.f78,P78),
 (122,Tryz.f122,P122),
 (79,Tryz.f79,P79),
 (144,Tryz.f144,P144),
 (268,Tryz.f268,P268),
 (191,Tryz.f191,P191),
 (267,Tryz.f267,P267),
 (269,Tryz.f269,P269),
 (341,Tryz.f341,P341),
 (270,Tryz.f270,P270),
 (264,Tryz.f264,P264),
 (337,Tryz.f337,P337),
 (265,Tryz.f265,P265),
 (339,Tryz.f339,P339),
 (340,Tryz.f340,P340),
 (266,Tryz.f266,P266),
 (108,Tryz.f108,P108),
 (193,Tryz.f193,P193),
 (271,Tryz.f271,P271),
 (194,Tryz.f194,P194),
 (272,Tryz.f272,P272),
 (273,Tryz.f273,P273),
 (344,Tryz.f344,P344),
 (395,Tryz.f395,P395),
 (274,Tryz.f274,P274),
 (275,Tryz.f275,P275),
 (54,Tryz.f54,P54),
 (109,Tryz.f109,P109),
 (195,Tryz.f195,P195),
 (276,Tryz.f276,P276),
 (196,Tryz.f196,P196),
 (197,Tryz.f197,P197),
 (277,Tryz.f277,P277),
 (278,Tryz.f278,P278),
 (279,Tryz.f279,P279),
 (198,Tryz.f198,P198),
 (14,Tryz.f14,P14),
 (23,Tryz.f23,P23),
 (56,Tryz.f56,P56),
 (55,Tryz.f55,P55),
 (24,Tryz.f24,P24),
 (57,Tryz.f57,P57),
 (58,Tryz.f58,P58),
 (110,Tryz.f110,P110),
 (5,Tryz.f5,P5),
 (15,Tryz.f15,P15),
 (6,Tryz.f6,P6),
 (60,Tryz.f60,P60),
 (111,Tryz.f111,SG),
 (112,Tryz.f112,Ju),
 (61,Tryz.f61,P61),
 (7,Tryz.f7,P7),
 (25,Tryz.f25,Jv),
 (8,Tryz.f8,P8),
 (16,Tryz.f16,P16),
 (30,Tryz.f30,P30),
 (63,Tryz.f63,P63),
 (31,Tryz.f31,P31),
 (33,Tryz.f33,P33),
 (67,Tryz.f67,P67),
 (120,Tryz.f120,aas),
 (68,Tryz.f68,P68),
 (62,Tryz.f62,P62),
 (113,Tryz.f113,Jw),
 (121,Tryz.f121,aat),
 (69,Tryz.f69,P69),
 (70,Tryz.f70,P70),
 (123,Tryz.f123,aau),
 (71,Tryz.f71,P71),
 (124,Tryz.f124,aav),
 (125,Tryz.f125,aaw),
 (213,Tryz.f213,P213),
 (126,Tryz.f126,aax),
 (132,Tryz.f132,P132),
 (215,Tryz.f215,aay),
 (130,Tryz.f130,aaz),
 (72,Tryz.f72,P72),
 (127,Tryz.f127,aaA),
 (73,Tryz.f73,P73),
 (128,Tryz.f128,aaB),
 (74,Tryz.f74,P74),
 (129,Tryz.f129,P129),
 (131,Tryz.f131,aaC),
 (75,Tryz.f75,P75),
 (134,Tryz.f134,aaD),
 (76,Tryz.f76,P76),
 (135,Tryz.f135,nj),
 (11,Tryz.f11,P11),
 (27,Tryz.f27,P27),
 (26,Tryz.f26,P26),
 (10,Tryz.f10,P10),
 (29,Tryz.f29,P29),
 (28,Tryz.f28,P28),
 (9,Tryz.f9,P9),
 (12,Tryz.f12,P12)]
open Go Go.RowKit
def rq:List (Nat × Func × List (Nat × af))->Bool
 | []=>true
 | x::l=>bif Nat.ble x.2.1.ntmps 16777215 then bif (x.2.1.name == "runtime.NumGoroutine") then false else match x.2.1.body with
  | some c=>bif cf x.2.2 c then rq l else false
  | none=>rq l else false
theorem Aa:∀ {l:List (Nat × Func × List (Nat × af))},rq l=true->∀ f F,(f,F)∈l->F.1.ntmps<=16777215/\(F.1.name == "runtime.NumGoroutine")=false/\∀ c,F.1.body=some c->cf F.2 c=true
 | [],_,f,F,h=>absurd h List.not_mem_nil
 | x::l,hc,f,F,h=>by
  unfold rq at hc
  replace hc:=cj hc
  obtain⟨h1,hc⟩:=hc
  have h2:(x.2.1.name == "runtime.NumGoroutine")=false:=by
   cases he:x.2.1.name == "runtime.NumGoroutine" with
   | true=>rw[he] at hc; cases hc
   | false=>rfl
  rw[h2] at hc
  replace hc:(match x.2.1.body with
  | some c=>bif cf x.2.2 c then rq l else false
  | none=>rq l)=true:=hc
  have h3:(∀ c,x.2.1.body=some c->cf x.2.2 c=true)/\rq l=true:=by
   cases hb:x.2.1.body with
   | none=>rw[hb] at hc; exact⟨(fun c e=>by cases e),hc⟩
   | some c=>rw[hb] at hc; exact⟨fun c' e=>by cases e; exact (cj hc).1,(cj hc).2⟩
  rcases List.mem_cons.1 h with e|h
  ·subst e
   exact⟨Nat.le_of_ble_eq_true h1,h2,h3.1⟩
  ·exact Aa h3.2 f F h
set_option maxRecDepth 100000
theorem NT:rq cfs=true:=by kernel_rfl
theorem NU:cfs.map (fun x=>(x.1,x.2.1))=Ev.fns:=by kernel_rfl
def lp (l:List UInt8):PV:=.val (.string ⟨⟨l⟩⟩)
def NV:List UInt8:=[48,49,50,51,52,53,54,55,56,57]
noncomputable def CC:ib:={ cx:=gT.cx,jl:=gT.jl,bt:=gT.bt,fns:=cfs,grow:=[(427,121,11)],rL:=[(345,[([lp NV,.lit .u8 49],.lit .i64 1)])] }
def tS:Value:=.agg #[.int .i64 0,.int .i64 0,.int .i64 0,.int .i64 0,.int .i64 0,.int .i64 0,.int .i64 0,.int .i64 0,.int .i64 0,.int .i64 0,.int .i64 0]
set_option maxHeartbeats 4000000 in
set_option maxRecDepth 100000 in
theorem Fs (n:Nat) (h0:0 < n) (hbig:n*88<=140737488355328) (w:World):Calls Tryz.prog 427 #[.slice none 0 0,.int .i64 n] w fun e w' =>
  ∃ (cs:Array Value),cs.size=grownCap w n 0 121*11/\e = .returned (.slice (some ⟨w.heap.size,0,none⟩) 0 (grownCap w n 0 121))/\w'=w.drew.alloc (.cells cs 121):=by
 have h1:¬ ((n:Int) < 0):=by omega
 have h3:wrap64 (n:Int)=n:=by unfold wrap64; omega
 have h4:(n:Int) > 0:=by omega
 obtain⟨i0,hi0,Yv,QM,gE⟩:∃ i,Tryz.prog.info? 121=some i/\i.zero=some tS/\i.size=11/\i.bytes=88:=⟨Tryz.t121,by kernel_rfl,by kernel_rfl,by kernel_rfl,by kernel_rfl⟩
 have hrz:∀ ty,(Builtin.append_ #[231,3] ty #[.slice none 0 0,.int .i64 n]).run Tryz.prog w =
   .ok (.slice (some ⟨w.heap.size,0,none⟩) n (grownCap w n 0 121)) (w.drew.alloc (.cells (#[]++Builtin.zeroCells tS.cells n++Builtin.zeroCells tS.cells (grownCap w n 0 121 - n)) 121)):=fun ty=>by
  have h:=Lib.run_append_grow_zeros w 231 3 ty 121 i0 tS .i64 .i64 Tryz.underlying231 Tryz.underlying3 hi0 Yv none 0 0 [] (run_firstCells_none w.drew i0.size 0 0 0) n h0 (by omega) (by omega) (by omega)
   (by rw[gE]; omega) (by rw[Nat.zero_add]; exact growslice_fits h0 (by rw[gE]; exact hbig))
  rw[Nat.zero_add] at h
  exact h
 obtain⟨C,hC⟩:∃ C,C = #[]++Builtin.zeroCells tS.cells n++Builtin.zeroCells tS.cells (grownCap w n 0 121 - n):=⟨_,rfl⟩
 have hGn:n<=grownCap w n 0 121:=grownCap_ge w _ _ _
 have hCs:C.size=grownCap w n 0 121*11:=by
  rw[hC]
  simp only[Array.size_append,size_zeroCells,List.size_toArray,List.length_nil,Nat.zero_add]
  rw[show tS.cells.size=11 from rfl,← Nat.add_mul,Nat.add_sub_cancel' hGn]
 rw[← hC] at hrz
 clear hC
 obtain⟨G,hG⟩:∃ G,G=grownCap w n 0 121:=⟨_,rfl⟩
 have hG63:G<=9223372036854775807:=by
  have:=grownCap_le_maxLen w n 0 121 (by unfold maxLen; omega)
  rw[← hG] at this
  unfold maxLen at this
  omega
 rw[← hG] at hrz hGn hCs ⊢
 clear hG hi0 Yv QM gE
 go_enter Tryz.func427,Tryz.ntmps427
 go_wp2_with (at_builtin; refine Lib.wpList_append_run _ rfl _ _ _ _ rfl _ _ rfl rfl _ _ (hrz _) ?_)
 all_goals (go_ret; exact⟨C,hCs,rfl,rfl⟩)
theorem JD (k:Nat) (S:List aj) (hk:k<=1000000):Spec gT 427 [.nil,.lit .i64 (.ofNat (k+1))] S [] fun r S'=>r = .wref S.length/\S'=S++[⟨.arr,121,11,.w,true,[]⟩]:=by
 refine Spec.intro (Ev.gi (P:=gT.cx.P) Tryz.func427 rfl (by kernel_rfl)) fun I β w vals hH hM hA=>?_
 match vals,hA with
 | [v,u],hA =>
  simp only[bg,PV.Is,and_true] at hA
  obtain⟨rfl,rfl⟩:=hA
  refine (Fs (k+1) (Nat.succ_pos k) (by omega) w).mono ?_
  rintro e w' ⟨cs,fj,rfl,rfl⟩
  have MK:aC I β S w.drew:=hH.iS rfl
  have hcm:grownCap w (k+1) 0 121<=maxLen:=grownCap_le_maxLen w (k+1) 0 121 (by unfold maxLen; omega)
  obtain⟨G,hG⟩:∃ G,G=grownCap w (k+1) 0 121:=⟨_,rfl⟩
  rw[← hG] at fj hcm ⊢
  have hI:∀ g,I g->g < w.drew.heap.size:=hM.au
  obtain⟨SK,hE⟩:=mH (vs:=cs) (t:=121) MK hI (b:=⟨.arr,121,11,.w,true,[]⟩) (p:=⟨some (w.heap.size,0),0,G⟩) rfl (fun ho =>
   ⟨_,an.dy ..,w.heap.size,cs,(0,0),rfl,Ev.kb w.drew _,(fun j c hc=>by simp at hc),ho,(Nat.zero_mul _).symm,Nat.zero_le _,hcm,fj,(by show 0 < 11; decide)⟩) rfl
  have kj:β.set S.length ⟨some (w.heap.size,0),0,G⟩ S.length=some ⟨some (w.heap.size,0),0,G⟩:=an.dy ..
  refine⟨_,.wref S.length,S++[⟨.arr,121,11,.w,true,[]⟩],I,β.set S.length ⟨some (w.heap.size,0),0,G⟩,rfl,⟨rfl,rfl⟩,(by simp only[PV.Is]; exact⟨_,kj,rfl⟩),SK,?_,(show Ext I β S w I β S w.drew from Ext.iS rfl rfl rfl rfl).trans hE,by simp,fun l hl _=>if_neg (by omega)⟩
  exact hM.below ⟨rfl,rfl,rfl,by simp,fun g hg=>Ev.ot w.drew _ g hg⟩
 | [],hA=>simp only[bg] at hA
 | [_],hA=>simp only[bg,and_false] at hA
 | _::_::_::_,hA=>simp only[bg,and_false] at hA
theorem idx49:Lib.indexByte NV ((49:Int).toNat.toUInt8)=1:=by kernel_rfl
theorem JE:Jg gT 345 [lp NV,.lit .u8 49] (.lit .i64 1):=fun I β w vals h=>by
 match vals,h with
 | [v,u],h =>
  simp only[bg,lp,PV.Is,and_true] at h
  obtain⟨⟨rfl,_⟩,rfl⟩:=h
  refine⟨.int .i64 1,?_,by simp only[PV.Is]⟩
  rw[run_callFunc_extern (show gT.cx.P.funcs[345]?=some _ from Tryz.func345) (by kernel_rfl) (by kernel_rfl) (by kernel_rfl) (e:=Go.Extern.BytealgIndexByte.indexByte) (by kernel_rfl),Lib.run_indexByteString]
  have e:∀ z:Int,Lib.indexByte NV ((49:Int).toNat.toUInt8)=z->Result.ok (Next.value (.int .i64 z)) w=(Result.ok (Next.value (.int .i64 1)) w:Result Next):=fun z hz=>by rw[← hz,idx49]
  rw[Result.andThen_ok]
  generalize hz:Lib.indexByte _ _=z
  exact e z hz
 | [],h=>simp only[bg] at h
 | [_],h=>simp only[bg,and_false] at h
 | _::_::_::_,h=>simp only[bg,and_false] at h
theorem ccP:CC.cx.P=Tryz.prog:=rfl
theorem SL {f:FuncId} {fn:Func} (h:(f,fn)∈Ev.fns):CC.cx.P.funcs[f]?=some fn:=by
 rw[ccP]
 exact Ev.II (f,fn) h
theorem nW:COk CC where
 g:=aA
 fns:=fun f F (h:(f,F)∈cfs)=>by
  obtain⟨h1,h2,h3⟩:=Aa NT f F h
  refine⟨?_,h1,h2,h3⟩
  have h4:=List.mem_map_of_mem (f:=fun x:Nat × Func × List (Nat × af)=>(x.1,x.2.1)) h
  rw[NU] at h4
  exact SL h4
 rL:=fun f l h p hp=>by
  have h2:=List.mem_singleton.1 h
  cases h2
  obtain rfl:=List.mem_singleton.1 hp
  exact .inr JE
 grow:=fun f e z h k S hk=>by
  have h2:=List.mem_singleton.1 h
  cases h2
  exact JD k S hk
end Go.Proofs.YtbnoodjnpooocaaGreatDoor.Pw
