/- What this claim is proved with: no condition. -/
import Derived.Test.YtlgkljpgagfndaaGreatDoorNs14
import Derived.WalkKit
import Derived.Lib.Walk
import Derived.Lib.SliceRun
import Derived.Lib.AppendZerosOnto
import Derived.Test.YtlgkljpgagfndaaGreatDoorNsImmD
set_option maxRecDepth 100000
set_option maxHeartbeats 8000000
set_option linter.unusedVariables false
set_option linter.unusedSimpArgs false
namespace Go.Proofs.YtlgkljpgagfndaaGreatDoor.Pw
open Go Go.RowKit
structure VO where
 kind:Int
 t0:Int
 t1:Int
 f0:Int
 f1:Int
 f2:Int
 f3:Int
 n:Int
def voL (o:VO):List PV:=[.int .i64 o.kind,.int .i64 o.t0,.int .i64 o.t1,.int .i64 o.f0,.int .i64 o.f1,.int .i64 o.f2,.int .i64 o.f3,.int .u32 o.n]
def vn (o:VO):PV:=.agg (voL o)
def oB (o:VO):ak:=⟨.loc,26,1,.w,true,voL o⟩
def ck (l:List Int):List PV:=l.map (PV.int .i64)
def nm (l:List Int):List Int:=l.filter fun r=>decide (r≠-1)
def VO.to (o:VO):List Int:=[o.t0,o.t1]
def VO.from_ (o:VO):List Int:=[o.f0,o.f1,o.f2,o.f3]
theorem fM (x:Int) (l:List Int):nm (x::l)=if x = -1 then nm l else x::nm l:=by
 unfold nm
 by_cases h:x = -1<;>simp[h]
theorem h_:nm [] = []:=rfl
theorem EK (o:VO):Spec gT 94 [.ref 0 1 2] [oB o] [] fun r S'=>r = .sl 1 (ck (nm o.to))/\S' = [oB o]:=by
 refine Spec.iJ (Spec.enter an JF 100 Tryz.func94 rfl (by kernel_rfl) ?_)
 refine SW.rounds an JF (by kernel_rfl) (N:=60) 3 ?_
 repeat' ((conv=>whnf); first|(refine (And.intro (fun _=>?_) (fun _=>?_):(_->_)/\(_->_))<;>(first|(exfalso; first|contradiction|omega)|skip))|refine Or.inl (And.intro (by first|exact av (by omega)|exact af (by omega)|exact aP (by omega)|exact bb (by omega)) ?_)|(refine And.intro (show (_:Int)≠0 by omega) (Or.inl (And.intro (show (0:Int)<=_ by omega) (And.intro (show (0:Int) < _ by omega) ?_))))|(refine And.intro (show (_:Int)≠0 by omega) (Or.inl (And.intro (show (0:Int)<=_ by omega) (And.intro (by first|exact (show (_:Int)<=9223372036854775807 by omega)|exact (show (_:Int)<=4294967295 by omega)) (And.intro (show (0:Int) < _ by omega) ?_)))))|(refine a_ ?_ (by repeat' first|exact trivial|exact rfl|exact Iff.rfl|exact Or.inl rfl|refine And.intro ?_ ?_); show _=_; (try simp only[Classical.not_not] at *); simp only[VO.to,fM,h_, *,if_true,if_false]; rfl)|(intro _))
theorem w7 (o:VO):Spec gT 94 [.ref 0 3 4] [oB o] [] fun r S'=>r = .sl 1 (ck (nm o.from_))/\S' = [oB o]:=by
 refine Spec.iJ (Spec.enter an JF 100 Tryz.func94 rfl (by kernel_rfl) ?_)
 refine SW.rounds an JF (by kernel_rfl) (N:=60) 5 ?_
 repeat' ((conv=>whnf); first|(refine (And.intro (fun _=>?_) (fun _=>?_):(_->_)/\(_->_))<;>(first|(exfalso; first|contradiction|omega)|skip))|refine Or.inl (And.intro (by first|exact av (by omega)|exact af (by omega)|exact aP (by omega)|exact bb (by omega)) ?_)|(refine And.intro (show (_:Int)≠0 by omega) (Or.inl (And.intro (show (0:Int)<=_ by omega) (And.intro (show (0:Int) < _ by omega) ?_))))|(refine And.intro (show (_:Int)≠0 by omega) (Or.inl (And.intro (show (0:Int)<=_ by omega) (And.intro (by first|exact (show (_:Int)<=9223372036854775807 by omega)|exact (show (_:Int)<=4294967295 by omega)) (And.intro (show (0:Int) < _ by omega) ?_)))))|(refine a_ ?_ (by repeat' first|exact trivial|exact rfl|exact Iff.rfl|exact Or.inl rfl|refine And.intro ?_ ?_); show _=_; (try simp only[Classical.not_not] at *); simp only[VO.from_,fM,h_, *,if_true,if_false]; rfl)|(intro _))
theorem Ar (o:VO):ai gT 57 [vn o] (.sl 1 (ck (nm o.from_))):=by
 refine Spec.enter an Zm 100 Tryz.func57 rfl (by kernel_rfl) ?_
 refine⟨[],br,(w7 o).mono ?_⟩
 rintro r S' ⟨rfl,rfl⟩
 exact rA
theorem qX (o:VO):ai gT 58 [vn o] (.sl 1 (ck (nm o.to))):=by
 refine Spec.enter an P58 100 Tryz.func58 rfl (by kernel_rfl) ?_
 refine⟨[],br,(EK o).mono ?_⟩
 rintro r S' ⟨rfl,rfl⟩
 exact rA
theorem bD (k:Int):ai gT 54 [.int .i64 k] (.bool (1<=k/\k<=31)):=by
 refine Spec.enter an P54 100 Tryz.func54 rfl (by kernel_rfl) ?_
 repeat' ((conv=>whnf); first|(refine (And.intro (fun _=>?_) (fun _=>?_):(_->_)/\(_->_))<;>(first|(exfalso; first|contradiction|omega)|skip))|refine Or.inl (And.intro (by first|exact av (by omega)|exact af (by omega)|exact aP (by omega)|exact bb (by omega)) ?_)|(refine And.intro (show (_:Int)≠0 by omega) (Or.inl (And.intro (show (0:Int)<=_ by omega) (And.intro (show (0:Int) < _ by omega) ?_))))|(refine And.intro (show (_:Int)≠0 by omega) (Or.inl (And.intro (show (0:Int)<=_ by omega) (And.intro (by first|exact (show (_:Int)<=9223372036854775807 by omega)|exact (show (_:Int)<=4294967295 by omega)) (And.intro (show (0:Int) < _ by omega) ?_)))))|(refine aD ?_; show ¬ _; omega)|(refine aD ?_; show _↔_; omega)|(intro _))
def dv (k n:Int):Prop:=k=1\/((k=2\/k=3\/k=4)/\n % 4=0/\n<=1020)\/((k=18\/k=19\/k=20)/\1<=n/\n<=31)\/(k=30/\((1<=n/\n<=255)\/(n % 4=0/\255 < n/\n<=1024)))\/(¬ (1<=k/\k<=4)/\¬ (18<=k/\k<=20)/\k≠30/\n=0)
theorem mr (k n:Int) (hn:0<=n/\n<=4294967295):ai gT 56 [.int .i64 k,.int .u32 n] (.bool (dv k n)):=by
 refine Spec.enter an P56 100 Tryz.func56 rfl (by kernel_rfl) ?_
 unfold dv
 repeat' ((conv=>whnf); first|(refine (And.intro (fun _=>?_) (fun _=>?_):(_->_)/\(_->_))<;>(first|(exfalso; first|contradiction|omega)|skip))|refine Or.inl (And.intro (by first|exact av (by omega)|exact af (by omega)|exact aP (by omega)|exact bb (by omega)) ?_)|(refine And.intro (show (_:Int)≠0 by omega) (Or.inl (And.intro (show (0:Int)<=_ by omega) (And.intro (show (0:Int) < _ by omega) ?_))))|(refine And.intro (show (_:Int)≠0 by omega) (Or.inl (And.intro (show (0:Int)<=_ by omega) (And.intro (by first|exact (show (_:Int)<=9223372036854775807 by omega)|exact (show (_:Int)<=4294967295 by omega)) (And.intro (show (0:Int) < _ by omega) ?_)))))|(refine aD ?_; show ¬ _; omega)|(refine aD ?_; (show dv _ _); unfold dv; omega)|(refine aD ?_; show _↔_; omega)|(intro _))
def dR (i n r:Int):Prop:=(i < n->0<=r/\r<=65535)/\(¬ i < n->r = -1)
theorem As (o:VO) (n:Int):Spec gT 55 [.ref 0 1 2,.int .i64 n] [oB o] [] fun r S'=>r = .bool (dR 0 n o.t0/\dR 1 n o.t1)/\S' = [oB o]:=by
 refine Spec.iJ (Spec.enter an Vu 100 Tryz.func55 rfl (by kernel_rfl) ?_)
 refine SW.rounds an Vu (by kernel_rfl) (N:=60) 3 ?_
 repeat' ((conv=>whnf); first|(refine (And.intro (fun _=>?_) (fun _=>?_):(_->_)/\(_->_))<;>(first|(exfalso; first|contradiction|omega)|skip))|refine Or.inl (And.intro (by first|exact av (by omega)|exact af (by omega)|exact aP (by omega)|exact bb (by omega)) ?_)|(refine And.intro (show (_:Int)≠0 by omega) (Or.inl (And.intro (show (0:Int)<=_ by omega) (And.intro (show (0:Int) < _ by omega) ?_))))|(refine And.intro (show (_:Int)≠0 by omega) (Or.inl (And.intro (show (0:Int)<=_ by omega) (And.intro (by first|exact (show (_:Int)<=9223372036854775807 by omega)|exact (show (_:Int)<=4294967295 by omega)) (And.intro (show (0:Int) < _ by omega) ?_)))))|(refine a_ ?_ (by repeat' first|exact trivial|exact rfl|exact Iff.rfl|exact Or.inl rfl|refine And.intro ?_ ?_); (show dR _ _ _/\dR _ _ _); (try simp only[Classical.not_not,yY,KZ,K0,K1,K2,K3,K4,K5,K6,wu,wv] at *); unfold dR; omega)|(refine a_ ?_ (by repeat' first|exact trivial|exact rfl|exact Iff.rfl|exact Or.inl rfl|refine And.intro ?_ ?_); show ¬ _; (try simp only[Classical.not_not,yY,KZ,K0,K1,K2,K3,K4,K5,K6,wu,wv] at *); unfold dR; omega)|(intro _))
theorem uZ (o:VO) (n:Int):Spec gT 55 [.ref 0 3 4,.int .i64 n] [oB o] [] fun r S'=>r = .bool (dR 0 n o.f0/\dR 1 n o.f1/\dR 2 n o.f2/\dR 3 n o.f3)/\S' = [oB o]:=by
 refine Spec.iJ (Spec.enter an Vu 100 Tryz.func55 rfl (by kernel_rfl) ?_)
 refine SW.rounds an Vu (by kernel_rfl) (N:=60) 5 ?_
 repeat' ((conv=>whnf); first|(refine (And.intro (fun _=>?_) (fun _=>?_):(_->_)/\(_->_))<;>(first|(exfalso; first|contradiction|omega)|skip))|refine Or.inl (And.intro (by first|exact av (by omega)|exact af (by omega)|exact aP (by omega)|exact bb (by omega)) ?_)|(refine And.intro (show (_:Int)≠0 by omega) (Or.inl (And.intro (show (0:Int)<=_ by omega) (And.intro (show (0:Int) < _ by omega) ?_))))|(refine And.intro (show (_:Int)≠0 by omega) (Or.inl (And.intro (show (0:Int)<=_ by omega) (And.intro (by first|exact (show (_:Int)<=9223372036854775807 by omega)|exact (show (_:Int)<=4294967295 by omega)) (And.intro (show (0:Int) < _ by omega) ?_)))))|(refine a_ ?_ (by repeat' first|exact trivial|exact rfl|exact Iff.rfl|exact Or.inl rfl|refine And.intro ?_ ?_); (show dR _ _ _/\dR _ _ _/\dR _ _ _/\dR _ _ _); (try simp only[Classical.not_not,yY,KZ,K0,K1,K2,K3,K4,K5,K6,wu,wv] at *); unfold dR; omega)|(refine a_ ?_ (by repeat' first|exact trivial|exact rfl|exact Iff.rfl|exact Or.inl rfl|refine And.intro ?_ ?_); show ¬ _; (try simp only[Classical.not_not,yY,KZ,K0,K1,K2,K3,K4,K5,K6,wu,wv] at *); unfold dR; omega)|(intro _))
theorem EL {o:VO} {f:FuncId} {args bx:List PV} {r0:PV} {st:List ak} {K:PV->List ak->Prop} (h:Spec gT f bx [oB o] [] fun r S'=>r=r0/\S' = [oB o]) (hle:lN jj args bx) (hu:(dB bx).all (fun l=>Nat.blt l 1)=true) (Ca:r0.cR.all (fun l=>Nat.blt l 1)=true)
  (hK:Ck st [oB o] fun T=>rN [oB o] fun S1=>vW S1 T (K r0)):Spec gT f args st [] K:=Spec.rV h rfl rfl hu Ca hle hK
def Yn:List Int:=[0,1,1,0,1,1,0,1,1,1,1,1,1,1,1,1,1,1,1,1,1,1,1,2,2,1,2,1,1,1,0,0]
def Qh:List Int:=[0,0,0,1,0,2,3,2,2,2,2,2,2,2,2,2,1,1,1,1,1,2,2,4,4,4,2,1,2,3,1,1]
def cF (k:Int):Int:=if 1<=k/\k<=31 then Yn.getD k.toNat 0 else 0
def aM (k:Int):Int:=if 1<=k/\k<=31 then Qh.getD k.toNat 0 else 0
theorem kinds {k:Int} (h:1<=k/\k<=31):k=1\/k=2\/k=3\/k=4\/k=5\/k=6\/k=7\/k=8\/k=9\/k=10\/k=11\/k=12\/k=13\/k=14\/k=15\/k=16\/k=17\/k=18\/k=19\/k=20\/k=21\/k=22\/k=23\/k=24\/k=25\/k=26\/k=27\/k=28\/k=29\/k=30\/k=31:=by omega
theorem Qi:ai gT 53 [.int .i64 1] (.agg [.int .i64 (cF 1),.int .i64 (aM 1)]):=by
 refine Spec.enter an ku 100 Tryz.func53 rfl (by kernel_rfl) ?_
 refine (bD _).u ?_
 refine⟨fun h=>absurd (show (1:Int)<=1/\(1:Int)<=31 by decide) h,fun _=>?_⟩
 refine⟨by decide,by decide,.inl ⟨1,rfl,?_⟩⟩
 exact rA
theorem Qj:ai gT 53 [.int .i64 2] (.agg [.int .i64 (cF 2),.int .i64 (aM 2)]):=by
 refine Spec.enter an ku 100 Tryz.func53 rfl (by kernel_rfl) ?_
 refine (bD _).u ?_
 refine⟨fun h=>absurd (show (1:Int)<=2/\(2:Int)<=31 by decide) h,fun _=>?_⟩
 refine⟨by decide,by decide,.inl ⟨2,rfl,?_⟩⟩
 exact rA
theorem Qk:ai gT 53 [.int .i64 3] (.agg [.int .i64 (cF 3),.int .i64 (aM 3)]):=by
 refine Spec.enter an ku 100 Tryz.func53 rfl (by kernel_rfl) ?_
 refine (bD _).u ?_
 refine⟨fun h=>absurd (show (1:Int)<=3/\(3:Int)<=31 by decide) h,fun _=>?_⟩
 refine⟨by decide,by decide,.inl ⟨3,rfl,?_⟩⟩
 exact rA
theorem Ql:ai gT 53 [.int .i64 4] (.agg [.int .i64 (cF 4),.int .i64 (aM 4)]):=by
 refine Spec.enter an ku 100 Tryz.func53 rfl (by kernel_rfl) ?_
 refine (bD _).u ?_
 refine⟨fun h=>absurd (show (1:Int)<=4/\(4:Int)<=31 by decide) h,fun _=>?_⟩
 refine⟨by decide,by decide,.inl ⟨4,rfl,?_⟩⟩
 exact rA
theorem Qm:ai gT 53 [.int .i64 5] (.agg [.int .i64 (cF 5),.int .i64 (aM 5)]):=by
 refine Spec.enter an ku 100 Tryz.func53 rfl (by kernel_rfl) ?_
 refine (bD _).u ?_
 refine⟨fun h=>absurd (show (1:Int)<=5/\(5:Int)<=31 by decide) h,fun _=>?_⟩
 refine⟨by decide,by decide,.inl ⟨5,rfl,?_⟩⟩
 exact rA
theorem Qn:ai gT 53 [.int .i64 6] (.agg [.int .i64 (cF 6),.int .i64 (aM 6)]):=by
 refine Spec.enter an ku 100 Tryz.func53 rfl (by kernel_rfl) ?_
 refine (bD _).u ?_
 refine⟨fun h=>absurd (show (1:Int)<=6/\(6:Int)<=31 by decide) h,fun _=>?_⟩
 refine⟨by decide,by decide,.inl ⟨6,rfl,?_⟩⟩
 exact rA
theorem Qo:ai gT 53 [.int .i64 7] (.agg [.int .i64 (cF 7),.int .i64 (aM 7)]):=by
 refine Spec.enter an ku 100 Tryz.func53 rfl (by kernel_rfl) ?_
 refine (bD _).u ?_
 refine⟨fun h=>absurd (show (1:Int)<=7/\(7:Int)<=31 by decide) h,fun _=>?_⟩
 refine⟨by decide,by decide,.inl ⟨7,rfl,?_⟩⟩
 exact rA
theorem Qp:ai gT 53 [.int .i64 8] (.agg [.int .i64 (cF 8),.int .i64 (aM 8)]):=by
 refine Spec.enter an ku 100 Tryz.func53 rfl (by kernel_rfl) ?_
 refine (bD _).u ?_
 refine⟨fun h=>absurd (show (1:Int)<=8/\(8:Int)<=31 by decide) h,fun _=>?_⟩
 refine⟨by decide,by decide,.inl ⟨8,rfl,?_⟩⟩
 exact rA
theorem Qq:ai gT 53 [.int .i64 9] (.agg [.int .i64 (cF 9),.int .i64 (aM 9)]):=by
 refine Spec.enter an ku 100 Tryz.func53 rfl (by kernel_rfl) ?_
 refine (bD _).u ?_
 refine⟨fun h=>absurd (show (1:Int)<=9/\(9:Int)<=31 by decide) h,fun _=>?_⟩
 refine⟨by decide,by decide,.inl ⟨9,rfl,?_⟩⟩
 exact rA
theorem IE:ai gT 53 [.int .i64 10] (.agg [.int .i64 (cF 10),.int .i64 (aM 10)]):=by
 refine Spec.enter an ku 100 Tryz.func53 rfl (by kernel_rfl) ?_
 refine (bD _).u ?_
 refine⟨fun h=>absurd (show (1:Int)<=10/\(10:Int)<=31 by decide) h,fun _=>?_⟩
 refine⟨by decide,by decide,.inl ⟨10,rfl,?_⟩⟩
 exact rA
theorem IF:ai gT 53 [.int .i64 11] (.agg [.int .i64 (cF 11),.int .i64 (aM 11)]):=by
 refine Spec.enter an ku 100 Tryz.func53 rfl (by kernel_rfl) ?_
 refine (bD _).u ?_
 refine⟨fun h=>absurd (show (1:Int)<=11/\(11:Int)<=31 by decide) h,fun _=>?_⟩
 refine⟨by decide,by decide,.inl ⟨11,rfl,?_⟩⟩
 exact rA
theorem IG:ai gT 53 [.int .i64 12] (.agg [.int .i64 (cF 12),.int .i64 (aM 12)]):=by
 refine Spec.enter an ku 100 Tryz.func53 rfl (by kernel_rfl) ?_
 refine (bD _).u ?_
 refine⟨fun h=>absurd (show (1:Int)<=12/\(12:Int)<=31 by decide) h,fun _=>?_⟩
 refine⟨by decide,by decide,.inl ⟨12,rfl,?_⟩⟩
 exact rA
theorem IH:ai gT 53 [.int .i64 13] (.agg [.int .i64 (cF 13),.int .i64 (aM 13)]):=by
 refine Spec.enter an ku 100 Tryz.func53 rfl (by kernel_rfl) ?_
 refine (bD _).u ?_
 refine⟨fun h=>absurd (show (1:Int)<=13/\(13:Int)<=31 by decide) h,fun _=>?_⟩
 refine⟨by decide,by decide,.inl ⟨13,rfl,?_⟩⟩
 exact rA
theorem II:ai gT 53 [.int .i64 14] (.agg [.int .i64 (cF 14),.int .i64 (aM 14)]):=by
 refine Spec.enter an ku 100 Tryz.func53 rfl (by kernel_rfl) ?_
 refine (bD _).u ?_
 refine⟨fun h=>absurd (show (1:Int)<=14/\(14:Int)<=31 by decide) h,fun _=>?_⟩
 refine⟨by decide,by decide,.inl ⟨14,rfl,?_⟩⟩
 exact rA
theorem IJ:ai gT 53 [.int .i64 15] (.agg [.int .i64 (cF 15),.int .i64 (aM 15)]):=by
 refine Spec.enter an ku 100 Tryz.func53 rfl (by kernel_rfl) ?_
 refine (bD _).u ?_
 refine⟨fun h=>absurd (show (1:Int)<=15/\(15:Int)<=31 by decide) h,fun _=>?_⟩
 refine⟨by decide,by decide,.inl ⟨15,rfl,?_⟩⟩
 exact rA
theorem IK:ai gT 53 [.int .i64 16] (.agg [.int .i64 (cF 16),.int .i64 (aM 16)]):=by
 refine Spec.enter an ku 100 Tryz.func53 rfl (by kernel_rfl) ?_
 refine (bD _).u ?_
 refine⟨fun h=>absurd (show (1:Int)<=16/\(16:Int)<=31 by decide) h,fun _=>?_⟩
 refine⟨by decide,by decide,.inl ⟨16,rfl,?_⟩⟩
 exact rA
theorem IL:ai gT 53 [.int .i64 17] (.agg [.int .i64 (cF 17),.int .i64 (aM 17)]):=by
 refine Spec.enter an ku 100 Tryz.func53 rfl (by kernel_rfl) ?_
 refine (bD _).u ?_
 refine⟨fun h=>absurd (show (1:Int)<=17/\(17:Int)<=31 by decide) h,fun _=>?_⟩
 refine⟨by decide,by decide,.inl ⟨17,rfl,?_⟩⟩
 exact rA
theorem IM:ai gT 53 [.int .i64 18] (.agg [.int .i64 (cF 18),.int .i64 (aM 18)]):=by
 refine Spec.enter an ku 100 Tryz.func53 rfl (by kernel_rfl) ?_
 refine (bD _).u ?_
 refine⟨fun h=>absurd (show (1:Int)<=18/\(18:Int)<=31 by decide) h,fun _=>?_⟩
 refine⟨by decide,by decide,.inl ⟨18,rfl,?_⟩⟩
 exact rA
theorem IP:ai gT 53 [.int .i64 19] (.agg [.int .i64 (cF 19),.int .i64 (aM 19)]):=by
 refine Spec.enter an ku 100 Tryz.func53 rfl (by kernel_rfl) ?_
 refine (bD _).u ?_
 refine⟨fun h=>absurd (show (1:Int)<=19/\(19:Int)<=31 by decide) h,fun _=>?_⟩
 refine⟨by decide,by decide,.inl ⟨19,rfl,?_⟩⟩
 exact rA
theorem IQ:ai gT 53 [.int .i64 20] (.agg [.int .i64 (cF 20),.int .i64 (aM 20)]):=by
 refine Spec.enter an ku 100 Tryz.func53 rfl (by kernel_rfl) ?_
 refine (bD _).u ?_
 refine⟨fun h=>absurd (show (1:Int)<=20/\(20:Int)<=31 by decide) h,fun _=>?_⟩
 refine⟨by decide,by decide,.inl ⟨20,rfl,?_⟩⟩
 exact rA
theorem IS:ai gT 53 [.int .i64 21] (.agg [.int .i64 (cF 21),.int .i64 (aM 21)]):=by
 refine Spec.enter an ku 100 Tryz.func53 rfl (by kernel_rfl) ?_
 refine (bD _).u ?_
 refine⟨fun h=>absurd (show (1:Int)<=21/\(21:Int)<=31 by decide) h,fun _=>?_⟩
 refine⟨by decide,by decide,.inl ⟨21,rfl,?_⟩⟩
 exact rA
theorem IT:ai gT 53 [.int .i64 22] (.agg [.int .i64 (cF 22),.int .i64 (aM 22)]):=by
 refine Spec.enter an ku 100 Tryz.func53 rfl (by kernel_rfl) ?_
 refine (bD _).u ?_
 refine⟨fun h=>absurd (show (1:Int)<=22/\(22:Int)<=31 by decide) h,fun _=>?_⟩
 refine⟨by decide,by decide,.inl ⟨22,rfl,?_⟩⟩
 exact rA
theorem IU:ai gT 53 [.int .i64 23] (.agg [.int .i64 (cF 23),.int .i64 (aM 23)]):=by
 refine Spec.enter an ku 100 Tryz.func53 rfl (by kernel_rfl) ?_
 refine (bD _).u ?_
 refine⟨fun h=>absurd (show (1:Int)<=23/\(23:Int)<=31 by decide) h,fun _=>?_⟩
 refine⟨by decide,by decide,.inl ⟨23,rfl,?_⟩⟩
 exact rA
theorem IV:ai gT 53 [.int .i64 24] (.agg [.int .i64 (cF 24),.int .i64 (aM 24)]):=by
 refine Spec.enter an ku 100 Tryz.func53 rfl (by kernel_rfl) ?_
 refine (bD _).u ?_
 refine⟨fun h=>absurd (show (1:Int)<=24/\(24:Int)<=31 by decide) h,fun _=>?_⟩
 refine⟨by decide,by decide,.inl ⟨24,rfl,?_⟩⟩
 exact rA
theorem IW:ai gT 53 [.int .i64 25] (.agg [.int .i64 (cF 25),.int .i64 (aM 25)]):=by
 refine Spec.enter an ku 100 Tryz.func53 rfl (by kernel_rfl) ?_
 refine (bD _).u ?_
 refine⟨fun h=>absurd (show (1:Int)<=25/\(25:Int)<=31 by decide) h,fun _=>?_⟩
 refine⟨by decide,by decide,.inl ⟨25,rfl,?_⟩⟩
 exact rA
theorem IX:ai gT 53 [.int .i64 26] (.agg [.int .i64 (cF 26),.int .i64 (aM 26)]):=by
 refine Spec.enter an ku 100 Tryz.func53 rfl (by kernel_rfl) ?_
 refine (bD _).u ?_
 refine⟨fun h=>absurd (show (1:Int)<=26/\(26:Int)<=31 by decide) h,fun _=>?_⟩
 refine⟨by decide,by decide,.inl ⟨26,rfl,?_⟩⟩
 exact rA
theorem IY:ai gT 53 [.int .i64 27] (.agg [.int .i64 (cF 27),.int .i64 (aM 27)]):=by
 refine Spec.enter an ku 100 Tryz.func53 rfl (by kernel_rfl) ?_
 refine (bD _).u ?_
 refine⟨fun h=>absurd (show (1:Int)<=27/\(27:Int)<=31 by decide) h,fun _=>?_⟩
 refine⟨by decide,by decide,.inl ⟨27,rfl,?_⟩⟩
 exact rA
theorem IZ:ai gT 53 [.int .i64 28] (.agg [.int .i64 (cF 28),.int .i64 (aM 28)]):=by
 refine Spec.enter an ku 100 Tryz.func53 rfl (by kernel_rfl) ?_
 refine (bD _).u ?_
 refine⟨fun h=>absurd (show (1:Int)<=28/\(28:Int)<=31 by decide) h,fun _=>?_⟩
 refine⟨by decide,by decide,.inl ⟨28,rfl,?_⟩⟩
 exact rA
theorem I1:ai gT 53 [.int .i64 29] (.agg [.int .i64 (cF 29),.int .i64 (aM 29)]):=by
 refine Spec.enter an ku 100 Tryz.func53 rfl (by kernel_rfl) ?_
 refine (bD _).u ?_
 refine⟨fun h=>absurd (show (1:Int)<=29/\(29:Int)<=31 by decide) h,fun _=>?_⟩
 refine⟨by decide,by decide,.inl ⟨29,rfl,?_⟩⟩
 exact rA
theorem I4:ai gT 53 [.int .i64 30] (.agg [.int .i64 (cF 30),.int .i64 (aM 30)]):=by
 refine Spec.enter an ku 100 Tryz.func53 rfl (by kernel_rfl) ?_
 refine (bD _).u ?_
 refine⟨fun h=>absurd (show (1:Int)<=30/\(30:Int)<=31 by decide) h,fun _=>?_⟩
 refine⟨by decide,by decide,.inl ⟨30,rfl,?_⟩⟩
 exact rA
theorem I5:ai gT 53 [.int .i64 31] (.agg [.int .i64 (cF 31),.int .i64 (aM 31)]):=by
 refine Spec.enter an ku 100 Tryz.func53 rfl (by kernel_rfl) ?_
 refine (bD _).u ?_
 refine⟨fun h=>absurd (show (1:Int)<=31/\(31:Int)<=31 by decide) h,fun _=>?_⟩
 refine⟨by decide,by decide,.inl ⟨31,rfl,?_⟩⟩
 exact rA
theorem I6 (k:Int) (h:¬ (1<=k/\k<=31)):ai gT 53 [.int .i64 k] (.agg [.int .i64 (cF k),.int .i64 (aM k)]):=by
 have e1:cF k=0:=if_neg h
 have e2:aM k=0:=if_neg h
 rw[e1,e2]
 refine Spec.enter an ku 100 Tryz.func53 rfl (by kernel_rfl) ?_
 refine (bD _).u ?_
 refine⟨fun _=>?_,fun h'=>absurd h h'⟩
 exact rA
theorem At (k:Int):ai gT 53 [.int .i64 k] (.agg [.int .i64 (cF k),.int .i64 (aM k)]):=by
 by_cases h:1<=k/\k<=31
 ·rcases kinds h with rfl|rfl|rfl|rfl|rfl|rfl|rfl|rfl|rfl|rfl|rfl|rfl|rfl|rfl|rfl|rfl|rfl|rfl|rfl|rfl|rfl|rfl|rfl|rfl|rfl|rfl|rfl|rfl|rfl|rfl|rfl
  ·exact Qi
  ·exact Qj
  ·exact Qk
  ·exact Ql
  ·exact Qm
  ·exact Qn
  ·exact Qo
  ·exact Qp
  ·exact Qq
  ·exact IE
  ·exact IF
  ·exact IG
  ·exact IH
  ·exact II
  ·exact IJ
  ·exact IK
  ·exact IL
  ·exact IM
  ·exact IP
  ·exact IQ
  ·exact IS
  ·exact IT
  ·exact IU
  ·exact IV
  ·exact IW
  ·exact IX
  ·exact IY
  ·exact IZ
  ·exact I1
  ·exact I4
  ·exact I5
  
 ·exact I6 k h
def bg (o:VO):Prop:=(1<=o.kind/\o.kind<=31)/\(dR 0 (cF o.kind) o.t0/\dR 1 (cF o.kind) o.t1)/\(dR 0 (aM o.kind) o.f0/\dR 1 (aM o.kind) o.f1/\dR 2 (aM o.kind) o.f2/\dR 3 (aM o.kind) o.f3)/\(cF o.kind < 2\/o.t0≠o.t1)/\dv o.kind o.n
theorem u1 (o:VO) (hn:0<=o.n/\o.n<=4294967295):ai gT 25 [vn o] (.bool (bg o)):=by
 refine Spec.enter an P25 100 Tryz.func25 rfl (by kernel_rfl) ?_
 refine (At o.kind).u ?_
 refine (bD o.kind).u ?_
 refine⟨fun h1=>?_,fun h1=>?_⟩
 ·refine⟨[],br,EL (As o (cF o.kind)) (by repeat' first|exact trivial|exact rfl|exact Iff.rfl|exact Or.inl rfl|refine And.intro ?_ ?_) rfl rfl (And.intro (by repeat' first|exact trivial|exact rfl|exact Iff.rfl|exact Or.inl rfl|refine And.intro ?_ ?_) ?_)⟩
  refine⟨fun h2=>?_,fun h2=>?_⟩
  ·refine⟨[],br,EL (uZ o (aM o.kind)) (by repeat' first|exact trivial|exact rfl|exact Iff.rfl|exact Or.inl rfl|refine And.intro ?_ ?_) rfl rfl (And.intro (by repeat' first|exact trivial|exact rfl|exact Iff.rfl|exact Or.inl rfl|refine And.intro ?_ ?_) ?_)⟩
   refine⟨fun h3=>?_,fun h3=>?_⟩
   ·refine⟨fun h4=>?_,fun h4=>?_⟩
    ·refine (mr o.kind o.n hn).u ?_
     refine aD ?_
     exact (show dv o.kind o.n↔bg o from ⟨fun h=>⟨h1,h2,h3,.inl h4,h⟩,fun h=>h.2.2.2.2⟩)
    ·refine⟨fun h5=>?_,fun h5=>?_⟩
     ·refine (mr o.kind o.n hn).u ?_
      refine aD ?_
      exact (show dv o.kind o.n↔bg o from ⟨fun h=>⟨h1,h2,h3,.inr h5,h⟩,fun h=>h.2.2.2.2⟩)
     ·refine aD ?_
      exact (show ¬ bg o from fun h=>h.2.2.2.1.elim h4 h5)
   ·refine aD ?_
    exact (show ¬ bg o from fun h=>h3 h.2.2.1)
  ·refine aD ?_
   exact (show ¬ bg o from fun h=>h2 h.2.1)
 ·refine aD ?_
  exact (show ¬ bg o from fun h=>h1 h.1)
open Classical in
noncomputable def jT {α:Type} (p:α->Prop):List α->Nat->Int
 | [],_=>-1
 | x::l,i=>if p x then (i:Int) else jT p l (i+1)
theorem pD {α:Type} {p:α->Prop}:∀ {l:List α} {i:Nat},0<=jT p l i↔∃ x∈l,p x
 | [],i=>by simp[jT]
 | x::l,i=>by
  rw[jT]
  by_cases h:p x
  ·rw[if_pos h]
   exact⟨fun _=>⟨x,by simp,h⟩,fun _=>by omega⟩
  ·rw[if_neg h,pD (l:=l)]
   refine⟨fun ⟨y,hy,hp⟩=>⟨y,by simp[hy],hp⟩,fun ⟨y,hy,hp⟩=>?_⟩
   rcases List.mem_cons.1 hy with rfl|hy
   ·exact absurd hp h
   ·exact⟨y,hy,hp⟩
theorem kk {α:Type} {p:α->Prop} {l:List α} {i:Nat} {x:α} (h:l[i]?=some x):(p x->jT p (l.drop i) i=i)/\(¬ p x->jT p (l.drop i) i=jT p (l.drop (i+1)) (i+1)):=by
 obtain⟨cz,hx⟩:=List.getElem?_eq_some_iff.1 h
 rw[List.drop_eq_getElem_cons cz,hx,jT]
 exact⟨fun h=>if_pos h,fun h=>if_neg h⟩
theorem u3 {α:Type} {p:α->Prop} {l:List α} {i:Nat} (h:l.length<=i):jT p (l.drop i) i = -1:=by rw[List.drop_of_length_le h]; rfl
theorem w8 (l:List Int) (x:Int):ai gT 96 [.sl 1 (ck l),.int .i64 x] (.int .i64 (jT (x = ·) l 0)):=by
 refine Spec.enter an Zn 100 Tryz.func96 rfl (by kernel_rfl) ?_
 intro hm
 obtain⟨z,hz⟩:∃ z,z=jT (x = ·) l 0:=⟨_,rfl⟩
 rw[← hz]
 refine SW.xJ an Zn (by kernel_rfl) (α:={i:Nat // jT (x = ·) (l.drop i) i=z}) (fun i=>[(8,.int .i64 i.1)]) (fun i=>l.length - i.1) ⟨0,hz.symm⟩ 60 ?_ ?_
 ·repeat' first|exact trivial|exact rfl|refine And.intro ?_ ?_
 rintro⟨i,hi⟩
 have el:(ck l).length=l.length:=List.length_map ..
 refine⟨fun h=>?_,fun h=>?_⟩
 ·have h':(i:Int) < ((ck l).length:Nat):=h
  refine⟨Int,l,PV.int .i64,rfl,show (0:Int)<=(i:Int) by omega,show (i:Int) < (l.length:Int) by omega,fun y hy=>?_⟩
  have yR:l[i]?=some y:=hy
  refine⟨fun he=>?_,fun he=>?_⟩
  ·refine aD ?_
   exact (show (i:Int)=z by rw[← hi,(kk yR).1 he])
  ·unfold maxLen at hm
   refine .inl ⟨av (show _<=(i:Int)+1/\(i:Int)+1<=_ by omega),⟨⟨i+1,by rw[← hi,(kk yR).2 he]⟩,show l.length - (i+1) < l.length - i by omega,?_⟩⟩
   repeat' first|exact trivial|exact rfl|refine And.intro ?_ ?_
 ·have h':¬ (i:Int) < ((ck l).length:Nat):=h
  refine aD ?_
  exact (show (-1:Int)=z by rw[← hi,u3 (by omega)])
theorem qa (l:List Int) (x:Int):ai gT 61 [.sl 1 (ck l),.int .i64 x] (.bool (x∈l)):=by
 refine Spec.enter an P61 100 Tryz.func61 rfl (by kernel_rfl) ?_
 refine (w8 l x).u ?_
 refine aD ?_
 exact (show 0<=jT (x = ·) l 0↔x∈l by rw[pD]; exact⟨fun ⟨y,hy,e⟩=>e ▸ hy,fun h=>⟨x,h,rfl⟩⟩)
theorem u4 (o:VO) (x:Int):Spec gT 60 [.int .i64 x,.ptr 0 0] [oB o] [] fun r S'=>r = .bool (x∈nm o.from_)/\S' = [oB o]:=by
 refine Spec.iJ (Spec.enter an P60 100 Tryz.func60 rfl (by kernel_rfl) ?_)
 refine (Ar o).u ?_
 refine (qa _ x).u ?_
 exact a_ Iff.rfl (by repeat' first|exact trivial|exact rfl|exact Iff.rfl|exact Or.inl rfl|refine And.intro ?_ ?_)
theorem u5 (o:VO) (l:List Int):Spec gT 95 [.sl 1 (ck l),.clo 60 [.ptr 0 0]] [oB o] [] fun r S'=>r = .int .i64 (jT (·∈nm o.from_) l 0)/\S' = [oB o]:=by
 refine Spec.iJ (Spec.enter an Zo 100 Tryz.func95 rfl (by kernel_rfl) ?_)
 intro hm
 obtain⟨z,hz⟩:∃ z,z=jT (·∈nm o.from_) l 0:=⟨_,rfl⟩
 rw[← hz]
 refine SW.xJ an Zo (by kernel_rfl) (α:={i:Nat // jT (·∈nm o.from_) (l.drop i) i=z}) (fun i=>[(8,.int .i64 i.1)]) (fun i=>l.length - i.1) ⟨0,hz.symm⟩ 60 ?_ ?_
 ·repeat' first|exact trivial|exact rfl|refine And.intro ?_ ?_
 rintro⟨i,hi⟩
 have el:(ck l).length=l.length:=List.length_map ..
 refine⟨fun h=>?_,fun h=>?_⟩
 ·have h':(i:Int) < ((ck l).length:Nat):=h
  refine⟨Int,l,PV.int .i64,rfl,show (0:Int)<=(i:Int) by omega,show (i:Int) < (l.length:Int) by omega,fun y hy=>?_⟩
  have yR:l[i]?=some y:=hy
  refine⟨[],br,EL (u4 o y) (by repeat' first|exact trivial|exact rfl|exact Iff.rfl|exact Or.inl rfl|refine And.intro ?_ ?_) rfl rfl (And.intro (by repeat' first|exact trivial|exact rfl|exact Iff.rfl|exact Or.inl rfl|refine And.intro ?_ ?_) ?_)⟩
  refine⟨fun he=>?_,fun he=>?_⟩
  ·refine a_ ?_ (by repeat' first|exact trivial|exact rfl|exact Iff.rfl|exact Or.inl rfl|refine And.intro ?_ ?_)
   exact (show (i:Int)=z by rw[← hi,(kk yR).1 he])
  ·unfold maxLen at hm
   refine .inl ⟨av (show _<=(i:Int)+1/\(i:Int)+1<=_ by omega),⟨⟨i+1,by rw[← hi,(kk yR).2 he]⟩,show l.length - (i+1) < l.length - i by omega,?_⟩⟩
   repeat' first|exact trivial|exact rfl|refine And.intro ?_ ?_
 ·have h':¬ (i:Int) < ((ck l).length:Nat):=h
  refine a_ ?_ (by repeat' first|exact trivial|exact rfl|exact Iff.rfl|exact Or.inl rfl|refine And.intro ?_ ?_)
  exact (show (-1:Int)=z by rw[← hi,u3 (by omega)])
theorem pE (o:VO) (l:List Int):Spec gT 59 [.sl 1 (ck l),.clo 60 [.ptr 0 0]] [oB o] [] fun r S'=>r = .bool (∃ x∈l,x∈nm o.from_)/\S' = [oB o]:=by
 refine Spec.iJ (Spec.enter an P59 100 Tryz.func59 rfl (by kernel_rfl) ?_)
 refine⟨[],br,EL (u5 o l) (by repeat' first|exact trivial|exact rfl|exact Iff.rfl|exact Or.inl rfl|refine And.intro ?_ ?_) rfl rfl (And.intro (by repeat' first|exact trivial|exact rfl|exact Iff.rfl|exact Or.inl rfl|refine And.intro ?_ ?_) ?_)⟩
 refine a_ ?_ (by repeat' first|exact trivial|exact rfl|exact Iff.rfl|exact Or.inl rfl|refine And.intro ?_ ?_)
 exact (show 0<=jT (·∈nm o.from_) l 0↔_ from pD)
def dI (cs:List PV):ak:=⟨.dyn,3,1,.w,true,cs⟩
theorem I7 (o:VO):Spec gT 94 [.ref 0 1 2] [oB o] [] fun r S'=>r = .wref 1/\S' = [oB o,dI (ck (nm o.to))]:=by
 refine Spec.jB an JF 100 Tryz.func94 rfl (by kernel_rfl) ?_
 refine SW.rounds an JF (by kernel_rfl) (N:=60) 3 ?_
 repeat' ((conv=>whnf); first|(refine (And.intro (fun _=>?_) (fun _=>?_):(_->_)/\(_->_))<;>(first|(exfalso; first|contradiction|omega)|skip))|refine Or.inl (And.intro (by first|exact av (by omega)|exact af (by omega)|exact aP (by omega)|exact bb (by omega)) ?_)|(refine And.intro (show (_:Int)≠0 by omega) (Or.inl (And.intro (show (0:Int)<=_ by omega) (And.intro (show (0:Int) < _ by omega) ?_))))|(refine And.intro (show (_:Int)≠0 by omega) (Or.inl (And.intro (show (0:Int)<=_ by omega) (And.intro (by first|exact (show (_:Int)<=9223372036854775807 by omega)|exact (show (_:Int)<=4294967295 by omega)) (And.intro (show (0:Int) < _ by omega) ?_)))))|(refine Exists.intro [some 0,some 2] (Exists.intro [(2,.wref 1)] (Exists.intro [oB o,dI (ck (nm o.to))] (And.intro ?_ (And.intro (Nat.le_of_ble_eq_true rfl) (And.intro rfl rfl))))); (repeat' first|exact trivial|exact rfl|refine And.intro ?_ ?_); show _=_; (try simp only[Classical.not_not] at *); simp only[VO.to,fM,h_, *,if_true,if_false]; rfl)|(refine Exists.intro [some 0,some 4] (Exists.intro [(2,.wref 1)] (Exists.intro [oB o,dI (ck (nm o.to))] (And.intro ?_ (And.intro (Nat.le_of_ble_eq_true rfl) (And.intro rfl rfl))))); (repeat' first|exact trivial|exact rfl|refine And.intro ?_ ?_); show _=_; (try simp only[Classical.not_not] at *); simp only[VO.to,fM,h_, *,if_true,if_false]; rfl)|((try simp only[Classical.not_not] at *); (rw[show nm o.to = [] by simp only[VO.to,fM,h_, *,if_true,if_false]]); refine Exists.intro [some 0,none] (Exists.intro [(2,.wref 1)] (Exists.intro [oB o,dI []] (And.intro ?_ (And.intro (Nat.le_of_ble_eq_true rfl) (And.intro rfl rfl))))); (repeat' first|exact trivial|exact rfl|refine And.intro ?_ ?_))|(intro _))
theorem pF (o:VO):Spec gT 94 [.ref 0 3 4] [oB o] [] fun r S'=>r = .wref 1/\S' = [oB o,dI (ck (nm o.from_))]:=by
 refine Spec.jB an JF 100 Tryz.func94 rfl (by kernel_rfl) ?_
 refine SW.rounds an JF (by kernel_rfl) (N:=60) 5 ?_
 repeat' ((conv=>whnf); first|(refine (And.intro (fun _=>?_) (fun _=>?_):(_->_)/\(_->_))<;>(first|(exfalso; first|contradiction|omega)|skip))|refine Or.inl (And.intro (by first|exact av (by omega)|exact af (by omega)|exact aP (by omega)|exact bb (by omega)) ?_)|(refine And.intro (show (_:Int)≠0 by omega) (Or.inl (And.intro (show (0:Int)<=_ by omega) (And.intro (show (0:Int) < _ by omega) ?_))))|(refine And.intro (show (_:Int)≠0 by omega) (Or.inl (And.intro (show (0:Int)<=_ by omega) (And.intro (by first|exact (show (_:Int)<=9223372036854775807 by omega)|exact (show (_:Int)<=4294967295 by omega)) (And.intro (show (0:Int) < _ by omega) ?_)))))|(refine Exists.intro [some 0,some 2] (Exists.intro [(2,.wref 1)] (Exists.intro [oB o,dI (ck (nm o.from_))] (And.intro ?_ (And.intro (Nat.le_of_ble_eq_true rfl) (And.intro rfl rfl))))); (repeat' first|exact trivial|exact rfl|refine And.intro ?_ ?_); show _=_; (try simp only[Classical.not_not] at *); simp only[VO.from_,fM,h_, *,if_true,if_false]; rfl)|(refine Exists.intro [some 0,some 4] (Exists.intro [(2,.wref 1)] (Exists.intro [oB o,dI (ck (nm o.from_))] (And.intro ?_ (And.intro (Nat.le_of_ble_eq_true rfl) (And.intro rfl rfl))))); (repeat' first|exact trivial|exact rfl|refine And.intro ?_ ?_); show _=_; (try simp only[Classical.not_not] at *); simp only[VO.from_,fM,h_, *,if_true,if_false]; rfl)|(refine Exists.intro [some 0,some 6] (Exists.intro [(2,.wref 1)] (Exists.intro [oB o,dI (ck (nm o.from_))] (And.intro ?_ (And.intro (Nat.le_of_ble_eq_true rfl) (And.intro rfl rfl))))); (repeat' first|exact trivial|exact rfl|refine And.intro ?_ ?_); show _=_; (try simp only[Classical.not_not] at *); simp only[VO.from_,fM,h_, *,if_true,if_false]; rfl)|(refine Exists.intro [some 0,some 8] (Exists.intro [(2,.wref 1)] (Exists.intro [oB o,dI (ck (nm o.from_))] (And.intro ?_ (And.intro (Nat.le_of_ble_eq_true rfl) (And.intro rfl rfl))))); (repeat' first|exact trivial|exact rfl|refine And.intro ?_ ?_); show _=_; (try simp only[Classical.not_not] at *); simp only[VO.from_,fM,h_, *,if_true,if_false]; rfl)|((try simp only[Classical.not_not] at *); (rw[show nm o.from_ = [] by simp only[VO.from_,fM,h_, *,if_true,if_false]]); refine Exists.intro [some 0,none] (Exists.intro [(2,.wref 1)] (Exists.intro [oB o,dI []] (And.intro ?_ (And.intro (Nat.le_of_ble_eq_true rfl) (And.intro rfl rfl))))); (repeat' first|exact trivial|exact rfl|refine And.intro ?_ ?_))|(intro _))
theorem EM (o:VO):Spec gT 57 [vn o] [] [] fun r S'=>r = .wref 0/\S' = [dI (ck (nm o.from_))]:=by
 refine Spec.jB an Zm 100 Tryz.func57 rfl (by kernel_rfl) ?_
 refine⟨[],br,(pF o).mono ?_⟩
 rintro r S' ⟨rfl,rfl⟩
 refine Exists.intro [some 1] (Exists.intro [(2,.wref 0)] (Exists.intro [dI (ck (nm o.from_))] (And.intro ?_ (And.intro (Nat.le_of_ble_eq_true rfl) (And.intro rfl rfl)))))
 repeat' first|exact trivial|exact rfl|refine And.intro ?_ ?_
def fu (o:VO):Prop:=(∀ x∈nm o.from_++nm o.to,x < 8)/\¬ ∃ x∈nm o.to,x∈nm o.from_
theorem EN (l:List Int):(nm l).length<=l.length:=List.length_filter_le ..
theorem u6 (o:VO):ai gT 26 [vn o] (.bool (fu o)):=by
 have l1:(ck (nm o.from_)).length<=4:=by rw[ck,List.length_map]; exact EN _
 have l2:(ck (nm o.to)).length<=2:=by rw[ck,List.length_map]; exact EN _
 refine Spec.enter an Zl 100 Tryz.func26 rfl (by kernel_rfl) ?_
 refine⟨[],br,(EM o).Cp rfl rfl rfl (by repeat' first|exact trivial|exact rfl|exact Iff.rfl|exact Or.inl rfl|refine And.intro ?_ ?_) rfl ?_⟩
 refine (qX o).u ?_
 have l3:(ck (nm o.from_)++ck (nm o.to)).length=(nm o.from_++nm o.to).length:=by simp[ck]
 have l4:(nm o.from_++nm o.to).length<=6:=by rw[← l3,List.length_append]; omega
 have e3:ck (nm o.from_)++ck (nm o.to)=(nm o.from_++nm o.to).map (PV.int .i64):=by simp[ck]
 refine⟨show (ck (nm o.from_)).length+(ck (nm o.to)).length<=maxLen by unfold maxLen; omega,show ((ck (nm o.from_)).length+(ck (nm o.to)).length)*8<=140737488355328 by omega,?_⟩
 intro _
 refine SW.xJ an Zl (by kernel_rfl) (α:={i:Nat // ∀ x∈(nm o.from_++nm o.to).take i,x < 8}) (fun i=>[(11,.int .i64 i.1)]) (fun i=>(nm o.from_++nm o.to).length - i.1) ⟨0,by simp⟩ 60 ?_ ?_
 ·repeat' first|exact trivial|exact rfl|refine And.intro ?_ ?_
 rintro⟨i,hi⟩
 refine⟨fun h=>?_,fun h=>?_⟩
 ·have h':(i:Int) < ((ck (nm o.from_)++ck (nm o.to)).length:Nat):=h
  refine⟨show (0:Int)<=(i:Int) by omega,show (i:Int) < ((ck (nm o.from_)++ck (nm o.to)).length:Nat) by omega,Int,nm o.from_++nm o.to,PV.int .i64,e3,show (i:Int).toNat < (nm o.from_++nm o.to).length by omega,fun x hx=>?_⟩
  have qn:(nm o.from_++nm o.to)[i]?=some x:=hx
  refine⟨fun h8=>?_,fun h8=>?_⟩
  ·refine aD ?_
   exact (show ¬ fu o from fun hs=>by have:=hs.1 x (List.mem_of_getElem? qn); omega)
  ·refine .inl ⟨av (show _<=(i:Int)+1/\(i:Int)+1<=_ by omega),⟨⟨i+1,fun y hy=>?_⟩,show (nm o.from_++nm o.to).length - (i+1) < (nm o.from_++nm o.to).length - i by omega,?_⟩⟩
   ·rw[List.take_add_one,qn,List.mem_append] at hy
    rcases hy with hy|hy
    ·exact hi y hy
    ·simp at hy; subst hy; omega
   ·repeat' first|exact trivial|exact rfl|refine And.intro ?_ ?_
 ·have h':¬ (i:Int) < ((ck (nm o.from_)++ck (nm o.to)).length:Nat):=h
  rw[List.take_of_length_le (by omega)] at hi
  refine (qX o).u ?_
  refine⟨[],br,EL (pE o (nm o.to)) (by repeat' first|exact trivial|exact rfl|exact Iff.rfl|exact Or.inl rfl|refine And.intro ?_ ?_) rfl rfl (And.intro (by repeat' first|exact trivial|exact rfl|exact Iff.rfl|exact Or.inl rfl|refine And.intro ?_ ?_) ?_)⟩
  refine aD ?_
  exact (show (¬ ∃ x∈nm o.to,x∈nm o.from_)↔fu o from ⟨fun h=>⟨hi,h⟩,fun h=>h.2⟩)
def pG:Value:=.agg #[.int .i64 0,.int .i64 0,.int .i64 0,.int .i64 0,.int .i64 0,.int .i64 0,.int .i64 0,.int .i64 0,.int .i64 0,.int .i64 0,.int .i64 0]
theorem Au (w:World):Calls Tryz.prog 62 #[.slice none 0 0,.int .i64 0] w fun e w'=>e = .returned (.slice none 0 0)/\w'=w:=by
 go_enter Tryz.func62,Tryz.ntmps62
 go_wp2
 go_ret
 exact⟨rfl,rfl⟩
theorem Av (n:Nat) (h0:0 < n) (Qr:n*88<=140737488355328) (w:World):Calls Tryz.prog 62 #[.slice none 0 0,.int .i64 n] w fun e w' =>
  ∃ (cs:Array Value),cs.size=grownCap w n 0 75*11/\e = .returned (.slice (some ⟨w.heap.size,0,none⟩) 0 (grownCap w n 0 75))/\w'=w.drew.alloc (.cells cs 75):=by
 have h1:¬ ((n:Int) < 0):=by omega
 have h3:wrap64 (n:Int)=n:=by unfold wrap64; omega
 have h4:(n:Int) > 0:=by omega
 obtain⟨i0,Wl,QD,KI,fw⟩:∃ i,Tryz.prog.info? 75=some i/\i.zero=some pG/\i.size=11/\i.bytes=88:=⟨Tryz.t75,by kernel_rfl,by kernel_rfl,by kernel_rfl,by kernel_rfl⟩
 have Yo:∀ ty,(Builtin.append_ #[32,3] ty #[.slice none 0 0,.int .i64 n]).run Tryz.prog w =
   .ok (.slice (some ⟨w.heap.size,0,none⟩) n (grownCap w n 0 75)) (w.drew.alloc (.cells (#[]++Builtin.zeroCells pG.cells n++Builtin.zeroCells pG.cells (grownCap w n 0 75 - n)) 75)):=fun ty=>by
  have h:=Lib.run_append_grow_zeros w 32 3 ty 75 i0 pG .i64 .i64 Tryz.underlying32 Tryz.underlying3 Wl QD none 0 0 [] (run_firstCells_none w.drew i0.size 0 0 0) n h0 (by omega) (by omega) (by omega)
   (by rw[fw]; omega) (by rw[Nat.zero_add]; exact growslice_fits h0 (by rw[fw]; exact Qr))
  rw[Nat.zero_add] at h
  exact h
 obtain⟨C,hC⟩:∃ C,C = #[]++Builtin.zeroCells pG.cells n++Builtin.zeroCells pG.cells (grownCap w n 0 75 - n):=⟨_,rfl⟩
 have hGn:n<=grownCap w n 0 75:=grownCap_ge w _ _ _
 have hCs:C.size=grownCap w n 0 75*11:=by
  rw[hC]
  simp only[Array.size_append,size_zeroCells,List.size_toArray,List.length_nil,Nat.zero_add]
  rw[show pG.cells.size=11 from rfl,← Nat.add_mul,Nat.add_sub_cancel' hGn]
 rw[← hC] at Yo
 clear hC
 obtain⟨G,hG⟩:∃ G,G=grownCap w n 0 75:=⟨_,rfl⟩
 have hG63:G<=9223372036854775807:=by
  have:=grownCap_le_maxLen w n 0 75 (by unfold maxLen; omega)
  rw[← hG] at this
  unfold maxLen at this
  omega
 rw[← hG] at Yo hGn hCs ⊢
 clear hG Wl QD KI fw
 go_enter Tryz.func62,Tryz.ntmps62
 go_wp2_with (at_builtin; refine Lib.wpList_append_run _ rfl _ _ _ _ rfl _ _ rfl rfl _ _ (Yo _) ?_)
 all_goals (go_ret; exact⟨C,hCs,rfl,rfl⟩)
def QV (cs:List PV):ak:=⟨.dyn,75,11,.w,true,cs⟩
theorem EO (n:Nat) (Qr:n*88<=140737488355328):Spec gT 62 [.nil,.int .i64 n] [] [] fun r S'=>r = .wref 0/\S' = [QV []]:=by
 refine Spec.intro (fI Tryz.func62 rfl (by kernel_rfl)) fun I β w bw hH hM hA=>?_
 obtain⟨v,u,rfl,h1,h2⟩:=XN hA
 simp only[PV.Is] at h1 h2
 subst h1; subst h2
 rcases Nat.eq_zero_or_pos n with rfl|h0
 ·refine (Au w).mono ?_
  rintro e w' ⟨rfl,rfl⟩
  have KP:=hH.add (w':=w') (b:=QV []) (p:=⟨none,0,0⟩) (fun _ _=>rfl) (fun g o ha=>by cases ha) ⟨_,aB.c8 ..,⟨by decide,rfl,Nat.le_refl _,Nat.zero_le _⟩,.inl ⟨rfl,rfl⟩⟩
  exact⟨_,.wref 0,[QV []],I,_,rfl,⟨rfl,rfl⟩,(by simp only[PV.Is]; exact⟨_,aB.c8 ..,rfl⟩),KP,hM,Ext.add hH rfl rfl rfl (Nat.le_refl _) (fun _ _ _=>rfl) (fun g o ha=>by cases ha),Nat.zero_le _,fun l hl=>absurd hl (Nat.not_lt_zero _)⟩
 ·refine (Av n h0 Qr w).mono ?_
  rintro e w' ⟨cs,gb,rfl,rfl⟩
  have Fj:aN I β [] w.drew:=hH.jv rfl
  have hcm:grownCap w n 0 75<=maxLen:=grownCap_le_maxLen w n 0 75 (by unfold maxLen; omega)
  obtain⟨G,hG⟩:∃ G,G=grownCap w n 0 75:=⟨_,rfl⟩
  rw[← hG] at gb hcm ⊢
  have hI:∀ g,I g->g < w.drew.heap.size:=hM.az
  obtain⟨hA1,hE⟩:=jZ (vs:=cs) (t:=75) Fj hI (b:=QV []) (p:=⟨some (w.heap.size,0),0,G⟩) rfl (fun ho =>
   ⟨_,aB.c8 ..,⟨by decide,rfl,Nat.zero_le _,hcm⟩,.inr ⟨w.heap.size,cs,(0,0),rfl,Ev.jm w.drew _,(by simp only[QV,cl]),ho,gb⟩⟩) rfl
  refine⟨_,.wref 0,[QV []],I,_,rfl,⟨rfl,rfl⟩,(by simp only[PV.Is]; exact⟨_,aB.c8 ..,rfl⟩),hA1,?_,(show Ext I β [] w I β [] w.drew from Ext.jv rfl rfl rfl rfl).trans hE,Nat.zero_le _,fun l hl=>absurd hl (Nat.not_lt_zero _)⟩
  exact hM.below ⟨rfl,rfl,rfl,by simp,fun g hg=>Ev.og w.drew _ g hg⟩
theorem u7 (a b c d:List IN) (h:a.length+b.length+c.length+d.length<=1000000):ai gT 29 [.sl 1 [.sl 11 (bI a),.sl 11 (bI b),.sl 11 (bI c),.sl 11 (bI d)]] (.sl 11 (bI (a++b++c++d))):=by
 have ha:(bI a).length=a.length:=List.length_map ..
 have hb:(bI b).length=b.length:=List.length_map ..
 have hc:(bI c).length=c.length:=List.length_map ..
 have hd:(bI d).length=d.length:=List.length_map ..
 refine Spec.enter an W0 100 Tryz.func29 rfl (by kernel_rfl) ?_
 intro _
 refine SW.rounds an W0 (by kernel_rfl) (N:=60) 5 ?_
 refine⟨fun _=>?_,fun h=>absurd (show (0:Int) < 4 by decide) h⟩
 refine⟨PV,[.sl 11 (bI a),.sl 11 (bI b),.sl 11 (bI c),.sl 11 (bI d)],id,rfl,by decide,show (_:Int) < 4 by decide,fun x hx=>?_⟩
 obtain rfl:PV.sl 11 (bI a)=x:=Option.some.inj hx
 intro _
 refine li ?_
 refine⟨fun h=>absurd h (by omega),fun _=>?_⟩
 refine⟨fun _=>?_,fun h=>absurd (show (1:Int) < 4 by decide) h⟩
 refine⟨PV,[.sl 11 (bI a),.sl 11 (bI b),.sl 11 (bI c),.sl 11 (bI d)],id,rfl,by decide,show (_:Int) < 4 by decide,fun x hx=>?_⟩
 obtain rfl:PV.sl 11 (bI b)=x:=Option.some.inj hx
 intro _
 refine li ?_
 refine⟨fun h=>absurd h (by omega),fun _=>?_⟩
 refine⟨fun _=>?_,fun h=>absurd (show (2:Int) < 4 by decide) h⟩
 refine⟨PV,[.sl 11 (bI a),.sl 11 (bI b),.sl 11 (bI c),.sl 11 (bI d)],id,rfl,by decide,show (_:Int) < 4 by decide,fun x hx=>?_⟩
 obtain rfl:PV.sl 11 (bI c)=x:=Option.some.inj hx
 intro _
 refine li ?_
 refine⟨fun h=>absurd h (by omega),fun _=>?_⟩
 refine⟨fun _=>?_,fun h=>absurd (show (3:Int) < 4 by decide) h⟩
 refine⟨PV,[.sl 11 (bI a),.sl 11 (bI b),.sl 11 (bI c),.sl 11 (bI d)],id,rfl,by decide,show (_:Int) < 4 by decide,fun x hx=>?_⟩
 obtain rfl:PV.sl 11 (bI d)=x:=Option.some.inj hx
 intro _
 refine li ?_
 refine⟨fun h=>absurd h (by omega),fun _=>?_⟩
 refine⟨fun h=>absurd (show (4:Int) < 4 from h) (by decide),fun _=>?_⟩
 refine⟨[],br,(EO (a.length+b.length+c.length+d.length) (by omega)).Cp rfl rfl rfl ⟨trivial,(show _=_ by omega),trivial⟩ rfl ?_⟩
 intro _
 refine SW.rounds an W0 (by kernel_rfl) (N:=60) 5 ?_
 refine⟨fun _=>?_,fun h=>absurd (show (0:Int) < 4 by decide) h⟩
 refine⟨PV,[.sl 11 (bI a),.sl 11 (bI b),.sl 11 (bI c),.sl 11 (bI d)],id,rfl,by decide,show (_:Int) < 4 by decide,fun x hx=>?_⟩
 obtain rfl:PV.sl 11 (bI a)=x:=Option.some.inj hx
 refine⟨show (([]:List PV)).length+(bI a).length<=maxLen by simp only[List.length_append,List.length_nil,ha,hb,hc,hd]; unfold maxLen; omega,show ((([]:List PV)).length+(bI a).length)*88<=140737488355328 by simp only[List.length_append,List.length_nil,ha,hb,hc,hd]; omega,?_⟩
 refine⟨fun _=>?_,fun h=>absurd (show (1:Int) < 4 by decide) h⟩
 refine⟨PV,[.sl 11 (bI a),.sl 11 (bI b),.sl 11 (bI c),.sl 11 (bI d)],id,rfl,by decide,show (_:Int) < 4 by decide,fun x hx=>?_⟩
 obtain rfl:PV.sl 11 (bI b)=x:=Option.some.inj hx
 refine⟨show (([]:List PV)++bI a).length+(bI b).length<=maxLen by simp only[List.length_append,List.length_nil,ha,hb,hc,hd]; unfold maxLen; omega,show ((([]:List PV)++bI a).length+(bI b).length)*88<=140737488355328 by simp only[List.length_append,List.length_nil,ha,hb,hc,hd]; omega,?_⟩
 refine⟨fun _=>?_,fun h=>absurd (show (2:Int) < 4 by decide) h⟩
 refine⟨PV,[.sl 11 (bI a),.sl 11 (bI b),.sl 11 (bI c),.sl 11 (bI d)],id,rfl,by decide,show (_:Int) < 4 by decide,fun x hx=>?_⟩
 obtain rfl:PV.sl 11 (bI c)=x:=Option.some.inj hx
 refine⟨show (([]:List PV)++bI a++bI b).length+(bI c).length<=maxLen by simp only[List.length_append,List.length_nil,ha,hb,hc,hd]; unfold maxLen; omega,show ((([]:List PV)++bI a++bI b).length+(bI c).length)*88<=140737488355328 by simp only[List.length_append,List.length_nil,ha,hb,hc,hd]; omega,?_⟩
 refine⟨fun _=>?_,fun h=>absurd (show (3:Int) < 4 by decide) h⟩
 refine⟨PV,[.sl 11 (bI a),.sl 11 (bI b),.sl 11 (bI c),.sl 11 (bI d)],id,rfl,by decide,show (_:Int) < 4 by decide,fun x hx=>?_⟩
 obtain rfl:PV.sl 11 (bI d)=x:=Option.some.inj hx
 refine⟨show (([]:List PV)++bI a++bI b++bI c).length+(bI d).length<=maxLen by simp only[List.length_append,List.length_nil,ha,hb,hc,hd]; unfold maxLen; omega,show ((([]:List PV)++bI a++bI b++bI c).length+(bI d).length)*88<=140737488355328 by simp only[List.length_append,List.length_nil,ha,hb,hc,hd]; omega,?_⟩
 refine⟨fun h=>absurd (show (4:Int) < 4 from h) (by decide),fun _=>?_⟩
 refine aD ?_
 exact (show []++bI a++bI b++bI c++bI d=_ by simp[bI])
theorem lf (x:Int) (hx:0<=x/\x<=4294967295):ai gT 66 [.int .u32 x] (.tup [.int .i64 (Rm.nI x),.int .i64 (Rm.kx x)]) :=
 ai.CA (fI Tryz.func66 rfl (by kernel_rfl)) fun I β w bw hM hA=>by
  obtain⟨v,rfl,h1⟩:=RV hA
  simp only[PV.Is] at h1
  subst h1
  refine⟨.tuple #[.int .i64 (Rm.nI x),.int .i64 (Rm.kx x)],iR (gC (da ..) (gC (da ..) pU)),fun _ _ _=>iR (gC (da ..) (gC (da ..) pU)),?_⟩
  refine (KY x w (CB hM) hx.1 hx.2).mono ?_
  rintro e w' ⟨rfl,rfl⟩
  exact⟨rfl,Below.refl _ _⟩
def iF (f d n m:Int):IN:={ iZ with form:=f,rd:=d,rn:=n,rm:=m }
def iM (f d n:Int):IN:={ iZ with form:=f,rd:=d,az:=n }
def i_ (t:Int):IN:=iF 73 t t t
def lg (t:Int):IN:={ iZ with form:=2,rd:=t,rm:=t,az:=31 }
theorem nv (t:Int):ai gT 63 [.int .i64 t] (cG (i_ t)):=by
 refine Spec.enter an P63 100 Tryz.func63 rfl (by kernel_rfl) ?_
 exact rA
theorem pH (t:Int):ai gT 64 [.int .i64 t] (cG (lg t)):=by
 refine Spec.enter an P64 100 Tryz.func64 rfl (by kernel_rfl) ?_
 exact rA
def aw (k:Int):Int:=if k=7 then 66 else if k=8 then 68 else if k=9 then 70 else if k=10 then 4 else if k=11 then 5 else if k=12 then 92 else if k=13 then 88 else if k=14 then 89 else if k=15 then 91 else if k=28 then 97 else 0
theorem u9 (k:Int):ai gT 27 [.int .i64 k] (.int .i64 (aw k)):=by
 refine Spec.enter an P27 100 Tryz.func27 rfl (by kernel_rfl) ?_
 repeat' ((conv=>whnf); first|(refine (And.intro (fun _=>?_) (fun _=>?_):(_->_)/\(_->_))<;>(first|(exfalso; first|contradiction|omega)|skip))|refine Or.inl (And.intro (by first|exact av (by omega)|exact af (by omega)|exact aP (by omega)|exact bb (by omega)) ?_)|(refine And.intro (show (_:Int)≠0 by omega) (Or.inl (And.intro (show (0:Int)<=_ by omega) (And.intro (show (0:Int) < _ by omega) ?_))))|(refine And.intro (show (_:Int)≠0 by omega) (Or.inl (And.intro (show (0:Int)<=_ by omega) (And.intro (by first|exact (show (_:Int)<=9223372036854775807 by omega)|exact (show (_:Int)<=4294967295 by omega)) (And.intro (show (0:Int) < _ by omega) ?_)))))|(refine aD ?_; show _=_; simp only[aw, *,if_true,if_false,reduceIte,Int.reduceEq])|(intro _))
theorem I8 (f:Int):ai gT 28 [.int .i64 f] (.bool (1<=f/\f<=100)):=by
 refine Spec.enter an Zp 100 Tryz.func28 rfl (by kernel_rfl) ?_
 repeat' ((conv=>whnf); first|(refine (And.intro (fun _=>?_) (fun _=>?_):(_->_)/\(_->_))<;>(first|(exfalso; first|contradiction|omega)|skip))|refine Or.inl (And.intro (by first|exact av (by omega)|exact af (by omega)|exact aP (by omega)|exact bb (by omega)) ?_)|(refine And.intro (show (_:Int)≠0 by omega) (Or.inl (And.intro (show (0:Int)<=_ by omega) (And.intro (show (0:Int) < _ by omega) ?_))))|(refine And.intro (show (_:Int)≠0 by omega) (Or.inl (And.intro (show (0:Int)<=_ by omega) (And.intro (by first|exact (show (_:Int)<=9223372036854775807 by omega)|exact (show (_:Int)<=4294967295 by omega)) (And.intro (show (0:Int) < _ by omega) ?_)))))|(refine aD ?_; show _↔_; omega)|(refine aD ?_; show ¬ _; omega)|(intro _))
def aZ (o:VO):List IN:=if o.kind=2 then [iM 38 o.t0 o.n] else if o.kind=3 then [iM 37 o.f0 o.n] else if o.kind=4 then [iM 39 o.t0 o.n] else if o.kind=5 then [{ iF 87 o.t0 o.f0 o.f1 with bC:=2 }] else if o.kind=6 then [{ iF 86 o.f2 o.f0 o.f1 with bC:=2 }] else []
theorem u_ (o:VO) (hn:0<=o.n/\o.n<=4294967295):ai gT 30 [vn o] (.sl 11 (bI (aZ o))):=by
 refine Spec.enter an P30 100 Tryz.func30 rfl (by kernel_rfl) ?_
 repeat' ((conv=>whnf); first|(refine (And.intro (fun _=>?_) (fun _=>?_):(_->_)/\(_->_))<;>(first|(exfalso; first|contradiction|omega)|skip))|refine Or.inl (And.intro (by first|exact av (by omega)|exact af (by omega)|exact aP (by omega)|exact bb (by omega)) ?_)|(refine And.intro (show (_:Int)≠0 by omega) (Or.inl (And.intro (show (0:Int)<=_ by omega) (And.intro (show (0:Int) < _ by omega) ?_))))|(refine And.intro (show (_:Int)≠0 by omega) (Or.inl (And.intro (show (0:Int)<=_ by omega) (And.intro (by first|exact (show (_:Int)<=9223372036854775807 by omega)|exact (show (_:Int)<=4294967295 by omega)) (And.intro (show (0:Int) < _ by omega) ?_)))))|(refine aD ?_; show _=_; simp only[aZ, *,if_true,if_false,reduceIte,Int.reduceEq]; rfl)|(intro _))
def aG (o:VO):List IN:=if o.kind=23 then [iF 4 o.t0 o.f0 o.f2,iF 72 o.t1 o.f1 o.f3] else if o.kind=24 then [iF 5 o.t0 o.f0 o.f2,iF 73 o.t1 o.f1 o.f3] else if o.kind=25 then [iF 5 o.t0 o.f0 o.f2,{ iF 73 o.t0 o.f1 o.f3 with set:=1 },i_ o.t0,lg o.t0] else if o.kind=26 then [{ iF 95 o.t0 o.f0 o.f1 with ra:=o.t1 }] else []
theorem w9 (o:VO):ai gT 31 [vn o] (.sl 11 (bI (aG o))):=by
 refine Spec.enter an P31 100 Tryz.func31 rfl (by kernel_rfl) ?_
 repeat' ((conv=>whnf); first|(refine (And.intro (fun _=>?_) (fun _=>?_):(_->_)/\(_->_))<;>(first|(exfalso; first|contradiction|omega)|skip))|refine Or.inl (And.intro (by first|exact av (by omega)|exact af (by omega)|exact aP (by omega)|exact bb (by omega)) ?_)|(refine And.intro (show (_:Int)≠0 by omega) (Or.inl (And.intro (show (0:Int)<=_ by omega) (And.intro (show (0:Int) < _ by omega) ?_))))|(refine And.intro (show (_:Int)≠0 by omega) (Or.inl (And.intro (show (0:Int)<=_ by omega) (And.intro (by first|exact (show (_:Int)<=9223372036854775807 by omega)|exact (show (_:Int)<=4294967295 by omega)) (And.intro (show (0:Int) < _ by omega) ?_)))))|(refine Exists.intro [] (And.intro br ((nv o.t0).use (by repeat' first|exact trivial|exact rfl|exact Iff.rfl|exact Or.inl rfl|refine And.intro ?_ ?_) rfl rfl ?_)))|(refine Exists.intro [] (And.intro br ((pH o.t0).use (by repeat' first|exact trivial|exact rfl|exact Iff.rfl|exact Or.inl rfl|refine And.intro ?_ ?_) rfl rfl ?_)))|(refine aD ?_; show _=_; simp only[aG, *,if_true,if_false,reduceIte,Int.reduceEq]; rfl)|(intro _))
def ia (t n:Int):List IN:=if n<=255 then [iM 8 t n] else if Rm.kx n=0 then [iM 60 t (Rm.nI n)] else if Rm.kx (4294967295 - n)=0 then [iM 61 t (Rm.nI (4294967295 - n))] else if n / 65536≠0 then [iM 48 t (n % 65536),iM 49 t (n / 65536)] else [iM 48 t (n % 65536)]
theorem m16 (n:Int) (h0:0<=n) (h1:n<=4294967295):bits .and .u32 n 65535=n % 65536:=by
 rw[u32_and n 65535 h0 (by omega) (by omega) (by omega)]
 have e:n.toNat &&& (65535:Int).toNat=n.toNat % 65536:=Nat.and_two_pow_sub_one_eq_mod n.toNat 16
 rw[e]; omega
theorem va (t n:Int) (hn:0<=n/\n<=4294967295):ai gT 65 [.int .i64 t,.int .u32 n] (.sl 11 (bI (ia t n))):=by
 refine Spec.enter an P65 100 Tryz.func65 rfl (by kernel_rfl) ?_
 refine⟨fun h1=>?_,fun h1=>?_⟩
 ·refine li ?_
  refine aD ?_
  show _=_
  rw[ia,if_pos h1]; rfl
 refine (lf n hn).u ?_
 refine⟨fun h2=>?_,fun h2=>?_⟩
 ·refine aD ?_
  show _=_
  rw[ia,if_neg h1,if_pos h2]; rfl
 refine⟨[],br,(lf (4294967295 - n) (by omega)).use ⟨Rm.JJ n hn.1 hn.2,trivial⟩ rfl rfl ?_⟩
 refine⟨fun h3=>?_,fun h3=>?_⟩
 ·refine aD ?_
  show _=_
  rw[ia,if_neg h1,if_neg h2,if_pos h3]; rfl
 have Yp:=m16 n hn.1 hn.2
 refine li ?_ (show _<=bits .and .u32 n 65535/\bits .and .u32 n 65535<=_ by rw[Yp]; omega)
 refine⟨by decide,And.intro (fun h4=>?_) (fun h4=>?_)⟩
 ·have Yq:¬ n / 65536=0:=h4
  refine⟨by decide,.inl ⟨av (show _<=n / 65536/\n / 65536<=_ by omega),?_⟩⟩
  refine aD ?_
  show [_,_]=_
  rw[ia,if_neg h1,if_neg h2,if_neg h3,if_pos Yq]
  show [cG (iM 48 t (bits .and .u32 n 65535)),cG (iM 49 t (n / 65536))]=_
  rw[Yp]; rfl
 ·have Yq:¬ ¬ n / 65536=0:=h4
  refine aD ?_
  show [_]=_
  rw[ia,if_neg h1,if_neg h2,if_neg h3,if_neg Yq]
  show [cG (iM 48 t (bits .and .u32 n 65535))]=_
  rw[Yp]; rfl
def aH (o:VO):List IN:=if o.kind=1 then ia o.t0 o.n else if o.kind=16 then [{ iZ with form:=77,rd:=o.t0,rm:=o.f0 }] else if o.kind=17 then [{ iZ with form:=59,rd:=o.t0,rn:=o.f0 }] else if o.kind=18 then [{ iZ with form:=1,rd:=o.t0,rm:=o.f0,az:=o.n }] else if o.kind=19 then [{ iZ with form:=2,rd:=o.t0,rm:=o.f0,az:=o.n }]
 else if o.kind=20 then [{ iZ with form:=76,rd:=o.t0,rm:=o.f0,kind:=3,bC:=o.n }] else if o.kind=27 then [{ iZ with form:=50,rd:=o.t0,rn:=o.f0,az:=1 },{ iZ with form:=59,rd:=o.t0,rn:=o.t0 }] else []
theorem vb (o:VO) (hn:0<=o.n/\o.n<=4294967295):ai gT 32 [vn o] (.sl 11 (bI (aH o))):=by
 refine Spec.enter an P32 100 Tryz.func32 rfl (by kernel_rfl) ?_
 repeat' ((conv=>whnf); first|(refine (And.intro (fun _=>?_) (fun _=>?_):(_->_)/\(_->_))<;>(first|(exfalso; first|contradiction|omega)|skip))|refine Or.inl (And.intro (by first|exact av (by omega)|exact af (by omega)|exact aP (by omega)|exact bb (by omega)) ?_)|(refine And.intro (show (_:Int)≠0 by omega) (Or.inl (And.intro (show (0:Int)<=_ by omega) (And.intro (show (0:Int) < _ by omega) ?_))))|(refine And.intro (show (_:Int)≠0 by omega) (Or.inl (And.intro (show (0:Int)<=_ by omega) (And.intro (by first|exact (show (_:Int)<=9223372036854775807 by omega)|exact (show (_:Int)<=4294967295 by omega)) (And.intro (show (0:Int) < _ by omega) ?_)))))|(refine Exists.intro [] (And.intro br ((va o.t0 o.n hn).use (by repeat' first|exact trivial|exact rfl|exact Iff.rfl|exact Or.inl rfl|refine And.intro ?_ ?_) rfl rfl ?_)))|(refine aD ?_; show _=_; simp only[aH, *,if_true,if_false,reduceIte,Int.reduceEq]; try rfl)|(intro _))
def aI (o:VO):List IN:=if o.kind=21 then [iF 5 o.t0 o.f0 o.f1,i_ o.t0,lg o.t0] else if o.kind=22 then [iF 70 o.t0 o.f0 o.f1,iM 11 o.t0 1,i_ o.t0,lg o.t0] else if o.kind=29 then [{ iF 94 o.t0 o.f1 o.f2 with ra:=o.f0 }] else if o.kind=31 then [{ iZ with form:=9,rd:=o.f0 }]
 else if o.kind=30 then (if o.n<=255 then [iM 9 o.f0 o.n] else [{ iZ with form:=65,rn:=o.f0,az:=Rm.nI o.n }]) else []
theorem w_ (o:VO) (hn:0<=o.n/\o.n<=4294967295):ai gT 33 [vn o] (.sl 11 (bI (aI o))):=by
 refine Spec.enter an P33 100 Tryz.func33 rfl (by kernel_rfl) ?_
 repeat' ((conv=>whnf); first|(refine (And.intro (fun _=>?_) (fun _=>?_):(_->_)/\(_->_))<;>(first|(exfalso; first|contradiction|omega)|skip))|refine Or.inl (And.intro (by first|exact av (by omega)|exact af (by omega)|exact aP (by omega)|exact bb (by omega)) ?_)|(refine And.intro (show (_:Int)≠0 by omega) (Or.inl (And.intro (show (0:Int)<=_ by omega) (And.intro (show (0:Int) < _ by omega) ?_))))|(refine And.intro (show (_:Int)≠0 by omega) (Or.inl (And.intro (show (0:Int)<=_ by omega) (And.intro (by first|exact (show (_:Int)<=9223372036854775807 by omega)|exact (show (_:Int)<=4294967295 by omega)) (And.intro (show (0:Int) < _ by omega) ?_)))))|(refine Exists.intro [] (And.intro br ((lf o.n hn).use (by repeat' first|exact trivial|exact rfl|exact Iff.rfl|exact Or.inl rfl|refine And.intro ?_ ?_) rfl rfl ?_)))|(refine Exists.intro [] (And.intro br ((nv o.t0).use (by repeat' first|exact trivial|exact rfl|exact Iff.rfl|exact Or.inl rfl|refine And.intro ?_ ?_) rfl rfl ?_)))|(refine Exists.intro [] (And.intro br ((pH o.t0).use (by repeat' first|exact trivial|exact rfl|exact Iff.rfl|exact Or.inl rfl|refine And.intro ?_ ?_) rfl rfl ?_)))|(refine aD ?_; show _=_; simp only[aI, *,if_true,if_false,reduceIte,Int.reduceEq]; try rfl)|(intro _))
def aC (o:VO):List IN:=if aw o.kind≠0 then [iF (aw o.kind) o.t0 o.f0 o.f1] else aZ o++aG o++aH o++aI o
open Classical in
noncomputable def sP (o:VO):PV:=if bg o/\fu o then .tup [.sl 11 (bI (aC o)),.int .i64 0] else .tup [.sl 11 [],.int .i64 10]
theorem Aw (k:Int):aw k=0\/(1<=aw k/\aw k<=100):=by
 unfold aw
 repeat' split<;>first|(exact .inl rfl)|(exact .inr (by decide))|skip
theorem EP (o:VO):(aZ o).length+(aG o).length+(aH o).length+(aI o).length<=100:=by
 have h1:(aZ o).length<=10:=by unfold aZ; (repeat' split)<;>simp
 have h2:(aG o).length<=10:=by unfold aG; (repeat' split)<;>simp
 have h3:(aH o).length<=10:=by unfold aH ia; (repeat' split)<;>simp
 have h4:(aI o).length<=10:=by unfold aI; (repeat' split)<;>simp
 omega
theorem lh (o:VO) (hn:0<=o.n/\o.n<=4294967295):ai gT 8 [vn o] (sP o):=by
 refine Spec.enter an P8 100 Tryz.func8 rfl (by kernel_rfl) ?_
 refine (u1 o hn).u ?_
 refine⟨fun h1=>?_,fun h1=>?_⟩
 ·rw[sP,if_neg (fun h=>h1 h.1)]
  exact rA
 refine (u6 o).u ?_
 refine⟨fun h2=>?_,fun h2=>?_⟩
 ·rw[sP,if_neg (fun h=>h2 h.2)]
  exact rA
 rw[sP,if_pos ⟨Classical.not_not.1 h1,Classical.not_not.1 h2⟩]
 refine (u9 o.kind).u ?_
 refine (I8 _).u ?_
 refine⟨fun h3=>?_,fun h3=>?_⟩
 ·rw[aC,if_pos (by omega)]
  exact rA
 ·have h0:¬ aw o.kind≠0:=by have:=Aw o.kind; omega
  rw[aC,if_neg h0]
  refine (u_ o hn).u ?_
  refine (w9 o).u ?_
  refine (vb o hn).u ?_
  refine (w_ o hn).u ?_
  have hl:=EP o
  refine⟨[],br,(u7 (aZ o) (aG o) (aH o) (aI o) (by omega)).KN [1] rfl ⟨.inr ⟨rfl,rfl⟩,trivial⟩ rfl rfl ?_⟩
  exact rA
end Go.Proofs.YtlgkljpgagfndaaGreatDoor.Pw
