/- What this claim is proved with: no condition. -/
import Derived.Test.YtlgkljpgagfndaaGreatDoorNu15
set_option maxRecDepth 100000
set_option maxHeartbeats 8000000
set_option linter.unusedVariables false
set_option linter.unusedSimpArgs false
namespace Go.Proofs.YtlgkljpgagfndaaGreatDoor.Pw
open Go Go.RowKit
theorem jf {n s:Int} (h0:0<=n) (h:n % s=0):n.tmod s=0:=by
 rw[Int.tmod_eq_emod_of_nonneg h0]; exact h
theorem ri_66 (d n m:Int) (hd:0<=d/\d<=7) (hn:0<=n/\n<=7) (hm:0<=m/\m<=7) :aw ⟨66,d,n,m,0,0,0,0,0,0,0⟩:=by
 unfold aw
 show aJ _ (cg (aa 66))
 rw[show aa 66=21 by decide,show cg 21 = { fL with rd:=3,rn:=3,rm:=3,kind:=true,set:=true } from rfl]
 refine⟨(show (1:Int)<=66/\(66:Int)<=100 by decide),(show aG 3 d from by unfold aG; omega),(show aG 3 n from by unfold aG; omega),(show aG 3 m from by unfold aG; omega),(show aG 0 0 from .inr (.inr (.inr ⟨by decide,by decide,by decide,rfl⟩))),.inl ⟨rfl,rfl⟩,.inl rfl,.inl ⟨rfl,rfl⟩,.inl rfl,.inl ⟨rfl,.inl ⟨rfl,(show (0:Int)<=0/\(0:Int) < 32 by decide)⟩⟩,?_⟩
 refine⟨fun h=>absurd (show (66:Int)=1 from h) (by decide),fun h=>absurd (show (66:Int)=2\/(66:Int)=3 from h) (by decide),fun h=>absurd (show (66:Int)=29 from h) (by decide),fun h=>absurd (show (66:Int)=95\/(66:Int)=96 from h) (by decide),?_⟩
 show aa 66=18\/aa 66=19\/aa 66=20->_
 rw[show aa 66=21 by decide]
 exact fun h=>absurd h (by decide)
theorem ri_68 (d n m:Int) (hd:0<=d/\d<=7) (hn:0<=n/\n<=7) (hm:0<=m/\m<=7) :aw ⟨68,d,n,m,0,0,0,0,0,0,0⟩:=by
 unfold aw
 show aJ _ (cg (aa 68))
 rw[show aa 68=21 by decide,show cg 21 = { fL with rd:=3,rn:=3,rm:=3,kind:=true,set:=true } from rfl]
 refine⟨(show (1:Int)<=68/\(68:Int)<=100 by decide),(show aG 3 d from by unfold aG; omega),(show aG 3 n from by unfold aG; omega),(show aG 3 m from by unfold aG; omega),(show aG 0 0 from .inr (.inr (.inr ⟨by decide,by decide,by decide,rfl⟩))),.inl ⟨rfl,rfl⟩,.inl rfl,.inl ⟨rfl,rfl⟩,.inl rfl,.inl ⟨rfl,.inl ⟨rfl,(show (0:Int)<=0/\(0:Int) < 32 by decide)⟩⟩,?_⟩
 refine⟨fun h=>absurd (show (68:Int)=1 from h) (by decide),fun h=>absurd (show (68:Int)=2\/(68:Int)=3 from h) (by decide),fun h=>absurd (show (68:Int)=29 from h) (by decide),fun h=>absurd (show (68:Int)=95\/(68:Int)=96 from h) (by decide),?_⟩
 show aa 68=18\/aa 68=19\/aa 68=20->_
 rw[show aa 68=21 by decide]
 exact fun h=>absurd h (by decide)
theorem Pn (d n m:Int) (hd:0<=d/\d<=7) (hn:0<=n/\n<=7) (hm:0<=m/\m<=7) :aw ⟨70,d,n,m,0,0,0,0,0,0,0⟩:=by
 unfold aw
 show aJ _ (cg (aa 70))
 rw[show aa 70=21 by decide,show cg 21 = { fL with rd:=3,rn:=3,rm:=3,kind:=true,set:=true } from rfl]
 refine⟨(show (1:Int)<=70/\(70:Int)<=100 by decide),(show aG 3 d from by unfold aG; omega),(show aG 3 n from by unfold aG; omega),(show aG 3 m from by unfold aG; omega),(show aG 0 0 from .inr (.inr (.inr ⟨by decide,by decide,by decide,rfl⟩))),.inl ⟨rfl,rfl⟩,.inl rfl,.inl ⟨rfl,rfl⟩,.inl rfl,.inl ⟨rfl,.inl ⟨rfl,(show (0:Int)<=0/\(0:Int) < 32 by decide)⟩⟩,?_⟩
 refine⟨fun h=>absurd (show (70:Int)=1 from h) (by decide),fun h=>absurd (show (70:Int)=2\/(70:Int)=3 from h) (by decide),fun h=>absurd (show (70:Int)=29 from h) (by decide),fun h=>absurd (show (70:Int)=95\/(70:Int)=96 from h) (by decide),?_⟩
 show aa 70=18\/aa 70=19\/aa 70=20->_
 rw[show aa 70=21 by decide]
 exact fun h=>absurd h (by decide)
theorem ri_72 (d n m:Int) (hd:0<=d/\d<=7) (hn:0<=n/\n<=7) (hm:0<=m/\m<=7) :aw ⟨72,d,n,m,0,0,0,0,0,0,0⟩:=by
 unfold aw
 show aJ _ (cg (aa 72))
 rw[show aa 72=21 by decide,show cg 21 = { fL with rd:=3,rn:=3,rm:=3,kind:=true,set:=true } from rfl]
 refine⟨(show (1:Int)<=72/\(72:Int)<=100 by decide),(show aG 3 d from by unfold aG; omega),(show aG 3 n from by unfold aG; omega),(show aG 3 m from by unfold aG; omega),(show aG 0 0 from .inr (.inr (.inr ⟨by decide,by decide,by decide,rfl⟩))),.inl ⟨rfl,rfl⟩,.inl rfl,.inl ⟨rfl,rfl⟩,.inl rfl,.inl ⟨rfl,.inl ⟨rfl,(show (0:Int)<=0/\(0:Int) < 32 by decide)⟩⟩,?_⟩
 refine⟨fun h=>absurd (show (72:Int)=1 from h) (by decide),fun h=>absurd (show (72:Int)=2\/(72:Int)=3 from h) (by decide),fun h=>absurd (show (72:Int)=29 from h) (by decide),fun h=>absurd (show (72:Int)=95\/(72:Int)=96 from h) (by decide),?_⟩
 show aa 72=18\/aa 72=19\/aa 72=20->_
 rw[show aa 72=21 by decide]
 exact fun h=>absurd h (by decide)
theorem Cy (d n m:Int) (hd:0<=d/\d<=7) (hn:0<=n/\n<=7) (hm:0<=m/\m<=7) :aw ⟨73,d,n,m,0,0,0,0,0,0,0⟩:=by
 unfold aw
 show aJ _ (cg (aa 73))
 rw[show aa 73=21 by decide,show cg 21 = { fL with rd:=3,rn:=3,rm:=3,kind:=true,set:=true } from rfl]
 refine⟨(show (1:Int)<=73/\(73:Int)<=100 by decide),(show aG 3 d from by unfold aG; omega),(show aG 3 n from by unfold aG; omega),(show aG 3 m from by unfold aG; omega),(show aG 0 0 from .inr (.inr (.inr ⟨by decide,by decide,by decide,rfl⟩))),.inl ⟨rfl,rfl⟩,.inl rfl,.inl ⟨rfl,rfl⟩,.inl rfl,.inl ⟨rfl,.inl ⟨rfl,(show (0:Int)<=0/\(0:Int) < 32 by decide)⟩⟩,?_⟩
 refine⟨fun h=>absurd (show (73:Int)=1 from h) (by decide),fun h=>absurd (show (73:Int)=2\/(73:Int)=3 from h) (by decide),fun h=>absurd (show (73:Int)=29 from h) (by decide),fun h=>absurd (show (73:Int)=95\/(73:Int)=96 from h) (by decide),?_⟩
 show aa 73=18\/aa 73=19\/aa 73=20->_
 rw[show aa 73=21 by decide]
 exact fun h=>absurd h (by decide)
theorem VE (d n m:Int) (hd:0<=d/\d<=7) (hn:0<=n/\n<=7) (hm:0<=m/\m<=7) :aw ⟨73,d,n,m,0,0,0,0,1,0,0⟩:=by
 unfold aw
 show aJ _ (cg (aa 73))
 rw[show aa 73=21 by decide,show cg 21 = { fL with rd:=3,rn:=3,rm:=3,kind:=true,set:=true } from rfl]
 refine⟨(show (1:Int)<=73/\(73:Int)<=100 by decide),(show aG 3 d from by unfold aG; omega),(show aG 3 n from by unfold aG; omega),(show aG 3 m from by unfold aG; omega),(show aG 0 0 from .inr (.inr (.inr ⟨by decide,by decide,by decide,rfl⟩))),.inl ⟨rfl,rfl⟩,.inl rfl,.inl ⟨rfl,rfl⟩,.inr ⟨rfl,rfl⟩,.inl ⟨rfl,.inl ⟨rfl,(show (0:Int)<=0/\(0:Int) < 32 by decide)⟩⟩,?_⟩
 refine⟨fun h=>absurd (show (73:Int)=1 from h) (by decide),fun h=>absurd (show (73:Int)=2\/(73:Int)=3 from h) (by decide),fun h=>absurd (show (73:Int)=29 from h) (by decide),fun h=>absurd (show (73:Int)=95\/(73:Int)=96 from h) (by decide),?_⟩
 show aa 73=18\/aa 73=19\/aa 73=20->_
 rw[show aa 73=21 by decide]
 exact fun h=>absurd h (by decide)
theorem ri_4 (d n m:Int) (hd:0<=d/\d<=7) (hn:0<=n/\n<=7) (hm:0<=m/\m<=7) :aw ⟨4,d,n,m,0,0,0,0,0,0,0⟩:=by
 unfold aw
 show aJ _ (cg (aa 4))
 rw[show aa 4=2 by decide,show cg 2 = { fL with rd:=1,rn:=1,rm:=1 } from rfl]
 refine⟨(show (1:Int)<=4/\(4:Int)<=100 by decide),(show aG 1 d from by unfold aG; omega),(show aG 1 n from by unfold aG; omega),(show aG 1 m from by unfold aG; omega),(show aG 0 0 from .inr (.inr (.inr ⟨by decide,by decide,by decide,rfl⟩))),.inl ⟨rfl,rfl⟩,.inl rfl,.inl ⟨rfl,rfl⟩,.inl rfl,.inr ⟨Bool.false_ne_true,rfl,.inl ⟨rfl,rfl⟩⟩,?_⟩
 refine⟨fun h=>absurd (show (4:Int)=1 from h) (by decide),fun h=>absurd (show (4:Int)=2\/(4:Int)=3 from h) (by decide),fun h=>absurd (show (4:Int)=29 from h) (by decide),fun h=>absurd (show (4:Int)=95\/(4:Int)=96 from h) (by decide),?_⟩
 show aa 4=18\/aa 4=19\/aa 4=20->_
 rw[show aa 4=2 by decide]
 exact fun h=>absurd h (by decide)
theorem Nl (d n m:Int) (hd:0<=d/\d<=7) (hn:0<=n/\n<=7) (hm:0<=m/\m<=7) :aw ⟨5,d,n,m,0,0,0,0,0,0,0⟩:=by
 unfold aw
 show aJ _ (cg (aa 5))
 rw[show aa 5=2 by decide,show cg 2 = { fL with rd:=1,rn:=1,rm:=1 } from rfl]
 refine⟨(show (1:Int)<=5/\(5:Int)<=100 by decide),(show aG 1 d from by unfold aG; omega),(show aG 1 n from by unfold aG; omega),(show aG 1 m from by unfold aG; omega),(show aG 0 0 from .inr (.inr (.inr ⟨by decide,by decide,by decide,rfl⟩))),.inl ⟨rfl,rfl⟩,.inl rfl,.inl ⟨rfl,rfl⟩,.inl rfl,.inr ⟨Bool.false_ne_true,rfl,.inl ⟨rfl,rfl⟩⟩,?_⟩
 refine⟨fun h=>absurd (show (5:Int)=1 from h) (by decide),fun h=>absurd (show (5:Int)=2\/(5:Int)=3 from h) (by decide),fun h=>absurd (show (5:Int)=29 from h) (by decide),fun h=>absurd (show (5:Int)=95\/(5:Int)=96 from h) (by decide),?_⟩
 show aa 5=18\/aa 5=19\/aa 5=20->_
 rw[show aa 5=2 by decide]
 exact fun h=>absurd h (by decide)
theorem ri_92 (d n m:Int) (hd:0<=d/\d<=7) (hn:0<=n/\n<=7) (hm:0<=m/\m<=7) :aw ⟨92,d,n,m,0,0,0,0,0,0,0⟩:=by
 unfold aw
 show aJ _ (cg (aa 92))
 rw[show aa 92=28 by decide,show cg 28 = { fL with rd:=3,rn:=3,rm:=3 } from rfl]
 refine⟨(show (1:Int)<=92/\(92:Int)<=100 by decide),(show aG 3 d from by unfold aG; omega),(show aG 3 n from by unfold aG; omega),(show aG 3 m from by unfold aG; omega),(show aG 0 0 from .inr (.inr (.inr ⟨by decide,by decide,by decide,rfl⟩))),.inl ⟨rfl,rfl⟩,.inl rfl,.inl ⟨rfl,rfl⟩,.inl rfl,.inr ⟨Bool.false_ne_true,rfl,.inl ⟨rfl,rfl⟩⟩,?_⟩
 refine⟨fun h=>absurd (show (92:Int)=1 from h) (by decide),fun h=>absurd (show (92:Int)=2\/(92:Int)=3 from h) (by decide),fun h=>absurd (show (92:Int)=29 from h) (by decide),fun h=>absurd (show (92:Int)=95\/(92:Int)=96 from h) (by decide),?_⟩
 show aa 92=18\/aa 92=19\/aa 92=20->_
 rw[show aa 92=28 by decide]
 exact fun h=>absurd h (by decide)
theorem ri_97 (d n m:Int) (hd:0<=d/\d<=7) (hn:0<=n/\n<=7) (hm:0<=m/\m<=7) :aw ⟨97,d,n,m,0,0,0,0,0,0,0⟩:=by
 unfold aw
 show aJ _ (cg (aa 97))
 rw[show aa 97=28 by decide,show cg 28 = { fL with rd:=3,rn:=3,rm:=3 } from rfl]
 refine⟨(show (1:Int)<=97/\(97:Int)<=100 by decide),(show aG 3 d from by unfold aG; omega),(show aG 3 n from by unfold aG; omega),(show aG 3 m from by unfold aG; omega),(show aG 0 0 from .inr (.inr (.inr ⟨by decide,by decide,by decide,rfl⟩))),.inl ⟨rfl,rfl⟩,.inl rfl,.inl ⟨rfl,rfl⟩,.inl rfl,.inr ⟨Bool.false_ne_true,rfl,.inl ⟨rfl,rfl⟩⟩,?_⟩
 refine⟨fun h=>absurd (show (97:Int)=1 from h) (by decide),fun h=>absurd (show (97:Int)=2\/(97:Int)=3 from h) (by decide),fun h=>absurd (show (97:Int)=29 from h) (by decide),fun h=>absurd (show (97:Int)=95\/(97:Int)=96 from h) (by decide),?_⟩
 show aa 97=18\/aa 97=19\/aa 97=20->_
 rw[show aa 97=28 by decide]
 exact fun h=>absurd h (by decide)
theorem ri_88 (d n m:Int) (hd:0<=d/\d<=7) (hn:0<=n/\n<=7) (hm:0<=m/\m<=7) :aw ⟨88,d,n,m,0,0,0,0,0,0,0⟩:=by
 unfold aw
 show aJ _ (cg (aa 88))
 rw[show aa 88=27 by decide,show cg 27 = { fL with rd:=3,rn:=3,rm:=3,set:=true } from rfl]
 refine⟨(show (1:Int)<=88/\(88:Int)<=100 by decide),(show aG 3 d from by unfold aG; omega),(show aG 3 n from by unfold aG; omega),(show aG 3 m from by unfold aG; omega),(show aG 0 0 from .inr (.inr (.inr ⟨by decide,by decide,by decide,rfl⟩))),.inl ⟨rfl,rfl⟩,.inl rfl,.inl ⟨rfl,rfl⟩,.inl rfl,.inr ⟨Bool.false_ne_true,rfl,.inl ⟨rfl,rfl⟩⟩,?_⟩
 refine⟨fun h=>absurd (show (88:Int)=1 from h) (by decide),fun h=>absurd (show (88:Int)=2\/(88:Int)=3 from h) (by decide),fun h=>absurd (show (88:Int)=29 from h) (by decide),fun h=>absurd (show (88:Int)=95\/(88:Int)=96 from h) (by decide),?_⟩
 show aa 88=18\/aa 88=19\/aa 88=20->_
 rw[show aa 88=27 by decide]
 exact fun h=>absurd h (by decide)
theorem ri_89 (d n m:Int) (hd:0<=d/\d<=7) (hn:0<=n/\n<=7) (hm:0<=m/\m<=7) :aw ⟨89,d,n,m,0,0,0,0,0,0,0⟩:=by
 unfold aw
 show aJ _ (cg (aa 89))
 rw[show aa 89=27 by decide,show cg 27 = { fL with rd:=3,rn:=3,rm:=3,set:=true } from rfl]
 refine⟨(show (1:Int)<=89/\(89:Int)<=100 by decide),(show aG 3 d from by unfold aG; omega),(show aG 3 n from by unfold aG; omega),(show aG 3 m from by unfold aG; omega),(show aG 0 0 from .inr (.inr (.inr ⟨by decide,by decide,by decide,rfl⟩))),.inl ⟨rfl,rfl⟩,.inl rfl,.inl ⟨rfl,rfl⟩,.inl rfl,.inr ⟨Bool.false_ne_true,rfl,.inl ⟨rfl,rfl⟩⟩,?_⟩
 refine⟨fun h=>absurd (show (89:Int)=1 from h) (by decide),fun h=>absurd (show (89:Int)=2\/(89:Int)=3 from h) (by decide),fun h=>absurd (show (89:Int)=29 from h) (by decide),fun h=>absurd (show (89:Int)=95\/(89:Int)=96 from h) (by decide),?_⟩
 show aa 89=18\/aa 89=19\/aa 89=20->_
 rw[show aa 89=27 by decide]
 exact fun h=>absurd h (by decide)
theorem ri_91 (d n m:Int) (hd:0<=d/\d<=7) (hn:0<=n/\n<=7) (hm:0<=m/\m<=7) :aw ⟨91,d,n,m,0,0,0,0,0,0,0⟩:=by
 unfold aw
 show aJ _ (cg (aa 91))
 rw[show aa 91=27 by decide,show cg 27 = { fL with rd:=3,rn:=3,rm:=3,set:=true } from rfl]
 refine⟨(show (1:Int)<=91/\(91:Int)<=100 by decide),(show aG 3 d from by unfold aG; omega),(show aG 3 n from by unfold aG; omega),(show aG 3 m from by unfold aG; omega),(show aG 0 0 from .inr (.inr (.inr ⟨by decide,by decide,by decide,rfl⟩))),.inl ⟨rfl,rfl⟩,.inl rfl,.inl ⟨rfl,rfl⟩,.inl rfl,.inr ⟨Bool.false_ne_true,rfl,.inl ⟨rfl,rfl⟩⟩,?_⟩
 refine⟨fun h=>absurd (show (91:Int)=1 from h) (by decide),fun h=>absurd (show (91:Int)=2\/(91:Int)=3 from h) (by decide),fun h=>absurd (show (91:Int)=29 from h) (by decide),fun h=>absurd (show (91:Int)=95\/(91:Int)=96 from h) (by decide),?_⟩
 show aa 91=18\/aa 91=19\/aa 91=20->_
 rw[show aa 91=27 by decide]
 exact fun h=>absurd h (by decide)
theorem ri_37 (d k:Int) (hd:0<=d/\d<=7) (hk:0<=k/\k<=1020/\k % 4=0):aw ⟨37,d,0,0,0,k,0,0,0,0,0⟩:=by
 unfold aw
 show aJ _ (cg (aa 37))
 rw[show aa 37=8 by decide,show cg 8 = { fL with rd:=1,i1:=1020,i2:=4 } from rfl]
 refine⟨(show (1:Int)<=37/\(37:Int)<=100 by decide),(show aG 1 d from by unfold aG; omega),(show aG 0 0 from .inr (.inr (.inr ⟨by decide,by decide,by decide,rfl⟩))),(show aG 0 0 from .inr (.inr (.inr ⟨by decide,by decide,by decide,rfl⟩))),(show aG 0 0 from .inr (.inr (.inr ⟨by decide,by decide,by decide,rfl⟩))),.inl ⟨rfl,rfl⟩,.inl rfl,(show dN (0) 1020 4 k from .inr ⟨by decide,by omega,by omega,jf (by omega) (by omega)⟩),.inl rfl,.inr ⟨Bool.false_ne_true,rfl,.inl ⟨rfl,rfl⟩⟩,?_⟩
 refine⟨fun h=>absurd (show (37:Int)=1 from h) (by decide),fun h=>absurd (show (37:Int)=2\/(37:Int)=3 from h) (by decide),fun h=>absurd (show (37:Int)=29 from h) (by decide),fun h=>absurd (show (37:Int)=95\/(37:Int)=96 from h) (by decide),?_⟩
 show aa 37=18\/aa 37=19\/aa 37=20->_
 rw[show aa 37=8 by decide]
 exact fun h=>absurd h (by decide)
theorem ri_38 (d k:Int) (hd:0<=d/\d<=7) (hk:0<=k/\k<=1020/\k % 4=0):aw ⟨38,d,0,0,0,k,0,0,0,0,0⟩:=by
 unfold aw
 show aJ _ (cg (aa 38))
 rw[show aa 38=8 by decide,show cg 8 = { fL with rd:=1,i1:=1020,i2:=4 } from rfl]
 refine⟨(show (1:Int)<=38/\(38:Int)<=100 by decide),(show aG 1 d from by unfold aG; omega),(show aG 0 0 from .inr (.inr (.inr ⟨by decide,by decide,by decide,rfl⟩))),(show aG 0 0 from .inr (.inr (.inr ⟨by decide,by decide,by decide,rfl⟩))),(show aG 0 0 from .inr (.inr (.inr ⟨by decide,by decide,by decide,rfl⟩))),.inl ⟨rfl,rfl⟩,.inl rfl,(show dN (0) 1020 4 k from .inr ⟨by decide,by omega,by omega,jf (by omega) (by omega)⟩),.inl rfl,.inr ⟨Bool.false_ne_true,rfl,.inl ⟨rfl,rfl⟩⟩,?_⟩
 refine⟨fun h=>absurd (show (38:Int)=1 from h) (by decide),fun h=>absurd (show (38:Int)=2\/(38:Int)=3 from h) (by decide),fun h=>absurd (show (38:Int)=29 from h) (by decide),fun h=>absurd (show (38:Int)=95\/(38:Int)=96 from h) (by decide),?_⟩
 show aa 38=18\/aa 38=19\/aa 38=20->_
 rw[show aa 38=8 by decide]
 exact fun h=>absurd h (by decide)
theorem ri_39 (d k:Int) (hd:0<=d/\d<=7) (hk:0<=k/\k<=1020/\k % 4=0):aw ⟨39,d,0,0,0,k,0,0,0,0,0⟩:=by
 unfold aw
 show aJ _ (cg (aa 39))
 rw[show aa 39=8 by decide,show cg 8 = { fL with rd:=1,i1:=1020,i2:=4 } from rfl]
 refine⟨(show (1:Int)<=39/\(39:Int)<=100 by decide),(show aG 1 d from by unfold aG; omega),(show aG 0 0 from .inr (.inr (.inr ⟨by decide,by decide,by decide,rfl⟩))),(show aG 0 0 from .inr (.inr (.inr ⟨by decide,by decide,by decide,rfl⟩))),(show aG 0 0 from .inr (.inr (.inr ⟨by decide,by decide,by decide,rfl⟩))),.inl ⟨rfl,rfl⟩,.inl rfl,(show dN (0) 1020 4 k from .inr ⟨by decide,by omega,by omega,jf (by omega) (by omega)⟩),.inl rfl,.inr ⟨Bool.false_ne_true,rfl,.inl ⟨rfl,rfl⟩⟩,?_⟩
 refine⟨fun h=>absurd (show (39:Int)=1 from h) (by decide),fun h=>absurd (show (39:Int)=2\/(39:Int)=3 from h) (by decide),fun h=>absurd (show (39:Int)=29 from h) (by decide),fun h=>absurd (show (39:Int)=95\/(39:Int)=96 from h) (by decide),?_⟩
 show aa 39=18\/aa 39=19\/aa 39=20->_
 rw[show aa 39=8 by decide]
 exact fun h=>absurd h (by decide)
theorem ri_86 (d n m:Int) (hd:0<=d/\d<=7) (hn:0<=n/\n<=7) (hm:0<=m/\m<=7) :aw ⟨86,d,n,m,0,0,0,2,0,0,0⟩:=by
 unfold aw
 show aJ _ (cg (aa 86))
 rw[show aa 86=26 by decide,show cg 26 = { fL with rd:=3,rn:=2,rm:=3,b1:=3,b2:=1 } from rfl]
 refine⟨(show (1:Int)<=86/\(86:Int)<=100 by decide),(show aG 3 d from by unfold aG; omega),(show aG 2 n from by unfold aG; omega),(show aG 3 m from by unfold aG; omega),(show aG 0 0 from .inr (.inr (.inr ⟨by decide,by decide,by decide,rfl⟩))),.inl ⟨rfl,rfl⟩,.inl rfl,.inl ⟨rfl,rfl⟩,.inl rfl,.inr ⟨Bool.false_ne_true,rfl,(show dN 0 3 1 2 from .inr ⟨by decide,by decide,by decide,by decide⟩)⟩,?_⟩
 refine⟨fun h=>absurd (show (86:Int)=1 from h) (by decide),fun h=>absurd (show (86:Int)=2\/(86:Int)=3 from h) (by decide),fun h=>absurd (show (86:Int)=29 from h) (by decide),fun h=>absurd (show (86:Int)=95\/(86:Int)=96 from h) (by decide),?_⟩
 show aa 86=18\/aa 86=19\/aa 86=20->_
 rw[show aa 86=26 by decide]
 exact fun h=>absurd h (by decide)
theorem ri_87 (d n m:Int) (hd:0<=d/\d<=7) (hn:0<=n/\n<=7) (hm:0<=m/\m<=7) :aw ⟨87,d,n,m,0,0,0,2,0,0,0⟩:=by
 unfold aw
 show aJ _ (cg (aa 87))
 rw[show aa 87=26 by decide,show cg 26 = { fL with rd:=3,rn:=2,rm:=3,b1:=3,b2:=1 } from rfl]
 refine⟨(show (1:Int)<=87/\(87:Int)<=100 by decide),(show aG 3 d from by unfold aG; omega),(show aG 2 n from by unfold aG; omega),(show aG 3 m from by unfold aG; omega),(show aG 0 0 from .inr (.inr (.inr ⟨by decide,by decide,by decide,rfl⟩))),.inl ⟨rfl,rfl⟩,.inl rfl,.inl ⟨rfl,rfl⟩,.inl rfl,.inr ⟨Bool.false_ne_true,rfl,(show dN 0 3 1 2 from .inr ⟨by decide,by decide,by decide,by decide⟩)⟩,?_⟩
 refine⟨fun h=>absurd (show (87:Int)=1 from h) (by decide),fun h=>absurd (show (87:Int)=2\/(87:Int)=3 from h) (by decide),fun h=>absurd (show (87:Int)=29 from h) (by decide),fun h=>absurd (show (87:Int)=95\/(87:Int)=96 from h) (by decide),?_⟩
 show aa 87=18\/aa 87=19\/aa 87=20->_
 rw[show aa 87=26 by decide]
 exact fun h=>absurd h (by decide)
theorem Nm (d m k:Int) (hd:0<=d/\d<=7) (hm:0<=m/\m<=7) (hk:1<=k/\k<=31):aw ⟨2,d,0,m,0,k,0,0,0,0,0⟩:=by
 unfold aw
 show aJ _ (cg (aa 2))
 rw[show aa 2=1 by decide,show cg 1 = { fL with rd:=1,rm:=1,i0:=0,i1:=32,i2:=1 } from rfl]
 refine⟨(show (1:Int)<=2/\(2:Int)<=100 by decide),(show aG 1 d from by unfold aG; omega),(show aG 0 0 from .inr (.inr (.inr ⟨by decide,by decide,by decide,rfl⟩))),(show aG 1 m from by unfold aG; omega),(show aG 0 0 from .inr (.inr (.inr ⟨by decide,by decide,by decide,rfl⟩))),.inl ⟨rfl,rfl⟩,.inl rfl,(show dN (0) 32 1 k from .inr ⟨by decide,by omega,by omega,jf (by omega) (by omega)⟩),.inl rfl,.inr ⟨Bool.false_ne_true,rfl,.inl ⟨rfl,rfl⟩⟩,?_⟩
 refine⟨fun h=>absurd (show (2:Int)=1 from h) (by decide),fun _=>(show 0 < k by omega),fun h=>absurd (show (2:Int)=29 from h) (by decide),fun h=>absurd (show (2:Int)=95\/(2:Int)=96 from h) (by decide),?_⟩
 show aa 2=18\/aa 2=19\/aa 2=20->_
 rw[show aa 2=1 by decide]
 exact fun h=>absurd h (by decide)
theorem ri_1 (d m k:Int) (hd:0<=d/\d<=7) (hm:0<=m/\m<=7) (hk:1<=k/\k<=31):aw ⟨1,d,0,m,0,k,0,0,0,0,0⟩:=by
 unfold aw
 show aJ _ (cg (aa 1))
 rw[show aa 1=1 by decide,show cg 1 = { fL with rd:=1,rm:=1,i0:=0,i1:=32,i2:=1 } from rfl]
 refine⟨(show (1:Int)<=1/\(1:Int)<=100 by decide),(show aG 1 d from by unfold aG; omega),(show aG 0 0 from .inr (.inr (.inr ⟨by decide,by decide,by decide,rfl⟩))),(show aG 1 m from by unfold aG; omega),(show aG 0 0 from .inr (.inr (.inr ⟨by decide,by decide,by decide,rfl⟩))),.inl ⟨rfl,rfl⟩,.inl rfl,(show dN (0) 32 1 k from .inr ⟨by decide,by omega,by omega,jf (by omega) (by omega)⟩),.inl rfl,.inr ⟨Bool.false_ne_true,rfl,.inl ⟨rfl,rfl⟩⟩,?_⟩
 refine⟨fun _=>(show k < 32 by omega),fun h=>absurd (show (1:Int)=2\/(1:Int)=3 from h) (by decide),fun h=>absurd (show (1:Int)=29 from h) (by decide),fun h=>absurd (show (1:Int)=95\/(1:Int)=96 from h) (by decide),?_⟩
 show aa 1=18\/aa 1=19\/aa 1=20->_
 rw[show aa 1=1 by decide]
 exact fun h=>absurd h (by decide)
theorem ri_95 (d n m a:Int) (hd:0<=d/\d<=7) (hn:0<=n/\n<=7) (hm:0<=m/\m<=7) (ha:0<=a/\a<=7) (hda:d≠a):aw ⟨95,d,n,m,a,0,0,0,0,0,0⟩:=by
 unfold aw
 show aJ _ (cg (aa 95))
 rw[show aa 95=31 by decide,show cg 31 = { fL with rd:=3,rn:=3,rm:=3,ra:=3 } from rfl]
 refine⟨(show (1:Int)<=95/\(95:Int)<=100 by decide),(show aG 3 d from by unfold aG; omega),(show aG 3 n from by unfold aG; omega),(show aG 3 m from by unfold aG; omega),(show aG 3 a from by unfold aG; omega),.inl ⟨rfl,rfl⟩,.inl rfl,.inl ⟨rfl,rfl⟩,.inl rfl,.inr ⟨Bool.false_ne_true,rfl,.inl ⟨rfl,rfl⟩⟩,?_⟩
 refine⟨fun h=>absurd (show (95:Int)=1 from h) (by decide),fun h=>absurd (show (95:Int)=2\/(95:Int)=3 from h) (by decide),fun h=>absurd (show (95:Int)=29 from h) (by decide),fun _=>hda,?_⟩
 show aa 95=18\/aa 95=19\/aa 95=20->_
 rw[show aa 95=31 by decide]
 exact fun h=>absurd h (by decide)
theorem ri_8 (d k:Int) (hd:0<=d/\d<=7) (hk:0<=k/\k<=255):aw ⟨8,d,0,0,0,k,0,0,0,0,0⟩:=by
 unfold aw
 show aJ _ (cg (aa 8))
 rw[show aa 8=4 by decide,show cg 4 = { fL with rd:=1,i1:=255,i2:=1 } from rfl]
 refine⟨(show (1:Int)<=8/\(8:Int)<=100 by decide),(show aG 1 d from by unfold aG; omega),(show aG 0 0 from .inr (.inr (.inr ⟨by decide,by decide,by decide,rfl⟩))),(show aG 0 0 from .inr (.inr (.inr ⟨by decide,by decide,by decide,rfl⟩))),(show aG 0 0 from .inr (.inr (.inr ⟨by decide,by decide,by decide,rfl⟩))),.inl ⟨rfl,rfl⟩,.inl rfl,(show dN (0) 255 1 k from .inr ⟨by decide,by omega,by omega,jf (by omega) (by omega)⟩),.inl rfl,.inr ⟨Bool.false_ne_true,rfl,.inl ⟨rfl,rfl⟩⟩,?_⟩
 refine⟨fun h=>absurd (show (8:Int)=1 from h) (by decide),fun h=>absurd (show (8:Int)=2\/(8:Int)=3 from h) (by decide),fun h=>absurd (show (8:Int)=29 from h) (by decide),fun h=>absurd (show (8:Int)=95\/(8:Int)=96 from h) (by decide),?_⟩
 show aa 8=18\/aa 8=19\/aa 8=20->_
 rw[show aa 8=4 by decide]
 exact fun h=>absurd h (by decide)
theorem ri_9 (d k:Int) (hd:0<=d/\d<=7) (hk:0<=k/\k<=255):aw ⟨9,d,0,0,0,k,0,0,0,0,0⟩:=by
 unfold aw
 show aJ _ (cg (aa 9))
 rw[show aa 9=4 by decide,show cg 4 = { fL with rd:=1,i1:=255,i2:=1 } from rfl]
 refine⟨(show (1:Int)<=9/\(9:Int)<=100 by decide),(show aG 1 d from by unfold aG; omega),(show aG 0 0 from .inr (.inr (.inr ⟨by decide,by decide,by decide,rfl⟩))),(show aG 0 0 from .inr (.inr (.inr ⟨by decide,by decide,by decide,rfl⟩))),(show aG 0 0 from .inr (.inr (.inr ⟨by decide,by decide,by decide,rfl⟩))),.inl ⟨rfl,rfl⟩,.inl rfl,(show dN (0) 255 1 k from .inr ⟨by decide,by omega,by omega,jf (by omega) (by omega)⟩),.inl rfl,.inr ⟨Bool.false_ne_true,rfl,.inl ⟨rfl,rfl⟩⟩,?_⟩
 refine⟨fun h=>absurd (show (9:Int)=1 from h) (by decide),fun h=>absurd (show (9:Int)=2\/(9:Int)=3 from h) (by decide),fun h=>absurd (show (9:Int)=29 from h) (by decide),fun h=>absurd (show (9:Int)=95\/(9:Int)=96 from h) (by decide),?_⟩
 show aa 9=18\/aa 9=19\/aa 9=20->_
 rw[show aa 9=4 by decide]
 exact fun h=>absurd h (by decide)
theorem ri_11 (d k:Int) (hd:0<=d/\d<=7) (hk:0<=k/\k<=255):aw ⟨11,d,0,0,0,k,0,0,0,0,0⟩:=by
 unfold aw
 show aJ _ (cg (aa 11))
 rw[show aa 11=4 by decide,show cg 4 = { fL with rd:=1,i1:=255,i2:=1 } from rfl]
 refine⟨(show (1:Int)<=11/\(11:Int)<=100 by decide),(show aG 1 d from by unfold aG; omega),(show aG 0 0 from .inr (.inr (.inr ⟨by decide,by decide,by decide,rfl⟩))),(show aG 0 0 from .inr (.inr (.inr ⟨by decide,by decide,by decide,rfl⟩))),(show aG 0 0 from .inr (.inr (.inr ⟨by decide,by decide,by decide,rfl⟩))),.inl ⟨rfl,rfl⟩,.inl rfl,(show dN (0) 255 1 k from .inr ⟨by decide,by omega,by omega,jf (by omega) (by omega)⟩),.inl rfl,.inr ⟨Bool.false_ne_true,rfl,.inl ⟨rfl,rfl⟩⟩,?_⟩
 refine⟨fun h=>absurd (show (11:Int)=1 from h) (by decide),fun h=>absurd (show (11:Int)=2\/(11:Int)=3 from h) (by decide),fun h=>absurd (show (11:Int)=29 from h) (by decide),fun h=>absurd (show (11:Int)=95\/(11:Int)=96 from h) (by decide),?_⟩
 show aa 11=18\/aa 11=19\/aa 11=20->_
 rw[show aa 11=4 by decide]
 exact fun h=>absurd h (by decide)
theorem ri_60 (d k:Int) (hd:0<=d/\d<=7) (hk:0<=k/\k<=4095) (hw:Rm.dF k=0):aw ⟨60,d,0,0,0,k,0,0,0,0,0⟩:=by
 unfold aw
 show aJ _ (cg (aa 60))
 rw[show aa 60=19 by decide,show cg 19 = { fL with rd:=3,i1:=4095,i2:=1,set:=true } from rfl]
 refine⟨(show (1:Int)<=60/\(60:Int)<=100 by decide),(show aG 3 d from by unfold aG; omega),(show aG 0 0 from .inr (.inr (.inr ⟨by decide,by decide,by decide,rfl⟩))),(show aG 0 0 from .inr (.inr (.inr ⟨by decide,by decide,by decide,rfl⟩))),(show aG 0 0 from .inr (.inr (.inr ⟨by decide,by decide,by decide,rfl⟩))),.inl ⟨rfl,rfl⟩,.inl rfl,(show dN (0) 4095 1 k from .inr ⟨by decide,by omega,by omega,jf (by omega) (by omega)⟩),.inl rfl,.inr ⟨Bool.false_ne_true,rfl,.inl ⟨rfl,rfl⟩⟩,?_⟩
 refine⟨fun h=>absurd (show (60:Int)=1 from h) (by decide),fun h=>absurd (show (60:Int)=2\/(60:Int)=3 from h) (by decide),fun h=>absurd (show (60:Int)=29 from h) (by decide),fun h=>absurd (show (60:Int)=95\/(60:Int)=96 from h) (by decide),?_⟩
 show aa 60=18\/aa 60=19\/aa 60=20->_
 rw[show aa 60=19 by decide]
 exact fun _=>hw
theorem ri_61 (d k:Int) (hd:0<=d/\d<=7) (hk:0<=k/\k<=4095) (hw:Rm.dF k=0):aw ⟨61,d,0,0,0,k,0,0,0,0,0⟩:=by
 unfold aw
 show aJ _ (cg (aa 61))
 rw[show aa 61=19 by decide,show cg 19 = { fL with rd:=3,i1:=4095,i2:=1,set:=true } from rfl]
 refine⟨(show (1:Int)<=61/\(61:Int)<=100 by decide),(show aG 3 d from by unfold aG; omega),(show aG 0 0 from .inr (.inr (.inr ⟨by decide,by decide,by decide,rfl⟩))),(show aG 0 0 from .inr (.inr (.inr ⟨by decide,by decide,by decide,rfl⟩))),(show aG 0 0 from .inr (.inr (.inr ⟨by decide,by decide,by decide,rfl⟩))),.inl ⟨rfl,rfl⟩,.inl rfl,(show dN (0) 4095 1 k from .inr ⟨by decide,by omega,by omega,jf (by omega) (by omega)⟩),.inl rfl,.inr ⟨Bool.false_ne_true,rfl,.inl ⟨rfl,rfl⟩⟩,?_⟩
 refine⟨fun h=>absurd (show (61:Int)=1 from h) (by decide),fun h=>absurd (show (61:Int)=2\/(61:Int)=3 from h) (by decide),fun h=>absurd (show (61:Int)=29 from h) (by decide),fun h=>absurd (show (61:Int)=95\/(61:Int)=96 from h) (by decide),?_⟩
 show aa 61=18\/aa 61=19\/aa 61=20->_
 rw[show aa 61=19 by decide]
 exact fun _=>hw
theorem Po (d k:Int) (hd:0<=d/\d<=7) (hk:0<=k/\k<=65535):aw ⟨48,d,0,0,0,k,0,0,0,0,0⟩:=by
 unfold aw
 show aJ _ (cg (aa 48))
 rw[show aa 48=17 by decide,show cg 17 = { fL with rd:=3,i1:=65535,i2:=1 } from rfl]
 refine⟨(show (1:Int)<=48/\(48:Int)<=100 by decide),(show aG 3 d from by unfold aG; omega),(show aG 0 0 from .inr (.inr (.inr ⟨by decide,by decide,by decide,rfl⟩))),(show aG 0 0 from .inr (.inr (.inr ⟨by decide,by decide,by decide,rfl⟩))),(show aG 0 0 from .inr (.inr (.inr ⟨by decide,by decide,by decide,rfl⟩))),.inl ⟨rfl,rfl⟩,.inl rfl,(show dN (0) 65535 1 k from .inr ⟨by decide,by omega,by omega,jf (by omega) (by omega)⟩),.inl rfl,.inr ⟨Bool.false_ne_true,rfl,.inl ⟨rfl,rfl⟩⟩,?_⟩
 refine⟨fun h=>absurd (show (48:Int)=1 from h) (by decide),fun h=>absurd (show (48:Int)=2\/(48:Int)=3 from h) (by decide),fun h=>absurd (show (48:Int)=29 from h) (by decide),fun h=>absurd (show (48:Int)=95\/(48:Int)=96 from h) (by decide),?_⟩
 show aa 48=18\/aa 48=19\/aa 48=20->_
 rw[show aa 48=17 by decide]
 exact fun h=>absurd h (by decide)
theorem ri_49 (d k:Int) (hd:0<=d/\d<=7) (hk:0<=k/\k<=65535):aw ⟨49,d,0,0,0,k,0,0,0,0,0⟩:=by
 unfold aw
 show aJ _ (cg (aa 49))
 rw[show aa 49=17 by decide,show cg 17 = { fL with rd:=3,i1:=65535,i2:=1 } from rfl]
 refine⟨(show (1:Int)<=49/\(49:Int)<=100 by decide),(show aG 3 d from by unfold aG; omega),(show aG 0 0 from .inr (.inr (.inr ⟨by decide,by decide,by decide,rfl⟩))),(show aG 0 0 from .inr (.inr (.inr ⟨by decide,by decide,by decide,rfl⟩))),(show aG 0 0 from .inr (.inr (.inr ⟨by decide,by decide,by decide,rfl⟩))),.inl ⟨rfl,rfl⟩,.inl rfl,(show dN (0) 65535 1 k from .inr ⟨by decide,by omega,by omega,jf (by omega) (by omega)⟩),.inl rfl,.inr ⟨Bool.false_ne_true,rfl,.inl ⟨rfl,rfl⟩⟩,?_⟩
 refine⟨fun h=>absurd (show (49:Int)=1 from h) (by decide),fun h=>absurd (show (49:Int)=2\/(49:Int)=3 from h) (by decide),fun h=>absurd (show (49:Int)=29 from h) (by decide),fun h=>absurd (show (49:Int)=95\/(49:Int)=96 from h) (by decide),?_⟩
 show aa 49=18\/aa 49=19\/aa 49=20->_
 rw[show aa 49=17 by decide]
 exact fun h=>absurd h (by decide)
theorem ri_77 (d m:Int) (hd:0<=d/\d<=7) (hm:0<=m/\m<=7) :aw ⟨77,d,0,m,0,0,0,0,0,0,0⟩:=by
 unfold aw
 show aJ _ (cg (aa 77))
 rw[show aa 77=22 by decide,show cg 22 = { fL with rd:=3,rm:=3,kind:=true,set:=true } from rfl]
 refine⟨(show (1:Int)<=77/\(77:Int)<=100 by decide),(show aG 3 d from by unfold aG; omega),(show aG 0 0 from .inr (.inr (.inr ⟨by decide,by decide,by decide,rfl⟩))),(show aG 3 m from by unfold aG; omega),(show aG 0 0 from .inr (.inr (.inr ⟨by decide,by decide,by decide,rfl⟩))),.inl ⟨rfl,rfl⟩,.inl rfl,.inl ⟨rfl,rfl⟩,.inl rfl,.inl ⟨rfl,.inl ⟨rfl,(show (0:Int)<=0/\(0:Int) < 32 by decide)⟩⟩,?_⟩
 refine⟨fun h=>absurd (show (77:Int)=1 from h) (by decide),fun h=>absurd (show (77:Int)=2\/(77:Int)=3 from h) (by decide),fun h=>absurd (show (77:Int)=29 from h) (by decide),fun h=>absurd (show (77:Int)=95\/(77:Int)=96 from h) (by decide),?_⟩
 show aa 77=18\/aa 77=19\/aa 77=20->_
 rw[show aa 77=22 by decide]
 exact fun h=>absurd h (by decide)
theorem ri_76 (d m k:Int) (hd:0<=d/\d<=7) (hm:0<=m/\m<=7) (hk:1<=k/\k<=31):aw ⟨76,d,0,m,0,0,3,k,0,0,0⟩:=by
 unfold aw
 show aJ _ (cg (aa 76))
 rw[show aa 76=22 by decide,show cg 22 = { fL with rd:=3,rm:=3,kind:=true,set:=true } from rfl]
 refine⟨(show (1:Int)<=76/\(76:Int)<=100 by decide),(show aG 3 d from by unfold aG; omega),(show aG 0 0 from .inr (.inr (.inr ⟨by decide,by decide,by decide,rfl⟩))),(show aG 3 m from by unfold aG; omega),(show aG 0 0 from .inr (.inr (.inr ⟨by decide,by decide,by decide,rfl⟩))),.inl ⟨rfl,rfl⟩,.inl rfl,.inl ⟨rfl,rfl⟩,.inl rfl,.inl ⟨rfl,.inr (.inr ⟨rfl,(show 1<=k/\k < 32 by omega)⟩)⟩,?_⟩
 refine⟨fun h=>absurd (show (76:Int)=1 from h) (by decide),fun h=>absurd (show (76:Int)=2\/(76:Int)=3 from h) (by decide),fun h=>absurd (show (76:Int)=29 from h) (by decide),fun h=>absurd (show (76:Int)=95\/(76:Int)=96 from h) (by decide),?_⟩
 show aa 76=18\/aa 76=19\/aa 76=20->_
 rw[show aa 76=22 by decide]
 exact fun h=>absurd h (by decide)
theorem Pp (d n k:Int) (hd:0<=d/\d<=7) (hn:0<=n/\n<=7) (hk:0<=k/\k<=4095) (hw:Rm.dF k=0):aw ⟨59,d,n,0,0,k,0,0,0,0,0⟩:=by
 unfold aw
 show aJ _ (cg (aa 59))
 rw[show aa 59=18 by decide,show cg 18 = { fL with rd:=3,rn:=3,i1:=4095,i2:=1,set:=true } from rfl]
 refine⟨(show (1:Int)<=59/\(59:Int)<=100 by decide),(show aG 3 d from by unfold aG; omega),(show aG 3 n from by unfold aG; omega),(show aG 0 0 from .inr (.inr (.inr ⟨by decide,by decide,by decide,rfl⟩))),(show aG 0 0 from .inr (.inr (.inr ⟨by decide,by decide,by decide,rfl⟩))),.inl ⟨rfl,rfl⟩,.inl rfl,(show dN (0) 4095 1 k from .inr ⟨by decide,by omega,by omega,jf (by omega) (by omega)⟩),.inl rfl,.inr ⟨Bool.false_ne_true,rfl,.inl ⟨rfl,rfl⟩⟩,?_⟩
 refine⟨fun h=>absurd (show (59:Int)=1 from h) (by decide),fun h=>absurd (show (59:Int)=2\/(59:Int)=3 from h) (by decide),fun h=>absurd (show (59:Int)=29 from h) (by decide),fun h=>absurd (show (59:Int)=95\/(59:Int)=96 from h) (by decide),?_⟩
 show aa 59=18\/aa 59=19\/aa 59=20->_
 rw[show aa 59=18 by decide]
 exact fun _=>hw
theorem ri_50 (d n k:Int) (hd:0<=d/\d<=7) (hn:0<=n/\n<=7) (hk:0<=k/\k<=4095) (hw:Rm.dF k=0):aw ⟨50,d,n,0,0,k,0,0,0,0,0⟩:=by
 unfold aw
 show aJ _ (cg (aa 50))
 rw[show aa 50=18 by decide,show cg 18 = { fL with rd:=3,rn:=3,i1:=4095,i2:=1,set:=true } from rfl]
 refine⟨(show (1:Int)<=50/\(50:Int)<=100 by decide),(show aG 3 d from by unfold aG; omega),(show aG 3 n from by unfold aG; omega),(show aG 0 0 from .inr (.inr (.inr ⟨by decide,by decide,by decide,rfl⟩))),(show aG 0 0 from .inr (.inr (.inr ⟨by decide,by decide,by decide,rfl⟩))),.inl ⟨rfl,rfl⟩,.inl rfl,(show dN (0) 4095 1 k from .inr ⟨by decide,by omega,by omega,jf (by omega) (by omega)⟩),.inl rfl,.inr ⟨Bool.false_ne_true,rfl,.inl ⟨rfl,rfl⟩⟩,?_⟩
 refine⟨fun h=>absurd (show (50:Int)=1 from h) (by decide),fun h=>absurd (show (50:Int)=2\/(50:Int)=3 from h) (by decide),fun h=>absurd (show (50:Int)=29 from h) (by decide),fun h=>absurd (show (50:Int)=95\/(50:Int)=96 from h) (by decide),?_⟩
 show aa 50=18\/aa 50=19\/aa 50=20->_
 rw[show aa 50=18 by decide]
 exact fun _=>hw
theorem ri_94 (d n m a:Int) (hd:0<=d/\d<=7) (hn:0<=n/\n<=7) (hm:0<=m/\m<=7) (ha:0<=a/\a<=7) :aw ⟨94,d,n,m,a,0,0,0,0,0,0⟩:=by
 unfold aw
 show aJ _ (cg (aa 94))
 rw[show aa 94=30 by decide,show cg 30 = { fL with rd:=3,rn:=3,rm:=3,ra:=3 } from rfl]
 refine⟨(show (1:Int)<=94/\(94:Int)<=100 by decide),(show aG 3 d from by unfold aG; omega),(show aG 3 n from by unfold aG; omega),(show aG 3 m from by unfold aG; omega),(show aG 3 a from by unfold aG; omega),.inl ⟨rfl,rfl⟩,.inl rfl,.inl ⟨rfl,rfl⟩,.inl rfl,.inr ⟨Bool.false_ne_true,rfl,.inl ⟨rfl,rfl⟩⟩,?_⟩
 refine⟨fun h=>absurd (show (94:Int)=1 from h) (by decide),fun h=>absurd (show (94:Int)=2\/(94:Int)=3 from h) (by decide),fun h=>absurd (show (94:Int)=29 from h) (by decide),fun h=>absurd (show (94:Int)=95\/(94:Int)=96 from h) (by decide),?_⟩
 show aa 94=18\/aa 94=19\/aa 94=20->_
 rw[show aa 94=30 by decide]
 exact fun h=>absurd h (by decide)
theorem ri_65 (n k:Int) (hn:0<=n/\n<=7) (hk:0<=k/\k<=4095) (hw:Rm.dF k=0):aw ⟨65,0,n,0,0,k,0,0,0,0,0⟩:=by
 unfold aw
 show aJ _ (cg (aa 65))
 rw[show aa 65=20 by decide,show cg 20 = { fL with rn:=3,i1:=4095,i2:=1 } from rfl]
 refine⟨(show (1:Int)<=65/\(65:Int)<=100 by decide),(show aG 0 0 from .inr (.inr (.inr ⟨by decide,by decide,by decide,rfl⟩))),(show aG 3 n from by unfold aG; omega),(show aG 0 0 from .inr (.inr (.inr ⟨by decide,by decide,by decide,rfl⟩))),(show aG 0 0 from .inr (.inr (.inr ⟨by decide,by decide,by decide,rfl⟩))),.inl ⟨rfl,rfl⟩,.inl rfl,(show dN (0) 4095 1 k from .inr ⟨by decide,by omega,by omega,jf (by omega) (by omega)⟩),.inl rfl,.inr ⟨Bool.false_ne_true,rfl,.inl ⟨rfl,rfl⟩⟩,?_⟩
 refine⟨fun h=>absurd (show (65:Int)=1 from h) (by decide),fun h=>absurd (show (65:Int)=2\/(65:Int)=3 from h) (by decide),fun h=>absurd (show (65:Int)=29 from h) (by decide),fun h=>absurd (show (65:Int)=95\/(65:Int)=96 from h) (by decide),?_⟩
 show aa 65=18\/aa 65=19\/aa 65=20->_
 rw[show aa 65=20 by decide]
 exact fun _=>hw
structure VO where
 kind:Int
 t0:Int
 t1:Int
 f0:Int
 f1:Int
 f2:Int
 f3:Int
 n:Int
def voL (o:VO):List PV:=[.int .i64 o.kind,.int .i64 o.t0,.int .i64 o.t1,.int .i64 o.f0,.int .i64 o.f1,.int .i64 o.f2,.int .i64 o.f3,.int .u32 o.n]
def nC (o:VO):PV:=.agg (voL o)
def oB (o:VO):an:=⟨.loc,26,1,.w,true,voL o⟩
def cG (l:List Int):List PV:=l.map (PV.int .i64)
def nm (l:List Int):List Int:=l.filter fun r=>decide (r≠-1)
def VO.to (o:VO):List Int:=[o.t0,o.t1]
def VO.from_ (o:VO):List Int:=[o.f0,o.f1,o.f2,o.f3]
theorem h_ (x:Int) (l:List Int):nm (x::l)=if x = -1 then nm l else x::nm l:=by
 unfold nm
 by_cases h:x = -1<;>simp[h]
theorem jM:nm [] = []:=rfl
theorem Js (o:VO):Spec gT 94 [.ref 0 1 2] [oB o] [] fun r S'=>r = .sl 1 (cG (nm o.to))/\S' = [oB o]:=by
 refine Spec.jP (Spec.enter al O4 100 Tryz.func94 rfl (by kernel_rfl) ?_)
 refine SW.rounds al O4 (by kernel_rfl) (N:=60) 3 ?_
 repeat' ((conv=>whnf); first|(refine (And.intro (fun _=>?_) (fun _=>?_):(_->_)/\(_->_))<;>(first|(exfalso; first|contradiction|omega)|skip))|refine Or.inl (And.intro (by first|exact aq (by omega)|exact ah (by omega)|exact aF (by omega)|exact bb (by omega)) ?_)|(refine And.intro (show (_:Int)≠0 by omega) (Or.inl (And.intro (show (0:Int)<=_ by omega) (And.intro (show (0:Int) < _ by omega) ?_))))|(refine And.intro (show (_:Int)≠0 by omega) (Or.inl (And.intro (show (0:Int)<=_ by omega) (And.intro (by first|exact (show (_:Int)<=9223372036854775807 by omega)|exact (show (_:Int)<=4294967295 by omega)) (And.intro (show (0:Int) < _ by omega) ?_)))))|(refine bo ?_ (by repeat' first|exact trivial|exact rfl|exact Iff.rfl|exact Or.inl rfl|refine And.intro ?_ ?_); show _=_; (try simp only[Classical.not_not] at *); simp only[VO.to,h_,jM, *,if_true,if_false]; rfl)|(intro _))
theorem AZ (o:VO):Spec gT 94 [.ref 0 3 4] [oB o] [] fun r S'=>r = .sl 1 (cG (nm o.from_))/\S' = [oB o]:=by
 refine Spec.jP (Spec.enter al O4 100 Tryz.func94 rfl (by kernel_rfl) ?_)
 refine SW.rounds al O4 (by kernel_rfl) (N:=60) 5 ?_
 repeat' ((conv=>whnf); first|(refine (And.intro (fun _=>?_) (fun _=>?_):(_->_)/\(_->_))<;>(first|(exfalso; first|contradiction|omega)|skip))|refine Or.inl (And.intro (by first|exact aq (by omega)|exact ah (by omega)|exact aF (by omega)|exact bb (by omega)) ?_)|(refine And.intro (show (_:Int)≠0 by omega) (Or.inl (And.intro (show (0:Int)<=_ by omega) (And.intro (show (0:Int) < _ by omega) ?_))))|(refine And.intro (show (_:Int)≠0 by omega) (Or.inl (And.intro (show (0:Int)<=_ by omega) (And.intro (by first|exact (show (_:Int)<=9223372036854775807 by omega)|exact (show (_:Int)<=4294967295 by omega)) (And.intro (show (0:Int) < _ by omega) ?_)))))|(refine bo ?_ (by repeat' first|exact trivial|exact rfl|exact Iff.rfl|exact Or.inl rfl|refine And.intro ?_ ?_); show _=_; (try simp only[Classical.not_not] at *); simp only[VO.from_,h_,jM, *,if_true,if_false]; rfl)|(intro _))
theorem Ej (o:VO):ai gT 57 [nC o] (.sl 1 (cG (nm o.from_))):=by
 refine Spec.enter al P57 100 Tryz.func57 rfl (by kernel_rfl) ?_
 refine⟨[],bf,(AZ o).mono ?_⟩
 rintro r S' ⟨rfl,rfl⟩
 exact rA
theorem uW (o:VO):ai gT 58 [nC o] (.sl 1 (cG (nm o.to))):=by
 refine Spec.enter al P58 100 Tryz.func58 rfl (by kernel_rfl) ?_
 refine⟨[],bf,(Js o).mono ?_⟩
 rintro r S' ⟨rfl,rfl⟩
 exact rA
theorem bI (k:Int):ai gT 54 [.int .i64 k] (.bool (1<=k/\k<=31)):=by
 refine Spec.enter al P54 100 Tryz.func54 rfl (by kernel_rfl) ?_
 repeat' ((conv=>whnf); first|(refine (And.intro (fun _=>?_) (fun _=>?_):(_->_)/\(_->_))<;>(first|(exfalso; first|contradiction|omega)|skip))|refine Or.inl (And.intro (by first|exact aq (by omega)|exact ah (by omega)|exact aF (by omega)|exact bb (by omega)) ?_)|(refine And.intro (show (_:Int)≠0 by omega) (Or.inl (And.intro (show (0:Int)<=_ by omega) (And.intro (show (0:Int) < _ by omega) ?_))))|(refine And.intro (show (_:Int)≠0 by omega) (Or.inl (And.intro (show (0:Int)<=_ by omega) (And.intro (by first|exact (show (_:Int)<=9223372036854775807 by omega)|exact (show (_:Int)<=4294967295 by omega)) (And.intro (show (0:Int) < _ by omega) ?_)))))|(refine ax ?_; show ¬ _; omega)|(refine ax ?_; show _↔_; omega)|(intro _))
def cC (k n:Int):Prop:=k=1\/((k=2\/k=3\/k=4)/\n % 4=0/\n<=1020)\/((k=18\/k=19\/k=20)/\1<=n/\n<=31)\/(k=30/\((1<=n/\n<=255)\/(n % 4=0/\255 < n/\n<=1024)))\/(¬ (1<=k/\k<=4)/\¬ (18<=k/\k<=20)/\k≠30/\n=0)
theorem oU (k n:Int) (hn:0<=n/\n<=4294967295):ai gT 56 [.int .i64 k,.int .u32 n] (.bool (cC k n)):=by
 refine Spec.enter al P56 100 Tryz.func56 rfl (by kernel_rfl) ?_
 unfold cC
 repeat' ((conv=>whnf); first|(refine (And.intro (fun _=>?_) (fun _=>?_):(_->_)/\(_->_))<;>(first|(exfalso; first|contradiction|omega)|skip))|refine Or.inl (And.intro (by first|exact aq (by omega)|exact ah (by omega)|exact aF (by omega)|exact bb (by omega)) ?_)|(refine And.intro (show (_:Int)≠0 by omega) (Or.inl (And.intro (show (0:Int)<=_ by omega) (And.intro (show (0:Int) < _ by omega) ?_))))|(refine And.intro (show (_:Int)≠0 by omega) (Or.inl (And.intro (show (0:Int)<=_ by omega) (And.intro (by first|exact (show (_:Int)<=9223372036854775807 by omega)|exact (show (_:Int)<=4294967295 by omega)) (And.intro (show (0:Int) < _ by omega) ?_)))))|(refine ax ?_; show ¬ _; omega)|(refine ax ?_; (show cC _ _); unfold cC; omega)|(refine ax ?_; show _↔_; omega)|(intro _))
def dd (i n r:Int):Prop:=(i < n->0<=r/\r<=65535)/\(¬ i < n->r = -1)
theorem Ek (o:VO) (n:Int):Spec gT 55 [.ref 0 1 2,.int .i64 n] [oB o] [] fun r S'=>r = .bool (dd 0 n o.t0/\dd 1 n o.t1)/\S' = [oB o]:=by
 refine Spec.jP (Spec.enter al P55 100 Tryz.func55 rfl (by kernel_rfl) ?_)
 refine SW.rounds al P55 (by kernel_rfl) (N:=60) 3 ?_
 repeat' ((conv=>whnf); first|(refine (And.intro (fun _=>?_) (fun _=>?_):(_->_)/\(_->_))<;>(first|(exfalso; first|contradiction|omega)|skip))|refine Or.inl (And.intro (by first|exact aq (by omega)|exact ah (by omega)|exact aF (by omega)|exact bb (by omega)) ?_)|(refine And.intro (show (_:Int)≠0 by omega) (Or.inl (And.intro (show (0:Int)<=_ by omega) (And.intro (show (0:Int) < _ by omega) ?_))))|(refine And.intro (show (_:Int)≠0 by omega) (Or.inl (And.intro (show (0:Int)<=_ by omega) (And.intro (by first|exact (show (_:Int)<=9223372036854775807 by omega)|exact (show (_:Int)<=4294967295 by omega)) (And.intro (show (0:Int) < _ by omega) ?_)))))|(refine bo ?_ (by repeat' first|exact trivial|exact rfl|exact Iff.rfl|exact Or.inl rfl|refine And.intro ?_ ?_); (show dd _ _ _/\dd _ _ _); (try simp only[Classical.not_not,C6,Qy,Qz,QA,QB,QC,QD,QE,QF,Aj,Ak] at *); unfold dd; omega)|(refine bo ?_ (by repeat' first|exact trivial|exact rfl|exact Iff.rfl|exact Or.inl rfl|refine And.intro ?_ ?_); show ¬ _; (try simp only[Classical.not_not,C6,Qy,Qz,QA,QB,QC,QD,QE,QF,Aj,Ak] at *); unfold dd; omega)|(intro _))
theorem yU (o:VO) (n:Int):Spec gT 55 [.ref 0 3 4,.int .i64 n] [oB o] [] fun r S'=>r = .bool (dd 0 n o.f0/\dd 1 n o.f1/\dd 2 n o.f2/\dd 3 n o.f3)/\S' = [oB o]:=by
 refine Spec.jP (Spec.enter al P55 100 Tryz.func55 rfl (by kernel_rfl) ?_)
 refine SW.rounds al P55 (by kernel_rfl) (N:=60) 5 ?_
 repeat' ((conv=>whnf); first|(refine (And.intro (fun _=>?_) (fun _=>?_):(_->_)/\(_->_))<;>(first|(exfalso; first|contradiction|omega)|skip))|refine Or.inl (And.intro (by first|exact aq (by omega)|exact ah (by omega)|exact aF (by omega)|exact bb (by omega)) ?_)|(refine And.intro (show (_:Int)≠0 by omega) (Or.inl (And.intro (show (0:Int)<=_ by omega) (And.intro (show (0:Int) < _ by omega) ?_))))|(refine And.intro (show (_:Int)≠0 by omega) (Or.inl (And.intro (show (0:Int)<=_ by omega) (And.intro (by first|exact (show (_:Int)<=9223372036854775807 by omega)|exact (show (_:Int)<=4294967295 by omega)) (And.intro (show (0:Int) < _ by omega) ?_)))))|(refine bo ?_ (by repeat' first|exact trivial|exact rfl|exact Iff.rfl|exact Or.inl rfl|refine And.intro ?_ ?_); (show dd _ _ _/\dd _ _ _/\dd _ _ _/\dd _ _ _); (try simp only[Classical.not_not,C6,Qy,Qz,QA,QB,QC,QD,QE,QF,Aj,Ak] at *); unfold dd; omega)|(refine bo ?_ (by repeat' first|exact trivial|exact rfl|exact Iff.rfl|exact Or.inl rfl|refine And.intro ?_ ?_); show ¬ _; (try simp only[Classical.not_not,C6,Qy,Qz,QA,QB,QC,QD,QE,QF,Aj,Ak] at *); unfold dd; omega)|(intro _))
theorem Jt {o:VO} {f:FuncId} {args bE:List PV} {r0:PV} {st:List an} {K:PV->List an->Prop} (h:Spec gT f bE [oB o] [] fun r S'=>r=r0/\S' = [oB o]) (hle:oa kZ args bE) (hu:(eO bE).all (fun l=>Nat.blt l 1)=true) (GH:r0.dv.all (fun l=>Nat.blt l 1)=true)
  (hK:GR st [oB o] fun T=>vN [oB o] fun S1=>z5 S1 T (K r0)):Spec gT f args st [] K:=Spec.vU h rfl rfl hu GH hle hK
def vtoL:List Int:=[0,1,1,0,1,1,0,1,1,1,1,1,1,1,1,1,1,1,1,1,1,1,1,2,2,1,2,1,1,1,0,0]
def VF:List Int:=[0,0,0,1,0,2,3,2,2,2,2,2,2,2,2,2,1,1,1,1,1,2,2,4,4,4,2,1,2,3,1,1]
def cv (k:Int):Int:=if 1<=k/\k<=31 then vtoL.getD k.toNat 0 else 0
def aI (k:Int):Int:=if 1<=k/\k<=31 then VF.getD k.toNat 0 else 0
theorem kinds {k:Int} (h:1<=k/\k<=31):k=1\/k=2\/k=3\/k=4\/k=5\/k=6\/k=7\/k=8\/k=9\/k=10\/k=11\/k=12\/k=13\/k=14\/k=15\/k=16\/k=17\/k=18\/k=19\/k=20\/k=21\/k=22\/k=23\/k=24\/k=25\/k=26\/k=27\/k=28\/k=29\/k=30\/k=31:=by omega
theorem VG:ai gT 53 [.int .i64 1] (.agg [.int .i64 (cv 1),.int .i64 (aI 1)]):=by
 refine Spec.enter al mI 100 Tryz.func53 rfl (by kernel_rfl) ?_
 refine (bI _).u ?_
 refine⟨fun h=>absurd (show (1:Int)<=1/\(1:Int)<=31 by decide) h,fun _=>?_⟩
 refine⟨by decide,by decide,.inl ⟨1,rfl,?_⟩⟩
 exact rA
theorem VH:ai gT 53 [.int .i64 2] (.agg [.int .i64 (cv 2),.int .i64 (aI 2)]):=by
 refine Spec.enter al mI 100 Tryz.func53 rfl (by kernel_rfl) ?_
 refine (bI _).u ?_
 refine⟨fun h=>absurd (show (1:Int)<=2/\(2:Int)<=31 by decide) h,fun _=>?_⟩
 refine⟨by decide,by decide,.inl ⟨2,rfl,?_⟩⟩
 exact rA
theorem VI:ai gT 53 [.int .i64 3] (.agg [.int .i64 (cv 3),.int .i64 (aI 3)]):=by
 refine Spec.enter al mI 100 Tryz.func53 rfl (by kernel_rfl) ?_
 refine (bI _).u ?_
 refine⟨fun h=>absurd (show (1:Int)<=3/\(3:Int)<=31 by decide) h,fun _=>?_⟩
 refine⟨by decide,by decide,.inl ⟨3,rfl,?_⟩⟩
 exact rA
theorem VJ:ai gT 53 [.int .i64 4] (.agg [.int .i64 (cv 4),.int .i64 (aI 4)]):=by
 refine Spec.enter al mI 100 Tryz.func53 rfl (by kernel_rfl) ?_
 refine (bI _).u ?_
 refine⟨fun h=>absurd (show (1:Int)<=4/\(4:Int)<=31 by decide) h,fun _=>?_⟩
 refine⟨by decide,by decide,.inl ⟨4,rfl,?_⟩⟩
 exact rA
theorem VK:ai gT 53 [.int .i64 5] (.agg [.int .i64 (cv 5),.int .i64 (aI 5)]):=by
 refine Spec.enter al mI 100 Tryz.func53 rfl (by kernel_rfl) ?_
 refine (bI _).u ?_
 refine⟨fun h=>absurd (show (1:Int)<=5/\(5:Int)<=31 by decide) h,fun _=>?_⟩
 refine⟨by decide,by decide,.inl ⟨5,rfl,?_⟩⟩
 exact rA
theorem VL:ai gT 53 [.int .i64 6] (.agg [.int .i64 (cv 6),.int .i64 (aI 6)]):=by
 refine Spec.enter al mI 100 Tryz.func53 rfl (by kernel_rfl) ?_
 refine (bI _).u ?_
 refine⟨fun h=>absurd (show (1:Int)<=6/\(6:Int)<=31 by decide) h,fun _=>?_⟩
 refine⟨by decide,by decide,.inl ⟨6,rfl,?_⟩⟩
 exact rA
theorem VM:ai gT 53 [.int .i64 7] (.agg [.int .i64 (cv 7),.int .i64 (aI 7)]):=by
 refine Spec.enter al mI 100 Tryz.func53 rfl (by kernel_rfl) ?_
 refine (bI _).u ?_
 refine⟨fun h=>absurd (show (1:Int)<=7/\(7:Int)<=31 by decide) h,fun _=>?_⟩
 refine⟨by decide,by decide,.inl ⟨7,rfl,?_⟩⟩
 exact rA
theorem VN:ai gT 53 [.int .i64 8] (.agg [.int .i64 (cv 8),.int .i64 (aI 8)]):=by
 refine Spec.enter al mI 100 Tryz.func53 rfl (by kernel_rfl) ?_
 refine (bI _).u ?_
 refine⟨fun h=>absurd (show (1:Int)<=8/\(8:Int)<=31 by decide) h,fun _=>?_⟩
 refine⟨by decide,by decide,.inl ⟨8,rfl,?_⟩⟩
 exact rA
theorem VP:ai gT 53 [.int .i64 9] (.agg [.int .i64 (cv 9),.int .i64 (aI 9)]):=by
 refine Spec.enter al mI 100 Tryz.func53 rfl (by kernel_rfl) ?_
 refine (bI _).u ?_
 refine⟨fun h=>absurd (show (1:Int)<=9/\(9:Int)<=31 by decide) h,fun _=>?_⟩
 refine⟨by decide,by decide,.inl ⟨9,rfl,?_⟩⟩
 exact rA
theorem Nn:ai gT 53 [.int .i64 10] (.agg [.int .i64 (cv 10),.int .i64 (aI 10)]):=by
 refine Spec.enter al mI 100 Tryz.func53 rfl (by kernel_rfl) ?_
 refine (bI _).u ?_
 refine⟨fun h=>absurd (show (1:Int)<=10/\(10:Int)<=31 by decide) h,fun _=>?_⟩
 refine⟨by decide,by decide,.inl ⟨10,rfl,?_⟩⟩
 exact rA
theorem No:ai gT 53 [.int .i64 11] (.agg [.int .i64 (cv 11),.int .i64 (aI 11)]):=by
 refine Spec.enter al mI 100 Tryz.func53 rfl (by kernel_rfl) ?_
 refine (bI _).u ?_
 refine⟨fun h=>absurd (show (1:Int)<=11/\(11:Int)<=31 by decide) h,fun _=>?_⟩
 refine⟨by decide,by decide,.inl ⟨11,rfl,?_⟩⟩
 exact rA
theorem Np:ai gT 53 [.int .i64 12] (.agg [.int .i64 (cv 12),.int .i64 (aI 12)]):=by
 refine Spec.enter al mI 100 Tryz.func53 rfl (by kernel_rfl) ?_
 refine (bI _).u ?_
 refine⟨fun h=>absurd (show (1:Int)<=12/\(12:Int)<=31 by decide) h,fun _=>?_⟩
 refine⟨by decide,by decide,.inl ⟨12,rfl,?_⟩⟩
 exact rA
theorem Nq:ai gT 53 [.int .i64 13] (.agg [.int .i64 (cv 13),.int .i64 (aI 13)]):=by
 refine Spec.enter al mI 100 Tryz.func53 rfl (by kernel_rfl) ?_
 refine (bI _).u ?_
 refine⟨fun h=>absurd (show (1:Int)<=13/\(13:Int)<=31 by decide) h,fun _=>?_⟩
 refine⟨by decide,by decide,.inl ⟨13,rfl,?_⟩⟩
 exact rA
theorem Nr:ai gT 53 [.int .i64 14] (.agg [.int .i64 (cv 14),.int .i64 (aI 14)]):=by
 refine Spec.enter al mI 100 Tryz.func53 rfl (by kernel_rfl) ?_
 refine (bI _).u ?_
 refine⟨fun h=>absurd (show (1:Int)<=14/\(14:Int)<=31 by decide) h,fun _=>?_⟩
 refine⟨by decide,by decide,.inl ⟨14,rfl,?_⟩⟩
 exact rA
theorem Ns:ai gT 53 [.int .i64 15] (.agg [.int .i64 (cv 15),.int .i64 (aI 15)]):=by
 refine Spec.enter al mI 100 Tryz.func53 rfl (by kernel_rfl) ?_
 refine (bI _).u ?_
 refine⟨fun h=>absurd (show (1:Int)<=15/\(15:Int)<=31 by decide) h,fun _=>?_⟩
 refine⟨by decide,by decide,.inl ⟨15,rfl,?_⟩⟩
 exact rA
theorem Nt:ai gT 53 [.int .i64 16] (.agg [.int .i64 (cv 16),.int .i64 (aI 16)]):=by
 refine Spec.enter al mI 100 Tryz.func53 rfl (by kernel_rfl) ?_
 refine (bI _).u ?_
 refine⟨fun h=>absurd (show (1:Int)<=16/\(16:Int)<=31 by decide) h,fun _=>?_⟩
 refine⟨by decide,by decide,.inl ⟨16,rfl,?_⟩⟩
 exact rA
theorem Nu:ai gT 53 [.int .i64 17] (.agg [.int .i64 (cv 17),.int .i64 (aI 17)]):=by
 refine Spec.enter al mI 100 Tryz.func53 rfl (by kernel_rfl) ?_
 refine (bI _).u ?_
 refine⟨fun h=>absurd (show (1:Int)<=17/\(17:Int)<=31 by decide) h,fun _=>?_⟩
 refine⟨by decide,by decide,.inl ⟨17,rfl,?_⟩⟩
 exact rA
theorem Nv:ai gT 53 [.int .i64 18] (.agg [.int .i64 (cv 18),.int .i64 (aI 18)]):=by
 refine Spec.enter al mI 100 Tryz.func53 rfl (by kernel_rfl) ?_
 refine (bI _).u ?_
 refine⟨fun h=>absurd (show (1:Int)<=18/\(18:Int)<=31 by decide) h,fun _=>?_⟩
 refine⟨by decide,by decide,.inl ⟨18,rfl,?_⟩⟩
 exact rA
theorem Nw:ai gT 53 [.int .i64 19] (.agg [.int .i64 (cv 19),.int .i64 (aI 19)]):=by
 refine Spec.enter al mI 100 Tryz.func53 rfl (by kernel_rfl) ?_
 refine (bI _).u ?_
 refine⟨fun h=>absurd (show (1:Int)<=19/\(19:Int)<=31 by decide) h,fun _=>?_⟩
 refine⟨by decide,by decide,.inl ⟨19,rfl,?_⟩⟩
 exact rA
theorem Nx:ai gT 53 [.int .i64 20] (.agg [.int .i64 (cv 20),.int .i64 (aI 20)]):=by
 refine Spec.enter al mI 100 Tryz.func53 rfl (by kernel_rfl) ?_
 refine (bI _).u ?_
 refine⟨fun h=>absurd (show (1:Int)<=20/\(20:Int)<=31 by decide) h,fun _=>?_⟩
 refine⟨by decide,by decide,.inl ⟨20,rfl,?_⟩⟩
 exact rA
theorem Ny:ai gT 53 [.int .i64 21] (.agg [.int .i64 (cv 21),.int .i64 (aI 21)]):=by
 refine Spec.enter al mI 100 Tryz.func53 rfl (by kernel_rfl) ?_
 refine (bI _).u ?_
 refine⟨fun h=>absurd (show (1:Int)<=21/\(21:Int)<=31 by decide) h,fun _=>?_⟩
 refine⟨by decide,by decide,.inl ⟨21,rfl,?_⟩⟩
 exact rA
theorem Nz:ai gT 53 [.int .i64 22] (.agg [.int .i64 (cv 22),.int .i64 (aI 22)]):=by
 refine Spec.enter al mI 100 Tryz.func53 rfl (by kernel_rfl) ?_
 refine (bI _).u ?_
 refine⟨fun h=>absurd (show (1:Int)<=22/\(22:Int)<=31 by decide) h,fun _=>?_⟩
 refine⟨by decide,by decide,.inl ⟨22,rfl,?_⟩⟩
 exact rA
theorem NA:ai gT 53 [.int .i64 23] (.agg [.int .i64 (cv 23),.int .i64 (aI 23)]):=by
 refine Spec.enter al mI 100 Tryz.func53 rfl (by kernel_rfl) ?_
 refine (bI _).u ?_
 refine⟨fun h=>absurd (show (1:Int)<=23/\(23:Int)<=31 by decide) h,fun _=>?_⟩
 refine⟨by decide,by decide,.inl ⟨23,rfl,?_⟩⟩
 exact rA
theorem NB:ai gT 53 [.int .i64 24] (.agg [.int .i64 (cv 24),.int .i64 (aI 24)]):=by
 refine Spec.enter al mI 100 Tryz.func53 rfl (by kernel_rfl) ?_
 refine (bI _).u ?_
 refine⟨fun h=>absurd (show (1:Int)<=24/\(24:Int)<=31 by decide) h,fun _=>?_⟩
 refine⟨by decide,by decide,.inl ⟨24,rfl,?_⟩⟩
 exact rA
theorem NC:ai gT 53 [.int .i64 25] (.agg [.int .i64 (cv 25),.int .i64 (aI 25)]):=by
 refine Spec.enter al mI 100 Tryz.func53 rfl (by kernel_rfl) ?_
 refine (bI _).u ?_
 refine⟨fun h=>absurd (show (1:Int)<=25/\(25:Int)<=31 by decide) h,fun _=>?_⟩
 refine⟨by decide,by decide,.inl ⟨25,rfl,?_⟩⟩
 exact rA
theorem ND:ai gT 53 [.int .i64 26] (.agg [.int .i64 (cv 26),.int .i64 (aI 26)]):=by
 refine Spec.enter al mI 100 Tryz.func53 rfl (by kernel_rfl) ?_
 refine (bI _).u ?_
 refine⟨fun h=>absurd (show (1:Int)<=26/\(26:Int)<=31 by decide) h,fun _=>?_⟩
 refine⟨by decide,by decide,.inl ⟨26,rfl,?_⟩⟩
 exact rA
theorem NF:ai gT 53 [.int .i64 27] (.agg [.int .i64 (cv 27),.int .i64 (aI 27)]):=by
 refine Spec.enter al mI 100 Tryz.func53 rfl (by kernel_rfl) ?_
 refine (bI _).u ?_
 refine⟨fun h=>absurd (show (1:Int)<=27/\(27:Int)<=31 by decide) h,fun _=>?_⟩
 refine⟨by decide,by decide,.inl ⟨27,rfl,?_⟩⟩
 exact rA
theorem NG:ai gT 53 [.int .i64 28] (.agg [.int .i64 (cv 28),.int .i64 (aI 28)]):=by
 refine Spec.enter al mI 100 Tryz.func53 rfl (by kernel_rfl) ?_
 refine (bI _).u ?_
 refine⟨fun h=>absurd (show (1:Int)<=28/\(28:Int)<=31 by decide) h,fun _=>?_⟩
 refine⟨by decide,by decide,.inl ⟨28,rfl,?_⟩⟩
 exact rA
theorem NH:ai gT 53 [.int .i64 29] (.agg [.int .i64 (cv 29),.int .i64 (aI 29)]):=by
 refine Spec.enter al mI 100 Tryz.func53 rfl (by kernel_rfl) ?_
 refine (bI _).u ?_
 refine⟨fun h=>absurd (show (1:Int)<=29/\(29:Int)<=31 by decide) h,fun _=>?_⟩
 refine⟨by decide,by decide,.inl ⟨29,rfl,?_⟩⟩
 exact rA
theorem NI:ai gT 53 [.int .i64 30] (.agg [.int .i64 (cv 30),.int .i64 (aI 30)]):=by
 refine Spec.enter al mI 100 Tryz.func53 rfl (by kernel_rfl) ?_
 refine (bI _).u ?_
 refine⟨fun h=>absurd (show (1:Int)<=30/\(30:Int)<=31 by decide) h,fun _=>?_⟩
 refine⟨by decide,by decide,.inl ⟨30,rfl,?_⟩⟩
 exact rA
theorem NJ:ai gT 53 [.int .i64 31] (.agg [.int .i64 (cv 31),.int .i64 (aI 31)]):=by
 refine Spec.enter al mI 100 Tryz.func53 rfl (by kernel_rfl) ?_
 refine (bI _).u ?_
 refine⟨fun h=>absurd (show (1:Int)<=31/\(31:Int)<=31 by decide) h,fun _=>?_⟩
 refine⟨by decide,by decide,.inl ⟨31,rfl,?_⟩⟩
 exact rA
theorem NK (k:Int) (h:¬ (1<=k/\k<=31)):ai gT 53 [.int .i64 k] (.agg [.int .i64 (cv k),.int .i64 (aI k)]):=by
 have e1:cv k=0:=if_neg h
 have e2:aI k=0:=if_neg h
 rw[e1,e2]
 refine Spec.enter al mI 100 Tryz.func53 rfl (by kernel_rfl) ?_
 refine (bI _).u ?_
 refine⟨fun _=>?_,fun h'=>absurd h h'⟩
 exact rA
theorem El (k:Int):ai gT 53 [.int .i64 k] (.agg [.int .i64 (cv k),.int .i64 (aI k)]):=by
 by_cases h:1<=k/\k<=31
 ·rcases kinds h with rfl|rfl|rfl|rfl|rfl|rfl|rfl|rfl|rfl|rfl|rfl|rfl|rfl|rfl|rfl|rfl|rfl|rfl|rfl|rfl|rfl|rfl|rfl|rfl|rfl|rfl|rfl|rfl|rfl|rfl|rfl
  ·exact VG
  ·exact VH
  ·exact VI
  ·exact VJ
  ·exact VK
  ·exact VL
  ·exact VM
  ·exact VN
  ·exact VP
  ·exact Nn
  ·exact No
  ·exact Np
  ·exact Nq
  ·exact Nr
  ·exact Ns
  ·exact Nt
  ·exact Nu
  ·exact Nv
  ·exact Nw
  ·exact Nx
  ·exact Ny
  ·exact Nz
  ·exact NA
  ·exact NB
  ·exact NC
  ·exact ND
  ·exact NF
  ·exact NG
  ·exact NH
  ·exact NI
  ·exact NJ
  
 ·exact NK k h
end Go.Proofs.YtlgkljpgagfndaaGreatDoor.Pw
