/- What this claim is proved with: no condition. -/
import Derived.Test.YtlgkljpgagfndaaGreatDoorNv15
set_option maxRecDepth 100000
set_option maxHeartbeats 8000000
set_option linter.unusedVariables false
set_option linter.unusedSimpArgs false
namespace Go.Proofs.YtlgkljpgagfndaaGreatDoor.Pw
open Go Go.RowKit
theorem iE {n s:Int} (h0:0<=n) (h:n % s=0):n.tmod s=0:=by
 rw[Int.tmod_eq_emod_of_nonneg h0]; exact h
theorem Wo (d n m:Int) (hd:0<=d/\d<=7) (hn:0<=n/\n<=7) (hm:0<=m/\m<=7) :au ⟨66,d,n,m,0,0,0,0,0,0,0⟩:=by
 unfold au
 show aI _ (ch (aa 66))
 rw[show aa 66=21 by decide,show ch 21 = { fx with rd:=3,rn:=3,rm:=3,kind:=true,set:=true } from rfl]
 refine⟨(show (1:Int)<=66/\(66:Int)<=100 by decide),(show aG 3 d from by unfold aG; omega),(show aG 3 n from by unfold aG; omega),(show aG 3 m from by unfold aG; omega),(show aG 0 0 from .inr (.inr (.inr ⟨by decide,by decide,by decide,rfl⟩))),.inl ⟨rfl,rfl⟩,.inl rfl,.inl ⟨rfl,rfl⟩,.inl rfl,.inl ⟨rfl,.inl ⟨rfl,(show (0:Int)<=0/\(0:Int) < 32 by decide)⟩⟩,?_⟩
 refine⟨fun h=>absurd (show (66:Int)=1 from h) (by decide),fun h=>absurd (show (66:Int)=2\/(66:Int)=3 from h) (by decide),fun h=>absurd (show (66:Int)=29 from h) (by decide),fun h=>absurd (show (66:Int)=95\/(66:Int)=96 from h) (by decide),?_⟩
 show aa 66=18\/aa 66=19\/aa 66=20->_
 rw[show aa 66=21 by decide]
 exact fun h=>absurd h (by decide)
theorem Wp (d n m:Int) (hd:0<=d/\d<=7) (hn:0<=n/\n<=7) (hm:0<=m/\m<=7) :au ⟨68,d,n,m,0,0,0,0,0,0,0⟩:=by
 unfold au
 show aI _ (ch (aa 68))
 rw[show aa 68=21 by decide,show ch 21 = { fx with rd:=3,rn:=3,rm:=3,kind:=true,set:=true } from rfl]
 refine⟨(show (1:Int)<=68/\(68:Int)<=100 by decide),(show aG 3 d from by unfold aG; omega),(show aG 3 n from by unfold aG; omega),(show aG 3 m from by unfold aG; omega),(show aG 0 0 from .inr (.inr (.inr ⟨by decide,by decide,by decide,rfl⟩))),.inl ⟨rfl,rfl⟩,.inl rfl,.inl ⟨rfl,rfl⟩,.inl rfl,.inl ⟨rfl,.inl ⟨rfl,(show (0:Int)<=0/\(0:Int) < 32 by decide)⟩⟩,?_⟩
 refine⟨fun h=>absurd (show (68:Int)=1 from h) (by decide),fun h=>absurd (show (68:Int)=2\/(68:Int)=3 from h) (by decide),fun h=>absurd (show (68:Int)=29 from h) (by decide),fun h=>absurd (show (68:Int)=95\/(68:Int)=96 from h) (by decide),?_⟩
 show aa 68=18\/aa 68=19\/aa 68=20->_
 rw[show aa 68=21 by decide]
 exact fun h=>absurd h (by decide)
theorem NF (d n m:Int) (hd:0<=d/\d<=7) (hn:0<=n/\n<=7) (hm:0<=m/\m<=7) :au ⟨70,d,n,m,0,0,0,0,0,0,0⟩:=by
 unfold au
 show aI _ (ch (aa 70))
 rw[show aa 70=21 by decide,show ch 21 = { fx with rd:=3,rn:=3,rm:=3,kind:=true,set:=true } from rfl]
 refine⟨(show (1:Int)<=70/\(70:Int)<=100 by decide),(show aG 3 d from by unfold aG; omega),(show aG 3 n from by unfold aG; omega),(show aG 3 m from by unfold aG; omega),(show aG 0 0 from .inr (.inr (.inr ⟨by decide,by decide,by decide,rfl⟩))),.inl ⟨rfl,rfl⟩,.inl rfl,.inl ⟨rfl,rfl⟩,.inl rfl,.inl ⟨rfl,.inl ⟨rfl,(show (0:Int)<=0/\(0:Int) < 32 by decide)⟩⟩,?_⟩
 refine⟨fun h=>absurd (show (70:Int)=1 from h) (by decide),fun h=>absurd (show (70:Int)=2\/(70:Int)=3 from h) (by decide),fun h=>absurd (show (70:Int)=29 from h) (by decide),fun h=>absurd (show (70:Int)=95\/(70:Int)=96 from h) (by decide),?_⟩
 show aa 70=18\/aa 70=19\/aa 70=20->_
 rw[show aa 70=21 by decide]
 exact fun h=>absurd h (by decide)
theorem Wq (d n m:Int) (hd:0<=d/\d<=7) (hn:0<=n/\n<=7) (hm:0<=m/\m<=7) :au ⟨72,d,n,m,0,0,0,0,0,0,0⟩:=by
 unfold au
 show aI _ (ch (aa 72))
 rw[show aa 72=21 by decide,show ch 21 = { fx with rd:=3,rn:=3,rm:=3,kind:=true,set:=true } from rfl]
 refine⟨(show (1:Int)<=72/\(72:Int)<=100 by decide),(show aG 3 d from by unfold aG; omega),(show aG 3 n from by unfold aG; omega),(show aG 3 m from by unfold aG; omega),(show aG 0 0 from .inr (.inr (.inr ⟨by decide,by decide,by decide,rfl⟩))),.inl ⟨rfl,rfl⟩,.inl rfl,.inl ⟨rfl,rfl⟩,.inl rfl,.inl ⟨rfl,.inl ⟨rfl,(show (0:Int)<=0/\(0:Int) < 32 by decide)⟩⟩,?_⟩
 refine⟨fun h=>absurd (show (72:Int)=1 from h) (by decide),fun h=>absurd (show (72:Int)=2\/(72:Int)=3 from h) (by decide),fun h=>absurd (show (72:Int)=29 from h) (by decide),fun h=>absurd (show (72:Int)=95\/(72:Int)=96 from h) (by decide),?_⟩
 show aa 72=18\/aa 72=19\/aa 72=20->_
 rw[show aa 72=21 by decide]
 exact fun h=>absurd h (by decide)
theorem AQ (d n m:Int) (hd:0<=d/\d<=7) (hn:0<=n/\n<=7) (hm:0<=m/\m<=7) :au ⟨73,d,n,m,0,0,0,0,0,0,0⟩:=by
 unfold au
 show aI _ (ch (aa 73))
 rw[show aa 73=21 by decide,show ch 21 = { fx with rd:=3,rn:=3,rm:=3,kind:=true,set:=true } from rfl]
 refine⟨(show (1:Int)<=73/\(73:Int)<=100 by decide),(show aG 3 d from by unfold aG; omega),(show aG 3 n from by unfold aG; omega),(show aG 3 m from by unfold aG; omega),(show aG 0 0 from .inr (.inr (.inr ⟨by decide,by decide,by decide,rfl⟩))),.inl ⟨rfl,rfl⟩,.inl rfl,.inl ⟨rfl,rfl⟩,.inl rfl,.inl ⟨rfl,.inl ⟨rfl,(show (0:Int)<=0/\(0:Int) < 32 by decide)⟩⟩,?_⟩
 refine⟨fun h=>absurd (show (73:Int)=1 from h) (by decide),fun h=>absurd (show (73:Int)=2\/(73:Int)=3 from h) (by decide),fun h=>absurd (show (73:Int)=29 from h) (by decide),fun h=>absurd (show (73:Int)=95\/(73:Int)=96 from h) (by decide),?_⟩
 show aa 73=18\/aa 73=19\/aa 73=20->_
 rw[show aa 73=21 by decide]
 exact fun h=>absurd h (by decide)
theorem Pd (d n m:Int) (hd:0<=d/\d<=7) (hn:0<=n/\n<=7) (hm:0<=m/\m<=7) :au ⟨73,d,n,m,0,0,0,0,1,0,0⟩:=by
 unfold au
 show aI _ (ch (aa 73))
 rw[show aa 73=21 by decide,show ch 21 = { fx with rd:=3,rn:=3,rm:=3,kind:=true,set:=true } from rfl]
 refine⟨(show (1:Int)<=73/\(73:Int)<=100 by decide),(show aG 3 d from by unfold aG; omega),(show aG 3 n from by unfold aG; omega),(show aG 3 m from by unfold aG; omega),(show aG 0 0 from .inr (.inr (.inr ⟨by decide,by decide,by decide,rfl⟩))),.inl ⟨rfl,rfl⟩,.inl rfl,.inl ⟨rfl,rfl⟩,.inr ⟨rfl,rfl⟩,.inl ⟨rfl,.inl ⟨rfl,(show (0:Int)<=0/\(0:Int) < 32 by decide)⟩⟩,?_⟩
 refine⟨fun h=>absurd (show (73:Int)=1 from h) (by decide),fun h=>absurd (show (73:Int)=2\/(73:Int)=3 from h) (by decide),fun h=>absurd (show (73:Int)=29 from h) (by decide),fun h=>absurd (show (73:Int)=95\/(73:Int)=96 from h) (by decide),?_⟩
 show aa 73=18\/aa 73=19\/aa 73=20->_
 rw[show aa 73=21 by decide]
 exact fun h=>absurd h (by decide)
theorem Ws (d n m:Int) (hd:0<=d/\d<=7) (hn:0<=n/\n<=7) (hm:0<=m/\m<=7) :au ⟨4,d,n,m,0,0,0,0,0,0,0⟩:=by
 unfold au
 show aI _ (ch (aa 4))
 rw[show aa 4=2 by decide,show ch 2 = { fx with rd:=1,rn:=1,rm:=1 } from rfl]
 refine⟨(show (1:Int)<=4/\(4:Int)<=100 by decide),(show aG 1 d from by unfold aG; omega),(show aG 1 n from by unfold aG; omega),(show aG 1 m from by unfold aG; omega),(show aG 0 0 from .inr (.inr (.inr ⟨by decide,by decide,by decide,rfl⟩))),.inl ⟨rfl,rfl⟩,.inl rfl,.inl ⟨rfl,rfl⟩,.inl rfl,.inr ⟨Bool.false_ne_true,rfl,.inl ⟨rfl,rfl⟩⟩,?_⟩
 refine⟨fun h=>absurd (show (4:Int)=1 from h) (by decide),fun h=>absurd (show (4:Int)=2\/(4:Int)=3 from h) (by decide),fun h=>absurd (show (4:Int)=29 from h) (by decide),fun h=>absurd (show (4:Int)=95\/(4:Int)=96 from h) (by decide),?_⟩
 show aa 4=18\/aa 4=19\/aa 4=20->_
 rw[show aa 4=2 by decide]
 exact fun h=>absurd h (by decide)
theorem Ku (d n m:Int) (hd:0<=d/\d<=7) (hn:0<=n/\n<=7) (hm:0<=m/\m<=7) :au ⟨5,d,n,m,0,0,0,0,0,0,0⟩:=by
 unfold au
 show aI _ (ch (aa 5))
 rw[show aa 5=2 by decide,show ch 2 = { fx with rd:=1,rn:=1,rm:=1 } from rfl]
 refine⟨(show (1:Int)<=5/\(5:Int)<=100 by decide),(show aG 1 d from by unfold aG; omega),(show aG 1 n from by unfold aG; omega),(show aG 1 m from by unfold aG; omega),(show aG 0 0 from .inr (.inr (.inr ⟨by decide,by decide,by decide,rfl⟩))),.inl ⟨rfl,rfl⟩,.inl rfl,.inl ⟨rfl,rfl⟩,.inl rfl,.inr ⟨Bool.false_ne_true,rfl,.inl ⟨rfl,rfl⟩⟩,?_⟩
 refine⟨fun h=>absurd (show (5:Int)=1 from h) (by decide),fun h=>absurd (show (5:Int)=2\/(5:Int)=3 from h) (by decide),fun h=>absurd (show (5:Int)=29 from h) (by decide),fun h=>absurd (show (5:Int)=95\/(5:Int)=96 from h) (by decide),?_⟩
 show aa 5=18\/aa 5=19\/aa 5=20->_
 rw[show aa 5=2 by decide]
 exact fun h=>absurd h (by decide)
theorem Wt (d n m:Int) (hd:0<=d/\d<=7) (hn:0<=n/\n<=7) (hm:0<=m/\m<=7) :au ⟨92,d,n,m,0,0,0,0,0,0,0⟩:=by
 unfold au
 show aI _ (ch (aa 92))
 rw[show aa 92=28 by decide,show ch 28 = { fx with rd:=3,rn:=3,rm:=3 } from rfl]
 refine⟨(show (1:Int)<=92/\(92:Int)<=100 by decide),(show aG 3 d from by unfold aG; omega),(show aG 3 n from by unfold aG; omega),(show aG 3 m from by unfold aG; omega),(show aG 0 0 from .inr (.inr (.inr ⟨by decide,by decide,by decide,rfl⟩))),.inl ⟨rfl,rfl⟩,.inl rfl,.inl ⟨rfl,rfl⟩,.inl rfl,.inr ⟨Bool.false_ne_true,rfl,.inl ⟨rfl,rfl⟩⟩,?_⟩
 refine⟨fun h=>absurd (show (92:Int)=1 from h) (by decide),fun h=>absurd (show (92:Int)=2\/(92:Int)=3 from h) (by decide),fun h=>absurd (show (92:Int)=29 from h) (by decide),fun h=>absurd (show (92:Int)=95\/(92:Int)=96 from h) (by decide),?_⟩
 show aa 92=18\/aa 92=19\/aa 92=20->_
 rw[show aa 92=28 by decide]
 exact fun h=>absurd h (by decide)
theorem Wu (d n m:Int) (hd:0<=d/\d<=7) (hn:0<=n/\n<=7) (hm:0<=m/\m<=7) :au ⟨97,d,n,m,0,0,0,0,0,0,0⟩:=by
 unfold au
 show aI _ (ch (aa 97))
 rw[show aa 97=28 by decide,show ch 28 = { fx with rd:=3,rn:=3,rm:=3 } from rfl]
 refine⟨(show (1:Int)<=97/\(97:Int)<=100 by decide),(show aG 3 d from by unfold aG; omega),(show aG 3 n from by unfold aG; omega),(show aG 3 m from by unfold aG; omega),(show aG 0 0 from .inr (.inr (.inr ⟨by decide,by decide,by decide,rfl⟩))),.inl ⟨rfl,rfl⟩,.inl rfl,.inl ⟨rfl,rfl⟩,.inl rfl,.inr ⟨Bool.false_ne_true,rfl,.inl ⟨rfl,rfl⟩⟩,?_⟩
 refine⟨fun h=>absurd (show (97:Int)=1 from h) (by decide),fun h=>absurd (show (97:Int)=2\/(97:Int)=3 from h) (by decide),fun h=>absurd (show (97:Int)=29 from h) (by decide),fun h=>absurd (show (97:Int)=95\/(97:Int)=96 from h) (by decide),?_⟩
 show aa 97=18\/aa 97=19\/aa 97=20->_
 rw[show aa 97=28 by decide]
 exact fun h=>absurd h (by decide)
theorem Wv (d n m:Int) (hd:0<=d/\d<=7) (hn:0<=n/\n<=7) (hm:0<=m/\m<=7) :au ⟨88,d,n,m,0,0,0,0,0,0,0⟩:=by
 unfold au
 show aI _ (ch (aa 88))
 rw[show aa 88=27 by decide,show ch 27 = { fx with rd:=3,rn:=3,rm:=3,set:=true } from rfl]
 refine⟨(show (1:Int)<=88/\(88:Int)<=100 by decide),(show aG 3 d from by unfold aG; omega),(show aG 3 n from by unfold aG; omega),(show aG 3 m from by unfold aG; omega),(show aG 0 0 from .inr (.inr (.inr ⟨by decide,by decide,by decide,rfl⟩))),.inl ⟨rfl,rfl⟩,.inl rfl,.inl ⟨rfl,rfl⟩,.inl rfl,.inr ⟨Bool.false_ne_true,rfl,.inl ⟨rfl,rfl⟩⟩,?_⟩
 refine⟨fun h=>absurd (show (88:Int)=1 from h) (by decide),fun h=>absurd (show (88:Int)=2\/(88:Int)=3 from h) (by decide),fun h=>absurd (show (88:Int)=29 from h) (by decide),fun h=>absurd (show (88:Int)=95\/(88:Int)=96 from h) (by decide),?_⟩
 show aa 88=18\/aa 88=19\/aa 88=20->_
 rw[show aa 88=27 by decide]
 exact fun h=>absurd h (by decide)
theorem Ww (d n m:Int) (hd:0<=d/\d<=7) (hn:0<=n/\n<=7) (hm:0<=m/\m<=7) :au ⟨89,d,n,m,0,0,0,0,0,0,0⟩:=by
 unfold au
 show aI _ (ch (aa 89))
 rw[show aa 89=27 by decide,show ch 27 = { fx with rd:=3,rn:=3,rm:=3,set:=true } from rfl]
 refine⟨(show (1:Int)<=89/\(89:Int)<=100 by decide),(show aG 3 d from by unfold aG; omega),(show aG 3 n from by unfold aG; omega),(show aG 3 m from by unfold aG; omega),(show aG 0 0 from .inr (.inr (.inr ⟨by decide,by decide,by decide,rfl⟩))),.inl ⟨rfl,rfl⟩,.inl rfl,.inl ⟨rfl,rfl⟩,.inl rfl,.inr ⟨Bool.false_ne_true,rfl,.inl ⟨rfl,rfl⟩⟩,?_⟩
 refine⟨fun h=>absurd (show (89:Int)=1 from h) (by decide),fun h=>absurd (show (89:Int)=2\/(89:Int)=3 from h) (by decide),fun h=>absurd (show (89:Int)=29 from h) (by decide),fun h=>absurd (show (89:Int)=95\/(89:Int)=96 from h) (by decide),?_⟩
 show aa 89=18\/aa 89=19\/aa 89=20->_
 rw[show aa 89=27 by decide]
 exact fun h=>absurd h (by decide)
theorem Wx (d n m:Int) (hd:0<=d/\d<=7) (hn:0<=n/\n<=7) (hm:0<=m/\m<=7) :au ⟨91,d,n,m,0,0,0,0,0,0,0⟩:=by
 unfold au
 show aI _ (ch (aa 91))
 rw[show aa 91=27 by decide,show ch 27 = { fx with rd:=3,rn:=3,rm:=3,set:=true } from rfl]
 refine⟨(show (1:Int)<=91/\(91:Int)<=100 by decide),(show aG 3 d from by unfold aG; omega),(show aG 3 n from by unfold aG; omega),(show aG 3 m from by unfold aG; omega),(show aG 0 0 from .inr (.inr (.inr ⟨by decide,by decide,by decide,rfl⟩))),.inl ⟨rfl,rfl⟩,.inl rfl,.inl ⟨rfl,rfl⟩,.inl rfl,.inr ⟨Bool.false_ne_true,rfl,.inl ⟨rfl,rfl⟩⟩,?_⟩
 refine⟨fun h=>absurd (show (91:Int)=1 from h) (by decide),fun h=>absurd (show (91:Int)=2\/(91:Int)=3 from h) (by decide),fun h=>absurd (show (91:Int)=29 from h) (by decide),fun h=>absurd (show (91:Int)=95\/(91:Int)=96 from h) (by decide),?_⟩
 show aa 91=18\/aa 91=19\/aa 91=20->_
 rw[show aa 91=27 by decide]
 exact fun h=>absurd h (by decide)
theorem Wy (d k:Int) (hd:0<=d/\d<=7) (hk:0<=k/\k<=1020/\k % 4=0):au ⟨37,d,0,0,0,k,0,0,0,0,0⟩:=by
 unfold au
 show aI _ (ch (aa 37))
 rw[show aa 37=8 by decide,show ch 8 = { fx with rd:=1,i1:=1020,i2:=4 } from rfl]
 refine⟨(show (1:Int)<=37/\(37:Int)<=100 by decide),(show aG 1 d from by unfold aG; omega),(show aG 0 0 from .inr (.inr (.inr ⟨by decide,by decide,by decide,rfl⟩))),(show aG 0 0 from .inr (.inr (.inr ⟨by decide,by decide,by decide,rfl⟩))),(show aG 0 0 from .inr (.inr (.inr ⟨by decide,by decide,by decide,rfl⟩))),.inl ⟨rfl,rfl⟩,.inl rfl,(show dG (0) 1020 4 k from .inr ⟨by decide,by omega,by omega,iE (by omega) (by omega)⟩),.inl rfl,.inr ⟨Bool.false_ne_true,rfl,.inl ⟨rfl,rfl⟩⟩,?_⟩
 refine⟨fun h=>absurd (show (37:Int)=1 from h) (by decide),fun h=>absurd (show (37:Int)=2\/(37:Int)=3 from h) (by decide),fun h=>absurd (show (37:Int)=29 from h) (by decide),fun h=>absurd (show (37:Int)=95\/(37:Int)=96 from h) (by decide),?_⟩
 show aa 37=18\/aa 37=19\/aa 37=20->_
 rw[show aa 37=8 by decide]
 exact fun h=>absurd h (by decide)
theorem Wz (d k:Int) (hd:0<=d/\d<=7) (hk:0<=k/\k<=1020/\k % 4=0):au ⟨38,d,0,0,0,k,0,0,0,0,0⟩:=by
 unfold au
 show aI _ (ch (aa 38))
 rw[show aa 38=8 by decide,show ch 8 = { fx with rd:=1,i1:=1020,i2:=4 } from rfl]
 refine⟨(show (1:Int)<=38/\(38:Int)<=100 by decide),(show aG 1 d from by unfold aG; omega),(show aG 0 0 from .inr (.inr (.inr ⟨by decide,by decide,by decide,rfl⟩))),(show aG 0 0 from .inr (.inr (.inr ⟨by decide,by decide,by decide,rfl⟩))),(show aG 0 0 from .inr (.inr (.inr ⟨by decide,by decide,by decide,rfl⟩))),.inl ⟨rfl,rfl⟩,.inl rfl,(show dG (0) 1020 4 k from .inr ⟨by decide,by omega,by omega,iE (by omega) (by omega)⟩),.inl rfl,.inr ⟨Bool.false_ne_true,rfl,.inl ⟨rfl,rfl⟩⟩,?_⟩
 refine⟨fun h=>absurd (show (38:Int)=1 from h) (by decide),fun h=>absurd (show (38:Int)=2\/(38:Int)=3 from h) (by decide),fun h=>absurd (show (38:Int)=29 from h) (by decide),fun h=>absurd (show (38:Int)=95\/(38:Int)=96 from h) (by decide),?_⟩
 show aa 38=18\/aa 38=19\/aa 38=20->_
 rw[show aa 38=8 by decide]
 exact fun h=>absurd h (by decide)
theorem WA (d k:Int) (hd:0<=d/\d<=7) (hk:0<=k/\k<=1020/\k % 4=0):au ⟨39,d,0,0,0,k,0,0,0,0,0⟩:=by
 unfold au
 show aI _ (ch (aa 39))
 rw[show aa 39=8 by decide,show ch 8 = { fx with rd:=1,i1:=1020,i2:=4 } from rfl]
 refine⟨(show (1:Int)<=39/\(39:Int)<=100 by decide),(show aG 1 d from by unfold aG; omega),(show aG 0 0 from .inr (.inr (.inr ⟨by decide,by decide,by decide,rfl⟩))),(show aG 0 0 from .inr (.inr (.inr ⟨by decide,by decide,by decide,rfl⟩))),(show aG 0 0 from .inr (.inr (.inr ⟨by decide,by decide,by decide,rfl⟩))),.inl ⟨rfl,rfl⟩,.inl rfl,(show dG (0) 1020 4 k from .inr ⟨by decide,by omega,by omega,iE (by omega) (by omega)⟩),.inl rfl,.inr ⟨Bool.false_ne_true,rfl,.inl ⟨rfl,rfl⟩⟩,?_⟩
 refine⟨fun h=>absurd (show (39:Int)=1 from h) (by decide),fun h=>absurd (show (39:Int)=2\/(39:Int)=3 from h) (by decide),fun h=>absurd (show (39:Int)=29 from h) (by decide),fun h=>absurd (show (39:Int)=95\/(39:Int)=96 from h) (by decide),?_⟩
 show aa 39=18\/aa 39=19\/aa 39=20->_
 rw[show aa 39=8 by decide]
 exact fun h=>absurd h (by decide)
theorem WB (d n m:Int) (hd:0<=d/\d<=7) (hn:0<=n/\n<=7) (hm:0<=m/\m<=7) :au ⟨86,d,n,m,0,0,0,2,0,0,0⟩:=by
 unfold au
 show aI _ (ch (aa 86))
 rw[show aa 86=26 by decide,show ch 26 = { fx with rd:=3,rn:=2,rm:=3,b1:=3,b2:=1 } from rfl]
 refine⟨(show (1:Int)<=86/\(86:Int)<=100 by decide),(show aG 3 d from by unfold aG; omega),(show aG 2 n from by unfold aG; omega),(show aG 3 m from by unfold aG; omega),(show aG 0 0 from .inr (.inr (.inr ⟨by decide,by decide,by decide,rfl⟩))),.inl ⟨rfl,rfl⟩,.inl rfl,.inl ⟨rfl,rfl⟩,.inl rfl,.inr ⟨Bool.false_ne_true,rfl,(show dG 0 3 1 2 from .inr ⟨by decide,by decide,by decide,by decide⟩)⟩,?_⟩
 refine⟨fun h=>absurd (show (86:Int)=1 from h) (by decide),fun h=>absurd (show (86:Int)=2\/(86:Int)=3 from h) (by decide),fun h=>absurd (show (86:Int)=29 from h) (by decide),fun h=>absurd (show (86:Int)=95\/(86:Int)=96 from h) (by decide),?_⟩
 show aa 86=18\/aa 86=19\/aa 86=20->_
 rw[show aa 86=26 by decide]
 exact fun h=>absurd h (by decide)
theorem WC (d n m:Int) (hd:0<=d/\d<=7) (hn:0<=n/\n<=7) (hm:0<=m/\m<=7) :au ⟨87,d,n,m,0,0,0,2,0,0,0⟩:=by
 unfold au
 show aI _ (ch (aa 87))
 rw[show aa 87=26 by decide,show ch 26 = { fx with rd:=3,rn:=2,rm:=3,b1:=3,b2:=1 } from rfl]
 refine⟨(show (1:Int)<=87/\(87:Int)<=100 by decide),(show aG 3 d from by unfold aG; omega),(show aG 2 n from by unfold aG; omega),(show aG 3 m from by unfold aG; omega),(show aG 0 0 from .inr (.inr (.inr ⟨by decide,by decide,by decide,rfl⟩))),.inl ⟨rfl,rfl⟩,.inl rfl,.inl ⟨rfl,rfl⟩,.inl rfl,.inr ⟨Bool.false_ne_true,rfl,(show dG 0 3 1 2 from .inr ⟨by decide,by decide,by decide,by decide⟩)⟩,?_⟩
 refine⟨fun h=>absurd (show (87:Int)=1 from h) (by decide),fun h=>absurd (show (87:Int)=2\/(87:Int)=3 from h) (by decide),fun h=>absurd (show (87:Int)=29 from h) (by decide),fun h=>absurd (show (87:Int)=95\/(87:Int)=96 from h) (by decide),?_⟩
 show aa 87=18\/aa 87=19\/aa 87=20->_
 rw[show aa 87=26 by decide]
 exact fun h=>absurd h (by decide)
theorem Kv (d m k:Int) (hd:0<=d/\d<=7) (hm:0<=m/\m<=7) (hk:1<=k/\k<=31):au ⟨2,d,0,m,0,k,0,0,0,0,0⟩:=by
 unfold au
 show aI _ (ch (aa 2))
 rw[show aa 2=1 by decide,show ch 1 = { fx with rd:=1,rm:=1,i0:=0,i1:=32,i2:=1 } from rfl]
 refine⟨(show (1:Int)<=2/\(2:Int)<=100 by decide),(show aG 1 d from by unfold aG; omega),(show aG 0 0 from .inr (.inr (.inr ⟨by decide,by decide,by decide,rfl⟩))),(show aG 1 m from by unfold aG; omega),(show aG 0 0 from .inr (.inr (.inr ⟨by decide,by decide,by decide,rfl⟩))),.inl ⟨rfl,rfl⟩,.inl rfl,(show dG (0) 32 1 k from .inr ⟨by decide,by omega,by omega,iE (by omega) (by omega)⟩),.inl rfl,.inr ⟨Bool.false_ne_true,rfl,.inl ⟨rfl,rfl⟩⟩,?_⟩
 refine⟨fun h=>absurd (show (2:Int)=1 from h) (by decide),fun _=>(show 0 < k by omega),fun h=>absurd (show (2:Int)=29 from h) (by decide),fun h=>absurd (show (2:Int)=95\/(2:Int)=96 from h) (by decide),?_⟩
 show aa 2=18\/aa 2=19\/aa 2=20->_
 rw[show aa 2=1 by decide]
 exact fun h=>absurd h (by decide)
theorem ri_1 (d m k:Int) (hd:0<=d/\d<=7) (hm:0<=m/\m<=7) (hk:1<=k/\k<=31):au ⟨1,d,0,m,0,k,0,0,0,0,0⟩:=by
 unfold au
 show aI _ (ch (aa 1))
 rw[show aa 1=1 by decide,show ch 1 = { fx with rd:=1,rm:=1,i0:=0,i1:=32,i2:=1 } from rfl]
 refine⟨(show (1:Int)<=1/\(1:Int)<=100 by decide),(show aG 1 d from by unfold aG; omega),(show aG 0 0 from .inr (.inr (.inr ⟨by decide,by decide,by decide,rfl⟩))),(show aG 1 m from by unfold aG; omega),(show aG 0 0 from .inr (.inr (.inr ⟨by decide,by decide,by decide,rfl⟩))),.inl ⟨rfl,rfl⟩,.inl rfl,(show dG (0) 32 1 k from .inr ⟨by decide,by omega,by omega,iE (by omega) (by omega)⟩),.inl rfl,.inr ⟨Bool.false_ne_true,rfl,.inl ⟨rfl,rfl⟩⟩,?_⟩
 refine⟨fun _=>(show k < 32 by omega),fun h=>absurd (show (1:Int)=2\/(1:Int)=3 from h) (by decide),fun h=>absurd (show (1:Int)=29 from h) (by decide),fun h=>absurd (show (1:Int)=95\/(1:Int)=96 from h) (by decide),?_⟩
 show aa 1=18\/aa 1=19\/aa 1=20->_
 rw[show aa 1=1 by decide]
 exact fun h=>absurd h (by decide)
theorem WD (d n m a:Int) (hd:0<=d/\d<=7) (hn:0<=n/\n<=7) (hm:0<=m/\m<=7) (ha:0<=a/\a<=7) (WE:d≠a):au ⟨95,d,n,m,a,0,0,0,0,0,0⟩:=by
 unfold au
 show aI _ (ch (aa 95))
 rw[show aa 95=31 by decide,show ch 31 = { fx with rd:=3,rn:=3,rm:=3,ra:=3 } from rfl]
 refine⟨(show (1:Int)<=95/\(95:Int)<=100 by decide),(show aG 3 d from by unfold aG; omega),(show aG 3 n from by unfold aG; omega),(show aG 3 m from by unfold aG; omega),(show aG 3 a from by unfold aG; omega),.inl ⟨rfl,rfl⟩,.inl rfl,.inl ⟨rfl,rfl⟩,.inl rfl,.inr ⟨Bool.false_ne_true,rfl,.inl ⟨rfl,rfl⟩⟩,?_⟩
 refine⟨fun h=>absurd (show (95:Int)=1 from h) (by decide),fun h=>absurd (show (95:Int)=2\/(95:Int)=3 from h) (by decide),fun h=>absurd (show (95:Int)=29 from h) (by decide),fun _=>WE,?_⟩
 show aa 95=18\/aa 95=19\/aa 95=20->_
 rw[show aa 95=31 by decide]
 exact fun h=>absurd h (by decide)
theorem ri_8 (d k:Int) (hd:0<=d/\d<=7) (hk:0<=k/\k<=255):au ⟨8,d,0,0,0,k,0,0,0,0,0⟩:=by
 unfold au
 show aI _ (ch (aa 8))
 rw[show aa 8=4 by decide,show ch 4 = { fx with rd:=1,i1:=255,i2:=1 } from rfl]
 refine⟨(show (1:Int)<=8/\(8:Int)<=100 by decide),(show aG 1 d from by unfold aG; omega),(show aG 0 0 from .inr (.inr (.inr ⟨by decide,by decide,by decide,rfl⟩))),(show aG 0 0 from .inr (.inr (.inr ⟨by decide,by decide,by decide,rfl⟩))),(show aG 0 0 from .inr (.inr (.inr ⟨by decide,by decide,by decide,rfl⟩))),.inl ⟨rfl,rfl⟩,.inl rfl,(show dG (0) 255 1 k from .inr ⟨by decide,by omega,by omega,iE (by omega) (by omega)⟩),.inl rfl,.inr ⟨Bool.false_ne_true,rfl,.inl ⟨rfl,rfl⟩⟩,?_⟩
 refine⟨fun h=>absurd (show (8:Int)=1 from h) (by decide),fun h=>absurd (show (8:Int)=2\/(8:Int)=3 from h) (by decide),fun h=>absurd (show (8:Int)=29 from h) (by decide),fun h=>absurd (show (8:Int)=95\/(8:Int)=96 from h) (by decide),?_⟩
 show aa 8=18\/aa 8=19\/aa 8=20->_
 rw[show aa 8=4 by decide]
 exact fun h=>absurd h (by decide)
theorem WG (d k:Int) (hd:0<=d/\d<=7) (hk:0<=k/\k<=255):au ⟨9,d,0,0,0,k,0,0,0,0,0⟩:=by
 unfold au
 show aI _ (ch (aa 9))
 rw[show aa 9=4 by decide,show ch 4 = { fx with rd:=1,i1:=255,i2:=1 } from rfl]
 refine⟨(show (1:Int)<=9/\(9:Int)<=100 by decide),(show aG 1 d from by unfold aG; omega),(show aG 0 0 from .inr (.inr (.inr ⟨by decide,by decide,by decide,rfl⟩))),(show aG 0 0 from .inr (.inr (.inr ⟨by decide,by decide,by decide,rfl⟩))),(show aG 0 0 from .inr (.inr (.inr ⟨by decide,by decide,by decide,rfl⟩))),.inl ⟨rfl,rfl⟩,.inl rfl,(show dG (0) 255 1 k from .inr ⟨by decide,by omega,by omega,iE (by omega) (by omega)⟩),.inl rfl,.inr ⟨Bool.false_ne_true,rfl,.inl ⟨rfl,rfl⟩⟩,?_⟩
 refine⟨fun h=>absurd (show (9:Int)=1 from h) (by decide),fun h=>absurd (show (9:Int)=2\/(9:Int)=3 from h) (by decide),fun h=>absurd (show (9:Int)=29 from h) (by decide),fun h=>absurd (show (9:Int)=95\/(9:Int)=96 from h) (by decide),?_⟩
 show aa 9=18\/aa 9=19\/aa 9=20->_
 rw[show aa 9=4 by decide]
 exact fun h=>absurd h (by decide)
theorem WH (d k:Int) (hd:0<=d/\d<=7) (hk:0<=k/\k<=255):au ⟨11,d,0,0,0,k,0,0,0,0,0⟩:=by
 unfold au
 show aI _ (ch (aa 11))
 rw[show aa 11=4 by decide,show ch 4 = { fx with rd:=1,i1:=255,i2:=1 } from rfl]
 refine⟨(show (1:Int)<=11/\(11:Int)<=100 by decide),(show aG 1 d from by unfold aG; omega),(show aG 0 0 from .inr (.inr (.inr ⟨by decide,by decide,by decide,rfl⟩))),(show aG 0 0 from .inr (.inr (.inr ⟨by decide,by decide,by decide,rfl⟩))),(show aG 0 0 from .inr (.inr (.inr ⟨by decide,by decide,by decide,rfl⟩))),.inl ⟨rfl,rfl⟩,.inl rfl,(show dG (0) 255 1 k from .inr ⟨by decide,by omega,by omega,iE (by omega) (by omega)⟩),.inl rfl,.inr ⟨Bool.false_ne_true,rfl,.inl ⟨rfl,rfl⟩⟩,?_⟩
 refine⟨fun h=>absurd (show (11:Int)=1 from h) (by decide),fun h=>absurd (show (11:Int)=2\/(11:Int)=3 from h) (by decide),fun h=>absurd (show (11:Int)=29 from h) (by decide),fun h=>absurd (show (11:Int)=95\/(11:Int)=96 from h) (by decide),?_⟩
 show aa 11=18\/aa 11=19\/aa 11=20->_
 rw[show aa 11=4 by decide]
 exact fun h=>absurd h (by decide)
theorem WI (d k:Int) (hd:0<=d/\d<=7) (hk:0<=k/\k<=4095) (hw:Rm.dz k=0):au ⟨60,d,0,0,0,k,0,0,0,0,0⟩:=by
 unfold au
 show aI _ (ch (aa 60))
 rw[show aa 60=19 by decide,show ch 19 = { fx with rd:=3,i1:=4095,i2:=1,set:=true } from rfl]
 refine⟨(show (1:Int)<=60/\(60:Int)<=100 by decide),(show aG 3 d from by unfold aG; omega),(show aG 0 0 from .inr (.inr (.inr ⟨by decide,by decide,by decide,rfl⟩))),(show aG 0 0 from .inr (.inr (.inr ⟨by decide,by decide,by decide,rfl⟩))),(show aG 0 0 from .inr (.inr (.inr ⟨by decide,by decide,by decide,rfl⟩))),.inl ⟨rfl,rfl⟩,.inl rfl,(show dG (0) 4095 1 k from .inr ⟨by decide,by omega,by omega,iE (by omega) (by omega)⟩),.inl rfl,.inr ⟨Bool.false_ne_true,rfl,.inl ⟨rfl,rfl⟩⟩,?_⟩
 refine⟨fun h=>absurd (show (60:Int)=1 from h) (by decide),fun h=>absurd (show (60:Int)=2\/(60:Int)=3 from h) (by decide),fun h=>absurd (show (60:Int)=29 from h) (by decide),fun h=>absurd (show (60:Int)=95\/(60:Int)=96 from h) (by decide),?_⟩
 show aa 60=18\/aa 60=19\/aa 60=20->_
 rw[show aa 60=19 by decide]
 exact fun _=>hw
theorem WJ (d k:Int) (hd:0<=d/\d<=7) (hk:0<=k/\k<=4095) (hw:Rm.dz k=0):au ⟨61,d,0,0,0,k,0,0,0,0,0⟩:=by
 unfold au
 show aI _ (ch (aa 61))
 rw[show aa 61=19 by decide,show ch 19 = { fx with rd:=3,i1:=4095,i2:=1,set:=true } from rfl]
 refine⟨(show (1:Int)<=61/\(61:Int)<=100 by decide),(show aG 3 d from by unfold aG; omega),(show aG 0 0 from .inr (.inr (.inr ⟨by decide,by decide,by decide,rfl⟩))),(show aG 0 0 from .inr (.inr (.inr ⟨by decide,by decide,by decide,rfl⟩))),(show aG 0 0 from .inr (.inr (.inr ⟨by decide,by decide,by decide,rfl⟩))),.inl ⟨rfl,rfl⟩,.inl rfl,(show dG (0) 4095 1 k from .inr ⟨by decide,by omega,by omega,iE (by omega) (by omega)⟩),.inl rfl,.inr ⟨Bool.false_ne_true,rfl,.inl ⟨rfl,rfl⟩⟩,?_⟩
 refine⟨fun h=>absurd (show (61:Int)=1 from h) (by decide),fun h=>absurd (show (61:Int)=2\/(61:Int)=3 from h) (by decide),fun h=>absurd (show (61:Int)=29 from h) (by decide),fun h=>absurd (show (61:Int)=95\/(61:Int)=96 from h) (by decide),?_⟩
 show aa 61=18\/aa 61=19\/aa 61=20->_
 rw[show aa 61=19 by decide]
 exact fun _=>hw
theorem NG (d k:Int) (hd:0<=d/\d<=7) (hk:0<=k/\k<=65535):au ⟨48,d,0,0,0,k,0,0,0,0,0⟩:=by
 unfold au
 show aI _ (ch (aa 48))
 rw[show aa 48=17 by decide,show ch 17 = { fx with rd:=3,i1:=65535,i2:=1 } from rfl]
 refine⟨(show (1:Int)<=48/\(48:Int)<=100 by decide),(show aG 3 d from by unfold aG; omega),(show aG 0 0 from .inr (.inr (.inr ⟨by decide,by decide,by decide,rfl⟩))),(show aG 0 0 from .inr (.inr (.inr ⟨by decide,by decide,by decide,rfl⟩))),(show aG 0 0 from .inr (.inr (.inr ⟨by decide,by decide,by decide,rfl⟩))),.inl ⟨rfl,rfl⟩,.inl rfl,(show dG (0) 65535 1 k from .inr ⟨by decide,by omega,by omega,iE (by omega) (by omega)⟩),.inl rfl,.inr ⟨Bool.false_ne_true,rfl,.inl ⟨rfl,rfl⟩⟩,?_⟩
 refine⟨fun h=>absurd (show (48:Int)=1 from h) (by decide),fun h=>absurd (show (48:Int)=2\/(48:Int)=3 from h) (by decide),fun h=>absurd (show (48:Int)=29 from h) (by decide),fun h=>absurd (show (48:Int)=95\/(48:Int)=96 from h) (by decide),?_⟩
 show aa 48=18\/aa 48=19\/aa 48=20->_
 rw[show aa 48=17 by decide]
 exact fun h=>absurd h (by decide)
theorem WK (d k:Int) (hd:0<=d/\d<=7) (hk:0<=k/\k<=65535):au ⟨49,d,0,0,0,k,0,0,0,0,0⟩:=by
 unfold au
 show aI _ (ch (aa 49))
 rw[show aa 49=17 by decide,show ch 17 = { fx with rd:=3,i1:=65535,i2:=1 } from rfl]
 refine⟨(show (1:Int)<=49/\(49:Int)<=100 by decide),(show aG 3 d from by unfold aG; omega),(show aG 0 0 from .inr (.inr (.inr ⟨by decide,by decide,by decide,rfl⟩))),(show aG 0 0 from .inr (.inr (.inr ⟨by decide,by decide,by decide,rfl⟩))),(show aG 0 0 from .inr (.inr (.inr ⟨by decide,by decide,by decide,rfl⟩))),.inl ⟨rfl,rfl⟩,.inl rfl,(show dG (0) 65535 1 k from .inr ⟨by decide,by omega,by omega,iE (by omega) (by omega)⟩),.inl rfl,.inr ⟨Bool.false_ne_true,rfl,.inl ⟨rfl,rfl⟩⟩,?_⟩
 refine⟨fun h=>absurd (show (49:Int)=1 from h) (by decide),fun h=>absurd (show (49:Int)=2\/(49:Int)=3 from h) (by decide),fun h=>absurd (show (49:Int)=29 from h) (by decide),fun h=>absurd (show (49:Int)=95\/(49:Int)=96 from h) (by decide),?_⟩
 show aa 49=18\/aa 49=19\/aa 49=20->_
 rw[show aa 49=17 by decide]
 exact fun h=>absurd h (by decide)
theorem WL (d m:Int) (hd:0<=d/\d<=7) (hm:0<=m/\m<=7) :au ⟨77,d,0,m,0,0,0,0,0,0,0⟩:=by
 unfold au
 show aI _ (ch (aa 77))
 rw[show aa 77=22 by decide,show ch 22 = { fx with rd:=3,rm:=3,kind:=true,set:=true } from rfl]
 refine⟨(show (1:Int)<=77/\(77:Int)<=100 by decide),(show aG 3 d from by unfold aG; omega),(show aG 0 0 from .inr (.inr (.inr ⟨by decide,by decide,by decide,rfl⟩))),(show aG 3 m from by unfold aG; omega),(show aG 0 0 from .inr (.inr (.inr ⟨by decide,by decide,by decide,rfl⟩))),.inl ⟨rfl,rfl⟩,.inl rfl,.inl ⟨rfl,rfl⟩,.inl rfl,.inl ⟨rfl,.inl ⟨rfl,(show (0:Int)<=0/\(0:Int) < 32 by decide)⟩⟩,?_⟩
 refine⟨fun h=>absurd (show (77:Int)=1 from h) (by decide),fun h=>absurd (show (77:Int)=2\/(77:Int)=3 from h) (by decide),fun h=>absurd (show (77:Int)=29 from h) (by decide),fun h=>absurd (show (77:Int)=95\/(77:Int)=96 from h) (by decide),?_⟩
 show aa 77=18\/aa 77=19\/aa 77=20->_
 rw[show aa 77=22 by decide]
 exact fun h=>absurd h (by decide)
theorem WM (d m k:Int) (hd:0<=d/\d<=7) (hm:0<=m/\m<=7) (hk:1<=k/\k<=31):au ⟨76,d,0,m,0,0,3,k,0,0,0⟩:=by
 unfold au
 show aI _ (ch (aa 76))
 rw[show aa 76=22 by decide,show ch 22 = { fx with rd:=3,rm:=3,kind:=true,set:=true } from rfl]
 refine⟨(show (1:Int)<=76/\(76:Int)<=100 by decide),(show aG 3 d from by unfold aG; omega),(show aG 0 0 from .inr (.inr (.inr ⟨by decide,by decide,by decide,rfl⟩))),(show aG 3 m from by unfold aG; omega),(show aG 0 0 from .inr (.inr (.inr ⟨by decide,by decide,by decide,rfl⟩))),.inl ⟨rfl,rfl⟩,.inl rfl,.inl ⟨rfl,rfl⟩,.inl rfl,.inl ⟨rfl,.inr (.inr ⟨rfl,(show 1<=k/\k < 32 by omega)⟩)⟩,?_⟩
 refine⟨fun h=>absurd (show (76:Int)=1 from h) (by decide),fun h=>absurd (show (76:Int)=2\/(76:Int)=3 from h) (by decide),fun h=>absurd (show (76:Int)=29 from h) (by decide),fun h=>absurd (show (76:Int)=95\/(76:Int)=96 from h) (by decide),?_⟩
 show aa 76=18\/aa 76=19\/aa 76=20->_
 rw[show aa 76=22 by decide]
 exact fun h=>absurd h (by decide)
theorem NH (d n k:Int) (hd:0<=d/\d<=7) (hn:0<=n/\n<=7) (hk:0<=k/\k<=4095) (hw:Rm.dz k=0):au ⟨59,d,n,0,0,k,0,0,0,0,0⟩:=by
 unfold au
 show aI _ (ch (aa 59))
 rw[show aa 59=18 by decide,show ch 18 = { fx with rd:=3,rn:=3,i1:=4095,i2:=1,set:=true } from rfl]
 refine⟨(show (1:Int)<=59/\(59:Int)<=100 by decide),(show aG 3 d from by unfold aG; omega),(show aG 3 n from by unfold aG; omega),(show aG 0 0 from .inr (.inr (.inr ⟨by decide,by decide,by decide,rfl⟩))),(show aG 0 0 from .inr (.inr (.inr ⟨by decide,by decide,by decide,rfl⟩))),.inl ⟨rfl,rfl⟩,.inl rfl,(show dG (0) 4095 1 k from .inr ⟨by decide,by omega,by omega,iE (by omega) (by omega)⟩),.inl rfl,.inr ⟨Bool.false_ne_true,rfl,.inl ⟨rfl,rfl⟩⟩,?_⟩
 refine⟨fun h=>absurd (show (59:Int)=1 from h) (by decide),fun h=>absurd (show (59:Int)=2\/(59:Int)=3 from h) (by decide),fun h=>absurd (show (59:Int)=29 from h) (by decide),fun h=>absurd (show (59:Int)=95\/(59:Int)=96 from h) (by decide),?_⟩
 show aa 59=18\/aa 59=19\/aa 59=20->_
 rw[show aa 59=18 by decide]
 exact fun _=>hw
theorem WN (d n k:Int) (hd:0<=d/\d<=7) (hn:0<=n/\n<=7) (hk:0<=k/\k<=4095) (hw:Rm.dz k=0):au ⟨50,d,n,0,0,k,0,0,0,0,0⟩:=by
 unfold au
 show aI _ (ch (aa 50))
 rw[show aa 50=18 by decide,show ch 18 = { fx with rd:=3,rn:=3,i1:=4095,i2:=1,set:=true } from rfl]
 refine⟨(show (1:Int)<=50/\(50:Int)<=100 by decide),(show aG 3 d from by unfold aG; omega),(show aG 3 n from by unfold aG; omega),(show aG 0 0 from .inr (.inr (.inr ⟨by decide,by decide,by decide,rfl⟩))),(show aG 0 0 from .inr (.inr (.inr ⟨by decide,by decide,by decide,rfl⟩))),.inl ⟨rfl,rfl⟩,.inl rfl,(show dG (0) 4095 1 k from .inr ⟨by decide,by omega,by omega,iE (by omega) (by omega)⟩),.inl rfl,.inr ⟨Bool.false_ne_true,rfl,.inl ⟨rfl,rfl⟩⟩,?_⟩
 refine⟨fun h=>absurd (show (50:Int)=1 from h) (by decide),fun h=>absurd (show (50:Int)=2\/(50:Int)=3 from h) (by decide),fun h=>absurd (show (50:Int)=29 from h) (by decide),fun h=>absurd (show (50:Int)=95\/(50:Int)=96 from h) (by decide),?_⟩
 show aa 50=18\/aa 50=19\/aa 50=20->_
 rw[show aa 50=18 by decide]
 exact fun _=>hw
theorem WO (d n m a:Int) (hd:0<=d/\d<=7) (hn:0<=n/\n<=7) (hm:0<=m/\m<=7) (ha:0<=a/\a<=7) :au ⟨94,d,n,m,a,0,0,0,0,0,0⟩:=by
 unfold au
 show aI _ (ch (aa 94))
 rw[show aa 94=30 by decide,show ch 30 = { fx with rd:=3,rn:=3,rm:=3,ra:=3 } from rfl]
 refine⟨(show (1:Int)<=94/\(94:Int)<=100 by decide),(show aG 3 d from by unfold aG; omega),(show aG 3 n from by unfold aG; omega),(show aG 3 m from by unfold aG; omega),(show aG 3 a from by unfold aG; omega),.inl ⟨rfl,rfl⟩,.inl rfl,.inl ⟨rfl,rfl⟩,.inl rfl,.inr ⟨Bool.false_ne_true,rfl,.inl ⟨rfl,rfl⟩⟩,?_⟩
 refine⟨fun h=>absurd (show (94:Int)=1 from h) (by decide),fun h=>absurd (show (94:Int)=2\/(94:Int)=3 from h) (by decide),fun h=>absurd (show (94:Int)=29 from h) (by decide),fun h=>absurd (show (94:Int)=95\/(94:Int)=96 from h) (by decide),?_⟩
 show aa 94=18\/aa 94=19\/aa 94=20->_
 rw[show aa 94=30 by decide]
 exact fun h=>absurd h (by decide)
theorem WQ (n k:Int) (hn:0<=n/\n<=7) (hk:0<=k/\k<=4095) (hw:Rm.dz k=0):au ⟨65,0,n,0,0,k,0,0,0,0,0⟩:=by
 unfold au
 show aI _ (ch (aa 65))
 rw[show aa 65=20 by decide,show ch 20 = { fx with rn:=3,i1:=4095,i2:=1 } from rfl]
 refine⟨(show (1:Int)<=65/\(65:Int)<=100 by decide),(show aG 0 0 from .inr (.inr (.inr ⟨by decide,by decide,by decide,rfl⟩))),(show aG 3 n from by unfold aG; omega),(show aG 0 0 from .inr (.inr (.inr ⟨by decide,by decide,by decide,rfl⟩))),(show aG 0 0 from .inr (.inr (.inr ⟨by decide,by decide,by decide,rfl⟩))),.inl ⟨rfl,rfl⟩,.inl rfl,(show dG (0) 4095 1 k from .inr ⟨by decide,by omega,by omega,iE (by omega) (by omega)⟩),.inl rfl,.inr ⟨Bool.false_ne_true,rfl,.inl ⟨rfl,rfl⟩⟩,?_⟩
 refine⟨fun h=>absurd (show (65:Int)=1 from h) (by decide),fun h=>absurd (show (65:Int)=2\/(65:Int)=3 from h) (by decide),fun h=>absurd (show (65:Int)=29 from h) (by decide),fun h=>absurd (show (65:Int)=95\/(65:Int)=96 from h) (by decide),?_⟩
 show aa 65=18\/aa 65=19\/aa 65=20->_
 rw[show aa 65=20 by decide]
 exact fun _=>hw
structure VO where
 kind:Int
 t0:Int
 t1:Int
 f0:Int
 f1:Int
 f2:Int
 f3:Int
 n:Int
def voL (o:VO):List PV:=[.int .i64 o.kind,.int .i64 o.t0,.int .i64 o.t1,.int .i64 o.f0,.int .i64 o.f1,.int .i64 o.f2,.int .i64 o.f3,.int .u32 o.n]
def gS (o:VO):PV:=.agg (voL o)
def oB (o:VO):ak:=⟨.loc,26,1,.w,true,voL o⟩
def cE (l:List Int):List PV:=l.map (PV.int .i64)
def nm (l:List Int):List Int:=l.filter fun r=>decide (r≠-1)
def VO.to (o:VO):List Int:=[o.t0,o.t1]
def VO.from_ (o:VO):List Int:=[o.f0,o.f1,o.f2,o.f3]
theorem gK (x:Int) (l:List Int):nm (x::l)=if x = -1 then nm l else x::nm l:=by
 unfold nm
 by_cases h:x = -1<;>simp[h]
theorem jj:nm [] = []:=rfl
theorem F5 (o:VO):Spec gT 94 [.ref 0 1 2] [oB o] [] fun r S'=>r = .sl 1 (cE (nm o.to))/\S' = [oB o]:=by
 refine Spec.jS (Spec.enter al Nx 100 Tryz.func94 rfl (by kernel_rfl) ?_)
 refine SW.rounds al Nx (by kernel_rfl) (N:=60) 3 ?_
 repeat' ((conv=>whnf); first|(refine (And.intro (fun _=>?_) (fun _=>?_):(_->_)/\(_->_))<;>(first|(exfalso; first|contradiction|omega)|skip))|refine Or.inl (And.intro (by first|exact ao (by omega)|exact ah (by omega)|exact aF (by omega)|exact ba (by omega)) ?_)|(refine And.intro (show (_:Int)≠0 by omega) (Or.inl (And.intro (show (0:Int)<=_ by omega) (And.intro (show (0:Int) < _ by omega) ?_))))|(refine And.intro (show (_:Int)≠0 by omega) (Or.inl (And.intro (show (0:Int)<=_ by omega) (And.intro (by first|exact (show (_:Int)<=9223372036854775807 by omega)|exact (show (_:Int)<=4294967295 by omega)) (And.intro (show (0:Int) < _ by omega) ?_)))))|(refine bm ?_ (by repeat' first|exact trivial|exact rfl|exact Iff.rfl|exact Or.inl rfl|refine And.intro ?_ ?_); show _=_; (try simp only[Classical.not_not] at *); simp only[VO.to,gK,jj, *,if_true,if_false]; rfl)|(intro _))
theorem zs (o:VO):Spec gT 94 [.ref 0 3 4] [oB o] [] fun r S'=>r = .sl 1 (cE (nm o.from_))/\S' = [oB o]:=by
 refine Spec.jS (Spec.enter al Nx 100 Tryz.func94 rfl (by kernel_rfl) ?_)
 refine SW.rounds al Nx (by kernel_rfl) (N:=60) 5 ?_
 repeat' ((conv=>whnf); first|(refine (And.intro (fun _=>?_) (fun _=>?_):(_->_)/\(_->_))<;>(first|(exfalso; first|contradiction|omega)|skip))|refine Or.inl (And.intro (by first|exact ao (by omega)|exact ah (by omega)|exact aF (by omega)|exact ba (by omega)) ?_)|(refine And.intro (show (_:Int)≠0 by omega) (Or.inl (And.intro (show (0:Int)<=_ by omega) (And.intro (show (0:Int) < _ by omega) ?_))))|(refine And.intro (show (_:Int)≠0 by omega) (Or.inl (And.intro (show (0:Int)<=_ by omega) (And.intro (by first|exact (show (_:Int)<=9223372036854775807 by omega)|exact (show (_:Int)<=4294967295 by omega)) (And.intro (show (0:Int) < _ by omega) ?_)))))|(refine bm ?_ (by repeat' first|exact trivial|exact rfl|exact Iff.rfl|exact Or.inl rfl|refine And.intro ?_ ?_); show _=_; (try simp only[Classical.not_not] at *); simp only[VO.from_,gK,jj, *,if_true,if_false]; rfl)|(intro _))
theorem Co (o:VO):ai gT 57 [gS o] (.sl 1 (cE (nm o.from_))):=by
 refine Spec.enter al P57 100 Tryz.func57 rfl (by kernel_rfl) ?_
 refine⟨[],bn,(zs o).mono ?_⟩
 rintro r S' ⟨rfl,rfl⟩
 exact rA
theorem tL (o:VO):ai gT 58 [gS o] (.sl 1 (cE (nm o.to))):=by
 refine Spec.enter al P58 100 Tryz.func58 rfl (by kernel_rfl) ?_
 refine⟨[],bn,(F5 o).mono ?_⟩
 rintro r S' ⟨rfl,rfl⟩
 exact rA
theorem bI (k:Int):ai gT 54 [.int .i64 k] (.bool (1<=k/\k<=31)):=by
 refine Spec.enter al P54 100 Tryz.func54 rfl (by kernel_rfl) ?_
 repeat' ((conv=>whnf); first|(refine (And.intro (fun _=>?_) (fun _=>?_):(_->_)/\(_->_))<;>(first|(exfalso; first|contradiction|omega)|skip))|refine Or.inl (And.intro (by first|exact ao (by omega)|exact ah (by omega)|exact aF (by omega)|exact ba (by omega)) ?_)|(refine And.intro (show (_:Int)≠0 by omega) (Or.inl (And.intro (show (0:Int)<=_ by omega) (And.intro (show (0:Int) < _ by omega) ?_))))|(refine And.intro (show (_:Int)≠0 by omega) (Or.inl (And.intro (show (0:Int)<=_ by omega) (And.intro (by first|exact (show (_:Int)<=9223372036854775807 by omega)|exact (show (_:Int)<=4294967295 by omega)) (And.intro (show (0:Int) < _ by omega) ?_)))))|(refine aw ?_; show ¬ _; omega)|(refine aw ?_; show _↔_; omega)|(intro _))
def cC (k n:Int):Prop:=k=1\/((k=2\/k=3\/k=4)/\n % 4=0/\n<=1020)\/((k=18\/k=19\/k=20)/\1<=n/\n<=31)\/(k=30/\((1<=n/\n<=255)\/(n % 4=0/\255 < n/\n<=1024)))\/(¬ (1<=k/\k<=4)/\¬ (18<=k/\k<=20)/\k≠30/\n=0)
theorem nQ (k n:Int) (hn:0<=n/\n<=4294967295):ai gT 56 [.int .i64 k,.int .u32 n] (.bool (cC k n)):=by
 refine Spec.enter al P56 100 Tryz.func56 rfl (by kernel_rfl) ?_
 unfold cC
 repeat' ((conv=>whnf); first|(refine (And.intro (fun _=>?_) (fun _=>?_):(_->_)/\(_->_))<;>(first|(exfalso; first|contradiction|omega)|skip))|refine Or.inl (And.intro (by first|exact ao (by omega)|exact ah (by omega)|exact aF (by omega)|exact ba (by omega)) ?_)|(refine And.intro (show (_:Int)≠0 by omega) (Or.inl (And.intro (show (0:Int)<=_ by omega) (And.intro (show (0:Int) < _ by omega) ?_))))|(refine And.intro (show (_:Int)≠0 by omega) (Or.inl (And.intro (show (0:Int)<=_ by omega) (And.intro (by first|exact (show (_:Int)<=9223372036854775807 by omega)|exact (show (_:Int)<=4294967295 by omega)) (And.intro (show (0:Int) < _ by omega) ?_)))))|(refine aw ?_; show ¬ _; omega)|(refine aw ?_; (show cC _ _); unfold cC; omega)|(refine aw ?_; show _↔_; omega)|(intro _))
def da (i n r:Int):Prop:=(i < n->0<=r/\r<=65535)/\(¬ i < n->r = -1)
theorem Cp (o:VO) (n:Int):Spec gT 55 [.ref 0 1 2,.int .i64 n] [oB o] [] fun r S'=>r = .bool (da 0 n o.t0/\da 1 n o.t1)/\S' = [oB o]:=by
 refine Spec.jS (Spec.enter al P55 100 Tryz.func55 rfl (by kernel_rfl) ?_)
 refine SW.rounds al P55 (by kernel_rfl) (N:=60) 3 ?_
 repeat' ((conv=>whnf); first|(refine (And.intro (fun _=>?_) (fun _=>?_):(_->_)/\(_->_))<;>(first|(exfalso; first|contradiction|omega)|skip))|refine Or.inl (And.intro (by first|exact ao (by omega)|exact ah (by omega)|exact aF (by omega)|exact ba (by omega)) ?_)|(refine And.intro (show (_:Int)≠0 by omega) (Or.inl (And.intro (show (0:Int)<=_ by omega) (And.intro (show (0:Int) < _ by omega) ?_))))|(refine And.intro (show (_:Int)≠0 by omega) (Or.inl (And.intro (show (0:Int)<=_ by omega) (And.intro (by first|exact (show (_:Int)<=9223372036854775807 by omega)|exact (show (_:Int)<=4294967295 by omega)) (And.intro (show (0:Int) < _ by omega) ?_)))))|(refine bm ?_ (by repeat' first|exact trivial|exact rfl|exact Iff.rfl|exact Or.inl rfl|refine And.intro ?_ ?_); (show da _ _ _/\da _ _ _); (try simp only[Classical.not_not,B6,O0,O1,O2,O3,O4,O5,O6,O7,zg,zh] at *); unfold da; omega)|(refine bm ?_ (by repeat' first|exact trivial|exact rfl|exact Iff.rfl|exact Or.inl rfl|refine And.intro ?_ ?_); show ¬ _; (try simp only[Classical.not_not,B6,O0,O1,O2,O3,O4,O5,O6,O7,zg,zh] at *); unfold da; omega)|(intro _))
theorem xj (o:VO) (n:Int):Spec gT 55 [.ref 0 3 4,.int .i64 n] [oB o] [] fun r S'=>r = .bool (da 0 n o.f0/\da 1 n o.f1/\da 2 n o.f2/\da 3 n o.f3)/\S' = [oB o]:=by
 refine Spec.jS (Spec.enter al P55 100 Tryz.func55 rfl (by kernel_rfl) ?_)
 refine SW.rounds al P55 (by kernel_rfl) (N:=60) 5 ?_
 repeat' ((conv=>whnf); first|(refine (And.intro (fun _=>?_) (fun _=>?_):(_->_)/\(_->_))<;>(first|(exfalso; first|contradiction|omega)|skip))|refine Or.inl (And.intro (by first|exact ao (by omega)|exact ah (by omega)|exact aF (by omega)|exact ba (by omega)) ?_)|(refine And.intro (show (_:Int)≠0 by omega) (Or.inl (And.intro (show (0:Int)<=_ by omega) (And.intro (show (0:Int) < _ by omega) ?_))))|(refine And.intro (show (_:Int)≠0 by omega) (Or.inl (And.intro (show (0:Int)<=_ by omega) (And.intro (by first|exact (show (_:Int)<=9223372036854775807 by omega)|exact (show (_:Int)<=4294967295 by omega)) (And.intro (show (0:Int) < _ by omega) ?_)))))|(refine bm ?_ (by repeat' first|exact trivial|exact rfl|exact Iff.rfl|exact Or.inl rfl|refine And.intro ?_ ?_); (show da _ _ _/\da _ _ _/\da _ _ _/\da _ _ _); (try simp only[Classical.not_not,B6,O0,O1,O2,O3,O4,O5,O6,O7,zg,zh] at *); unfold da; omega)|(refine bm ?_ (by repeat' first|exact trivial|exact rfl|exact Iff.rfl|exact Or.inl rfl|refine And.intro ?_ ?_); show ¬ _; (try simp only[Classical.not_not,B6,O0,O1,O2,O3,O4,O5,O6,O7,zg,zh] at *); unfold da; omega)|(intro _))
theorem F6 {o:VO} {f:FuncId} {args bE:List PV} {r0:PV} {st:List ak} {K:PV->List ak->Prop} (h:Spec gT f bE [oB o] [] fun r S'=>r=r0/\S' = [oB o]) (hle:ny kt args bE) (hu:(eC bE).all (fun l=>Nat.blt l 1)=true) (Fp:r0.dk.all (fun l=>Nat.blt l 1)=true)
  (hK:FA st [oB o] fun T=>uT [oB o] fun S1=>y1 S1 T (K r0)):Spec gT f args st [] K:=Spec.uY h rfl rfl hu Fp hle hK
def vtoL:List Int:=[0,1,1,0,1,1,0,1,1,1,1,1,1,1,1,1,1,1,1,1,1,1,1,2,2,1,2,1,1,1,0,0]
def Pe:List Int:=[0,0,0,1,0,2,3,2,2,2,2,2,2,2,2,2,1,1,1,1,1,2,2,4,4,4,2,1,2,3,1,1]
def cz (k:Int):Int:=if 1<=k/\k<=31 then vtoL.getD k.toNat 0 else 0
def aH (k:Int):Int:=if 1<=k/\k<=31 then Pe.getD k.toNat 0 else 0
theorem kinds {k:Int} (h:1<=k/\k<=31):k=1\/k=2\/k=3\/k=4\/k=5\/k=6\/k=7\/k=8\/k=9\/k=10\/k=11\/k=12\/k=13\/k=14\/k=15\/k=16\/k=17\/k=18\/k=19\/k=20\/k=21\/k=22\/k=23\/k=24\/k=25\/k=26\/k=27\/k=28\/k=29\/k=30\/k=31:=by omega
theorem Pf:ai gT 53 [.int .i64 1] (.agg [.int .i64 (cz 1),.int .i64 (aH 1)]):=by
 refine Spec.enter al mb 100 Tryz.func53 rfl (by kernel_rfl) ?_
 refine (bI _).u ?_
 refine⟨fun h=>absurd (show (1:Int)<=1/\(1:Int)<=31 by decide) h,fun _=>?_⟩
 refine⟨by decide,by decide,.inl ⟨1,rfl,?_⟩⟩
 exact rA
theorem Pg:ai gT 53 [.int .i64 2] (.agg [.int .i64 (cz 2),.int .i64 (aH 2)]):=by
 refine Spec.enter al mb 100 Tryz.func53 rfl (by kernel_rfl) ?_
 refine (bI _).u ?_
 refine⟨fun h=>absurd (show (1:Int)<=2/\(2:Int)<=31 by decide) h,fun _=>?_⟩
 refine⟨by decide,by decide,.inl ⟨2,rfl,?_⟩⟩
 exact rA
theorem Ph:ai gT 53 [.int .i64 3] (.agg [.int .i64 (cz 3),.int .i64 (aH 3)]):=by
 refine Spec.enter al mb 100 Tryz.func53 rfl (by kernel_rfl) ?_
 refine (bI _).u ?_
 refine⟨fun h=>absurd (show (1:Int)<=3/\(3:Int)<=31 by decide) h,fun _=>?_⟩
 refine⟨by decide,by decide,.inl ⟨3,rfl,?_⟩⟩
 exact rA
theorem Pj:ai gT 53 [.int .i64 4] (.agg [.int .i64 (cz 4),.int .i64 (aH 4)]):=by
 refine Spec.enter al mb 100 Tryz.func53 rfl (by kernel_rfl) ?_
 refine (bI _).u ?_
 refine⟨fun h=>absurd (show (1:Int)<=4/\(4:Int)<=31 by decide) h,fun _=>?_⟩
 refine⟨by decide,by decide,.inl ⟨4,rfl,?_⟩⟩
 exact rA
theorem Pk:ai gT 53 [.int .i64 5] (.agg [.int .i64 (cz 5),.int .i64 (aH 5)]):=by
 refine Spec.enter al mb 100 Tryz.func53 rfl (by kernel_rfl) ?_
 refine (bI _).u ?_
 refine⟨fun h=>absurd (show (1:Int)<=5/\(5:Int)<=31 by decide) h,fun _=>?_⟩
 refine⟨by decide,by decide,.inl ⟨5,rfl,?_⟩⟩
 exact rA
theorem Pm:ai gT 53 [.int .i64 6] (.agg [.int .i64 (cz 6),.int .i64 (aH 6)]):=by
 refine Spec.enter al mb 100 Tryz.func53 rfl (by kernel_rfl) ?_
 refine (bI _).u ?_
 refine⟨fun h=>absurd (show (1:Int)<=6/\(6:Int)<=31 by decide) h,fun _=>?_⟩
 refine⟨by decide,by decide,.inl ⟨6,rfl,?_⟩⟩
 exact rA
theorem Pn:ai gT 53 [.int .i64 7] (.agg [.int .i64 (cz 7),.int .i64 (aH 7)]):=by
 refine Spec.enter al mb 100 Tryz.func53 rfl (by kernel_rfl) ?_
 refine (bI _).u ?_
 refine⟨fun h=>absurd (show (1:Int)<=7/\(7:Int)<=31 by decide) h,fun _=>?_⟩
 refine⟨by decide,by decide,.inl ⟨7,rfl,?_⟩⟩
 exact rA
theorem Po:ai gT 53 [.int .i64 8] (.agg [.int .i64 (cz 8),.int .i64 (aH 8)]):=by
 refine Spec.enter al mb 100 Tryz.func53 rfl (by kernel_rfl) ?_
 refine (bI _).u ?_
 refine⟨fun h=>absurd (show (1:Int)<=8/\(8:Int)<=31 by decide) h,fun _=>?_⟩
 refine⟨by decide,by decide,.inl ⟨8,rfl,?_⟩⟩
 exact rA
theorem Pp:ai gT 53 [.int .i64 9] (.agg [.int .i64 (cz 9),.int .i64 (aH 9)]):=by
 refine Spec.enter al mb 100 Tryz.func53 rfl (by kernel_rfl) ?_
 refine (bI _).u ?_
 refine⟨fun h=>absurd (show (1:Int)<=9/\(9:Int)<=31 by decide) h,fun _=>?_⟩
 refine⟨by decide,by decide,.inl ⟨9,rfl,?_⟩⟩
 exact rA
theorem Kw:ai gT 53 [.int .i64 10] (.agg [.int .i64 (cz 10),.int .i64 (aH 10)]):=by
 refine Spec.enter al mb 100 Tryz.func53 rfl (by kernel_rfl) ?_
 refine (bI _).u ?_
 refine⟨fun h=>absurd (show (1:Int)<=10/\(10:Int)<=31 by decide) h,fun _=>?_⟩
 refine⟨by decide,by decide,.inl ⟨10,rfl,?_⟩⟩
 exact rA
theorem Kx:ai gT 53 [.int .i64 11] (.agg [.int .i64 (cz 11),.int .i64 (aH 11)]):=by
 refine Spec.enter al mb 100 Tryz.func53 rfl (by kernel_rfl) ?_
 refine (bI _).u ?_
 refine⟨fun h=>absurd (show (1:Int)<=11/\(11:Int)<=31 by decide) h,fun _=>?_⟩
 refine⟨by decide,by decide,.inl ⟨11,rfl,?_⟩⟩
 exact rA
theorem Ky:ai gT 53 [.int .i64 12] (.agg [.int .i64 (cz 12),.int .i64 (aH 12)]):=by
 refine Spec.enter al mb 100 Tryz.func53 rfl (by kernel_rfl) ?_
 refine (bI _).u ?_
 refine⟨fun h=>absurd (show (1:Int)<=12/\(12:Int)<=31 by decide) h,fun _=>?_⟩
 refine⟨by decide,by decide,.inl ⟨12,rfl,?_⟩⟩
 exact rA
theorem Kz:ai gT 53 [.int .i64 13] (.agg [.int .i64 (cz 13),.int .i64 (aH 13)]):=by
 refine Spec.enter al mb 100 Tryz.func53 rfl (by kernel_rfl) ?_
 refine (bI _).u ?_
 refine⟨fun h=>absurd (show (1:Int)<=13/\(13:Int)<=31 by decide) h,fun _=>?_⟩
 refine⟨by decide,by decide,.inl ⟨13,rfl,?_⟩⟩
 exact rA
theorem KA:ai gT 53 [.int .i64 14] (.agg [.int .i64 (cz 14),.int .i64 (aH 14)]):=by
 refine Spec.enter al mb 100 Tryz.func53 rfl (by kernel_rfl) ?_
 refine (bI _).u ?_
 refine⟨fun h=>absurd (show (1:Int)<=14/\(14:Int)<=31 by decide) h,fun _=>?_⟩
 refine⟨by decide,by decide,.inl ⟨14,rfl,?_⟩⟩
 exact rA
theorem KB:ai gT 53 [.int .i64 15] (.agg [.int .i64 (cz 15),.int .i64 (aH 15)]):=by
 refine Spec.enter al mb 100 Tryz.func53 rfl (by kernel_rfl) ?_
 refine (bI _).u ?_
 refine⟨fun h=>absurd (show (1:Int)<=15/\(15:Int)<=31 by decide) h,fun _=>?_⟩
 refine⟨by decide,by decide,.inl ⟨15,rfl,?_⟩⟩
 exact rA
theorem KC:ai gT 53 [.int .i64 16] (.agg [.int .i64 (cz 16),.int .i64 (aH 16)]):=by
 refine Spec.enter al mb 100 Tryz.func53 rfl (by kernel_rfl) ?_
 refine (bI _).u ?_
 refine⟨fun h=>absurd (show (1:Int)<=16/\(16:Int)<=31 by decide) h,fun _=>?_⟩
 refine⟨by decide,by decide,.inl ⟨16,rfl,?_⟩⟩
 exact rA
theorem KD:ai gT 53 [.int .i64 17] (.agg [.int .i64 (cz 17),.int .i64 (aH 17)]):=by
 refine Spec.enter al mb 100 Tryz.func53 rfl (by kernel_rfl) ?_
 refine (bI _).u ?_
 refine⟨fun h=>absurd (show (1:Int)<=17/\(17:Int)<=31 by decide) h,fun _=>?_⟩
 refine⟨by decide,by decide,.inl ⟨17,rfl,?_⟩⟩
 exact rA
theorem KE:ai gT 53 [.int .i64 18] (.agg [.int .i64 (cz 18),.int .i64 (aH 18)]):=by
 refine Spec.enter al mb 100 Tryz.func53 rfl (by kernel_rfl) ?_
 refine (bI _).u ?_
 refine⟨fun h=>absurd (show (1:Int)<=18/\(18:Int)<=31 by decide) h,fun _=>?_⟩
 refine⟨by decide,by decide,.inl ⟨18,rfl,?_⟩⟩
 exact rA
theorem KF:ai gT 53 [.int .i64 19] (.agg [.int .i64 (cz 19),.int .i64 (aH 19)]):=by
 refine Spec.enter al mb 100 Tryz.func53 rfl (by kernel_rfl) ?_
 refine (bI _).u ?_
 refine⟨fun h=>absurd (show (1:Int)<=19/\(19:Int)<=31 by decide) h,fun _=>?_⟩
 refine⟨by decide,by decide,.inl ⟨19,rfl,?_⟩⟩
 exact rA
theorem KG:ai gT 53 [.int .i64 20] (.agg [.int .i64 (cz 20),.int .i64 (aH 20)]):=by
 refine Spec.enter al mb 100 Tryz.func53 rfl (by kernel_rfl) ?_
 refine (bI _).u ?_
 refine⟨fun h=>absurd (show (1:Int)<=20/\(20:Int)<=31 by decide) h,fun _=>?_⟩
 refine⟨by decide,by decide,.inl ⟨20,rfl,?_⟩⟩
 exact rA
theorem KH:ai gT 53 [.int .i64 21] (.agg [.int .i64 (cz 21),.int .i64 (aH 21)]):=by
 refine Spec.enter al mb 100 Tryz.func53 rfl (by kernel_rfl) ?_
 refine (bI _).u ?_
 refine⟨fun h=>absurd (show (1:Int)<=21/\(21:Int)<=31 by decide) h,fun _=>?_⟩
 refine⟨by decide,by decide,.inl ⟨21,rfl,?_⟩⟩
 exact rA
theorem KI:ai gT 53 [.int .i64 22] (.agg [.int .i64 (cz 22),.int .i64 (aH 22)]):=by
 refine Spec.enter al mb 100 Tryz.func53 rfl (by kernel_rfl) ?_
 refine (bI _).u ?_
 refine⟨fun h=>absurd (show (1:Int)<=22/\(22:Int)<=31 by decide) h,fun _=>?_⟩
 refine⟨by decide,by decide,.inl ⟨22,rfl,?_⟩⟩
 exact rA
theorem KJ:ai gT 53 [.int .i64 23] (.agg [.int .i64 (cz 23),.int .i64 (aH 23)]):=by
 refine Spec.enter al mb 100 Tryz.func53 rfl (by kernel_rfl) ?_
 refine (bI _).u ?_
 refine⟨fun h=>absurd (show (1:Int)<=23/\(23:Int)<=31 by decide) h,fun _=>?_⟩
 refine⟨by decide,by decide,.inl ⟨23,rfl,?_⟩⟩
 exact rA
theorem KK:ai gT 53 [.int .i64 24] (.agg [.int .i64 (cz 24),.int .i64 (aH 24)]):=by
 refine Spec.enter al mb 100 Tryz.func53 rfl (by kernel_rfl) ?_
 refine (bI _).u ?_
 refine⟨fun h=>absurd (show (1:Int)<=24/\(24:Int)<=31 by decide) h,fun _=>?_⟩
 refine⟨by decide,by decide,.inl ⟨24,rfl,?_⟩⟩
 exact rA
theorem KL:ai gT 53 [.int .i64 25] (.agg [.int .i64 (cz 25),.int .i64 (aH 25)]):=by
 refine Spec.enter al mb 100 Tryz.func53 rfl (by kernel_rfl) ?_
 refine (bI _).u ?_
 refine⟨fun h=>absurd (show (1:Int)<=25/\(25:Int)<=31 by decide) h,fun _=>?_⟩
 refine⟨by decide,by decide,.inl ⟨25,rfl,?_⟩⟩
 exact rA
theorem KM:ai gT 53 [.int .i64 26] (.agg [.int .i64 (cz 26),.int .i64 (aH 26)]):=by
 refine Spec.enter al mb 100 Tryz.func53 rfl (by kernel_rfl) ?_
 refine (bI _).u ?_
 refine⟨fun h=>absurd (show (1:Int)<=26/\(26:Int)<=31 by decide) h,fun _=>?_⟩
 refine⟨by decide,by decide,.inl ⟨26,rfl,?_⟩⟩
 exact rA
theorem KN:ai gT 53 [.int .i64 27] (.agg [.int .i64 (cz 27),.int .i64 (aH 27)]):=by
 refine Spec.enter al mb 100 Tryz.func53 rfl (by kernel_rfl) ?_
 refine (bI _).u ?_
 refine⟨fun h=>absurd (show (1:Int)<=27/\(27:Int)<=31 by decide) h,fun _=>?_⟩
 refine⟨by decide,by decide,.inl ⟨27,rfl,?_⟩⟩
 exact rA
theorem KO:ai gT 53 [.int .i64 28] (.agg [.int .i64 (cz 28),.int .i64 (aH 28)]):=by
 refine Spec.enter al mb 100 Tryz.func53 rfl (by kernel_rfl) ?_
 refine (bI _).u ?_
 refine⟨fun h=>absurd (show (1:Int)<=28/\(28:Int)<=31 by decide) h,fun _=>?_⟩
 refine⟨by decide,by decide,.inl ⟨28,rfl,?_⟩⟩
 exact rA
theorem KP:ai gT 53 [.int .i64 29] (.agg [.int .i64 (cz 29),.int .i64 (aH 29)]):=by
 refine Spec.enter al mb 100 Tryz.func53 rfl (by kernel_rfl) ?_
 refine (bI _).u ?_
 refine⟨fun h=>absurd (show (1:Int)<=29/\(29:Int)<=31 by decide) h,fun _=>?_⟩
 refine⟨by decide,by decide,.inl ⟨29,rfl,?_⟩⟩
 exact rA
theorem KQ:ai gT 53 [.int .i64 30] (.agg [.int .i64 (cz 30),.int .i64 (aH 30)]):=by
 refine Spec.enter al mb 100 Tryz.func53 rfl (by kernel_rfl) ?_
 refine (bI _).u ?_
 refine⟨fun h=>absurd (show (1:Int)<=30/\(30:Int)<=31 by decide) h,fun _=>?_⟩
 refine⟨by decide,by decide,.inl ⟨30,rfl,?_⟩⟩
 exact rA
theorem KR:ai gT 53 [.int .i64 31] (.agg [.int .i64 (cz 31),.int .i64 (aH 31)]):=by
 refine Spec.enter al mb 100 Tryz.func53 rfl (by kernel_rfl) ?_
 refine (bI _).u ?_
 refine⟨fun h=>absurd (show (1:Int)<=31/\(31:Int)<=31 by decide) h,fun _=>?_⟩
 refine⟨by decide,by decide,.inl ⟨31,rfl,?_⟩⟩
 exact rA
theorem KS (k:Int) (h:¬ (1<=k/\k<=31)):ai gT 53 [.int .i64 k] (.agg [.int .i64 (cz k),.int .i64 (aH k)]):=by
 have e1:cz k=0:=if_neg h
 have e2:aH k=0:=if_neg h
 rw[e1,e2]
 refine Spec.enter al mb 100 Tryz.func53 rfl (by kernel_rfl) ?_
 refine (bI _).u ?_
 refine⟨fun _=>?_,fun h'=>absurd h h'⟩
 exact rA
theorem Cq (k:Int):ai gT 53 [.int .i64 k] (.agg [.int .i64 (cz k),.int .i64 (aH k)]):=by
 by_cases h:1<=k/\k<=31
 ·rcases kinds h with rfl|rfl|rfl|rfl|rfl|rfl|rfl|rfl|rfl|rfl|rfl|rfl|rfl|rfl|rfl|rfl|rfl|rfl|rfl|rfl|rfl|rfl|rfl|rfl|rfl|rfl|rfl|rfl|rfl|rfl|rfl
  ·exact Pf
  ·exact Pg
  ·exact Ph
  ·exact Pj
  ·exact Pk
  ·exact Pm
  ·exact Pn
  ·exact Po
  ·exact Pp
  ·exact Kw
  ·exact Kx
  ·exact Ky
  ·exact Kz
  ·exact KA
  ·exact KB
  ·exact KC
  ·exact KD
  ·exact KE
  ·exact KF
  ·exact KG
  ·exact KH
  ·exact KI
  ·exact KJ
  ·exact KK
  ·exact KL
  ·exact KM
  ·exact KN
  ·exact KO
  ·exact KP
  ·exact KQ
  ·exact KR
  
 ·exact KS k h
end Go.Proofs.YtlgkljpgagfndaaGreatDoor.Pw
