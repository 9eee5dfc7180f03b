/- What this claim is proved with: no condition. -/
import Derived.Test.YtbnoodjnpooocaaGreatDoorNw6
import Derived.Laws.Strings2
set_option linter.unusedVariables false
set_option linter.unusedSimpArgs false
namespace Go.Proofs.YtbnoodjnpooocaaGreatDoor.Pw
open Go
def nf (n:Nat) (q:Nat->Bool):Bool:=match n with
 | 0=>q 0
 | m+1=>q (Nat.succ m)
def zf (z:Int) (q:Int->Bool):Bool:=match z with
 | .ofNat n=>nf n fun n=>q (.ofNat n)
 | .negSucc n=>nf n fun n=>q (.negSucc n)
def Io:Int->Int->Bool
 | .ofNat m,.ofNat n=>Nat.beq m n
 | .negSucc m,.negSucc n=>Nat.beq m n
 | _,_=>false
def QF:Int->Int->Bool
 | .ofNat m,.ofNat n=>Nat.ble (Nat.succ m) n
 | .negSucc _,.ofNat _=>true
 | .ofNat _,.negSucc _=>false
 | .negSucc m,.negSucc n=>Nat.ble (Nat.succ n) m
def inb:IntKind->Int->Bool
 | .i64,.ofNat n=>Nat.ble n 9223372036854775807
 | .i64,.negSucc n=>Nat.ble n 9223372036854775807
 | .u32,.ofNat n=>Nat.ble n 4294967295
 | .u8,.ofNat n=>Nat.ble n 255
 | .u64,.ofNat n=>Nat.ble n 18446744073709551615
 | .u16,.ofNat n=>Nat.ble n 65535
 | _,_=>false
def R5 (k:IntKind) (z:Int) (q:PV->Bool):Bool:=zf z fun z=>bif inb k z then q (.lit k z) else zf (k.wrap z) fun z=>q (.lit k z)
def cb (b:Bool) (q:PV->Bool):Bool:=match b with
 | true=>q .tt
 | false=>q .ff
inductive BM where
 | nil|node (v:Option aj) (l r:BM)
 deriving Inhabited
def BM.get:BM->Nat->Option aj
 | .nil,_=>none
 | .node v l r,n=>bif Nat.beq n 0 then v else bif Nat.beq (Nat.mod n 2) 1 then l.get (Nat.div (Nat.sub n 1) 2) else r.get (Nat.div (Nat.sub n 1) 2)
def BM.put (v:aj):Nat->BM->Nat->(BM->Bool)->Bool
 | 0,_,_,_=>false
 | f+1,.nil,n,k=>bif Nat.beq n 0 then k (.node (some v) .nil .nil) else bif Nat.beq (Nat.mod n 2) 1 then BM.put v f .nil (Nat.div (Nat.sub n 1) 2) (fun t=>k (.node none t .nil)) else BM.put v f .nil (Nat.div (Nat.sub n 1) 2) (fun t=>k (.node none .nil t))
 | f+1,.node u l r,n,k=>bif Nat.beq n 0 then k (.node (some v) l r) else bif Nat.beq (Nat.mod n 2) 1 then BM.put v f l (Nat.div (Nat.sub n 1) 2) (fun t=>k (.node u t r)) else BM.put v f r (Nat.div (Nat.sub n 1) 2) (fun t=>k (.node u l t))
def TM.th:TM->Nat->Option PV
 | .nil,_=>none
 | .node v l r,n=>bif Nat.beq n 0 then v else bif Nat.beq (Nat.mod n 2) 1 then l.th (Nat.div (Nat.sub n 1) 2) else r.th (Nat.div (Nat.sub n 1) 2)
def TM.uX (v:PV):Nat->TM->Nat->(TM->Bool)->Bool
 | 0,_,_,_=>false
 | f+1,.nil,n,k=>bif Nat.beq n 0 then k (.node (some v) .nil .nil) else bif Nat.beq (Nat.mod n 2) 1 then TM.uX v f .nil (Nat.div (Nat.sub n 1) 2) (fun t=>k (.node none t .nil)) else TM.uX v f .nil (Nat.div (Nat.sub n 1) 2) (fun t=>k (.node none .nil t))
 | f+1,.node u l r,n,k=>bif Nat.beq n 0 then k (.node (some v) l r) else bif Nat.beq (Nat.mod n 2) 1 then TM.uX v f l (Nat.div (Nat.sub n 1) 2) (fun t=>k (.node u t r)) else TM.uX v f r (Nat.div (Nat.sub n 1) 2) (fun t=>k (.node u l t))
structure CS where
 t:TM
 h:BM
 n:Nat
 deriving Inhabited
def CS.dX (s:CS) (l:Nat):Option aj:=bif Nat.blt l s.n then s.h.get l else none
def oZ {α:Type}:Nat->List α->(List α->Bool)->Bool
 | 0,l,q=>q l
 | n+1,_::l,q=>oZ n l q
 | _+1,[],_=>false
def o1 {α:Type}:Nat->List α->(List α->Bool)->Bool
 | 0,_,q=>q []
 | n+1,c::l,q=>o1 n l fun r=>q (c::r)
 | _+1,[],_=>false
def jU:Nat->List PV->List PV->(List PV->Bool)->Bool
 | n+1,new,c::l,q=>jU n new l fun r=>q (c::r)
 | _+1,_,[],_=>false
 | 0,new,l,q=>over new l q
where over:List PV->List PV->(List PV->Bool)->Bool
 | [],l,q=>q l
 | x::new,_::l,q=>over new l fun r=>q (x::r)
 | _::_,[],_=>false
def uY:List PV->List PV->(List PV->Bool)->Bool
 | [],m,q=>q m
 | c::l,m,q=>uY l m fun r=>q (c::r)
def cidx {α:Type}:List α->Nat->(α->Bool)->Bool
 | [],_,_=>false
 | c::_,0,q=>q c
 | _::l,n+1,q=>cidx l n q
def j5 {α:Type}:List α->Nat->(Nat->Bool)->Bool
 | [],n,q=>q n
 | _::l,n,q=>j5 l (Nat.succ n) q
def Ip (z:List PV):Nat->(List PV->Bool)->Bool
 | 0,q=>q []
 | n+1,q=>Ip z n fun r=>uY z r q
def E2:List UInt8->List UInt8->Bool
 | [],[]=>true
 | a::l,b::m=>bif Nat.beq a.toNat b.toNat then E2 l m else false
 | _,_=>false
structure ib where
 cx:Ev.Cx
 jl:List (Nat × List PV)
 bt:List (Nat × Nat)
 fns:List (Nat × Func × List (Nat × af))
 rL:List (Nat × List (List PV × PV))
 grow:List (Nat × TypeId × Nat):=[]
abbrev ib.G (C:ib) (d:List Deferred):Gx:={ cx:=C.cx,jl:=C.jl,bt:=C.bt,Bn:=d }
def nd:PV->Bool
 | .agg _|.tup _=>false
 | _=>true
def ck1 (v:Value) (q:PV->Bool):Bool:=match v with
 | .int k n=>q (.lit k n)
 | .bool true=>q .tt
 | .bool false=>q .ff
 | .slice none 0 0=>q .nil
 | .func (.func f) ⟨[]⟩ ⟨[]⟩=>q (.clo f [])
 | v=>bif Ev.flat v then q (.val v) else false
def ckL:List Value->(List PV->Bool)->Bool
 | [],q=>q []
 | v::vs,q=>ck1 v fun x=>ckL vs fun xs=>q (x::xs)
def ck (v:Value) (q:PV->Bool):Bool:=match v with
 | .agg ⟨cs⟩=>ckL cs fun cs=>q (.agg cs)
 | v=>ck1 v q
def fe (t:TM) (o:Operand) (q:PV->Bool):Bool:=match o with
 | .tmp i=>(match t.th i with
  | some x=>q x
  | none=>false)
 | .const v=>ck v q
 | .global g=>q (.gp g 0)
 | .func f=>q (.clo f [])
def mb (t:TM):List Operand->(List PV->Bool)->Bool
 | [],q=>q []
 | o::os,q=>fe t o fun x=>mb t os fun xs=>q (x::xs)
def aK {α:Type} (o:Option α) (q:α->Bool):Bool:=match o with
 | some x=>q x
 | none=>false
def R6 (op:BinOp) (k:IntKind) (a b:Int) (q:PV->Bool):Bool:=match op with
 | .add=>R5 k (Int.add a b) q
 | .sub=>R5 k (Int.sub a b) q
 | .mul=>R5 k (Int.mul a b) q
 | .quo=>bif Io b 0 then false else zf (k.wrap (a.tdiv b)) fun z=>q (.lit k z)
 | .rem=>bif Io b 0 then false else zf (a.tmod b) fun z=>q (.lit k z)
 | .and=>zf (bits .and k a b) fun z=>q (.lit k z)
 | .or=>zf (bits .or k a b) fun z=>q (.lit k z)
 | .xor=>zf (bits .xor k a b) fun z=>q (.lit k z)
 | .andNot=>zf (bits .andNot k a b) fun z=>q (.lit k z)
 | .eql=>cb (Io a b) q
 | .neq=>cb (!Io a b) q
 | .lss=>cb (QF a b) q
 | .leq=>cb (!QF b a) q
 | .gtr=>cb (QF b a) q
 | .geq=>cb (!QF a b) q
 | _=>false
def rf:IntKind->IntKind->Bool
 | .i8,.i8|.i16,.i16|.i32,.i32|.i64,.i64|.u8,.u8|.u16,.u16|.u32,.u32|.u64,.u64=>true
 | _,_=>false
def R7 (op:BinOp) (k k':IntKind) (a b:Int) (q:PV->Bool):Bool:=match op with
 | .shl=>bif QF b 0 then false else zf (k.wrap (a*Ev.aQ k b)) fun z=>q (.lit k z)
 | .shr=>bif QF b 0 then false else zf (a / Ev.aQ k b) fun z=>q (.lit k z)
 | op=>bif rf k k' then R6 op k a b q else false
def o5 (op:BinOp) (b:Bool) (q:PV->Bool):Bool:=match op with
 | .eql=>cb b q
 | .neq=>cb (!b) q
 | _=>false
def vD:PV->Option Bool
 | .tt=>some true
 | .ff=>some false
 | _=>none
def E3:Bool->Bool->Bool
 | true,true|false,false=>true
 | _,_=>false
def Dn (r:TypeId->PV->PV->Option Bool) (cx:Ev.Cx) (xs ys:List PV):List Field->Option Bool
 | []=>some true
 | f::fs=>match jO cx f.type xs f.offset,jO cx f.type ys f.offset with
  | some a,some b=>(match r f.type a b,Dn r cx xs ys fs with
   | some e,some e'=>some (e && e')
   | _,_=>none)
  | _,_=>none
def o6 (r:TypeId->PV->PV->Option Bool) (cx:Ev.Cx) (t:TypeId) (size:Nat) (xs ys:List PV):Nat->Nat->Option Bool
 | 0,_=>some true
 | n+1,off=>match jO cx t xs off,jO cx t ys off with
  | some a,some b=>(match r t a b,o6 r cx t size xs ys n (off+size) with
   | some e,some e'=>some (e && e')
   | _,_=>none)
  | _,_=>none
def E4 (cx:Ev.Cx):Nat->TypeId->PV->PV->Option Bool
 | 0,_,_,_=>none
 | n+1,t,a,b=>match cx.fg t with
  | some (.int _)=>(match a,b with
   | .lit k x,.lit l y=>bif rf k l then some (Io x y) else none
   | _,_=>none)
  | some .bool=>(match vD a,vD b with
   | some p,some q=>some (E3 p q)
   | _,_=>none)
  | some (.struct fs)=>(match a,b with
   | .agg xs,.agg ys=>bif cx.eqs.any (Nat.beq t) then Dn (E4 cx n) cx xs ys fs.toList else none
   | _,_=>none)
  | some (.array len elem)=>(match a,b with
   | .agg xs,.agg ys=>(match Ev.cC cx elem with
    | some c=>o6 (E4 cx n) cx elem c xs ys len 0
    | none=>none)
   | _,_=>none)
  | _=>none
def R8 (s:CS) (op:BinOp) (x:PV) (q:PV->Bool):Bool:=match x with
 | .nil=>o5 op true q
 | .ref _ _ _=>o5 op false q
 | .wref l=>aK (s.dX l) fun b=>bif b.live then (match b.k with
  | .arr=>o5 op false q
  | _=>false) else false
 | .sl _ (_::_)=>o5 op false q
 | _=>false
def Zw (cx:Ev.Cx) (s:CS) (op:BinOp) (t:TypeId) (x y:PV) (q:PV->Bool):Bool :=
 aK (cx.fg t) fun d=>(match d with
  | .bool=>aK (vD x) fun a=>aK (vD y) fun b=>o5 op (E3 a b) q
  | .string=>(match x,y with
   | .val (.string a),.val (.string b)=>o5 op (E2 a.data.toList b.data.toList) q
   | _,_=>false)
  | .slice _=>(match y with
   | .nil=>R8 s op x q
   | _=>false)
  | .pointer _=>(match x,y with
   | .val (.pointer none),.val (.pointer none)=>o5 op true q
   | .ptr _ _,.val (.pointer none)=>o5 op false q
   | _,_=>false)
  | .struct _=>(match x,y with
   | .agg xs,.agg ys=>bif cx.eqs.any (Nat.beq t) then aK (E4 cx 6 t (.agg xs) (.agg ys)) fun b=>o5 op b q else false
   | _,_=>false)
  | .array _ _=>(match x,y with
   | .agg xs,.agg ys=>bif cx.eqs.any (Nat.beq t) then aK (E4 cx 6 t (.agg xs) (.agg ys)) fun b=>o5 op b q else false
   | _,_=>false)
  | _=>false)
def R9 (cx:Ev.Cx) (s:CS) (op:BinOp) (t:TypeId) (x y:PV) (q:PV->Bool):Bool:=match x with
 | .lit k a=>(match y with
  | .lit k' b=>R7 op k k' a b q
  | _=>false)
 | .int _ _=>false
 | x=>Zw cx s op t x y q
def cun (op:UnOp) (x:PV) (q:PV->Bool):Bool:=match op,x with
 | .neg,.lit k a=>R5 k (Int.neg a) q
 | .xor,.lit k a=>zf (bits .xor k (if k.signed then -1 else k.max) a) fun z=>q (.lit k z)
 | .not,.tt=>q .ff
 | .not,.ff=>q .tt
 | _,_=>false
def tj (cx:Ev.Cx) (t:TypeId) (cs:List PV) (off:Nat) (q:PV->Bool):Bool :=
 aK (Ev.fI cx t) fun ag=>match ag with
 | true=>aK (Ev.cC cx t) fun n=>oZ off cs fun l=>o1 n l fun l=>q (.agg l)
 | false=>cidx cs off q
def vE (cx:Ev.Cx) (t:TypeId) (q:List PV->Bool):Bool:=aK ((Ev.lO t cx.tt).bind Ev.TI.zero) fun v=>ck v fun x=>q x.cells
def sc (t:TM):List (Nat × Operand)->(List (Nat × PV)->Bool)->Bool
 | [],q=>q []
 | (i,o)::r,q=>fe t o fun x=>(match x with
  | .tup _=>false
  | x=>sc t r fun l=>q ((i,x)::l))
def vG (place:Nat->Option (Nat × Nat)):List PV->List (Nat × PV)->(List PV->Bool)->Bool
 | cells,[],q=>q cells
 | cells,(i,v)::rest,q=>match place i with
  | none=>false
  | some (off,size)=>j5 v.cells 0 fun n=>bif Nat.beq n size then jU off v.cells cells fun cells=>vG place cells rest q else false
def Iq (cx:Ev.Cx) (tm:TM) (t:TypeId) (ps:List (Nat × Operand)) (q:PV->Bool):Bool :=
 vE cx t fun z=>sc tm ps fun l=>aK (cx.fg t) fun d=>match d with
 | .struct fs=>aK (lS cx fs.toList) fun pl=>vG (pl[·]?) z l fun cs=>q (.agg cs)
 | .array _ elem=>aK (Ev.cC cx elem) fun n=>vG (fun i=>some (Nat.mul i n,n)) z l fun cs=>q (.agg cs)
 | _=>false
def tk (cx:Ev.Cx) (t:TypeId) (x:PV) (f:Nat) (q:PV->Bool):Bool :=
 aK (cx.fg t) fun d=>match d with
 | .struct fs=>aK fs.toList[f]? fun fd=>aK (Ev.cC cx fd.type) fun n=>bif Nat.beq n 0 then false else (match x with
  | .ptr l off=>nf (Nat.add off fd.offset) fun off=>q (.ptr l off)
  | .ep cs off=>nf (Nat.add off fd.offset) fun off=>q (.ep cs off)
  | .gp g off=>nf (Nat.add off fd.offset) fun off=>q (.gp g off)
  | _=>false)
 | _=>false
def vH (z:Int) (len:Nat) (q:Nat->Bool):Bool:=match z with
 | .ofNat j=>bif Nat.blt j len then q j else false
 | _=>false
def nT (cx:Ev.Cx) (s:CS) (t:TypeId) (x i:PV) (q:PV->Bool):Bool:=match i with
 | .lit _ z=>aK (cx.fg t) fun d=>(match d with
  | .array len elem=>aK (Ev.cC cx elem) fun n=>vH z len fun j=>(match x with
   | .ptr l off=>nf (Nat.add off (Nat.mul j n)) fun o=>q (.ptr l o)
   | .gp g off=>nf (Nat.add off (Nat.mul j n)) fun o=>q (.gp g o)
   | .ep cs off=>nf (Nat.add off (Nat.mul j n)) fun o=>q (.ep cs o)
   | _=>false)
  | .slice elem=>aK (Ev.cC cx elem) fun n=>(match x with
   | .sl m es=>bif Nat.beq m n then (match z with
    | .ofNat j=>cidx es j fun e=>q (.ep e.cells 0)
    | _=>false) else false
   | .ref l off len=>aK (s.dX l) fun b=>(match b.k with
    | .arr|.loc=>vH z len fun j=>nf (Nat.add off (Nat.mul j n)) fun o=>q (.ptr l o)
    | _=>false)
   | .wref l=>aK (s.dX l) fun b=>bif b.live && Nat.beq b.size n && Nat.blt 0 n then (match b.k with
    | .arr=>j5 b.cs 0 fun m=>vH z (Nat.div m n) fun j=>nf (Nat.mul j n) fun o=>q (.ptr l o)
    | _=>false) else false
   | _=>false)
  | _=>false)
 | _=>false
def BP (cx:Ev.Cx) (t:TypeId) (x i:PV) (q:PV->Bool):Bool:=match x,i with
 | .val (.string s),.lit _ (.ofNat j)=>aK (cx.fg t) fun d=>(match d with
  | .string=>cidx s.data.toList j fun u=>nf u.toNat fun n=>q (.lit .u8 (.ofNat n))
  | _=>false)
 | .agg cs,.lit _ z=>aK (cx.fg t) fun d=>(match d with
  | .array len elem=>aK (Ev.cC cx elem) fun n=>vH z len fun j=>tj cx elem cs (Nat.mul j n) q
  | _=>false)
 | _,_=>false
def ng (t:TM) (o:Option Operand) (d:Nat) (q:Nat->Bool):Bool:=match o with
 | none=>q d
 | some o=>fe t o fun x=>(match x with
  | .lit _ (.ofNat n)=>q n
  | _=>false)
def qu (ag:Bool) (n:Nat):Nat->List PV->(List PV->Bool)->Bool
 | 0,_,q=>q []
 | k+1,cs,q=>match ag with
  | true=>o1 n cs fun e=>oZ n cs fun cs=>qu ag n k cs fun r=>q (.agg e::r)
  | false=>(match cs with
   | c::cs=>qu ag n k cs fun r=>q (c::r)
   | []=>false)
def R' (m n l r:Nat) (x:PV) (q:PV->Bool):Bool:=match x with
 | .ptr b off=>bif Nat.blt l n && Nat.ble l r && Nat.ble r n then nf (Nat.add off (Nat.mul l m)) fun o=>nf (Nat.sub r l) fun k=>q (.ref b o k) else false
 | _=>false
def R_ (s:CS) (m l:Nat) (hi:Option Operand) (x:PV) (q:PV->Bool):Bool:=match x with
 | .nil=>ng s.t hi 0 fun r=>bif Nat.beq l 0 && Nat.beq r 0 then q .nil else false
 | .ref b off len=>ng s.t hi len fun r=>bif Nat.blt l len && Nat.ble l r && Nat.ble r len then nf (Nat.add off (Nat.mul l m)) fun o=>nf (Nat.sub r l) fun k=>q (.ref b o k) else false
 | .sl n es=>j5 es 0 fun len=>ng s.t hi len fun r=>bif Nat.beq n m && Nat.blt 0 m && Nat.ble l r && Nat.ble r len then oZ l es fun es=>o1 (Nat.sub r l) es fun es=>q (.sl n es) else false
 | .wref b=>aK (s.dX b) fun k=>(match k.k with
  | .arr=>bif k.live && Nat.beq k.size m && Nat.blt 0 m then j5 k.cs 0 fun c=>nf (Nat.div c m) fun len=>ng s.t hi len fun r=>bif Nat.blt l len && Nat.ble l r && Nat.ble r len then nf (Nat.mul l m) fun o=>nf (Nat.sub r l) fun k=>q (.ref b o k) else false else false
  | _=>false)
 | _=>false
def xF (C:ib) (s:CS) (t:TypeId) (x:PV) (lo hi:Option Operand) (q:PV->Bool):Bool:=aK (C.cx.fg t) fun d=>match d with
 | .array n elem=>aK (Ev.cC C.cx elem) fun m=>bif Nat.blt 0 m && Nat.blt 0 n then ng s.t lo 0 fun l=>ng s.t hi n fun r=>R' m n l r x q else false
 | .slice elem=>aK (Ev.cC C.cx elem) fun m=>ng s.t lo 0 fun l=>R_ s m l hi x q
 | _=>false
def Sa (C:ib) (s:CS) (t:TypeId) (g off:Nat) (lo hi:Option Operand) (q:PV->Bool):Bool:=aK (C.cx.fg t) fun d=>match d with
 | .array n elem=>aK (Ev.cC C.cx elem) fun m=>aK (Ev.fI C.cx elem) fun ag=>bif Nat.blt 0 m && (ag || Nat.beq m 1) then ng s.t lo 0 fun l=>ng s.t hi n fun r=>bif Nat.blt l n && Nat.ble l r && Nat.ble r n && Nat.ble n maxLen then aK (M0 C.jl g) fun cs=>oZ (Nat.add off (Nat.mul l m)) cs fun cs=>qu ag m (Nat.sub r l) cs fun es=>q (.sl m es) else false else false
 | _=>false
def Nj (s:CS) (u:ByteArray) (lo hi:Option Operand) (q:PV->Bool):Bool:=j5 u.data.toList 0 fun n=>ng s.t lo 0 fun l=>ng s.t hi n fun r=>bif Nat.ble l r && Nat.ble r n then oZ l u.data.toList fun v=>o1 (Nat.sub r l) v fun v=>q (.val (.string ⟨⟨v⟩⟩)) else false
def Ir (s:CS) (x:PV) (q:Nat->Bool):Bool:=match x with
 | .nil=>q 0
 | .sl _ es=>j5 es 0 q
 | .ref _ _ len=>q len
 | .wref l=>aK (s.dX l) fun b=>(match b.k with
  | .arr=>bif b.live && Nat.blt 0 b.size then j5 b.cs 0 fun m=>nf (Nat.div m b.size) q else false
  | _=>false)
 | _=>false
def cmm (f:Int->Int->Int) (x y:PV) (q:PV->Bool):Bool:=match x,y with
 | .lit k a,.lit _ b=>zf (f a b) fun z=>q (.lit k z)
 | _,_=>false
def o7 (C:ib) (s:CS) (op:Op) (q:PV->Bool):Bool:=match op with
 | .move x|.assign x=>fe s.t x q
 | .pick c a b=>fe s.t c fun c=>(match c with
  | .tt=>fe s.t a q
  | .ff=>fe s.t b q
  | _=>false)
 | .binOp op t x y _=>fe s.t x fun x=>fe s.t y fun y=>R9 C.cx s op t x y q
 | .unOp op _ x=>fe s.t x fun x=>cun op x q
 | .convert src dst x=>aK (C.cx.fg src) fun _=>aK (C.cx.fg dst) fun d=>fe s.t x fun x=>(match d,x with
  | .int k,.lit _ n=>R5 k n q
  | _,_=>false)
 | .nilCheck x=>fe s.t x fun x=>(match x with
  | .ptr ..|.ep ..|.gp ..=>q x
  | _=>false)
 | .build t ps=>Iq C.cx s.t t ps.toList q
 | .fieldAddr t x f=>fe s.t x fun x=>tk C.cx t x f q
 | .field t x f=>aK (C.cx.fg t) fun d=>fe s.t x fun x=>(match d,x with
  | .struct fs,.agg cs=>aK fs.toList[f]? fun fd=>tj C.cx fd.type cs fd.offset q
  | _,_=>false)
 | .indexAddr t x i=>fe s.t x fun x=>fe s.t i fun i=>nT C.cx s t x i q
 | .index t x i=>fe s.t x fun x=>fe s.t i fun i=>BP C.cx t x i q
 | .extract x i=>fe s.t x fun x=>(match x with
  | .tup l=>cidx l i q
  | _=>false)
 | .slice t x lo hi none=>fe s.t x fun x=>(match x with
  | .gp g off=>Sa C s t g off lo hi q
  | .val (.string u)=>aK (C.cx.fg t) fun d=>(match d with
   | .string=>Nj s u lo hi q
   | _=>false)
  | x=>xF C s t x lo hi q)
 | .call { callee:=.builtin .len,args:=⟨[x]⟩,argTypes:=⟨[t]⟩ }=>aK (C.cx.fg t) fun d=>fe s.t x fun x=>(match d with
  | .array n _=>q (.lit .i64 (.ofNat n))
  | .slice _=>Ir s x fun n=>q (.lit .i64 (.ofNat n))
  | .string=>(match x with
   | .val (.string u)=>j5 u.data.toList 0 fun n=>q (.lit .i64 (.ofNat n))
   | _=>false)
  | _=>false)
 | .call { callee:=.builtin .min,args:=⟨[x,y]⟩,argTypes:=_ }=>fe s.t x fun x=>fe s.t y fun y=>cmm min x y q
 | .call { callee:=.builtin .max,args:=⟨[x,y]⟩,argTypes:=_ }=>fe s.t x fun x=>fe s.t y fun y=>cmm max x y q
 | _=>false
def Dp (b:aj):Bool:=bif b.live then (match b.k with
 | .loc|.arr=>true
 | _=>false) else false
def yQ (b:aj):Bool:=bif Dp b then (match b.m with
 | .w=>true
 | _=>false) else false
def rh (C:ib) (s:CS) (t:TypeId) (x:PV) (q:PV->Bool):Bool:=match x with
 | .ptr l off=>aK (s.dX l) fun b=>bif Dp b then tj C.cx t b.cs off q else false
 | .ep cs off=>tj C.cx t cs off q
 | .gp g off=>aK (M0 C.jl g) fun cs=>tj C.cx t cs off q
 | _=>false
def nh (p:PV->Bool):List PV->Bool
 | []=>true
 | c::l=>bif p c then nh p l else false
def aj.wcs (b:aj) (cs:List PV):aj:=match b with
 | ⟨k,ty,n,m,live,_⟩=>⟨k,ty,n,m,live,cs⟩
def aj.kill (b:aj):aj:=match b with
 | ⟨k,ty,n,m,_,cs⟩=>⟨k,ty,n,m,false,cs⟩
def xG (s:CS) (x v:PV) (q:BM->Bool):Bool:=match x with
 | .ptr l off=>aK (s.dX l) fun b=>bif yQ b then jU off v.cells b.cs fun cs=>s.h.put (b.wcs cs) 24 l q else false
 | _=>false
def BQ (C:ib) (s:CS) (t:TypeId) (x v:PV) (q:BM->Bool):Bool :=
 aK (Ev.cC C.cx t) fun n=>j5 v.cells 0 fun k=>bif Nat.beq k n && Nat.blt 0 n && nh nd v.cells then xG s x v q else false
def rM (s:CS) (b:aj) (q:Nat->CS->Bool):Bool:=match s with
 | ⟨t,h,n⟩=>h.put b 24 n fun h=>q n ⟨t,h,Nat.succ n⟩
def Dq:List PV->(List PV->Bool)->Bool
 | [],q=>q []
 | e::es,q=>Dq es fun r=>uY e.cells r q
def E5 (s:CS) (n:Nat) (x:PV) (q:List PV->Bool):Bool:=match x with
 | .nil=>q []
 | .sl m es=>bif Nat.beq m n then Dq es q else false
 | .ref l off len=>aK (s.dX l) fun b=>bif Dp b then oZ off b.cs fun cs=>o1 (Nat.mul len n) cs q else false
 | .wref l=>aK (s.dX l) fun b=>bif b.live && Nat.beq b.size n then (match b.k with
  | .arr=>q b.cs
  | _=>false) else false
 | _=>false
def It (s:CS) (elem:TypeId) (n:Nat) (x:PV) (q:List PV->BM->Bool):Bool:=match x with
 | .nil=>q [] s.h
 | .wref l=>aK (s.dX l) fun b=>bif yQ b && Nat.beq b.size n && Nat.beq b.ty elem then (match b.k with
  | .arr=>s.h.put b.kill 24 l fun h=>q b.cs h
  | _=>false) else false
 | _=>false
def Iu (s:CS) (d:PV):Bool:=match d with
 | .nil=>true
 | .sl _ _=>true
 | .ref _ _ _=>true
 | .wref l=>aK (s.dX l) fun b=>bif b.live then (match b.k with
  | .arr=>true
  | _=>false) else false
 | _=>false
def o8 (C:ib) (s:CS) (elem:TypeId) (n:Nat) (d:PV) (ds:List PV) (q:PV->CS->Bool):Bool :=
 aK (Ev.lO elem C.bt) fun bE=>vE C.cx elem fun z=>j5 z 0 fun zn=>bif Nat.beq zn n then (match ds with
  | []=>bif Iu s d then q d s else false
  | ds=>It s elem n d fun cs h=>uY cs ds fun cs=>j5 cs 0 fun m=>bif Nat.ble (Nat.mul m bE) 140737488355328 && Nat.ble m maxLen then rM ⟨s.t,h,s.n⟩ ⟨.arr,elem,n,.w,true,cs⟩ fun l s=>q (.wref l) s else false) else false
def sd (C:ib) (s:CS) (t:TypeId) (d x:PV) (q:PV->CS->Bool):Bool :=
 aK (C.cx.fg t) fun td=>match td with
 | .slice elem=>aK (Ev.cC C.cx elem) fun n=>bif Nat.blt 0 n then E5 s n x fun ds=>o8 C s elem n d ds q else false
 | _=>false
def o9 (C:ib) (s:CS) (t t':TypeId) (d:PV) (ds:List PV) (q:PV->CS->Bool):Bool :=
 aK (C.cx.fg t) fun td=>match td with
 | .slice elem=>aK (C.cx.fg t') fun u'=>match u' with
  | .string=>aK ((Ev.lO elem C.cx.tt).bind Ev.TI.zero) fun z=>match z with
   | .int .u8 (.ofNat 0)=>aK (Ev.cC C.cx elem) fun n=>aK (Ev.lO elem C.bt) fun bE=>bif Nat.beq n 1 && Nat.beq bE 1 then (match ds with
    | []=>false
    | ds=>o8 C s elem 1 d ds q) else false
   | _=>false
  | _=>false
 | _=>false
def tl:List UInt8->(List PV->Bool)->Bool
 | [],q=>q []
 | u::l,q=>nf u.toNat fun n=>tl l fun r=>q (.lit .u8 (.ofNat n)::r)
def cto (s:CS) (n:Nat) (x:PV) (q:Nat->Nat->Nat->aj->Bool):Bool:=match x with
 | .ref l off len=>aK (s.dX l) fun b=>bif yQ b then q l off len b else false
 | .wref l=>aK (s.dX l) fun b=>bif yQ b && Nat.beq b.size n then (match b.k with
  | .arr=>j5 b.cs 0 fun m=>nf (Nat.div m n) fun len=>q l 0 len b
  | _=>false) else false
 | _=>false
def Dr (C:ib) (s:CS) (t:TypeId) (d x:PV) (q:PV->CS->Bool):Bool :=
 aK (C.cx.fg t) fun td=>match td with
 | .slice elem=>aK (Ev.cC C.cx elem) fun n=>bif Nat.blt 0 n then cto s n d fun l off len b=>E5 s n x fun ds=>j5 ds 0 fun m=>nf (Nat.min len (Nat.div m n)) fun k=>o1 (Nat.mul k n) ds fun ds =>
   bif nh nd ds then jU off ds b.cs fun cs=>s.h.put (b.wcs cs) 24 l fun h=>q (.lit .i64 (.ofNat k)) ⟨s.t,h,s.n⟩ else false else false
 | _=>false
def zu (kk:IntKind) (k:Int):List PV->(Option PV->Bool)->Bool
 | .lit j a::v::l,q=>bif rf j kk then (bif Io a k then q (some v) else zu kk k l q) else false
 | [],q=>q none
 | _,_=>false
def Iv (kk:IntKind) (k:Int) (v:PV):List PV->(List PV->Bool)->Bool
 | .lit j a::u::l,q=>bif rf j kk then (bif Io a k then q (.lit j a::v::l) else Iv kk k v l fun r=>q (.lit j a::u::r)) else false
 | [],q=>q [.lit kk k,v]
 | _,_=>false
def vI (C:ib) (s:CS) (t:TypeId) (x i:PV) (q:PV->Bool->Bool):Bool:=aK (C.cx.fg t) fun d=>match d with
 | .map ky e=>aK (C.cx.fg ky) fun dk=>(match dk,x,i with
  | .int _,.mref l,.lit kk k=>aK (s.dX l) fun b=>bif b.live then (match b.k with
   | .mx=>zu kk k b.cs fun v=>(match v with
    | some v=>q v true
    | none=>aK ((Ev.lO e C.cx.tt).bind Ev.TI.zero) fun v=>ck v fun x=>bif nd x then q x false else false)
   | _=>false) else false
  | _,_,_=>false)
 | _=>false
abbrev eV:=FuncId->List PV->BM->Nat->(PV->BM->Nat->Bool)->Bool
def BR (C:ib) (call:eV) (s:CS) (o:Oper) (q:PV->CS->Bool):Bool:=match o.op with
 | .load t a=>fe s.t a fun a=>rh C s t a fun v=>q v s
 | .store t a x=>fe s.t a fun a=>fe s.t x fun x=>BQ C s t a x fun h=>q (.tup []) ⟨s.t,h,s.n⟩
 | .alloc t=>vE C.cx t fun z=>bif nh nd z then rM s ⟨.loc,t,1,.w,true,z⟩ fun l s=>q (.ptr l 0) s else false
 | .box t x=>fe s.t x fun x=>(match x with
  | .tup _=>false
  | x=>bif nh nd x.cells then rM s ⟨.loc,t,1,.w,true,x.cells⟩ fun l s=>q (.ptr l 0) s else false)
 | .buildSlice t len ps=>aK (C.cx.fg t) fun d=>(match d with
  | .slice elem=>aK (Ev.cC C.cx elem) fun n=>vE C.cx elem fun z=>sc s.t ps.toList fun l=>j5 z 0 fun zn =>
   bif Nat.beq zn n && Nat.ble (Nat.mul len n) 16777216 && Nat.blt 0 n then Ip z len fun zs=>vG (fun i=>some (Nat.mul i n,n)) zs l fun cs=>j5 cs 0 fun cn=>bif nh nd cs && Nat.beq cn (Nat.mul len n) && Nat.ble len maxLen then rM s ⟨.arr,elem,n,.w,true,cs⟩ fun l s=>q (.wref l) s else false else false
  | _=>false)
 | .makeSlice t l c=>aK (C.cx.fg t) fun d=>(match d with
  | .slice elem=>aK (Ev.cC C.cx elem) fun n=>aK (Ev.lO elem C.bt) fun bE=>vE C.cx elem fun z=>fe s.t l fun l=>fe s.t c fun c=>(match l,c with
   | .lit .i64 (.ofNat a),.lit .i64 (.ofNat b)=>j5 z 0 fun zn=>bif Nat.beq a b && Nat.beq zn n && Nat.blt 0 n && Nat.ble (Nat.mul bE a) 281474976710656 && Nat.ble a maxLen then Ip z a fun cs=>bif nh nd cs then rM s ⟨.arr,elem,n,.w,true,cs⟩ fun l s=>q (.wref l) s else false else false
   | _,_=>false)
  | _=>false)
 | .makeFunc (.func f) ⟨[]⟩ ⟨eB⟩=>mb s.t eB fun cs=>bif nh nd cs then q (.clo f cs) s else false
 | .makeFunc (.func f) ⟨first⟩ ⟨[]⟩=>mb s.t first fun cs=>bif nh nd cs then q (.mth f cs) s else false
 | .makeMap _ none=>rM s ⟨.mx,0,1,.w,true,[]⟩ fun l s=>q (.mref l) s
 | .lookup t x i false=>fe s.t x fun x=>fe s.t i fun i=>vI C s t x i fun v _=>q v s
 | .lookup t x i true=>fe s.t x fun x=>fe s.t i fun i=>vI C s t x i fun v b=>match b with
  | true=>q (.tup [v,.tt]) s
  | false=>q (.tup [v,.ff]) s
 | .mapUpdate t x i v=>aK (C.cx.fg t) fun d=>(match d with
  | .map ky _=>aK (C.cx.fg ky) fun dk=>(match dk with
   | .int _=>fe s.t x fun x=>fe s.t i fun i=>fe s.t v fun v=>(match x,i with
    | .mref l,.lit kk k=>aK (s.dX l) fun b=>(match b.k,b.m with
     | .mx,.w=>bif b.live && nd v then Iv kk k v b.cs fun cs=>s.h.put (b.wcs cs) 24 l fun h=>q (.tup []) ⟨s.t,h,s.n⟩ else false
     | _,_=>false)
    | _,_=>false)
   | _=>false)
  | _=>false)
 | .call { callee:=.value x,args:=⟨sG⟩,argTypes:=_ }=>fe s.t x fun x=>(match x with
  | .clo f eB=>mb s.t sG fun l=>uY l eB fun l=>call f l s.h s.n fun r h n=>q r ⟨s.t,h,n⟩
  | .mth f cs=>mb s.t sG fun l=>uY cs l fun l=>call f l s.h s.n fun r h n=>q r ⟨s.t,h,n⟩
  | _=>false)
 | .call { callee:=.builtin .append,args:=⟨[d,x]⟩,argTypes:=⟨[t,t']⟩ }=>bif Nat.beq t t' then fe s.t d fun d=>fe s.t x fun x=>sd C s t d x q else fe s.t d fun d=>fe s.t x fun x=>(match x with
  | .val (.string u)=>tl u.data.toList fun cs=>o9 C s t t' d cs q
  | _=>false)
 | .call { callee:=.builtin .copy,args:=⟨[d,x]⟩,argTypes:=⟨t::_⟩ }=>fe s.t d fun d=>fe s.t x fun x=>Dr C s t d x q
 | .convert src dst x=>aK (C.cx.fg dst) fun d=>(match d with
  | .string=>aK (C.cx.fg src) fun d=>(match d with
   | .slice e=>aK (C.cx.fg e) fun d=>(match d with
    | .int .u8=>fe s.t x fun x=>E5 s 1 x fun cs=>Iw cs fun u=>q (.val (.string ⟨⟨u⟩⟩)) s
    | _=>false)
   | _=>false)
  | _=>o7 C s (.convert src dst x) fun v=>q v s)
 | op=>o7 C s op fun v=>q v s
where Iw:List PV->(List UInt8->Bool)->Bool
 | [],q=>q []
 | .lit .u8 (.ofNat n)::l,q=>Iw l fun u=>q (UInt8.ofNat n::u)
 | _,_=>false
def iH (nt:Nat) (s:CS) (dst:Option Tmp) (x:PV) (k:CS->Bool):Bool:=match dst with
 | none=>k s
 | some d=>match s with
  | ⟨t,h,n⟩=>bif Nat.blt d nt then t.uX x 24 d fun t=>k ⟨t,h,n⟩ else false
def nU (ops:List Oper) (s:CS) (o:Oper) (run skip:CS->Bool):Bool:=match o.guard with
 | none=>run s
 | some (j,want)=>aK ((ops[j]?).bind (·.dst)) fun t=>aK (s.t.th t) fun x=>(match x with
  | .tt=>bif want then run s else skip s
  | .ff=>bif want then skip s else run s
  | .tup []=>skip s
  | _=>false)
def xH (C:ib) (call:eV) (nt:Nat) (ops:List Oper) (K:CS->Bool):List Oper->CS->Bool
 | [],s=>K s
 | o::rest,s=>nU ops s o (fun s=>BR C call s o fun v s=>iH nt s o.dst v (xH C call nt ops K rest)) (fun s=>iH nt s o.dst (.tup []) (xH C call nt ops K rest))
mutual
def BS:PV->PV->Bool
 | .lit j a,.lit k b=>rf j k && Io a b
 | .tt,.tt=>true
 | .ff,.ff=>true
 | .nil,.nil=>true
 | .val (.string a),.val (.string b)=>E2 a.data.toList b.data.toList
 | .val (.pointer none),.val (.pointer none)=>true
 | .clo f cs,.clo g ds=>Nat.beq f g && o_ cs ds
 | .mth f cs,.mth g ds=>Nat.beq f g && o_ cs ds
 | .sl n es,.sl m fs=>Nat.beq n m && o_ es fs
 | .wref a,.wref b=>Nat.beq a b
 | .ref a o n,.ref b p m=>Nat.beq a b && Nat.beq o p && Nat.beq n m
 | .mref a,.mref b=>Nat.beq a b
 | .ptr a o,.ptr b p=>Nat.beq a b && Nat.beq o p
 | .ep cs o,.ep ds p=>Nat.beq o p && o_ cs ds
 | .gp a o,.gp b p=>Nat.beq a b && Nat.beq o p
 | .agg cs,.agg ds=>o_ cs ds
 | .tup cs,.tup ds=>o_ cs ds
 | _,_=>false
def o_:List PV->List PV->Bool
 | [],[]=>true
 | c::cs,d::ds=>BS c d && o_ cs ds
 | _,_=>false
end
def bkB:BK->BK->Bool
 | .loc,.loc|.arr,.arr|.mx,.mx=>true
 | _,_=>false
def Sb:Md->Md->Bool
 | .w,.w|.p,.p|.r,.r=>true
 | _,_=>false
def Ix (m:Md) (b:aj):aj:=match b with
 | ⟨k,ty,n,_,live,cs⟩=>⟨k,ty,n,m,live,cs⟩
def Iy (n:Nat):List Nat->BM->List Nat->(BM->List Nat->Bool)->Bool
 | [],h,us,q=>q h us
 | l::ls,h,us,q=>bif Nat.blt l n then aK (h.get l) fun b=>bif b.live then (match b.m with
  | .w=>h.put (Ix .p b) 24 l fun h=>Iy n ls h (l::us) q
  | _=>Iy n ls h us q) else false else false
def xI (n:Nat):List Nat->BM->(BM->Bool)->Bool
 | [],h,q=>q h
 | l::ls,h,q=>bif Nat.blt l n then aK (h.get l) fun b=>match b.m with
  | .p=>h.put (Ix .w b) 24 l fun h=>xI n ls h q
  | _=>false else false
def Ds (n:Nat) (h:BM):List Nat->Bool
 | []=>true
 | l::ls=>bif Nat.blt l n then aK (h.get l) fun b=>bif b.live then Ds n h ls else false else false
def Dt (C:ib) (call:eV) (nt:Nat) (ops:List Oper) (s:CS) (i:Nat) (o:Oper) (pins:List mJ) (K:CS->Bool):Bool :=
 nU ops s o (fun s=>match pinned i pins with
  | []=>BR C call s o fun v s=>iH nt s o.dst v K
  | ls=>Iy s.n ls s.h [] fun h us=>BR C call ⟨s.t,h,s.n⟩ o fun v s=>bif Ds s.n s.h ls then xI s.n us s.h fun h=>iH nt ⟨s.t,h,s.n⟩ o.dst v K else false)
  (fun s=>iH nt s o.dst (.tup []) K)
def mc (C:ib) (call:eV) (nt:Nat) (ops:List Oper) (s:CS) (i:Nat) (o:Oper) (pins:List mJ) (K:CS->Bool):Bool:=match o.op with
 | .load t ad=>nU ops s o (fun s=>fe s.t ad fun x=>rh C s t x fun v=>iH nt s o.dst v K) (fun s=>iH nt s o.dst (.tup []) K)
 | _=>Dt C call nt ops s i o pins K
structure yS where
 i:Nat
 a:Nat
 b:Nat
def QG (i:Nat):List yS->Option Nat
 | []=>none
 | m::r=>bif Nat.beq m.i i then some m.a else QG i r
def Zx (o:List yS):List yS->Nat->Nat
 | [],l=>l
 | m::r,l=>bif Nat.ble m.a l && Nat.blt l m.b then (match QG m.i o with
  | some b=>Nat.add b (Nat.sub l m.a)
  | none=>l) else Zx o r l
section
variable (ρ:Nat->Nat)
mutual
def Bf:PV->PV->Bool
 | .lit j a,.lit k b=>rf j k && Io a b
 | .tt,.tt=>true
 | .ff,.ff=>true
 | .nil,.nil=>true
 | .val (.string a),.val (.string b)=>E2 a.data.toList b.data.toList
 | .val (.pointer none),.val (.pointer none)=>true
 | .clo f cs,.clo g ds=>Nat.beq f g && rN cs ds
 | .mth f cs,.mth g ds=>Nat.beq f g && rN cs ds
 | .sl n es,.sl m fs=>Nat.beq n m && o_ es fs
 | .wref a,.wref b=>Nat.beq (ρ a) b
 | .ref a o n,.ref b p m=>Nat.beq (ρ a) b && Nat.beq o p && Nat.beq n m
 | .mref a,.mref b=>Nat.beq (ρ a) b
 | .ptr a o,.ptr b p=>Nat.beq (ρ a) b && Nat.beq o p
 | .ep cs o,.ep ds p=>Nat.beq o p && o_ cs ds
 | .gp a o,.gp b p=>Nat.beq a b && Nat.beq o p
 | .agg cs,.agg ds=>rN cs ds
 | .tup cs,.tup ds=>rN cs ds
 | _,_=>false
def rN:List PV->List PV->Bool
 | [],[]=>true
 | c::cs,d::ds=>Bf c d && rN cs ds
 | _,_=>false
end
def Iz (a b:aj):Bool:=bkB a.k b.k && Nat.beq a.ty b.ty && Nat.beq a.size b.size && Sb a.m b.m && E3 a.live b.live && rN ρ a.cs b.cs
def QH:TM->TM->Bool
 | .nil,.nil=>true
 | .node none l r,.node none l' r'=>QH l l' && QH r r'
 | .node (some b) l r,.node (some b') l' r'=>Bf ρ b b' && QH l l' && QH r r'
 | _,_=>false
def bmR (Zy:Nat->Nat) (n0 n:Nat) (h h':BM):Nat->Bool
 | 0=>true
 | l+1=>(nf (ρ l) fun m=>Nat.beq (Zy m) l && Nat.blt m n && (bif Nat.blt l n0 then Nat.beq m l else true) && (match h.get l,h'.get m with
  | some b,some b'=>Iz ρ b b'
  | none,none=>true
  | _,_=>false)) && bmR Zy n0 n h h' l
end
def csR (n0:Nat) (s s':CS) (t t':List yS):Bool:=Nat.beq s.n s'.n && QH (fun l=>bif Nat.blt l s.n then Zx t' t l else l) s.t s'.t && bmR (fun l=>bif Nat.blt l s.n then Zx t' t l else l) (Zx t t') n0 s.n s.h s'.h s.n
mutual
def jy (C:ib) (call:eV) (nt n0:Nat) (ops:List Oper):af->CS->List mJ->List yS->(CS->List yS->Bool)->Bool
 | .done,s,_,tr,K=>K s tr
 | .pure i r,s,pins,tr,K=>aK ops[i]? fun o=>nU ops s o (fun s=>o7 C s o.op fun v=>iH nt s o.dst v fun s=>jy C call nt n0 ops r s pins tr K) (fun s=>iH nt s o.dst (.tup []) fun s=>jy C call nt n0 ops r s pins tr K)
 | .load i D r,s,pins,tr,K=>aK ops[i]? fun o=>nU ops s o (fun s=>match o.op with
   | .load t ad=>fe s.t ad fun x=>rh C s t x fun v=>iH nt s o.dst v fun s=>jy C call nt n0 ops r s (gI D x pins) tr K
   | _=>false) (fun s=>iH nt s o.dst (.tup []) fun s=>jy C call nt n0 ops r s pins tr K)
 | .ai i r ms,s,pins,tr,K=>aK ops[i]? fun o=>match ms with
  | .nil=>mc C call nt ops s i o pins fun s1=>jy C call nt n0 ops r s1 (ct i pins) (⟨i,s.n,s1.n⟩::tr) K
  | ms=>mc C call nt ops s i o pins fun s1=>jy C call nt n0 ops r s1 (ct i pins) (⟨i,s.n,s1.n⟩::tr) fun sf yT=>zw C call nt n0 ops ms s pins tr sf yT && K sf yT
def zw (C:ib) (call:eV) (nt n0:Nat) (ops:List Oper):gY->CS->List mJ->List yS->CS->List yS->Bool
 | .nil,_,_,_,_,_=>true
 | .cons j r ms,s,pins,tr,sf,yT=>(aK ops[j]? fun o=>mc C call nt ops s j o pins fun s2=>jy C call nt n0 ops r s2 (ct j pins) (⟨j,s.n,s2.n⟩::tr) fun uW Sc=>csR n0 sf uW yT Sc) && zw C call nt n0 ops ms s pins tr sf yT
 | _,_,_,_,_,_=>false
end
def Zz (C:ib) (call:eV) (nt:Nat) (ops:List Oper) (p:af) (s:CS) (K:CS->Bool):Bool:=jy C call nt s.n ops p s [] [] fun s _=>K s
def IA (body:CS->(X->CS->Bool)->Bool):Nat->CS->(X->CS->Bool)->Bool
 | 0,_,_=>false
 | L+1,s,K=>body s fun x s=>match x with
  | .cA=>IA body L s K
  | x=>K x s
def cw (C:ib) (call:eV) (R:List (Nat × af)) (nt:Nat):Nat->Code->CS->(X->CS->Bool)->Bool
 | 0,_,_,_=>false
 | n+1,c,s,K=>match c with
  | .skip|.label _=>K .cA s
  | .ret=>K .ret s
  | .exit id=>K (.exit id) s
  | .seq a b=>cw C call R nt n a s fun x s=>match x with
   | .cA=>cw C call R nt n b s K
   | x=>K x s
  | .cond c a b=>fe s.t c fun x=>match x with
   | .tt=>cw C call R nt n a s K
   | .ff=>cw C call R nt n b s K
   | _=>false
  | .block id c=>cw C call R nt n c s fun x s=>match x with
   | .exit j=>bif Nat.beq j id then K .cA s else K (.exit j) s
   | x=>K x s
  | .scope c=>cw C call R nt n c s K
  | .loop c=>IA (cw C call R nt n c) 100000 s K
  | .region id ops false=>xH C call nt ops.toList (K .cA) ops.toList s
  | .region id ops true=>aK (Ev.lO id R) fun p=>Zz C call nt ops.toList p s (K .cA)
  | _=>false
def QI (C:ib) (s:CS) (r:ResultVar) (q:PV->Bool):Bool:=match r with
 | .tmp t=>aK (s.t.th t) fun x=>(match x with
  | .tup _=>false
  | x=>q x)
 | .cell a t=>aK (s.t.th a) fun x=>rh C s t x q
def IB (C:ib) (s:CS):List ResultVar->(List PV->Bool)->Bool
 | [],q=>q []
 | r::rs,q=>QI C s r fun x=>IB C s rs fun xs=>q (x::xs)
def xK (C:ib) (s:CS) (rs:List ResultVar) (q:PV->Bool):Bool:=match rs with
 | [.tmp t]=>aK (s.t.th t) q
 | rs=>IB C s rs fun l=>(match l with
  | [x]=>q x
  | l=>q (.tup l))
def tp:List PV->Nat->TM->(TM->Bool)->Bool
 | [],_,t,k=>k t
 | x::xs,i,t,k=>t.uX x 24 i fun t=>tp xs (Nat.succ i) t k
def Du (args:List PV):List (List PV × PV)->Option PV
 | []=>none
 | (a,r)::l=>bif o_ args a then some r else Du args l
def QJ (C:ib):Nat->eV
 | 0,_,_,_,_,_=>false
 | n+1,f,args,h,m,K=>match (Ev.lO f C.rL).bind (Du args) with
  | some r=>K r h m
  | none=>match Ev.lO f C.grow with
  | some (e,z)=>(match args with
   | [.nil,.lit .i64 (.ofNat (k+1))]=>bif Nat.ble k 1000000 then h.put ⟨.arr,e,z,.w,true,[]⟩ 24 m fun h=>K (.wref m) h (Nat.succ m) else false
   | _=>false)
  | none=>aK (Ev.lO f C.fns) fun F=>match F with
   | (fn,R)=>aK fn.body fun c=>j5 args 0 fun k=>bif Nat.ble k fn.ntmps then tp args 0 .nil fun t=>cw C (QJ C n) R fn.ntmps 100 c ⟨t,h,m⟩ fun x s=>(match x with
    | .exit _=>false
    | _=>xK C s fn.results.toList fun r=>K r s.h s.n) else false
open Go Go.RowKit
theorem eO (n:Nat) (q:Nat->Bool):nf n q=q n:=by cases n<;>rfl
theorem tq (z:Int) (q:Int->Bool):zf z q=q z:=by
 cases z with
 | ofNat n=>exact eO n fun n=>q (.ofNat n)
 | negSucc n=>exact eO n fun n=>q (.negSucc n)
theorem cj {c:Bool} {x:Bool} (h:(bif c then x else false)=true):c=true/\x=true:=by cases c with
 | true=>exact⟨rfl,h⟩
 | false=>cases h
theorem ar {α:Type} {o:Option α} {q:α->Bool} (h:aK o q=true):∃ x,o=some x/\q x=true:=by
 cases o with
 | none=>cases h
 | some x=>exact⟨x,rfl,h⟩
theorem a_ {α:Type} {o:Option α} {k:α->Prop} {x:α} (h:o=some x) (hk:k x):aU o k:=by subst h; exact hk
theorem fX {c:Bool} {p:Prop} (h:c=true) (hp:p):bif c then p else False:=by subst h; exact hp
theorem jz {α:Type}:∀ {n:Nat} {l:List α} {q:List α->Bool},oZ n l q=true->n<=l.length/\q (l.drop n)=true
 | 0,l,q,h=>⟨Nat.zero_le _,h⟩
 | n+1,[],q,h=>by cases h
 | n+1,c::l,q,h=>by
  obtain⟨h1,h2⟩:=jz (n:=n) (l:=l) h
  exact⟨Nat.succ_le_succ h1,h2⟩
theorem jA {α:Type}:∀ {n:Nat} {l:List α} {q:List α->Bool},o1 n l q=true->n<=l.length/\q (l.take n)=true
 | 0,l,q,h=>⟨Nat.zero_le _,h⟩
 | n+1,[],q,h=>by cases h
 | n+1,c::l,q,h=>by
  obtain⟨h1,h2⟩:=jA (n:=n) (l:=l) h
  exact⟨Nat.succ_le_succ h1,h2⟩
theorem pa {α:Type}:∀ {l:List α} {n:Nat} {q:α->Bool},cidx l n q=true->∃ c,l[n]?=some c/\q c=true
 | [],_,_,h=>by cases h
 | c::l,0,q,h=>⟨c,rfl,h⟩
 | c::l,n+1,q,h=>by
  obtain⟨d,h1,h2⟩:=pa (l:=l) (n:=n) h
  exact⟨d,by simpa using h1,h2⟩
theorem cX {α:Type}:∀ (l:List α) (n:Nat) (q:Nat->Bool),j5 l n q=q (n+l.length)
 | [],n,q=>rfl
 | c::l,n,q=>by
  rw[j5,cX l,List.length_cons]
  congr 1
  omega
theorem k8:∀ (l m:List PV) (q:List PV->Bool),uY l m q=q (l++m)
 | [],m,q=>rfl
 | c::l,m,q=>by rw[uY,k8 l]; rfl
theorem Dv:∀ {new l:List PV} {q:List PV->Bool},jU.over new l q=true->new.length<=l.length/\q (new++l.drop new.length)=true
 | [],l,q,h=>⟨Nat.zero_le _,by simpa [jU.over] using h⟩
 | x::new,[],q,h=>by cases h
 | x::new,c::l,q,h=>by
  obtain⟨h1,h2⟩:=Dv (new:=new) (l:=l) h
  exact⟨Nat.succ_le_succ h1,h2⟩
theorem k9:∀ {n:Nat} {new l:List PV} {q:List PV->Bool},jU n new l q=true->n+new.length<=l.length/\q (l.take n++new++l.drop (n+new.length))=true
 | 0,new,l,q,h=>by
  have h':jU.over new l q=true:=by cases l<;>exact h
  obtain⟨h1,h2⟩:=Dv h'
  exact⟨by omega,by simpa using h2⟩
 | n+1,new,[],q,h=>by cases h
 | n+1,new,c::l,q,h=>by
  obtain⟨h1,h2⟩:=k9 (n:=n) (new:=new) (l:=l) h
  refine⟨by simp only[List.length_cons]; omega,?_⟩
  rw[show n+1+new.length=n+new.length+1 by omega]
  simpa using h2
theorem xL (z:List PV):∀ (n:Nat) (q:List PV->Bool),Ip z n q=q (List.replicate n z).flatten
 | 0,q=>rfl
 | n+1,q=>by rw[Ip,xL z n,k8]; rfl
theorem zx:∀ (es:List PV) (q:List PV->Bool),Dq es q=q (es.flatMap PV.cells)
 | [],q=>rfl
 | e::es,q=>by rw[Dq,zx es,k8]; rfl
theorem Dw (p:PV->Bool):∀ l:List PV,nh p l=l.all p
 | []=>rfl
 | c::l=>by rw[nh,Dw p l,List.all_cons]; cases p c<;>rfl
theorem xM (a b:Int):Io a b=true↔a=b:=by
 cases a with
 | ofNat m=>cases b with
  | ofNat n=>exact⟨(fun h=>by rw[Nat.eq_of_beq_eq_true h]),(fun h=>by injection h with h; subst h; exact Nat.beq_refl _)⟩
  | negSucc n=>exact⟨(fun h=>by cases h),(fun h=>by cases h)⟩
 | negSucc m=>cases b with
  | ofNat n=>exact⟨(fun h=>by cases h),(fun h=>by cases h)⟩
  | negSucc n=>exact⟨(fun h=>by rw[Nat.eq_of_beq_eq_true h]),(fun h=>by injection h with h; subst h; exact Nat.beq_refl _)⟩
theorem xN (a b:Int):Io a b=decide (a=b):=by rw[Bool.eq_iff_iff,xM,decide_eq_true_iff]
theorem Sd (a b:Int):QF a b=true↔a < b:=by
 cases a with
 | ofNat m=>cases b with
  | ofNat n =>
   show Nat.ble (Nat.succ m) n=true↔(m:Int) < (n:Int)
   rw[Nat.ble_eq]; omega
  | negSucc n =>
   show false=true↔(m:Int) < Int.negSucc n
   exact⟨(fun h=>by cases h),(fun h=>by omega)⟩
 | negSucc m=>cases b with
  | ofNat n =>
   show true=true↔Int.negSucc m < (n:Int)
   exact⟨(fun _=>by omega),(fun _=>rfl)⟩
  | negSucc n =>
   show Nat.ble (Nat.succ n) m=true↔Int.negSucc m < Int.negSucc n
   rw[Nat.ble_eq]; omega
theorem xO (a b:Int):QF a b=decide (a < b):=by rw[Bool.eq_iff_iff,Sd,decide_eq_true_iff]
theorem Se {k:IntKind} {z:Int} (h:inb k z=true):uP k z:=by
 unfold uP Ev.lG Ev.kP
 cases k<;>cases z<;>simp only[inb] at h<;>first|cases h|(have:=Nat.le_of_ble_eq_true h; simp only[IntKind.signed,IntKind.bits]; simp; omega)
theorem tu {k:IntKind} {z:Int} {q:PV->Bool} (h:R5 k z q=true):q (.lit k (k.wrap z))=true:=by
 unfold R5 at h
 rw[tq] at h
 cases hb:inb k z with
 | true =>
  rw[hb] at h
  have:=Se hb
  unfold uP at this
  rw[Ev.wX k z this.1 this.2]
  exact h
 | false =>
  rw[hb] at h
  replace h:zf (k.wrap z) (fun z=>q (.lit k z))=true:=h
  rw[tq] at h
  exact h
theorem kp {j k:IntKind} (h:rf j k=true):j=k:=by cases j<;>cases k<;>first|rfl|cases h
theorem BM.aT:∀ {f:Nat} {v:aj} {h:BM} {n:Nat} {k:BM->Bool},BM.put v f h n k=true->∃ h',k h'=true/\∀ m,h'.get m=if m=n then some v else h.get m:=by
 intro f
 induction f with
 | zero=>intro v h n k hk; cases h<;>cases hk
 | succ f ih =>
  have nilget:∀ m,BM.nil.get m=none:=fun _=>rfl
  have key:∀ (v:aj) (u:Option aj) (l r:BM) (n:Nat) (k:BM->Bool),
    (bif Nat.beq n 0 then k (.node (some v) l r) else bif Nat.beq (Nat.mod n 2) 1 then BM.put v f l (Nat.div (Nat.sub n 1) 2) (fun t=>k (.node u t r)) else BM.put v f r (Nat.div (Nat.sub n 1) 2) (fun t=>k (.node u l t)))=true ->
    ∃ h',k h'=true/\∀ m,h'.get m=if m=n then some v else (BM.node u l r).get m:=by
   intro v u l r n k hk
   cases h0:Nat.beq n 0 with
   | true =>
    rw[h0] at hk
    obtain rfl:=Nat.eq_of_beq_eq_true h0
    refine⟨_,hk,fun m=>?_⟩
    by_cases hm:m=0
    ·subst hm; rfl
    ·rw[if_neg hm]
     have:Nat.beq m 0=false:=by rw[Bool.eq_false_iff]; exact fun e=>hm (Nat.eq_of_beq_eq_true e)
     simp only[BM.get,this,cond_false]
   | false =>
    rw[h0] at hk
    have fS:n≠0:=fun e=>by subst e; cases h0
    cases h1:Nat.beq (Nat.mod n 2) 1 with
    | true =>
     rw[h1] at hk
     obtain⟨h',e1,e2⟩:=ih (v:=v) (h:=l) hk
     refine⟨_,e1,fun m=>?_⟩
     have nP:n % 2=1:=Nat.eq_of_beq_eq_true h1
     by_cases hm:m=n
     ·subst hm
      rw[if_pos rfl]
      simp only[BM.get,h0,cond_false,h1,cond_true,e2,if_true]
     ·rw[if_neg hm]
      simp only[BM.get]
      cases l5:Nat.beq m 0 with
      | true=>rfl
      | false =>
       cases p7:Nat.beq (Nat.mod m 2) 1 with
       | true =>
        have hm0':m≠0:=fun e=>by subst e; cases l5
        have hm1':m % 2=1:=Nat.eq_of_beq_eq_true p7
        have:Nat.div (Nat.sub m 1) 2≠Nat.div (Nat.sub n 1) 2:=by
         show (m - 1) / 2≠(n - 1) / 2
         omega
        simp only[cond_false,cond_true,e2,if_neg this]
       | false=>rfl
    | false =>
     rw[h1] at hk
     obtain⟨h',e1,e2⟩:=ih (v:=v) (h:=r) hk
     refine⟨_,e1,fun m=>?_⟩
     have nP:n % 2≠1:=fun e=>by rw[show Nat.mod n 2=1 from e] at h1; cases h1
     by_cases hm:m=n
     ·subst hm
      rw[if_pos rfl]
      simp only[BM.get,h0,cond_false,h1,e2,if_true]
     ·rw[if_neg hm]
      simp only[BM.get]
      cases l5:Nat.beq m 0 with
      | true=>rfl
      | false =>
       cases p7:Nat.beq (Nat.mod m 2) 1 with
       | true=>rfl
       | false =>
        have hm0':m≠0:=fun e=>by subst e; cases l5
        have hm1':m % 2≠1:=fun e=>by rw[show Nat.mod m 2=1 from e] at p7; cases p7
        have:Nat.div (Nat.sub m 1) 2≠Nat.div (Nat.sub n 1) 2:=by
         show (m - 1) / 2≠(n - 1) / 2
         omega
        simp only[cond_false,e2,if_neg this]
  intro v h n k hk
  cases h with
  | nil =>
   obtain⟨h',e1,e2⟩:=key v none .nil .nil n k hk
   refine⟨h',e1,fun m=>?_⟩
   rw[e2]
   congr 1
   simp only[BM.get]
   cases Nat.beq m 0<;>cases Nat.beq (Nat.mod m 2) 1<;>rfl
  | node u l r=>exact key v u l r n k hk
theorem TM.k_:∀ (t:TM) (n:Nat),t.th n=t.get n
 | .nil,_=>rfl
 | .node v l r,n=>by
  unfold TM.th TM.get
  rw[TM.k_ l,TM.k_ r]
  rfl
theorem TM.mM {v:PV}:∀ {f:Nat} {t:TM} {n:Nat} {k:TM->Bool},TM.uX v f t n k=true->TM.nc (some v) f t n (fun t=>k t=true)
 | 0,t,n,k,h=>by cases t<;>cases h
 | f+1,.nil,n,k,h=>by
  unfold TM.uX at h
  unfold TM.nc
  cases h0:Nat.beq n 0 with
  | true=>rw[h0] at h; exact h
  | false =>
   rw[h0] at h
   have e:Nat.beq (n % 2) 1=Nat.beq (Nat.mod n 2) 1:=rfl
   rw[e]
   cases h1:Nat.beq (Nat.mod n 2) 1 with
   | true=>rw[h1] at h; exact TM.mM (f:=f) h
   | false=>rw[h1] at h; exact TM.mM (f:=f) h
 | f+1,.node u l r,n,k,h=>by
  unfold TM.uX at h
  unfold TM.nc
  cases h0:Nat.beq n 0 with
  | true=>rw[h0] at h; exact h
  | false =>
   rw[h0] at h
   have e:Nat.beq (n % 2) 1=Nat.beq (Nat.mod n 2) 1:=rfl
   rw[e]
   cases h1:Nat.beq (Nat.mod n 2) 1 with
   | true=>rw[h1] at h; exact TM.mM (f:=f) h
   | false=>rw[h1] at h; exact TM.mM (f:=f) h
def noB:aj:=⟨.loc,0,1,.p,false,[]⟩
def eD (h:BM) (n:Nat):List aj:=(List.range n).map fun i=>(h.get i).getD noB
def CS.st (nt b:Nat) (s:CS):aD:=⟨nt,s.t,eD s.h s.n,b,[]⟩
theorem cV (h:BM) (n:Nat):(eD h n).length=n:=by simp[eD]
theorem dC (h:BM) (n l:Nat):(eD h n)[l]?=if l < n then some ((h.get l).getD noB) else none:=by
 unfold eD
 rw[List.getElem?_map]
 by_cases hl:l < n
 ·rw[if_pos hl,List.getElem?_range hl]; rfl
 ·rw[if_neg hl,List.getElem?_eq_none (by simpa using hl)]; rfl
theorem se {h h':BM} {n l:Nat} {b:aj} (hl:l < n) (hh:∀ m,h'.get m=if m=l then some b else h.get m):eD h' n=(eD h n).set l b:=by
 refine List.ext_getElem? fun i=>?_
 by_cases hi:l=i
 ·subst hi
  rw[List.getElem?_set_self (by rw[cV]; exact hl),dC,if_pos hl,hh,if_pos rfl]
  rfl
 ·rw[List.getElem?_set_ne hi,dC,dC,hh,if_neg (show ¬ i=l from fun e=>hi e.symm)]
theorem Dx {h h':BM} {n:Nat} {b:aj} (hh:∀ m,h'.get m=if m=n then some b else h.get m):eD h' (n+1)=eD h n++[b]:=by
 refine List.ext_getElem? fun i=>?_
 rw[dC,List.getElem?_append,cV,dC,hh]
 by_cases hi:i < n
 ·rw[if_pos (by omega),if_pos hi,if_pos hi,if_neg (by omega)]
 ·rw[if_neg hi]
  by_cases e:i=n
  ·subst e; simp
  ·rw[if_neg (by omega),List.getElem?_eq_none (by simp; omega)]
abbrev p9 (q:PV->Bool) (x:PV):Prop:=∃ y,q y=true/\qq x y
theorem bH {q:PV->Bool} {x:PV} (h:q x=true):p9 q x:=⟨x,h,qq.refl x⟩
theorem zy {q:PV->Bool} {b:Bool} {p:Prop} (hp:p↔b=true) (h:cb b q=true):p9 q (.bool p):=by
 cases b with
 | true=>exact⟨.tt,h,fun w I β v hv=>by simp only[PV.Is] at hv ⊢; rw[hv,cv (hp.2 rfl)]⟩
 | false=>exact⟨.ff,h,fun w I β v hv=>by simp only[PV.Is] at hv ⊢; rw[hv,bT (fun e=>by cases hp.1 e)]⟩
theorem Dy {q:PV->Bool} {k:IntKind} {z:Int} (h:q (.lit k z)=true):p9 q (.int k z):=⟨_,h,fun w I β v hv=>by simp only[PV.Is] at hv ⊢; exact hv⟩
theorem Sf {x:PV} {q:PV->Prop} (h:q x):fc1 x q:=by cases x<;>exact h
theorem dP:∀ {l:List PV} {q:List PV->Prop},q l->dv l q
 | [],q,h=>h
 | c::cs,q,h=>Sf (q:=fun c=>dv cs fun cs=>q (c::cs)) (dP (q:=fun cs=>q (c::cs)) h)
theorem tv {x:PV} {q:PV->Prop} (h:q x):Y9 x q:=by
 cases x with
 | agg cs=>exact dP (q:=fun cs=>q (.agg cs)) h
 | clo f cs=>exact dP (q:=fun cs=>q (.clo f cs)) h
 | _=>exact h
theorem vJ:∀ {l:List PV} {q:List PV->Prop},q l->sE l q
 | [],q,h=>h
 | c::cs,q,h=>tv (q:=fun c=>sE cs fun cs=>q (c::cs)) (vJ (q:=fun cs=>q (c::cs)) h)
theorem ZA {x:PV} {q:PV->Prop} (h:q x):fc x q:=by
 cases x with
 | tup cs=>exact vJ (q:=fun cs=>q (.tup cs)) h
 | agg cs=>exact tv (x:=.agg cs) h
 | clo f cs=>exact tv (x:=.clo f cs) h
 | _=>exact h
theorem IC {v:Value} {q:PV->Bool} {q':PV->Prop} (hq:∀ x,q x=true->q' x) (h:ck1 v q=true):gu v q':=by
 unfold ck1 at h
 unfold gu
 split at h
 ·exact hq _ h
 ·exact hq _ h
 ·exact hq _ h
 ·exact hq _ h
 ·exact hq _ h
 ·rename_i h1 h2 h3 h4 h5
  obtain⟨hf,h⟩:=cj h
  split
  ·exact absurd rfl (h1 _ _)
  ·exact absurd rfl h2
  ·exact absurd rfl h3
  ·exact absurd rfl h4
  ·exact absurd rfl (h5 _)
  ·rw[hf]; exact hq _ h
theorem ID:∀ {vs:List Value} {q:List PV->Bool} {q':List PV->Prop},(∀ x,q x=true->q' x)->ckL vs q=true->w9 gu vs q'
 | [],q,q',hq,h=>hq _ h
 | v::vs,q,q',hq,h=>IC (fun x hx=>ID (vs:=vs) (fun xs qW=>hq _ qW) hx) h
theorem IE {v:Value} {q:PV->Bool} {q':PV->Prop} (hq:∀ x,q x=true->q' x) (h:ck v q=true):ns v q':=by
 unfold ck at h
 unfold ns
 split at h
 ·exact ID (fun cs fj=>hq _ fj) h
 ·rename_i h1
  split
  ·exact absurd rfl (h1 _)
  ·exact IC hq h
section
variable {C:ib} {s:CS} {nt b:Nat}
theorem cp {o:Operand} {q:PV->Bool} {q':PV->Prop} (hq:∀ x,q x=true->q' x) (h:fe s.t o q=true):(s.st nt b).ev o q':=by
 cases o with
 | tmp i =>
  unfold fe at h
  simp only at h
  rw[TM.k_] at h
  show aU (s.t.get i) q'
  cases hx:s.t.get i with
  | none=>rw[hx] at h; cases h
  | some x=>rw[hx] at h; exact hq _ h
 | const v=>exact IE hq h
 | global g=>exact hq _ h
 | func f=>exact hq _ h
theorem IF {α:Type} {o:Option α} {q:α->Bool} {q':α->Prop} (hq:∀ x,o=some x->q x=true->q' x) (h:aK o q=true):aU o q':=by
 obtain⟨x,hx,h⟩:=ar h
 exact a_ hx (hq x hx h)
theorem Nk {op:BinOp} {k:IntKind} {a c:Int} {q:PV->Bool} (h:R6 op k a c q=true):HE op k a c (p9 q):=by
 have hb:∀ {x:Bool},cb x q=true->tf x (p9 q):=fun {x} hx=>by cases x<;>exact bH hx
 cases op<;>simp only[R6,tq,xN,xO] at h<;>simp only[HE]
 case add=>exact bH (tu h)
 case sub=>exact bH (tu h)
 case mul=>exact bH (tu h)
 case quo=>cases hd:decide (c=0)<;>rw[hd] at h<;>first|cases h|exact bH h
 case rem=>cases hd:decide (c=0)<;>rw[hd] at h<;>first|cases h|exact bH h
 case and=>exact bH h
 case or=>exact bH h
 case xor=>exact bH h
 case andNot=>exact bH h
 case eql=>exact hb h
 case neq=>exact hb h
 case lss=>exact hb h
 case leq=>exact hb (by rw[show decide (a<=c) = !decide (c < a) by rw[Bool.eq_iff_iff]; simp]; exact h)
 case gtr=>exact hb h
 case geq=>exact hb (by rw[show decide (c<=a) = !decide (a < c) by rw[Bool.eq_iff_iff]; simp]; exact h)
 all_goals cases h
theorem Nl {op:BinOp} {k k':IntKind} {a c:Int} {q:PV->Bool} (h:R7 op k k' a c q=true):HF op true true k k' a c (p9 q):=by
 have sh:(!decide (c < 0))=decide (0<=c):=by rw[Bool.eq_iff_iff]; simp
 unfold R7 at h
 unfold HF
 split at h
 ·simp only[tq,xO] at h
  show shift .shl true k a c (p9 q)
  unfold shift
  simp only
  rw[← sh]
  cases hd:decide (c < 0)<;>rw[hd] at h
  ·exact bH h
  ·cases h
 ·simp only[tq,xO] at h
  show shift .shr true k a c (p9 q)
  unfold shift
  simp only
  rw[← sh]
  cases hd:decide (c < 0)<;>rw[hd] at h
  ·exact bH h
  ·cases h
 ·rename_i h1 h2
  obtain⟨hk,h⟩:=cj h
  split
  ·exact absurd rfl h1
  ·exact absurd rfl h2
  ·rw[decide_eq_true (kp hk)]
   exact Nk h
theorem la {op:BinOp} {x:Bool} {q:PV->Bool} (h:o5 op x q=true):y2 op x (p9 q):=by
 unfold o5 at h
 unfold y2
 split at h
 ·cases x<;>exact bH h
 ·cases x<;>exact bH h
 ·cases h
theorem tx {op:BinOp} {x:Bool} {p:Prop} {q:PV->Bool} (hp:p↔x=true) (h:o5 op x q=true):Rx op p (p9 q):=by
 unfold o5 at h
 unfold Rx
 split at h
 ·exact zy hp h
 ·exact zy (b:=!x) (by rw[hp]; cases x<;>simp) h
 ·cases h
theorem pd {x:PV} {c:Bool} (h:vD x=some c):∃ p,x.bl=some p/\(p↔c=true):=by
 cases x<;>simp only[vD] at h<;>first|cases h
 ·exact⟨True,rfl,by simp⟩
 ·exact⟨False,rfl,by simp⟩
theorem Dz (a c:Bool):E3 a c=true↔(a=true↔c=true):=by cases a<;>cases c<;>simp[E3]
theorem IG:∀ (l m:List UInt8),E2 l m=true↔l=m
 | [],[]=>by simp[E2]
 | a::l,c::m=>by
  simp only[E2,List.cons.injEq]
  rw[← IG l m]
  cases hb:Nat.beq a.toNat c.toNat with
  | true =>
   have:=Nat.eq_of_beq_eq_true hb
   simp only[cond_true]
   exact⟨fun h=>⟨UInt8.toNat_inj.1 this,h⟩,fun h=>h.2⟩
  | false =>
   simp only[cond_false]
   refine⟨fun h=>(by cases h),fun h=>?_⟩
   rw[h.1] at hb
   rw[Nat.beq_refl] at hb
   cases hb
 | [],_::_=>by simp[E2]
 | _::_,[]=>by simp[E2]
theorem zz {cx:Ev.Cx} {r:TypeId->PV->PV->Option Bool} {r':TypeId->PV->PV->Option Prop} (hr:∀ t a c e,r t a c=some e->∃ p,r' t a c=some p/\(p↔e=true)) {xs ys:List PV}:∀ {fs:List Field} {e:Bool},Dn r cx xs ys fs=some e->∃ p,uO r' cx xs ys fs=some p/\(p↔e=true)
 | [],e,h=>by cases h; exact⟨True,rfl,by simp⟩
 | f::fs,e,h=>by
  unfold Dn at h
  unfold uO
  split at h
  ·rename_i a c ha hc
   split at h
   ·rename_i e1 e2 h1 h2
    cases h
    obtain⟨p1,g1,k1⟩:=hr _ _ _ _ h1
    obtain⟨p2,g2,k2⟩:=zz hr h2
    rw[ha,hc]
    simp only[g1,g2]
    exact⟨_,rfl,by rw[k1,k2,Bool.and_eq_true]⟩
   ·cases h
  ·cases h
theorem rk {cx:Ev.Cx} {r:TypeId->PV->PV->Option Bool} {r':TypeId->PV->PV->Option Prop} (hr:∀ t a c e,r t a c=some e->∃ p,r' t a c=some p/\(p↔e=true)) {t:TypeId} {size:Nat} {xs ys:List PV}:∀ {n off:Nat} {e:Bool},o6 r cx t size xs ys n off=some e->∃ p,kQ r' cx t size xs ys n off=some p/\(p↔e=true)
 | 0,off,e,h=>by cases h; exact⟨True,rfl,by simp⟩
 | n+1,off,e,h=>by
  unfold o6 at h
  unfold kQ
  split at h
  ·rename_i a c ha hc
   split at h
   ·rename_i e1 e2 h1 h2
    cases h
    obtain⟨p1,g1,k1⟩:=hr _ _ _ _ h1
    obtain⟨p2,g2,k2⟩:=rk hr h2
    rw[ha,hc]
    simp only[g1,g2]
    exact⟨_,rfl,by rw[k1,k2,Bool.and_eq_true]⟩
   ·cases h
  ·cases h
theorem sg {cx:Ev.Cx}:∀ (n:Nat) (t:TypeId) (x y:PV) (e:Bool),E4 cx n t x y=some e->∃ p,G4 cx n t x y=some p/\(p↔e=true)
 | 0,_,_,_,_,h=>by cases h
 | n+1,t,x,y,e,h=>by
  unfold E4 at h
  unfold G4
  cases hu:cx.fg t with
  | none=>rw[hu] at h; cases h
  | some d =>
  rw[hu] at h
  cases d with
  | int k =>
   simp only at h ⊢
   split at h
   ·rename_i k a l c
    cases hk:rf k l with
    | false=>rw[hk] at h; cases h
    | true =>
     rw[hk] at h
     cases h
     simp only[PV.num,if_pos (decide_eq_true (kp hk))]
     exact⟨_,rfl,(xM a c).symm⟩
   ·cases h
  | bool =>
   simp only at h ⊢
   split at h
   ·rename_i p1 p2 h1 h2
    cases h
    obtain⟨q1,g1,k1⟩:=pd h1
    obtain⟨q2,g2,k2⟩:=pd h2
    simp only[g1,g2]
    exact⟨_,rfl,by rw[k1,k2,Dz]⟩
   ·cases h
  | struct fs =>
   simp only at h ⊢
   split at h
   ·cases hc:cx.eqs.any (Nat.beq t) with
    | false=>rw[hc] at h; cases h
    | true =>
     rw[hc] at h
     simp only[if_true]
     exact zz (fun t a c e h=>sg n t a c e h) h
   ·cases h
  | array len elem =>
   simp only at h ⊢
   split at h
   ·split at h
    ·rename_i hs
     rw[hs]
     exact rk (fun t a c e h=>sg n t a c e h) h
    ·cases h
   ·cases h
  | _=>cases h
end
section
variable {w w':World} {I I':Nat->Prop} {β ay:an} {C:ib} {δ:List Deferred} {s:CS} {nt b:Nat} {a:Act}
theorem ga {l:Nat} {x:aj} (h:s.dX l=some x):(eD s.h s.n)[l]?=some x/\s.h.get l=some x/\l < s.n:=by
 unfold CS.dX at h
 cases hl:Nat.blt l s.n with
 | false=>rw[hl] at h; cases h
 | true =>
  rw[hl] at h
  have bZ:l < s.n:=Nat.le_of_ble_eq_true hl
  refine⟨?_,h,bZ⟩
  rw[dC,if_pos bZ]
  replace h:s.h.get l=some x:=h
  rw[h]
  rfl
theorem me {cx:Ev.Cx} {t:TypeId} {cs:List PV} {off:Nat} {q:PV->Bool} {q':PV->Prop} (hq:∀ x,q x=true->q' x) (h:tj cx t cs off q=true):part cx t cs off q':=by
 unfold tj at h
 replace h:=ar h
 obtain⟨ag,Dd,h⟩:=h
 cases ag with
 | true =>
  replace h:=ar h
  obtain⟨n,hn,h⟩:=h
  replace h:=jz h
  obtain⟨h1,h⟩:=h
  replace h:=jA h
  obtain⟨h2,h⟩:=h
  rw[List.length_drop] at h2
  refine a_ (x:=.agg ((cs.drop off).take n)) ?_ (tv (hq _ h))
  unfold jO
  rw[Dd,hn]
  simp only
  rw[if_pos (Nat.ble_eq_true_of_le (by omega))]
 | false =>
  replace h:=pa h
  obtain⟨c,hc,h⟩:=h
  refine a_ (x:=c) ?_ (tv (hq _ h))
  unfold jO
  rw[Dd]
  exact hc
theorem kq {cx:Ev.Cx} {t:TypeId} {q:List PV->Bool} {q':List PV->Prop} (hq:∀ x,q x=true->q' x) (h:vE cx t q=true):kR cx t q' :=
 IF (fun _ _ h=>IE (fun _ hx=>hq _ hx) h) h
theorem nV:∀ {ps:List (Nat × Operand)} {q:List (Nat × PV)->Bool} {q':List (Nat × PV)->Prop},(∀ x,q x=true->q' x)->sc s.t ps q=true->nL (s.st nt b) ps q'
 | [],q,q',hq,h=>hq _ h
 | (i,o)::r,q,q',hq,h=>cp (fun x hx=>by
   have key:∀ {p:Prop},(∀ ts,x = .tup ts->False)->(match (motive:=PV->Prop) x with
    | .tup _=>False
    | _=>p)=p:=fun hn=>by cases x<;>first|rfl|exact (hn _ rfl).elim
   cases x with
   | tup ts=>cases hx
   | _=>exact nV (ps:=r) (fun l hl=>hq _ hl) hx) h
theorem pf {place:Nat->Option (Nat × Nat)}:∀ {l:List (Nat × PV)} {cells:List PV} {q:List PV->Bool} {q':List PV->Prop},(∀ x,q x=true->q' x)->vG place cells l q=true->ow place cells l q'
 | [],cells,q,q',hq,h=>hq _ h
 | (i,v)::rest,cells,q,q',hq,h=>by
  unfold vG at h
  unfold ow
  cases hp:place i with
  | none=>rw[hp] at h; cases h
  | some os =>
   obtain⟨off,size⟩:=os
   rw[hp] at h
   simp only at h ⊢
   rw[cX,Nat.zero_add] at h
   replace h:=cj h
   obtain⟨h1,h⟩:=h
   replace h:=k9 h
   obtain⟨h2,h⟩:=h
   have e:=Nat.eq_of_beq_eq_true h1
   rw[e] at h2 h
   rw[h1,Nat.ble_eq_true_of_le h2]
   exact dP (pf hq h)
theorem E6 {t:TypeId} {ps:List (Nat × Operand)} {q:PV->Bool} {q':PV->Prop} (hq:∀ x,q x=true->q' x) (h:Iq C.cx s.t t ps q=true):Bp C.cx (s.st nt b) t ps q':=by
 refine kq (fun z h=>nV (fun l h=>?_) h) h
 replace h:=ar h
 obtain⟨d,hd,h⟩:=h
 refine a_ hd ?_
 split at h
 ·replace h:=ar h
  obtain⟨pl,j3,h⟩:=h
  exact a_ j3 (pf (fun cs h=>dP (hq _ h)) h)
 ·replace h:=ar h
  obtain⟨n,hn,h⟩:=h
  exact a_ hn (pf (fun cs h=>dP (hq _ h)) h)
 ·cases h
theorem uZ {cx:Ev.Cx} {t:TypeId} {x:PV} {f:Nat} {q:PV->Bool} (h:tk cx t x f q=true):nM cx t x f (p9 q):=by
 replace h:=ar h
 obtain⟨d,hd,h⟩:=h
 refine a_ hd ?_
 split at h
 ·replace h:=ar h
  obtain⟨fd,hf,h⟩:=h
  replace h:=ar h
  obtain⟨n,hn,h⟩:=h
  refine a_ hf (a_ hn ?_)
  cases h0:Nat.beq n 0 with
  | true=>rw[h0] at h; cases h
  | false =>
   rw[h0] at h
   simp only[cond_false] at h ⊢
   split at h
   ·rw[eO] at h; exact bH h
   ·rw[eO] at h; exact bH h
   ·rw[eO] at h; exact bH h
   ·cases h
 ·cases h
theorem mf {z:Int} {len:Nat} {q:Nat->Bool} (h:vH z len q=true):decide (0<=z)=true/\decide (z < len)=true/\z.toNat < len/\q z.toNat=true:=by
 unfold vH at h
 split at h
 ·rename_i j
  replace h:=cj h
  obtain⟨h1,h⟩:=h
  have:j < len:=Nat.le_of_ble_eq_true h1
  exact⟨decide_eq_true (Int.natCast_nonneg j),decide_eq_true (by show (j:Int) < len; omega),this,h⟩
 ·cases h
theorem ic {z:Int} {len:Nat} {f:Nat->Prop} {g:Prop} (h1:decide (0<=z)=true) (h2:decide (z < len)=true) (h:f z.toNat):within true z len f g:=by
 unfold within
 simp only
 rw[h1,h2]
 exact h
theorem u1 {t:TypeId} {x i:PV} {q:PV->Bool} (h:nT C.cx s t x i q=true):nN C.cx (eD s.h s.n) t x i (p9 q):=by
 unfold nT at h
 split at h
 ·rename_i k z
  refine a_ (x:=(true,k,z)) rfl ?_
  replace h:=ar h
  obtain⟨d,hd,h⟩:=h
  refine a_ hd ?_
  split at h
  ·replace h:=ar h
   obtain⟨n,hn,h⟩:=h
   refine a_ hn ?_
   replace h:=mf h
   obtain⟨h1,h2,_,h⟩:=h
   split at h
   ·rw[eO] at h; exact ic h1 h2 (bH h)
   ·rw[eO] at h; exact ic h1 h2 (bH h)
   ·rw[eO] at h; exact ic h1 h2 (bH h)
   ·cases h
  ·replace h:=ar h
   obtain⟨n,hn,h⟩:=h
   refine a_ hn ?_
   split at h
   ·rename_i m es
    replace h:=cj h
    obtain⟨hm,h⟩:=h
    split at h
    ·rename_i j
     replace h:=pa h
     obtain⟨e,he,h⟩:=h
     simp only
     rw[hm]
     refine⟨PV,es,id,by rw[List.map_id],Int.natCast_nonneg j,?_,fun y hy=>?_⟩
     ·have:=(List.getElem?_eq_some_iff.1 he).1
      show (j:Int) < es.length
      omega
     ·have MB:es[j]?=some y:=hy
      rw[he] at MB
      cases MB
      exact dP (bH h)
    ·cases h
   ·rename_i l off len
    replace h:=ar h
    obtain⟨bl,hb,h⟩:=h
    have hb:=(ga hb).1
    have hdy:C7 (eD s.h s.n) l=false:=by
     unfold C7
     rw[hb]
     simp only
     split at h<;>first|(rename_i e; rw[e])|cases h
    simp only[hdy,cond_false]
    split at h
    ·replace h:=mf h
     obtain⟨h1,h2,_,h⟩:=h
     rw[eO] at h
     exact ic h1 h2 (bH h)
    ·replace h:=mf h
     obtain⟨h1,h2,_,h⟩:=h
     rw[eO] at h
     exact ic h1 h2 (bH h)
    ·cases h
   ·rename_i l
    replace h:=ar h
    obtain⟨bl,hb,h⟩:=h
    refine a_ (ga hb).1 ?_
    replace h:=cj h
    obtain⟨hc,h⟩:=h
    rw[hc]
    split at h
    ·rename_i hk
     simp only[cond_true,hk]
     rw[cX,Nat.zero_add] at h
     replace h:=mf h
     obtain⟨h1,h2,_,h⟩:=h
     rw[eO] at h
     rw[gA,Nat.zero_add]
     exact ic h1 h2 (bH h)
    ·cases h
   ·cases h
  ·cases h
 ·cases h
end
section
variable {w w':World} {I I':Nat->Prop} {β ay:an} {C:ib} {δ:List Deferred} {s:CS} {nt b:Nat} {a:Act}
theorem Nm {op:BinOp} {x:PV} {q:PV->Bool} (h:R8 s op x q=true):y3 (eD s.h s.n) op x (p9 q):=by
 unfold R8 at h
 unfold y3
 split at h
 ·exact la h
 ·exact la h
 ·replace h:=ar h
  obtain⟨bl,hb,h⟩:=h
  refine a_ (ga hb).1 ?_
  replace h:=cj h
  obtain⟨hl,h⟩:=h
  rw[hl]
  split at h
  ·rename_i hk
   simp only[cond_true,hk]
   exact la h
  ·cases h
 ·exact .inl ⟨by simp,la h⟩
 ·cases h
theorem Nn {op:BinOp} {t:TypeId} {x y:PV} {q:PV->Bool} (h:R9 C.cx s op t x y q=true):HG C.cx (eD s.h s.n) op t x y (p9 q):=by
 unfold R9 at h
 unfold HG
 split at h
 ·split at h
  ·exact Nl h
  ·cases h
 ·cases h
 ·rename_i h1 h2
  have hx:x.num=none:=by cases x<;>first|rfl|exact absurd rfl (h1 _ _)|exact absurd rfl (h2 _ _)
  rw[hx]
  simp only
  replace h:=ar h
  obtain⟨d,hd,h⟩:=h
  refine a_ hd ?_
  cases d with
  | bool =>
   simp only at h ⊢
   replace h:=ar h
   obtain⟨c1,e1,h⟩:=h
   replace h:=ar h
   obtain⟨c2,e2,h⟩:=h
   obtain⟨p1,g1,k1⟩:=pd e1
   obtain⟨p2,g2,k2⟩:=pd e2
   refine a_ g1 (a_ g2 (tx ?_ h))
   rw[k1,k2,Dz]
  | string =>
   simp only at h ⊢
   split at h
   ·rename_i u v
    have e:(u.toList == v.toList)=E2 u.data.toList v.data.toList:=by
     rw[Bool.eq_iff_iff,IG,beq_iff_eq,ByteArray.toList_eq,ByteArray.toList_eq]
    simp only[e]
    exact la h
   ·cases h
  | slice e =>
   simp only at h ⊢
   split at h
   ·exact Nm h
   ·cases h
  | pointer e =>
   simp only at h ⊢
   split at h
   ·exact la h
   ·exact la h
   ·cases h
  | struct fs =>
   simp only at h ⊢
   split at h
   ·replace h:=cj h
    obtain⟨hc,h⟩:=h
    simp only[hc,cond_true]
    replace h:=ar h
    obtain⟨c,e,h⟩:=h
    obtain⟨p,g,k⟩:=sg _ _ _ _ _ e
    exact a_ g (tx k h)
   ·cases h
  | array n e =>
   simp only at h ⊢
   split at h
   ·replace h:=cj h
    obtain⟨hc,h⟩:=h
    simp only[hc,cond_true]
    replace h:=ar h
    obtain⟨c,e,h⟩:=h
    obtain⟨p,g,k⟩:=sg _ _ _ _ _ e
    exact a_ g (tx k h)
   ·cases h
  | _=>cases h
theorem Sg {op:UnOp} {x:PV} {q:PV->Bool} (h:cun op x q=true):Y' op x (p9 q):=by
 unfold cun at h
 unfold Y'
 split at h
 ·exact bH (tu h)
 ·rw[tq] at h; exact bH h
 ·exact bH h
 ·exact bH h
 ·cases h
theorem E7 {t:TypeId} {x i:PV} {q:PV->Bool} (h:BP C.cx t x i q=true):Bq C.cx t x i (p9 q):=by
 unfold BP at h
 split at h
 ·rename_i u k j
  replace h:=ar h
  obtain⟨d,hd,h⟩:=h
  split at h
  ·replace h:=pa h
   obtain⟨c,hc,h⟩:=h
   rw[eO] at h
   have bZ:=(List.getElem?_eq_some_iff.1 hc).1
   refine a_ (x:=(true,k,Int.ofNat j)) rfl (a_ hd ⟨Int.natCast_nonneg j,?_,?_⟩)
   ·show (j:Int) < u.size
    have:u.size=u.data.toList.length:=by rw[Array.length_toList]; rfl
    omega
   ·have e:((u.data.toList.map fun b=>((b.toNat:Nat):Int))[(Int.ofNat j).toNat]?).getD 0=Int.ofNat c.toNat:=by
     rw[show (Int.ofNat j).toNat=j from rfl,List.getElem?_map,hc]
     rfl
    rw[e]
    exact Dy h
  ·cases h
 ·rename_i cs k z
  replace h:=ar h
  obtain⟨d,hd,h⟩:=h
  refine a_ (x:=(true,k,z)) rfl (a_ hd ?_)
  split at h
  ·replace h:=ar h
   obtain⟨n,hn,h⟩:=h
   replace h:=mf h
   obtain⟨h1,h2,_,h⟩:=h
   exact a_ hn (ic h1 h2 (me (fun _ h=>bH h) h))
  ·cases h
 ·cases h
theorem jV {o:Option Operand} {d:Nat} {q:Nat->Bool} {q':Bool × Int->Prop} (hd:q d=true->q' (true,(d:Int))) (hq:∀ n:Nat,q n=true->q' (true,(n:Int))) (h:ng s.t o d q=true):w_ (s.st nt b) o (true,(d:Int)) q':=by
 unfold ng at h
 unfold w_
 split at h
 ·exact hd h
 ·rename_i o
  refine cp (fun x hx=>?_) h
  split at hx
  ·rename_i k n
   exact a_ (x:=(true,k,Int.ofNat n)) rfl (hq n hx)
  ·cases hx
theorem IH {o:Option Operand} {d:Nat} {q:Nat->Bool} {q':Bool × Int->Prop} (hd:q d=true->q' (false,(d:Int))) (hq:∀ n:Nat,q n=true->q' (true,(n:Int))) (h:ng s.t o d q=true):w_ (s.st nt b) o (false,(d:Int)) q':=by
 unfold ng at h
 unfold w_
 split at h
 ·exact hd h
 ·rename_i o
  refine cp (fun x hx=>?_) h
  split at hx
  ·rename_i k n
   exact a_ (x:=(true,k,Int.ofNat n)) rfl (hq n hx)
  ·cases hx
theorem xP {m n:Nat} (h:Nat.blt m n=true):m < n:=Nat.le_of_ble_eq_true h
def Sh (m n:Nat) (x:PV) (q:PV->Prop) (l h:Bool × Int):Prop:=match x with
 | .ptr b off=>bif l.1 && h.1 && decide (0<=l.2) && decide (l.2 < n) && decide (l.2<=h.2) && decide (h.2<=n) then q (.ref b (off+l.2.toNat*m) (h.2 - l.2).toNat) else False
 | _=>False
def Si (s:aD) (m:Nat) (hi:Option Operand) (x:PV) (q:PV->Prop) (l:Bool × Int):Prop:=match x with
 | .nil=>w_ s hi (true,0) fun h=>l.2=0/\h.2=0/\q .nil
 | .ref b off len=>w_ s hi (true,len) fun h=>bif l.1 && h.1 && decide (0<=l.2) && decide (l.2 < len) && decide (l.2<=h.2) && decide (h.2<=len) then q (.ref b (off+l.2.toNat*m) (h.2 - l.2).toNat) else False
 | .sl n es=>w_ s hi (false,es.length) fun h=>bif Nat.beq n m && Nat.blt 0 m then 0<=l.2/\l.2<=h.2/\h.2<=es.length/\q (.sl n ((es.drop l.2.toNat).take (h.2 - l.2).toNat)) else False
 | .wref b=>aU s.st[b]? fun k=>(match k.k with
  | .arr=>bif k.live && Nat.beq k.size m && Nat.blt 0 m then lH k.cs 0 fun len=>w_ s hi (true,(len / m:Nat)) fun h =>
    (bif l.1 && h.1 && decide (0<=l.2) && decide (l.2 < (len / m:Nat)) && decide (l.2<=h.2) && decide (h.2<=(len / m:Nat)) then q (.ref b (l.2.toNat*m) (h.2 - l.2).toNat) else False) else False
  | .dyn=>bif k.live && Nat.beq k.size m && Nat.blt 0 m then w_ s hi (false,k.cs.length) fun h=>∃ i j:Nat,l.2=i/\h.2=j/\i<=j/\j<=k.cs.length/\i < k.cs.length/\q (.ref b (i*m) (j - i)) else False
  | _=>False)
 | _=>False
theorem si {m n l r:Nat} {x:PV} {q:PV->Bool} (h:R' m n l r x q=true):Sh m n x (p9 q) (true,(l:Int)) (true,(r:Int)):=by
 unfold R' at h
 unfold Sh
 split at h
 ·replace h:=cj h
  obtain⟨hc,h⟩:=h
  simp only[Bool.and_eq_true] at hc
  obtain⟨⟨h1,h2⟩,h3⟩:=hc
  have h1:=xP h1
  have h2:=Nat.le_of_ble_eq_true h2
  have h3:=Nat.le_of_ble_eq_true h3
  rw[eO,eO] at h
  simp only
  rw[decide_eq_true (show (0:Int)<=l by omega),decide_eq_true (show (l:Int) < n by omega),decide_eq_true (show (l:Int)<=r by omega),decide_eq_true (show (r:Int)<=n by omega)]
  simp only[Bool.and_true,cond_true,Int.toNat_natCast]
  rw[show ((r:Int) - l).toNat=Nat.sub r l by show _=r - l; omega]
  exact bH h
 ·cases h
theorem DA {m l:Nat} {hi:Option Operand} {x:PV} {q:PV->Bool} (h:R_ s m l hi x q=true):Si (s.st nt b) m hi x (p9 q) (true,(l:Int)):=by
 unfold Si
 have fC:∀ {len r:Nat},(Nat.blt l len && Nat.ble l r && Nat.ble r len)=true->((true:Bool) && (true:Bool) && decide (0<=(l:Int)) && decide ((l:Int) < len) && decide ((l:Int)<=(r:Int)) && decide ((r:Int)<=len))=true/\((r:Int) - l).toNat=Nat.sub r l:=by
  intro len r hc
  simp only[Bool.and_eq_true] at hc
  obtain⟨⟨h1,h2⟩,h3⟩:=hc
  have h1:=xP h1
  have h2:=Nat.le_of_ble_eq_true h2
  have h3:=Nat.le_of_ble_eq_true h3
  rw[decide_eq_true (show (0:Int)<=l by omega),decide_eq_true (show (l:Int) < len by omega),decide_eq_true (show (l:Int)<=r by omega),decide_eq_true (show (r:Int)<=len by omega)]
  exact⟨rfl,by show _=r - l; omega⟩
 unfold R_ at h
 split at h
 ·have f:∀ r:Nat,(bif Nat.beq l 0 && Nat.beq r 0 then q .nil else false)=true->(l:Int)=0/\(r:Int)=0/\(p9 q) .nil:=fun r h=>by
   replace h:=cj h
   obtain⟨hc,h⟩:=h
   simp only[Bool.and_eq_true] at hc
   have h1:=Nat.eq_of_beq_eq_true hc.1
   have h2:=Nat.eq_of_beq_eq_true hc.2
   exact⟨by omega,by omega,bH h⟩
  exact jV (d:=0) (f 0) f h
 ·rename_i b' off len
  have f:∀ r:Nat,(bif Nat.blt l len && Nat.ble l r && Nat.ble r len then nf (Nat.add off (Nat.mul l m)) fun o=>nf (Nat.sub r l) fun k=>q (.ref b' o k) else false)=true->bif (true:Bool) && (true:Bool) && decide (0<=(l:Int)) && decide ((l:Int) < len) && decide ((l:Int)<=(r:Int)) && decide ((r:Int)<=len) then (p9 q) (.ref b' (off+(l:Int).toNat*m) ((r:Int) - l).toNat) else False:=fun r h=>by
   replace h:=cj h
   obtain⟨hc,h⟩:=h
   rw[(fC hc).1,(fC hc).2]
   rw[eO,eO] at h
   exact bH h
  exact jV (f len) f h
 ·rename_i n es
  rw[cX,Nat.zero_add] at h
  have f:∀ r:Nat,(bif Nat.beq n m && Nat.blt 0 m && Nat.ble l r && Nat.ble r es.length then oZ l es fun es=>o1 (Nat.sub r l) es fun es=>q (.sl n es) else false)=true->bif Nat.beq n m && Nat.blt 0 m then 0<=(l:Int)/\(l:Int)<=(r:Int)/\(r:Int)<=es.length/\(p9 q) (.sl n ((es.drop (l:Int).toNat).take ((r:Int) - l).toNat)) else False:=fun r h=>by
   replace h:=cj h
   obtain⟨hc,h⟩:=h
   simp only[Bool.and_eq_true] at hc
   have h1:=Nat.le_of_ble_eq_true hc.1.2
   have h2:=Nat.le_of_ble_eq_true hc.2
   rw[hc.1.1.1,hc.1.1.2]
   replace h:=jz h
   obtain⟨_,h⟩:=h
   replace h:=jA h
   obtain⟨_,h⟩:=h
   refine⟨by omega,by omega,by omega,?_⟩
   rw[Int.toNat_natCast,show ((r:Int) - l).toNat=Nat.sub r l by show _=r - l; omega]
   exact bH h
  exact IH (f es.length) f h
 ·rename_i b'
  replace h:=ar h
  obtain⟨bl,hb,h⟩:=h
  refine a_ (ga hb).1 ?_
  split at h
  ·rename_i hk
   simp only[hk]
   replace h:=cj h
   obtain⟨hc,h⟩:=h
   rw[hc]
   rw[cX,Nat.zero_add,eO] at h
   simp only[cond_true]
   rw[gA,Nat.zero_add]
   have f:∀ r:Nat,(bif Nat.blt l (Nat.div bl.cs.length m) && Nat.ble l r && Nat.ble r (Nat.div bl.cs.length m) then nf (Nat.mul l m) fun o=>nf (Nat.sub r l) fun k=>q (.ref b' o k) else false)=true->bif (true:Bool) && (true:Bool) && decide (0<=(l:Int)) && decide ((l:Int) < (bl.cs.length / m:Nat)) && decide ((l:Int)<=(r:Int)) && decide ((r:Int)<=(bl.cs.length / m:Nat)) then (p9 q) (.ref b' ((l:Int).toNat*m) ((r:Int) - l).toNat) else False:=fun r h=>by
    replace h:=cj h
    obtain⟨hc,h⟩:=h
    have hr:=fC hc
    rw[hr.2]
    rw[show ((true:Bool) && (true:Bool) && decide (0<=(l:Int)) && decide ((l:Int) < (bl.cs.length / m:Nat)) && decide ((l:Int)<=(r:Int)) && decide ((r:Int)<=(bl.cs.length / m:Nat)))=true from hr.1]
    rw[eO,eO] at h
    exact bH h
   exact jV (f _) f h
  ·cases h
 ·cases h
theorem E8 {t:TypeId} {x:PV} {lo hi:Option Operand} {q:PV->Bool} (h:xF C s t x lo hi q=true):Br C.cx (s.st nt b) t x lo hi none (p9 q):=by
 unfold xF at h
 replace h:=ar h
 obtain⟨d,hd,h⟩:=h
 refine a_ hd ?_
 cases d with
 | array n elem =>
  simp only at h
  replace h:=ar h
  obtain⟨m,hm,h⟩:=h
  refine a_ hm ?_
  replace h:=cj h
  obtain⟨l5,h⟩:=h
  rw[l5]
  exact jV (q':=fun l=>w_ (s.st nt b) hi (true,(n:Int)) fun h=>Sh m n x (p9 q) l h) (fun h=>jV (si (l:=0)) (fun _=>si) h) (fun l h=>jV si (fun _=>si) h) h
 | slice elem =>
  simp only at h
  replace h:=ar h
  obtain⟨m,hm,h⟩:=h
  refine a_ hm ?_
  exact jV (q':=fun l=>Si (s.st nt b) m hi x (p9 q) l) (DA (l:=0)) (fun _=>DA) h
 | _=>cases h
end
end Go.Proofs.YtbnoodjnpooocaaGreatDoor.Pw
