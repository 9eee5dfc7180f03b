/- What this claim is proved with: no condition. -/
import Derived.Test.YtnbhdacpogplgaaGreatDoorPd1
import Derived.Test.YtnbhdacpogplgaaGreatDoorChecked
set_option linter.unusedVariables false
set_option linter.unusedSimpArgs false
namespace Go.Proofs.YtnbhdacpogplgaaGreatDoor.Ev
open Go Go.RowKit
def ij (P:Program) (f:FuncId):Prop:=∀ args w,(callFunc f args).run P w = .ok (.enter f args) w
section
variable {P:Program} {cx:Cx} {ρ:Env} {W:World} {wr:List Nat} {β aI:Pl} {heap:List GK} {w w':World}
theorem AT.iB {n:Nat} {a:AT} {v:Value} (hb:a.below n=true) (h:a.Is ρ β v):a.Is ρ (β.take n) v:=by
 have g:∀ {l:Nat} {p:Nat × Nat},Nat.blt l n=true->β[l]?=some p->(β.take n)[l]?=some p:=fun hl hp=>by
  have iz:_ < n:=Nat.le_of_ble_eq_true hl
  rw[List.getElem?_take,if_pos iz]; exact hp
 cases a<;>simp only[AT.Is,AT.below] at h hb ⊢
 case int=>exact h
 case bool=>exact h
 case val=>exact h
 case ptr=>obtain⟨p,hp,e⟩:=h; exact⟨p,g hb hp,e⟩
 case pti=>obtain⟨p,hp,e⟩:=h; exact⟨p,g hb hp,e⟩
 case slc=>obtain⟨p,hp,e⟩:=h; exact⟨p,g hb hp,e⟩
 case opq=>exact h
theorem s4 {α γ:Type} {R S:α->γ->Prop}:∀ {l:List α} {m:List γ},(∀ a∈l,∀ b,R a b->S a b)->cK R l m->cK S l m
 | [],[],_,_=>trivial
 | a::l,b::m,hi,h=>⟨hi a (by simp) b h.1,s4 (fun x hx=>hi x (by simp[hx])) h.2⟩
 | [],_::_,_,h=>h.elim
 | _::_,[],_,h=>h.elim
theorem A1.iB {n:Nat} {x:A1} {v:Value} (hb:x.below n=true) (h:x.Is ρ β v):x.Is ρ (β.take n) v:=by
 cases x with
 | c a=>exact AT.iB (by simpa [A1.below,A1.cells] using hb) h
 | g l =>
  obtain⟨cs,e,hc⟩:=h
  exact⟨cs,e,s4 (fun a ha v hv=>AT.iB (List.all_eq_true.1 (show l.all (·.below n)=true from hb) a ha) hv) hc⟩
theorem AV.iB {n:Nat} {x:AV} {v:Value} (hb:x.below n=true) (h:x.Is ρ β v):x.Is ρ (β.take n) v:=by
 cases x with
 | v x=>exact A1.iB hb h
 | t l =>
  obtain⟨cs,e,hc⟩:=h
  exact⟨cs,e,s4 (fun a ha v hv=>A1.iB (List.all_eq_true.1 (show l.all (·.below n)=true from hb) a ha) hv) hc⟩
theorem mW {f:FuncId} {fn:Func} {c:Code} (hf:P.funcs[f]?=some fn) (hb:fn.body=some c) (hn:(fn.name == "runtime.NumGoroutine")=false):ij P f:=fun args w=>by
 have Cn:fn.name≠"runtime.NumGoroutine":=by simpa using hn
 simp[callFunc,hf,hb,Cn]
theorem CQ {v:Array Value} (n:Nat) (hv:0 < v.size):((Array.range (n*v.size)).map fun i=>v[i % v.size]!).toList=(List.replicate n v.toList).flatten:=by
 apply List.ext_getElem?
 intro i
 simp only[Array.toList_map,Array.toList_range,List.getElem?_map]
 by_cases hi:i < n*v.size
 ·rw[List.getElem?_range hi]
  have hm:i % v.size < v.size:=Nat.mod_lt _ hv
  have key:∀ n i,i < n*v.size->(List.replicate n v.toList).flatten[i]?=v.toList[i % v.size]?:=by
   intro n
   induction n with
   | zero=>intro i hi; simp at hi
   | succ n ih =>
    intro i hi
    simp only[List.replicate_succ,List.flatten_cons]
    by_cases h:i < v.size
    ·rw[List.getElem?_append_left (by simpa using h),Nat.mod_eq_of_lt h]
    ·rw[List.getElem?_append_right (by simp; omega),ih _ (by simp; rw[Nat.succ_mul] at hi; omega)]
     simp only[Array.length_toList]
     rw[← Nat.mod_eq_sub_mod (by omega)]
  rw[key n i hi]
  simp[hm]
 ·have h1:(List.replicate n v.toList).flatten.length=n*v.size:=by simp
  rw[List.getElem?_eq_none (by simp; omega),List.getElem?_eq_none (by omega)]
  rfl
def ou (P:Program) (K:Value->World->Prop):Result Next->Prop
 | .ok (.value u) w'=>K u w'
 | .ok .skip w'=>K undef w'
 | .ok (.enter f args) w'=>Calls P f args w' (fun e yX=>∃ u,e = .returned u/\K u yX)
 | _=>False
theorem kh {K K':Value->World->Prop} (hK:∀ v w,K v w->K' v w) {r:Result Next} (h:ou P K r):ou P K' r:=by
 cases r with
 | ok n w =>
  cases n<;>simp only[ou] at h ⊢
  case enter f args=>exact h.mono fun e w' ⟨u,he,hu⟩=>⟨u,he,hK _ _ hu⟩
  all_goals exact hK _ _ h
 | halt x w=>exact h.elim
theorem s5 {o:Oper} {a:Act} {K:Value->World->Prop} {K':Act->World->Prop} {Q:Exit->Act->World->Prop} (h:ou P K ((execOp a.eval o).run P w)) (hK:∀ v w',K v w'->K' (a.put o.dst v) w'):o.wp P a w K' Q:=by
 unfold Oper.wp
 generalize (execOp a.eval o).run P w=r at *
 cases r with
 | ok n w =>
  cases n<;>simp only[ou] at h
  case value u=>exact hK _ _ h
  case skip=>exact hK _ _ h
  case enter f args=>exact h.mono fun e w' ⟨u,he,hu⟩=>by subst he; exact hK _ _ hu
 | halt x w=>exact h.elim
end
section
variable {P:Program} {cx:Cx} {ρ:Env} {W:World} {wr:List Nat} {β aI:Pl} {heap:List GK} {w w':World}
def ov (P:Program) (ops:Array Oper) (o:Oper) (a:Act) (w:World) (K:Value->World->Prop):Prop :=
 (Region.wanted o (yielded ops a.tmps)=true/\ou P K ((execOp a.eval o).run P w))\/(Region.wanted o (yielded ops a.tmps)=false/\K undef w)
theorem ov.mono {ops:Array Oper} {o:Oper} {a:Act} {K K':Value->World->Prop} (hK:∀ v w,K v w->K' v w) (h:ov P ops o a w K):ov P ops o a w K' :=
 h.imp (fun ⟨h1,h2⟩=>⟨h1,kh hK h2⟩) (fun ⟨h1,h2⟩=>⟨h1,hK _ _ h2⟩)
theorem uE {ops:Array Oper} {l:Array Bool} {i:Nat} (h:i∈Region.ready .any ops l):∃ o,ops[i]?=some o:=by
 obtain⟨_,o,ho,_⟩:=mem_ready.1 h; exact⟨o,ho⟩
end
section
variable {P:Program} {cx:Cx} {ρ:Env} {W:World} {wr:List Nat} {β aI:Pl} {heap:List GK} {w w':World}
theorem AT.Is.Gm {a:AT} {u v:Value} (hu:a.Is ρ β u) (hv:a.Is ρ β v):u=v:=by
 cases a<;>simp only[AT.Is] at hu hv
 case int=>exact hu.trans hv.symm
 case bool=>exact hu.trans hv.symm
 case val=>exact hu.1.trans hv.1.symm
 case ptr=>obtain⟨p,hp,e⟩:=hu; obtain⟨q,hq,f⟩:=hv; rw[hp] at hq; cases hq; exact e.trans f.symm
 case pti=>obtain⟨p,hp,e⟩:=hu; obtain⟨q,hq,f⟩:=hv; rw[hp] at hq; cases hq; exact e.trans f.symm
 case slc=>obtain⟨p,hp,e⟩:=hu; obtain⟨q,hq,f⟩:=hv; rw[hp] at hq; cases hq; exact e.trans f.symm
 case opq=>exact hu.1.trans hv.1.symm
theorem cK.Gm {α γ:Type} {R:α->γ->Prop} (h:∀ a u v,R a u->R a v->u=v):∀ {l:List α} {m n:List γ},cK R l m->cK R l n->m=n
 | [],[],[],_,_=>rfl
 | a::l,b::m,c::n,h1,h2=>by rw[h a b c h1.1 h2.1,cK.Gm h h1.2 h2.2]
 | [],_::_,_,h,_=>h.elim
 | _::_,[],_,h,_=>h.elim
 | [],[],_::_,_,h=>h.elim
 | _::_,_::_,[],_,h=>h.elim
theorem A1.Is.Gm {a:A1} {u v:Value} (hu:a.Is ρ β u) (hv:a.Is ρ β v):u=v:=by
 cases a with
 | c a=>exact AT.Is.Gm hu hv
 | g l=>obtain⟨x,e,hx⟩:=hu; obtain⟨y,f,hy⟩:=hv; rw[e,f,Array.toList_inj.1 (cK.Gm (R:=AT.Is ρ β) (fun _ _ _=>AT.Is.Gm) hx hy)]
theorem AV.Is.Gm {a:AV} {u v:Value} (hu:a.Is ρ β u) (hv:a.Is ρ β v):u=v:=by
 cases a with
 | v a=>exact A1.Is.Gm hu hv
 | t l=>obtain⟨x,e,hx⟩:=hu; obtain⟨y,f,hy⟩:=hv; rw[e,f,Array.toList_inj.1 (cK.Gm (R:=A1.Is ρ β) (fun _ _ _=>A1.Is.Gm) hx hy)]
end
theorem all_cons {α:Type} {Q:α->Prop} {a:α} {l:List α} (h:Q a) (t:∀ x∈l,Q x):∀ x∈a::l,Q x:=fun x hx=>by
 rcases List.mem_cons.1 hx with rfl|hx
 ·exact h
 ·exact t x hx
theorem all_nil {α:Type} {Q:α->Prop}:∀ x∈([]:List α),Q x:=fun x hx=>by cases hx
open Go
noncomputable def tt:List (Nat × TI):=[(3,⟨Tryz.t3.desc,Tryz.t3.size,Tryz.t3.zero⟩),
 (42,⟨Tryz.t41.desc,Tryz.t42.size,Tryz.t42.zero⟩),
 (30,⟨Tryz.t29.desc,Tryz.t30.size,Tryz.t30.zero⟩),
 (37,⟨Tryz.t36.desc,Tryz.t37.size,Tryz.t37.zero⟩),
 (27,⟨Tryz.t26.desc,Tryz.t27.size,Tryz.t27.zero⟩),
 (110,⟨Tryz.t3.desc,Tryz.t110.size,Tryz.t110.zero⟩),
 (108,⟨Tryz.t107.desc,Tryz.t108.size,Tryz.t108.zero⟩),
 (24,⟨Tryz.t24.desc,Tryz.t24.size,Tryz.t24.zero⟩),
 (40,⟨Tryz.t3.desc,Tryz.t40.size,Tryz.t40.zero⟩),
 (28,⟨Tryz.t28.desc,Tryz.t28.size,Tryz.t28.zero⟩),
 (70,⟨Tryz.t69.desc,Tryz.t70.size,Tryz.t70.zero⟩),
 (31,⟨Tryz.t3.desc,Tryz.t31.size,Tryz.t31.zero⟩),
 (39,⟨Tryz.t38.desc,Tryz.t39.size,Tryz.t39.zero⟩),
 (35,⟨Tryz.t35.desc,Tryz.t35.size,Tryz.t35.zero⟩),
 (61,⟨Tryz.t60.desc,Tryz.t61.size,Tryz.t61.zero⟩),
 (56,⟨Tryz.t56.desc,Tryz.t56.size,Tryz.t56.zero⟩),
 (25,⟨Tryz.t25.desc,Tryz.t25.size,Tryz.t25.zero⟩),
 (4,⟨Tryz.t4.desc,Tryz.t4.size,Tryz.t4.zero⟩),
 (34,⟨Tryz.t34.desc,Tryz.t34.size,Tryz.t34.zero⟩),
 (106,⟨Tryz.t105.desc,Tryz.t106.size,Tryz.t106.zero⟩),
 (95,⟨Tryz.t94.desc,Tryz.t95.size,Tryz.t95.zero⟩),
 (87,⟨Tryz.t86.desc,Tryz.t87.size,Tryz.t87.zero⟩),
 (22,⟨Tryz.t22.desc,Tryz.t22.size,Tryz.t22.zero⟩),
 (91,⟨Tryz.t90.desc,Tryz.t91.size,Tryz.t91.zero⟩),
 (148,⟨Tryz.t148.desc,Tryz.t148.size,Tryz.t148.zero⟩),
 (128,⟨Tryz.t127.desc,Tryz.t128.size,Tryz.t128.zero⟩),
 (63,⟨Tryz.t63.desc,Tryz.t63.size,Tryz.t63.zero⟩),
 (58,⟨Tryz.t58.desc,Tryz.t58.size,Tryz.t58.zero⟩),
 (5,⟨Tryz.t5.desc,Tryz.t5.size,Tryz.t5.zero⟩),
 (104,⟨Tryz.t3.desc,Tryz.t104.size,Tryz.t104.zero⟩),
 (59,⟨Tryz.t59.desc,Tryz.t59.size,Tryz.t59.zero⟩),
 (9,⟨Tryz.t9.desc,Tryz.t9.size,Tryz.t9.zero⟩),
 (159,⟨Tryz.t159.desc,Tryz.t159.size,Tryz.t159.zero⟩),
 (82,⟨Tryz.t82.desc,Tryz.t82.size,Tryz.t82.zero⟩),
 (138,⟨Tryz.t138.desc,Tryz.t138.size,Tryz.t138.zero⟩),
 (165,⟨Tryz.t165.desc,Tryz.t165.size,Tryz.t165.zero⟩),
 (129,⟨Tryz.t129.desc,Tryz.t129.size,Tryz.t129.zero⟩),
 (76,⟨Tryz.t76.desc,Tryz.t76.size,Tryz.t76.zero⟩)]
noncomputable def fns:List (Nat × Func):=[(3,Tryz.f3),
 (6,Tryz.f6),
 (7,Tryz.f7),
 (21,Tryz.f21),
 (44,Tryz.f44),
 (79,Tryz.f79),
 (115,Tryz.f115),
 (116,Tryz.f116),
 (137,Tryz.f137),
 (148,Tryz.f148),
 (138,Tryz.f138),
 (117,Tryz.f117),
 (126,Tryz.f126),
 (125,Tryz.f125),
 (143,Tryz.f143),
 (151,Tryz.f151),
 (144,Tryz.f144),
 (153,Tryz.f153),
 (152,Tryz.f152),
 (139,Tryz.f139),
 (149,Tryz.f149),
 (118,Tryz.f118),
 (140,Tryz.f140),
 (150,Tryz.f150),
 (141,Tryz.f141),
 (22,Tryz.f22),
 (46,Tryz.f46),
 (80,Tryz.f80),
 (119,Tryz.f119),
 (121,Tryz.f121),
 (8,Tryz.f8),
 (24,Tryz.f24),
 (25,Tryz.f25),
 (26,Tryz.f26),
 (49,Tryz.f49),
 (54,Tryz.f54),
 (50,Tryz.f50),
 (92,Tryz.f92),
 (51,Tryz.f51),
 (56,Tryz.f56),
 (93,Tryz.f93),
 (128,Tryz.f128),
 (94,Tryz.f94),
 (95,Tryz.f95),
 (96,Tryz.f96),
 (52,Tryz.f52),
 (97,Tryz.f97),
 (98,Tryz.f98),
 (99,Tryz.f99),
 (100,Tryz.f100),
 (101,Tryz.f101),
 (102,Tryz.f102),
 (129,Tryz.f129),
 (27,Tryz.f27),
 (55,Tryz.f55),
 (105,Tryz.f105),
 (57,Tryz.f57),
 (106,Tryz.f106),
 (58,Tryz.f58),
 (59,Tryz.f59),
 (60,Tryz.f60),
 (61,Tryz.f61),
 (107,Tryz.f107),
 (62,Tryz.f62),
 (108,Tryz.f108),
 (135,Tryz.f135),
 (146,Tryz.f146),
 (53,Tryz.f53),
 (103,Tryz.f103),
 (130,Tryz.f130),
 (131,Tryz.f131),
 (132,Tryz.f132),
 (133,Tryz.f133),
 (104,Tryz.f104),
 (134,Tryz.f134),
 (12,Tryz.f12),
 (33,Tryz.f33),
 (142,Tryz.f142),
 (11,Tryz.f11),
 (30,Tryz.f30),
 (32,Tryz.f32),
 (31,Tryz.f31),
 (9,Tryz.f9),
 (68,Tryz.f68),
 (10,Tryz.f10),
 (28,Tryz.f28),
 (63,Tryz.f63),
 (29,Tryz.f29),
 (64,Tryz.f64),
 (109,Tryz.f109),
 (14,Tryz.f14),
 (45,Tryz.f45),
 (84,Tryz.f84),
 (85,Tryz.f85),
 (124,Tryz.f124),
 (86,Tryz.f86),
 (81,Tryz.f81),
 (120,Tryz.f120),
 (82,Tryz.f82),
 (122,Tryz.f122),
 (123,Tryz.f123),
 (83,Tryz.f83),
 (23,Tryz.f23),
 (47,Tryz.f47),
 (87,Tryz.f87),
 (48,Tryz.f48),
 (88,Tryz.f88),
 (89,Tryz.f89),
 (127,Tryz.f127),
 (145,Tryz.f145),
 (90,Tryz.f90),
 (91,Tryz.f91),
 (13,Tryz.f13),
 (34,Tryz.f34),
 (65,Tryz.f65),
 (35,Tryz.f35),
 (4,Tryz.f4),
 (15,Tryz.f15),
 (16,Tryz.f16),
 (36,Tryz.f36),
 (67,Tryz.f67),
 (66,Tryz.f66),
 (5,Tryz.f5),
 (17,Tryz.f17),
 (37,Tryz.f37),
 (18,Tryz.f18),
 (38,Tryz.f38),
 (39,Tryz.f39),
 (69,Tryz.f69),
 (70,Tryz.f70),
 (71,Tryz.f71),
 (110,Tryz.f110),
 (111,Tryz.f111),
 (112,Tryz.f112),
 (113,Tryz.f113),
 (136,Tryz.f136),
 (147,Tryz.f147),
 (40,Tryz.f40),
 (41,Tryz.f41),
 (42,Tryz.f42),
 (19,Tryz.f19),
 (43,Tryz.f43),
 (72,Tryz.f72),
 (73,Tryz.f73),
 (75,Tryz.f75),
 (74,Tryz.f74),
 (76,Tryz.f76),
 (77,Tryz.f77),
 (78,Tryz.f78),
 (20,Tryz.f20)]
theorem Kv:∀ p∈tt,Tryz.prog.underlying p.1=some p.2.desc :=
 all_cons (by kernel_rfl) <|
 all_cons (by kernel_rfl) <|
 all_cons (by kernel_rfl) <|
 all_cons (by kernel_rfl) <|
 all_cons (by kernel_rfl) <|
 all_cons (by kernel_rfl) <|
 all_cons (by kernel_rfl) <|
 all_cons (by kernel_rfl) <|
 all_cons (by kernel_rfl) <|
 all_cons (by kernel_rfl) <|
 all_cons (by kernel_rfl) <|
 all_cons (by kernel_rfl) <|
 all_cons (by kernel_rfl) <|
 all_cons (by kernel_rfl) <|
 all_cons (by kernel_rfl) <|
 all_cons (by kernel_rfl) <|
 all_cons (by kernel_rfl) <|
 all_cons (by kernel_rfl) <|
 all_cons (by kernel_rfl) <|
 all_cons (by kernel_rfl) <|
 all_cons (by kernel_rfl) <|
 all_cons (by kernel_rfl) <|
 all_cons (by kernel_rfl) <|
 all_cons (by kernel_rfl) <|
 all_cons (by kernel_rfl) <|
 all_cons (by kernel_rfl) <|
 all_cons (by kernel_rfl) <|
 all_cons (by kernel_rfl) <|
 all_cons (by kernel_rfl) <|
 all_cons (by kernel_rfl) <|
 all_cons (by kernel_rfl) <|
 all_cons (by kernel_rfl) <|
 all_cons (by kernel_rfl) <|
 all_cons (by kernel_rfl) <|
 all_cons (by kernel_rfl) <|
 all_cons (by kernel_rfl) <|
 all_cons (by kernel_rfl) <|
 all_cons (by kernel_rfl) <| all_nil
theorem Kw:∀ p∈tt,∃ i,Tryz.prog.info? p.1=some i/\i.size=p.2.size/\i.zero=p.2.zero :=
 all_cons ⟨Tryz.t3,by kernel_rfl,rfl,rfl⟩ <|
 all_cons ⟨Tryz.t42,by kernel_rfl,rfl,rfl⟩ <|
 all_cons ⟨Tryz.t30,by kernel_rfl,rfl,rfl⟩ <|
 all_cons ⟨Tryz.t37,by kernel_rfl,rfl,rfl⟩ <|
 all_cons ⟨Tryz.t27,by kernel_rfl,rfl,rfl⟩ <|
 all_cons ⟨Tryz.t110,by kernel_rfl,rfl,rfl⟩ <|
 all_cons ⟨Tryz.t108,by kernel_rfl,rfl,rfl⟩ <|
 all_cons ⟨Tryz.t24,by kernel_rfl,rfl,rfl⟩ <|
 all_cons ⟨Tryz.t40,by kernel_rfl,rfl,rfl⟩ <|
 all_cons ⟨Tryz.t28,by kernel_rfl,rfl,rfl⟩ <|
 all_cons ⟨Tryz.t70,by kernel_rfl,rfl,rfl⟩ <|
 all_cons ⟨Tryz.t31,by kernel_rfl,rfl,rfl⟩ <|
 all_cons ⟨Tryz.t39,by kernel_rfl,rfl,rfl⟩ <|
 all_cons ⟨Tryz.t35,by kernel_rfl,rfl,rfl⟩ <|
 all_cons ⟨Tryz.t61,by kernel_rfl,rfl,rfl⟩ <|
 all_cons ⟨Tryz.t56,by kernel_rfl,rfl,rfl⟩ <|
 all_cons ⟨Tryz.t25,by kernel_rfl,rfl,rfl⟩ <|
 all_cons ⟨Tryz.t4,by kernel_rfl,rfl,rfl⟩ <|
 all_cons ⟨Tryz.t34,by kernel_rfl,rfl,rfl⟩ <|
 all_cons ⟨Tryz.t106,by kernel_rfl,rfl,rfl⟩ <|
 all_cons ⟨Tryz.t95,by kernel_rfl,rfl,rfl⟩ <|
 all_cons ⟨Tryz.t87,by kernel_rfl,rfl,rfl⟩ <|
 all_cons ⟨Tryz.t22,by kernel_rfl,rfl,rfl⟩ <|
 all_cons ⟨Tryz.t91,by kernel_rfl,rfl,rfl⟩ <|
 all_cons ⟨Tryz.t148,by kernel_rfl,rfl,rfl⟩ <|
 all_cons ⟨Tryz.t128,by kernel_rfl,rfl,rfl⟩ <|
 all_cons ⟨Tryz.t63,by kernel_rfl,rfl,rfl⟩ <|
 all_cons ⟨Tryz.t58,by kernel_rfl,rfl,rfl⟩ <|
 all_cons ⟨Tryz.t5,by kernel_rfl,rfl,rfl⟩ <|
 all_cons ⟨Tryz.t104,by kernel_rfl,rfl,rfl⟩ <|
 all_cons ⟨Tryz.t59,by kernel_rfl,rfl,rfl⟩ <|
 all_cons ⟨Tryz.t9,by kernel_rfl,rfl,rfl⟩ <|
 all_cons ⟨Tryz.t159,by kernel_rfl,rfl,rfl⟩ <|
 all_cons ⟨Tryz.t82,by kernel_rfl,rfl,rfl⟩ <|
 all_cons ⟨Tryz.t138,by kernel_rfl,rfl,rfl⟩ <|
 all_cons ⟨Tryz.t165,by kernel_rfl,rfl,rfl⟩ <|
 all_cons ⟨Tryz.t129,by kernel_rfl,rfl,rfl⟩ <|
 all_cons ⟨Tryz.t76,by kernel_rfl,rfl,rfl⟩ <| all_nil
theorem Kx:∀ p∈fns,Tryz.prog.funcs[p.1]?=some p.2 :=
 all_cons Tryz.func3 <|
 all_cons Tryz.func6 <|
 all_cons Tryz.func7 <|
 all_cons Tryz.func21 <|
 all_cons Tryz.func44 <|
 all_cons Tryz.func79 <|
 all_cons Tryz.func115 <|
 all_cons Tryz.func116 <|
 all_cons Tryz.func137 <|
 all_cons Tryz.func148 <|
 all_cons Tryz.func138 <|
 all_cons Tryz.func117 <|
 all_cons Tryz.func126 <|
 all_cons Tryz.func125 <|
 all_cons Tryz.func143 <|
 all_cons Tryz.func151 <|
 all_cons Tryz.func144 <|
 all_cons Tryz.func153 <|
 all_cons Tryz.func152 <|
 all_cons Tryz.func139 <|
 all_cons Tryz.func149 <|
 all_cons Tryz.func118 <|
 all_cons Tryz.func140 <|
 all_cons Tryz.func150 <|
 all_cons Tryz.func141 <|
 all_cons Tryz.func22 <|
 all_cons Tryz.func46 <|
 all_cons Tryz.func80 <|
 all_cons Tryz.func119 <|
 all_cons Tryz.func121 <|
 all_cons Tryz.func8 <|
 all_cons Tryz.func24 <|
 all_cons Tryz.func25 <|
 all_cons Tryz.func26 <|
 all_cons Tryz.func49 <|
 all_cons Tryz.func54 <|
 all_cons Tryz.func50 <|
 all_cons Tryz.func92 <|
 all_cons Tryz.func51 <|
 all_cons Tryz.func56 <|
 all_cons Tryz.func93 <|
 all_cons Tryz.func128 <|
 all_cons Tryz.func94 <|
 all_cons Tryz.func95 <|
 all_cons Tryz.func96 <|
 all_cons Tryz.func52 <|
 all_cons Tryz.func97 <|
 all_cons Tryz.func98 <|
 all_cons Tryz.func99 <|
 all_cons Tryz.func100 <|
 all_cons Tryz.func101 <|
 all_cons Tryz.func102 <|
 all_cons Tryz.func129 <|
 all_cons Tryz.func27 <|
 all_cons Tryz.func55 <|
 all_cons Tryz.func105 <|
 all_cons Tryz.func57 <|
 all_cons Tryz.func106 <|
 all_cons Tryz.func58 <|
 all_cons Tryz.func59 <|
 all_cons Tryz.func60 <|
 all_cons Tryz.func61 <|
 all_cons Tryz.func107 <|
 all_cons Tryz.func62 <|
 all_cons Tryz.func108 <|
 all_cons Tryz.func135 <|
 all_cons Tryz.func146 <|
 all_cons Tryz.func53 <|
 all_cons Tryz.func103 <|
 all_cons Tryz.func130 <|
 all_cons Tryz.func131 <|
 all_cons Tryz.func132 <|
 all_cons Tryz.func133 <|
 all_cons Tryz.func104 <|
 all_cons Tryz.func134 <|
 all_cons Tryz.func12 <|
 all_cons Tryz.func33 <|
 all_cons Tryz.func142 <|
 all_cons Tryz.func11 <|
 all_cons Tryz.func30 <|
 all_cons Tryz.func32 <|
 all_cons Tryz.func31 <|
 all_cons Tryz.func9 <|
 all_cons Tryz.func68 <|
 all_cons Tryz.func10 <|
 all_cons Tryz.func28 <|
 all_cons Tryz.func63 <|
 all_cons Tryz.func29 <|
 all_cons Tryz.func64 <|
 all_cons Tryz.func109 <|
 all_cons Tryz.func14 <|
 all_cons Tryz.func45 <|
 all_cons Tryz.func84 <|
 all_cons Tryz.func85 <|
 all_cons Tryz.func124 <|
 all_cons Tryz.func86 <|
 all_cons Tryz.func81 <|
 all_cons Tryz.func120 <|
 all_cons Tryz.func82 <|
 all_cons Tryz.func122 <|
 all_cons Tryz.func123 <|
 all_cons Tryz.func83 <|
 all_cons Tryz.func23 <|
 all_cons Tryz.func47 <|
 all_cons Tryz.func87 <|
 all_cons Tryz.func48 <|
 all_cons Tryz.func88 <|
 all_cons Tryz.func89 <|
 all_cons Tryz.func127 <|
 all_cons Tryz.func145 <|
 all_cons Tryz.func90 <|
 all_cons Tryz.func91 <|
 all_cons Tryz.func13 <|
 all_cons Tryz.func34 <|
 all_cons Tryz.func65 <|
 all_cons Tryz.func35 <|
 all_cons Tryz.func4 <|
 all_cons Tryz.func15 <|
 all_cons Tryz.func16 <|
 all_cons Tryz.func36 <|
 all_cons Tryz.func67 <|
 all_cons Tryz.func66 <|
 all_cons Tryz.func5 <|
 all_cons Tryz.func17 <|
 all_cons Tryz.func37 <|
 all_cons Tryz.func18 <|
 all_cons Tryz.func38 <|
 all_cons Tryz.func39 <|
 all_cons Tryz.func69 <|
 all_cons Tryz.func70 <|
 all_cons Tryz.func71 <|
 all_cons Tryz.func110 <|
 all_cons Tryz.func111 <|
 all_cons Tryz.func112 <|
 all_cons Tryz.func113 <|
 all_cons Tryz.func136 <|
 all_cons Tryz.func147 <|
 all_cons Tryz.func40 <|
 all_cons Tryz.func41 <|
 all_cons Tryz.func42 <|
 all_cons Tryz.func19 <|
 all_cons Tryz.func43 <|
 all_cons Tryz.func72 <|
 all_cons Tryz.func73 <|
 all_cons Tryz.func75 <|
 all_cons Tryz.func74 <|
 all_cons Tryz.func76 <|
 all_cons Tryz.func77 <|
 all_cons Tryz.func78 <|
 all_cons Tryz.func20 <| all_nil
def eqs:List Nat:=[148,82]
theorem Ky:∀ t∈eqs,Tryz.prog.eqGuardType Tryz.prog.depth t=false/\Tryz.prog.stoodInHeld t=false/\(Tryz.prog.fieldsOf t).toList.all (fun f=>decide (f.name≠"_"))=true :=
 all_cons ⟨by kernel_rfl,by kernel_rfl,by kernel_rfl⟩ <|
 all_cons ⟨by kernel_rfl,by kernel_rfl,by kernel_rfl⟩ <| all_nil
theorem mixed:Tryz.prog.follows .mixedOrders=true:=by kernel_rfl
noncomputable def Rr (oo:List (Nat × Nat)) (CK:List Sum):Cx:={ P:=Tryz.prog,oo:=oo,CK:=CK,tt:=tt,fns:=fns,eqs:=eqs }
theorem V0 (oo:List (Nat × Nat)) (CK:List Sum):eM (Rr oo CK):=⟨Kv,Kw,Kx,mixed,Ky⟩
abbrev V1:=AV × List GK × PC
def rest:List (E × Bool)->Tr V1->List (List (E × Bool) × E)
 | p,.leaf r=>match r.1 with
  | .v (.c (.bool e))=>(match e with
   | .lit n=>if decide (n=0) then [(p,.lit 0)] else []
   | _=>[(p,e)])
  | _=>[(p,.lit 0)]
 | p,.node c t e=>rest ((c,true)::p) t++rest ((c,false)::p) e
 | p,.bad _=>[(p,.lit 0)]
section
variable {P:Program} {cx:Cx} {ρ:Env} {W:World} {wr:List Nat} {β:Pl} {heap:List GK} {w:World}
end
def E.QJ (a b:Nat):E->E
 | .var i=>bif Nat.beq i a then .var b else .var i
 | .eq x y=>.eq (x.QJ a b) (y.QJ a b)
 | .not x=>.not (x.QJ a b)
 | .ap f l=>.ap f (l.QJ a b)
 | .cons x l=>.cons (x.QJ a b) (l.QJ a b)
 | e=>e
end Go.Proofs.YtnbhdacpogplgaaGreatDoor.Ev
