/- What this claim is proved with: no condition. -/
import Derived.Test.YtnbngokbamifbaaGreatDoorNr1
import Derived.Test.YtnbngokbamifbaaGreatDoorChecked
set_option linter.unusedVariables false
set_option linter.unusedSimpArgs false
namespace Go.Proofs.YtnbngokbamifbaaGreatDoor.Ev
open Go Go.RowKit
def ia (P:Program) (f:FuncId):Prop:=∀ args w,(callFunc f args).run P w = .ok (.enter f args) w
section
variable {P:Program} {cx:Cx} {ρ:Env} {W:World} {wr:List Nat} {β aN:Pl} {heap:List PG} {w w':World}
theorem AT.jK {n:Nat} {a:AT} {v:Value} (hb:a.below n=true) (h:a.Is ρ β v):a.Is ρ (β.take n) v:=by
 have g:∀ {l:Nat} {p:Nat × Nat},Nat.blt l n=true->β[l]?=some p->(β.take n)[l]?=some p:=fun hl hp=>by
  have jL:_ < n:=Nat.le_of_ble_eq_true hl
  rw[List.getElem?_take,if_pos jL]; exact hp
 cases a<;>simp only[AT.Is,AT.below] at h hb ⊢
 case int=>exact h
 case bool=>exact h
 case val=>exact h
 case ptr=>obtain⟨p,hp,e⟩:=h; exact⟨p,g hb hp,e⟩
 case pti=>obtain⟨p,hp,e⟩:=h; exact⟨p,g hb hp,e⟩
 case slc=>obtain⟨p,hp,e⟩:=h; exact⟨p,g hb hp,e⟩
 case opq=>exact h
theorem vz {α γ:Type} {R S:α->γ->Prop}:∀ {l:List α} {m:List γ},(∀ a∈l,∀ b,R a b->S a b)->dG R l m->dG S l m
 | [],[],_,_=>trivial
 | a::l,b::m,hi,h=>⟨hi a (by simp) b h.1,vz (fun x hx=>hi x (by simp[hx])) h.2⟩
 | [],_::_,_,h=>h.elim
 | _::_,[],_,h=>h.elim
theorem A1.jK {n:Nat} {x:A1} {v:Value} (hb:x.below n=true) (h:x.Is ρ β v):x.Is ρ (β.take n) v:=by
 cases x with
 | c a=>exact AT.jK (by simpa [A1.below,A1.cells] using hb) h
 | g l =>
  obtain⟨cs,e,hc⟩:=h
  exact⟨cs,e,vz (fun a ha v hv=>AT.jK (List.all_eq_true.1 (show l.all (·.below n)=true from hb) a ha) hv) hc⟩
theorem AV.jK {n:Nat} {x:AV} {v:Value} (hb:x.below n=true) (h:x.Is ρ β v):x.Is ρ (β.take n) v:=by
 cases x with
 | v x=>exact A1.jK hb h
 | t l =>
  obtain⟨cs,e,hc⟩:=h
  exact⟨cs,e,vz (fun a ha v hv=>A1.jK (List.all_eq_true.1 (show l.all (·.below n)=true from hb) a ha) hv) hc⟩
theorem mi {f:FuncId} {fn:Func} {c:Code} (hf:P.funcs[f]?=some fn) (hb:fn.body=some c) (hn:(fn.name == "runtime.NumGoroutine")=false):ia P f:=fun args w=>by
 have WD:fn.name≠"runtime.NumGoroutine":=by simpa using hn
 simp[callFunc,hf,hb,WD]
theorem Gf {v:Array Value} (n:Nat) (hv:0 < v.size):((Array.range (n*v.size)).map fun i=>v[i % v.size]!).toList=(List.replicate n v.toList).flatten:=by
 apply List.ext_getElem?
 intro i
 simp only[Array.toList_map,Array.toList_range,List.getElem?_map]
 by_cases hi:i < n*v.size
 ·rw[List.getElem?_range hi]
  have hm:i % v.size < v.size:=Nat.mod_lt _ hv
  have key:∀ n i,i < n*v.size->(List.replicate n v.toList).flatten[i]?=v.toList[i % v.size]?:=by
   intro n
   induction n with
   | zero=>intro i hi; simp at hi
   | succ n ih =>
    intro i hi
    simp only[List.replicate_succ,List.flatten_cons]
    by_cases h:i < v.size
    ·rw[List.getElem?_append_left (by simpa using h),Nat.mod_eq_of_lt h]
    ·rw[List.getElem?_append_right (by simp; omega),ih _ (by simp; rw[Nat.succ_mul] at hi; omega)]
     simp only[Array.length_toList]
     rw[← Nat.mod_eq_sub_mod (by omega)]
  rw[key n i hi]
  simp[hm]
 ·have h1:(List.replicate n v.toList).flatten.length=n*v.size:=by simp
  rw[List.getElem?_eq_none (by simp; omega),List.getElem?_eq_none (by omega)]
  rfl
def nX (P:Program) (K:Value->World->Prop):Result Next->Prop
 | .ok (.value u) w'=>K u w'
 | .ok .skip w'=>K undef w'
 | .ok (.enter f args) w'=>Calls P f args w' (fun e xz=>∃ u,e = .returned u/\K u xz)
 | _=>False
theorem mj {K K':Value->World->Prop} (hK:∀ v w,K v w->K' v w) {r:Result Next} (h:nX P K r):nX P K' r:=by
 cases r with
 | ok n w =>
  cases n<;>simp only[nX] at h ⊢
  case enter f args=>exact h.mono fun e w' ⟨u,he,hu⟩=>⟨u,he,hK _ _ hu⟩
  all_goals exact hK _ _ h
 | halt x w=>exact h.elim
theorem vA {o:Oper} {a:Act} {K:Value->World->Prop} {K':Act->World->Prop} {Q:Exit->Act->World->Prop} (h:nX P K ((execOp a.eval o).run P w)) (hK:∀ v w',K v w'->K' (a.put o.dst v) w'):o.wp P a w K' Q:=by
 unfold Oper.wp
 generalize (execOp a.eval o).run P w=r at *
 cases r with
 | ok n w =>
  cases n<;>simp only[nX] at h
  case value u=>exact hK _ _ h
  case skip=>exact hK _ _ h
  case enter f args=>exact h.mono fun e w' ⟨u,he,hu⟩=>by subst he; exact hK _ _ hu
 | halt x w=>exact h.elim
end
section
variable {P:Program} {cx:Cx} {ρ:Env} {W:World} {wr:List Nat} {β aN:Pl} {heap:List PG} {w w':World}
def qA (P:Program) (ops:Array Oper) (o:Oper) (a:Act) (w:World) (K:Value->World->Prop):Prop :=
 (Region.wanted o (yielded ops a.tmps)=true/\nX P K ((execOp a.eval o).run P w))\/(Region.wanted o (yielded ops a.tmps)=false/\K undef w)
theorem qA.mono {ops:Array Oper} {o:Oper} {a:Act} {K K':Value->World->Prop} (hK:∀ v w,K v w->K' v w) (h:qA P ops o a w K):qA P ops o a w K' :=
 h.imp (fun ⟨h1,h2⟩=>⟨h1,mj hK h2⟩) (fun ⟨h1,h2⟩=>⟨h1,hK _ _ h2⟩)
theorem xK {ops:Array Oper} {l:Array Bool} {i:Nat} (h:i∈Region.ready .any ops l):∃ o,ops[i]?=some o:=by
 obtain⟨_,o,ho,_⟩:=mem_ready.1 h; exact⟨o,ho⟩
end
section
variable {P:Program} {cx:Cx} {ρ:Env} {W:World} {wr:List Nat} {β aN:Pl} {heap:List PG} {w w':World}
theorem AT.Is.J2 {a:AT} {u v:Value} (hu:a.Is ρ β u) (hv:a.Is ρ β v):u=v:=by
 cases a<;>simp only[AT.Is] at hu hv
 case int=>exact hu.trans hv.symm
 case bool=>exact hu.trans hv.symm
 case val=>exact hu.1.trans hv.1.symm
 case ptr=>obtain⟨p,hp,e⟩:=hu; obtain⟨q,hq,f⟩:=hv; rw[hp] at hq; cases hq; exact e.trans f.symm
 case pti=>obtain⟨p,hp,e⟩:=hu; obtain⟨q,hq,f⟩:=hv; rw[hp] at hq; cases hq; exact e.trans f.symm
 case slc=>obtain⟨p,hp,e⟩:=hu; obtain⟨q,hq,f⟩:=hv; rw[hp] at hq; cases hq; exact e.trans f.symm
 case opq=>exact hu.1.trans hv.1.symm
theorem dG.J2 {α γ:Type} {R:α->γ->Prop} (h:∀ a u v,R a u->R a v->u=v):∀ {l:List α} {m n:List γ},dG R l m->dG R l n->m=n
 | [],[],[],_,_=>rfl
 | a::l,b::m,c::n,h1,h2=>by rw[h a b c h1.1 h2.1,dG.J2 h h1.2 h2.2]
 | [],_::_,_,h,_=>h.elim
 | _::_,[],_,h,_=>h.elim
 | [],[],_::_,_,h=>h.elim
 | _::_,_::_,[],_,h=>h.elim
theorem A1.Is.J2 {a:A1} {u v:Value} (hu:a.Is ρ β u) (hv:a.Is ρ β v):u=v:=by
 cases a with
 | c a=>exact AT.Is.J2 hu hv
 | g l=>obtain⟨x,e,hx⟩:=hu; obtain⟨y,f,hy⟩:=hv; rw[e,f,Array.toList_inj.1 (dG.J2 (R:=AT.Is ρ β) (fun _ _ _=>AT.Is.J2) hx hy)]
theorem AV.Is.J2 {a:AV} {u v:Value} (hu:a.Is ρ β u) (hv:a.Is ρ β v):u=v:=by
 cases a with
 | v a=>exact A1.Is.J2 hu hv
 | t l=>obtain⟨x,e,hx⟩:=hu; obtain⟨y,f,hy⟩:=hv; rw[e,f,Array.toList_inj.1 (dG.J2 (R:=A1.Is ρ β) (fun _ _ _=>A1.Is.J2) hx hy)]
theorem kk {p:Nat->Bool}:∀ {l:List Nat} {i:Nat},mh p l=some i->i∈l/\p i=true
 | [],i,h=>by simp[mh] at h
 | j::l,i,h=>by
  simp only[mh] at h
  split at h
  ·rename_i hp; cases h; exact⟨by simp,hp⟩
  ·obtain⟨h1,h2⟩:=kk h; exact⟨by simp[h1],h2⟩
end
theorem all_cons {α:Type} {Q:α->Prop} {a:α} {l:List α} (h:Q a) (t:∀ x∈l,Q x):∀ x∈a::l,Q x:=fun x hx=>by
 rcases List.mem_cons.1 hx with rfl|hx
 ·exact h
 ·exact t x hx
theorem all_nil {α:Type} {Q:α->Prop}:∀ x∈([]:List α),Q x:=fun x hx=>by cases hx
open Go
noncomputable def tt:List (Nat × TI):=[(3,⟨Tryz.t3.desc,Tryz.t3.size,Tryz.t3.zero⟩),
 (76,⟨Tryz.t75.desc,Tryz.t76.size,Tryz.t76.zero⟩),
 (39,⟨Tryz.t39.desc,Tryz.t39.size,Tryz.t39.zero⟩),
 (135,⟨Tryz.t134.desc,Tryz.t135.size,Tryz.t135.zero⟩),
 (92,⟨Tryz.t91.desc,Tryz.t92.size,Tryz.t92.zero⟩),
 (74,⟨Tryz.t3.desc,Tryz.t74.size,Tryz.t74.zero⟩),
 (166,⟨Tryz.t166.desc,Tryz.t166.size,Tryz.t166.zero⟩),
 (216,⟨Tryz.t3.desc,Tryz.t216.size,Tryz.t216.zero⟩),
 (85,⟨Tryz.t84.desc,Tryz.t85.size,Tryz.t85.zero⟩),
 (214,⟨Tryz.t213.desc,Tryz.t214.size,Tryz.t214.zero⟩),
 (42,⟨Tryz.t41.desc,Tryz.t42.size,Tryz.t42.zero⟩),
 (45,⟨Tryz.t41.desc,Tryz.t45.size,Tryz.t45.zero⟩),
 (125,⟨Tryz.t124.desc,Tryz.t125.size,Tryz.t125.zero⟩),
 (52,⟨Tryz.t51.desc,Tryz.t52.size,Tryz.t52.zero⟩),
 (27,⟨Tryz.t27.desc,Tryz.t27.size,Tryz.t27.zero⟩),
 (94,⟨Tryz.t93.desc,Tryz.t94.size,Tryz.t94.zero⟩),
 (28,⟨Tryz.t28.desc,Tryz.t28.size,Tryz.t28.zero⟩),
 (163,⟨Tryz.t163.desc,Tryz.t163.size,Tryz.t163.zero⟩),
 (40,⟨Tryz.t40.desc,Tryz.t40.size,Tryz.t40.zero⟩),
 (50,⟨Tryz.t49.desc,Tryz.t50.size,Tryz.t50.zero⟩),
 (22,⟨Tryz.t22.desc,Tryz.t22.size,Tryz.t22.zero⟩),
 (58,⟨Tryz.t57.desc,Tryz.t58.size,Tryz.t58.zero⟩),
 (4,⟨Tryz.t4.desc,Tryz.t4.size,Tryz.t4.zero⟩),
 (24,⟨Tryz.t24.desc,Tryz.t24.size,Tryz.t24.zero⟩),
 (196,⟨Tryz.t196.desc,Tryz.t196.size,Tryz.t196.zero⟩),
 (100,⟨Tryz.t99.desc,Tryz.t100.size,Tryz.t100.zero⟩),
 (31,⟨Tryz.t3.desc,Tryz.t31.size,Tryz.t31.zero⟩),
 (120,⟨Tryz.t119.desc,Tryz.t120.size,Tryz.t120.zero⟩),
 (212,⟨Tryz.t211.desc,Tryz.t212.size,Tryz.t212.zero⟩),
 (5,⟨Tryz.t5.desc,Tryz.t5.size,Tryz.t5.zero⟩),
 (64,⟨Tryz.t63.desc,Tryz.t64.size,Tryz.t64.zero⟩),
 (118,⟨Tryz.t117.desc,Tryz.t118.size,Tryz.t118.zero⟩),
 (30,⟨Tryz.t29.desc,Tryz.t30.size,Tryz.t30.zero⟩),
 (47,⟨Tryz.t47.desc,Tryz.t47.size,Tryz.t47.zero⟩),
 (48,⟨Tryz.t48.desc,Tryz.t48.size,Tryz.t48.zero⟩),
 (227,⟨Tryz.t227.desc,Tryz.t227.size,Tryz.t227.zero⟩),
 (69,⟨Tryz.t57.desc,Tryz.t69.size,Tryz.t69.zero⟩),
 (46,⟨Tryz.t46.desc,Tryz.t46.size,Tryz.t46.zero⟩),
 (34,⟨Tryz.t34.desc,Tryz.t34.size,Tryz.t34.zero⟩),
 (78,⟨Tryz.t78.desc,Tryz.t78.size,Tryz.t78.zero⟩),
 (77,⟨Tryz.t77.desc,Tryz.t77.size,Tryz.t77.zero⟩),
 (147,⟨Tryz.t146.desc,Tryz.t147.size,Tryz.t147.zero⟩),
 (9,⟨Tryz.t9.desc,Tryz.t9.size,Tryz.t9.zero⟩),
 (104,⟨Tryz.t104.desc,Tryz.t104.size,Tryz.t104.zero⟩),
 (150,⟨Tryz.t149.desc,Tryz.t150.size,Tryz.t150.zero⟩),
 (210,⟨Tryz.t3.desc,Tryz.t210.size,Tryz.t210.zero⟩),
 (2,⟨Tryz.t2.desc,Tryz.t2.size,Tryz.t2.zero⟩),
 (221,⟨Tryz.t221.desc,Tryz.t221.size,Tryz.t221.zero⟩),
 (225,⟨Tryz.t225.desc,Tryz.t225.size,Tryz.t225.zero⟩),
 (242,⟨Tryz.t242.desc,Tryz.t242.size,Tryz.t242.zero⟩),
 (180,⟨Tryz.t180.desc,Tryz.t180.size,Tryz.t180.zero⟩),
 (249,⟨Tryz.t249.desc,Tryz.t249.size,Tryz.t249.zero⟩),
 (195,⟨Tryz.t195.desc,Tryz.t195.size,Tryz.t195.zero⟩),
 (110,⟨Tryz.t110.desc,Tryz.t110.size,Tryz.t110.zero⟩),
 (223,⟨Tryz.t223.desc,Tryz.t223.size,Tryz.t223.zero⟩),
 (98,⟨Tryz.t98.desc,Tryz.t98.size,Tryz.t98.zero⟩),
 (237,⟨Tryz.t237.desc,Tryz.t237.size,Tryz.t237.zero⟩)]
noncomputable def fns:List (Nat × Func):=[(3,Tryz.f3),
 (8,Tryz.f8),
 (32,Tryz.f32),
 (33,Tryz.f33),
 (34,Tryz.f34),
 (10,Tryz.f10),
 (37,Tryz.f37),
 (70,Tryz.f70),
 (99,Tryz.f99),
 (131,Tryz.f131),
 (149,Tryz.f149),
 (148,Tryz.f148),
 (188,Tryz.f188),
 (150,Tryz.f150),
 (189,Tryz.f189),
 (151,Tryz.f151),
 (152,Tryz.f152),
 (153,Tryz.f153),
 (154,Tryz.f154),
 (190,Tryz.f190),
 (155,Tryz.f155),
 (181,Tryz.f181),
 (183,Tryz.f183),
 (209,Tryz.f209),
 (124,Tryz.f124),
 (125,Tryz.f125),
 (126,Tryz.f126),
 (38,Tryz.f38),
 (71,Tryz.f71),
 (54,Tryz.f54),
 (88,Tryz.f88),
 (85,Tryz.f85),
 (39,Tryz.f39),
 (72,Tryz.f72),
 (127,Tryz.f127),
 (40,Tryz.f40),
 (73,Tryz.f73),
 (128,Tryz.f128),
 (48,Tryz.f48),
 (84,Tryz.f84),
 (123,Tryz.f123),
 (120,Tryz.f120),
 (166,Tryz.f166),
 (177,Tryz.f177),
 (197,Tryz.f197),
 (198,Tryz.f198),
 (195,Tryz.f195),
 (199,Tryz.f199),
 (200,Tryz.f200),
 (196,Tryz.f196),
 (178,Tryz.f178),
 (201,Tryz.f201),
 (35,Tryz.f35),
 (67,Tryz.f67),
 (68,Tryz.f68),
 (69,Tryz.f69),
 (121,Tryz.f121),
 (167,Tryz.f167),
 (168,Tryz.f168),
 (169,Tryz.f169),
 (170,Tryz.f170),
 (122,Tryz.f122),
 (171,Tryz.f171),
 (172,Tryz.f172),
 (173,Tryz.f173),
 (174,Tryz.f174),
 (175,Tryz.f175),
 (176,Tryz.f176),
 (9,Tryz.f9),
 (36,Tryz.f36),
 (11,Tryz.f11),
 (41,Tryz.f41),
 (74,Tryz.f74),
 (129,Tryz.f129),
 (59,Tryz.f59),
 (179,Tryz.f179),
 (202,Tryz.f202),
 (203,Tryz.f203),
 (204,Tryz.f204),
 (180,Tryz.f180),
 (205,Tryz.f205),
 (206,Tryz.f206),
 (192,Tryz.f192),
 (193,Tryz.f193),
 (211,Tryz.f211),
 (210,Tryz.f210),
 (207,Tryz.f207),
 (208,Tryz.f208),
 (130,Tryz.f130),
 (75,Tryz.f75),
 (42,Tryz.f42),
 (76,Tryz.f76),
 (44,Tryz.f44),
 (43,Tryz.f43),
 (45,Tryz.f45),
 (77,Tryz.f77),
 (12,Tryz.f12),
 (46,Tryz.f46),
 (78,Tryz.f78),
 (83,Tryz.f83),
 (79,Tryz.f79),
 (80,Tryz.f80),
 (81,Tryz.f81),
 (82,Tryz.f82),
 (4,Tryz.f4),
 (13,Tryz.f13),
 (16,Tryz.f16),
 (49,Tryz.f49),
 (86,Tryz.f86),
 (50,Tryz.f50),
 (51,Tryz.f51),
 (17,Tryz.f17),
 (18,Tryz.f18),
 (20,Tryz.f20),
 (52,Tryz.f52),
 (87,Tryz.f87),
 (65,Tryz.f65),
 (53,Tryz.f53),
 (55,Tryz.f55),
 (89,Tryz.f89),
 (132,Tryz.f132),
 (90,Tryz.f90),
 (30,Tryz.f30),
 (133,Tryz.f133),
 (118,Tryz.f118),
 (134,Tryz.f134),
 (91,Tryz.f91),
 (135,Tryz.f135),
 (92,Tryz.f92),
 (136,Tryz.f136),
 (93,Tryz.f93),
 (137,Tryz.f137),
 (138,Tryz.f138),
 (182,Tryz.f182),
 (139,Tryz.f139),
 (145,Tryz.f145),
 (186,Tryz.f186),
 (184,Tryz.f184),
 (143,Tryz.f143),
 (94,Tryz.f94),
 (140,Tryz.f140),
 (95,Tryz.f95),
 (141,Tryz.f141),
 (96,Tryz.f96),
 (142,Tryz.f142),
 (185,Tryz.f185),
 (144,Tryz.f144),
 (146,Tryz.f146),
 (187,Tryz.f187),
 (97,Tryz.f97),
 (147,Tryz.f147),
 (98,Tryz.f98),
 (14,Tryz.f14),
 (56,Tryz.f56),
 (100,Tryz.f100),
 (101,Tryz.f101),
 (156,Tryz.f156),
 (57,Tryz.f57),
 (102,Tryz.f102),
 (104,Tryz.f104),
 (103,Tryz.f103),
 (47,Tryz.f47),
 (22,Tryz.f22),
 (21,Tryz.f21),
 (23,Tryz.f23),
 (15,Tryz.f15),
 (5,Tryz.f5),
 (19,Tryz.f19),
 (24,Tryz.f24),
 (6,Tryz.f6),
 (25,Tryz.f25),
 (26,Tryz.f26),
 (58,Tryz.f58),
 (105,Tryz.f105),
 (119,Tryz.f119),
 (106,Tryz.f106),
 (157,Tryz.f157),
 (191,Tryz.f191),
 (60,Tryz.f60),
 (107,Tryz.f107),
 (158,Tryz.f158),
 (108,Tryz.f108),
 (31,Tryz.f31),
 (66,Tryz.f66),
 (64,Tryz.f64),
 (109,Tryz.f109),
 (159,Tryz.f159),
 (110,Tryz.f110),
 (111,Tryz.f111),
 (160,Tryz.f160),
 (161,Tryz.f161),
 (194,Tryz.f194),
 (212,Tryz.f212),
 (213,Tryz.f213),
 (162,Tryz.f162),
 (163,Tryz.f163),
 (112,Tryz.f112),
 (164,Tryz.f164),
 (113,Tryz.f113),
 (165,Tryz.f165),
 (114,Tryz.f114),
 (115,Tryz.f115),
 (61,Tryz.f61),
 (116,Tryz.f116),
 (62,Tryz.f62),
 (27,Tryz.f27),
 (28,Tryz.f28),
 (29,Tryz.f29),
 (63,Tryz.f63),
 (117,Tryz.f117),
 (7,Tryz.f7)]
theorem PI:∀ p∈tt,Tryz.prog.underlying p.1=some p.2.desc :=
 all_cons (by kernel_rfl) <|
 all_cons (by kernel_rfl) <|
 all_cons (by kernel_rfl) <|
 all_cons (by kernel_rfl) <|
 all_cons (by kernel_rfl) <|
 all_cons (by kernel_rfl) <|
 all_cons (by kernel_rfl) <|
 all_cons (by kernel_rfl) <|
 all_cons (by kernel_rfl) <|
 all_cons (by kernel_rfl) <|
 all_cons (by kernel_rfl) <|
 all_cons (by kernel_rfl) <|
 all_cons (by kernel_rfl) <|
 all_cons (by kernel_rfl) <|
 all_cons (by kernel_rfl) <|
 all_cons (by kernel_rfl) <|
 all_cons (by kernel_rfl) <|
 all_cons (by kernel_rfl) <|
 all_cons (by kernel_rfl) <|
 all_cons (by kernel_rfl) <|
 all_cons (by kernel_rfl) <|
 all_cons (by kernel_rfl) <|
 all_cons (by kernel_rfl) <|
 all_cons (by kernel_rfl) <|
 all_cons (by kernel_rfl) <|
 all_cons (by kernel_rfl) <|
 all_cons (by kernel_rfl) <|
 all_cons (by kernel_rfl) <|
 all_cons (by kernel_rfl) <|
 all_cons (by kernel_rfl) <|
 all_cons (by kernel_rfl) <|
 all_cons (by kernel_rfl) <|
 all_cons (by kernel_rfl) <|
 all_cons (by kernel_rfl) <|
 all_cons (by kernel_rfl) <|
 all_cons (by kernel_rfl) <|
 all_cons (by kernel_rfl) <|
 all_cons (by kernel_rfl) <|
 all_cons (by kernel_rfl) <|
 all_cons (by kernel_rfl) <|
 all_cons (by kernel_rfl) <|
 all_cons (by kernel_rfl) <|
 all_cons (by kernel_rfl) <|
 all_cons (by kernel_rfl) <|
 all_cons (by kernel_rfl) <|
 all_cons (by kernel_rfl) <|
 all_cons (by kernel_rfl) <|
 all_cons (by kernel_rfl) <|
 all_cons (by kernel_rfl) <|
 all_cons (by kernel_rfl) <|
 all_cons (by kernel_rfl) <|
 all_cons (by kernel_rfl) <|
 all_cons (by kernel_rfl) <|
 all_cons (by kernel_rfl) <|
 all_cons (by kernel_rfl) <|
 all_cons (by kernel_rfl) <|
 all_cons (by kernel_rfl) <| all_nil
theorem PJ:∀ p∈tt,∃ i,Tryz.prog.info? p.1=some i/\i.size=p.2.size/\i.zero=p.2.zero :=
 all_cons ⟨Tryz.t3,by kernel_rfl,rfl,rfl⟩ <|
 all_cons ⟨Tryz.t76,by kernel_rfl,rfl,rfl⟩ <|
 all_cons ⟨Tryz.t39,by kernel_rfl,rfl,rfl⟩ <|
 all_cons ⟨Tryz.t135,by kernel_rfl,rfl,rfl⟩ <|
 all_cons ⟨Tryz.t92,by kernel_rfl,rfl,rfl⟩ <|
 all_cons ⟨Tryz.t74,by kernel_rfl,rfl,rfl⟩ <|
 all_cons ⟨Tryz.t166,by kernel_rfl,rfl,rfl⟩ <|
 all_cons ⟨Tryz.t216,by kernel_rfl,rfl,rfl⟩ <|
 all_cons ⟨Tryz.t85,by kernel_rfl,rfl,rfl⟩ <|
 all_cons ⟨Tryz.t214,by kernel_rfl,rfl,rfl⟩ <|
 all_cons ⟨Tryz.t42,by kernel_rfl,rfl,rfl⟩ <|
 all_cons ⟨Tryz.t45,by kernel_rfl,rfl,rfl⟩ <|
 all_cons ⟨Tryz.t125,by kernel_rfl,rfl,rfl⟩ <|
 all_cons ⟨Tryz.t52,by kernel_rfl,rfl,rfl⟩ <|
 all_cons ⟨Tryz.t27,by kernel_rfl,rfl,rfl⟩ <|
 all_cons ⟨Tryz.t94,by kernel_rfl,rfl,rfl⟩ <|
 all_cons ⟨Tryz.t28,by kernel_rfl,rfl,rfl⟩ <|
 all_cons ⟨Tryz.t163,by kernel_rfl,rfl,rfl⟩ <|
 all_cons ⟨Tryz.t40,by kernel_rfl,rfl,rfl⟩ <|
 all_cons ⟨Tryz.t50,by kernel_rfl,rfl,rfl⟩ <|
 all_cons ⟨Tryz.t22,by kernel_rfl,rfl,rfl⟩ <|
 all_cons ⟨Tryz.t58,by kernel_rfl,rfl,rfl⟩ <|
 all_cons ⟨Tryz.t4,by kernel_rfl,rfl,rfl⟩ <|
 all_cons ⟨Tryz.t24,by kernel_rfl,rfl,rfl⟩ <|
 all_cons ⟨Tryz.t196,by kernel_rfl,rfl,rfl⟩ <|
 all_cons ⟨Tryz.t100,by kernel_rfl,rfl,rfl⟩ <|
 all_cons ⟨Tryz.t31,by kernel_rfl,rfl,rfl⟩ <|
 all_cons ⟨Tryz.t120,by kernel_rfl,rfl,rfl⟩ <|
 all_cons ⟨Tryz.t212,by kernel_rfl,rfl,rfl⟩ <|
 all_cons ⟨Tryz.t5,by kernel_rfl,rfl,rfl⟩ <|
 all_cons ⟨Tryz.t64,by kernel_rfl,rfl,rfl⟩ <|
 all_cons ⟨Tryz.t118,by kernel_rfl,rfl,rfl⟩ <|
 all_cons ⟨Tryz.t30,by kernel_rfl,rfl,rfl⟩ <|
 all_cons ⟨Tryz.t47,by kernel_rfl,rfl,rfl⟩ <|
 all_cons ⟨Tryz.t48,by kernel_rfl,rfl,rfl⟩ <|
 all_cons ⟨Tryz.t227,by kernel_rfl,rfl,rfl⟩ <|
 all_cons ⟨Tryz.t69,by kernel_rfl,rfl,rfl⟩ <|
 all_cons ⟨Tryz.t46,by kernel_rfl,rfl,rfl⟩ <|
 all_cons ⟨Tryz.t34,by kernel_rfl,rfl,rfl⟩ <|
 all_cons ⟨Tryz.t78,by kernel_rfl,rfl,rfl⟩ <|
 all_cons ⟨Tryz.t77,by kernel_rfl,rfl,rfl⟩ <|
 all_cons ⟨Tryz.t147,by kernel_rfl,rfl,rfl⟩ <|
 all_cons ⟨Tryz.t9,by kernel_rfl,rfl,rfl⟩ <|
 all_cons ⟨Tryz.t104,by kernel_rfl,rfl,rfl⟩ <|
 all_cons ⟨Tryz.t150,by kernel_rfl,rfl,rfl⟩ <|
 all_cons ⟨Tryz.t210,by kernel_rfl,rfl,rfl⟩ <|
 all_cons ⟨Tryz.t2,by kernel_rfl,rfl,rfl⟩ <|
 all_cons ⟨Tryz.t221,by kernel_rfl,rfl,rfl⟩ <|
 all_cons ⟨Tryz.t225,by kernel_rfl,rfl,rfl⟩ <|
 all_cons ⟨Tryz.t242,by kernel_rfl,rfl,rfl⟩ <|
 all_cons ⟨Tryz.t180,by kernel_rfl,rfl,rfl⟩ <|
 all_cons ⟨Tryz.t249,by kernel_rfl,rfl,rfl⟩ <|
 all_cons ⟨Tryz.t195,by kernel_rfl,rfl,rfl⟩ <|
 all_cons ⟨Tryz.t110,by kernel_rfl,rfl,rfl⟩ <|
 all_cons ⟨Tryz.t223,by kernel_rfl,rfl,rfl⟩ <|
 all_cons ⟨Tryz.t98,by kernel_rfl,rfl,rfl⟩ <|
 all_cons ⟨Tryz.t237,by kernel_rfl,rfl,rfl⟩ <| all_nil
theorem PK:∀ p∈fns,Tryz.prog.funcs[p.1]?=some p.2 :=
 all_cons Tryz.func3 <|
 all_cons Tryz.func8 <|
 all_cons Tryz.func32 <|
 all_cons Tryz.func33 <|
 all_cons Tryz.func34 <|
 all_cons Tryz.func10 <|
 all_cons Tryz.func37 <|
 all_cons Tryz.func70 <|
 all_cons Tryz.func99 <|
 all_cons Tryz.func131 <|
 all_cons Tryz.func149 <|
 all_cons Tryz.func148 <|
 all_cons Tryz.func188 <|
 all_cons Tryz.func150 <|
 all_cons Tryz.func189 <|
 all_cons Tryz.func151 <|
 all_cons Tryz.func152 <|
 all_cons Tryz.func153 <|
 all_cons Tryz.func154 <|
 all_cons Tryz.func190 <|
 all_cons Tryz.func155 <|
 all_cons Tryz.func181 <|
 all_cons Tryz.func183 <|
 all_cons Tryz.func209 <|
 all_cons Tryz.func124 <|
 all_cons Tryz.func125 <|
 all_cons Tryz.func126 <|
 all_cons Tryz.func38 <|
 all_cons Tryz.func71 <|
 all_cons Tryz.func54 <|
 all_cons Tryz.func88 <|
 all_cons Tryz.func85 <|
 all_cons Tryz.func39 <|
 all_cons Tryz.func72 <|
 all_cons Tryz.func127 <|
 all_cons Tryz.func40 <|
 all_cons Tryz.func73 <|
 all_cons Tryz.func128 <|
 all_cons Tryz.func48 <|
 all_cons Tryz.func84 <|
 all_cons Tryz.func123 <|
 all_cons Tryz.func120 <|
 all_cons Tryz.func166 <|
 all_cons Tryz.func177 <|
 all_cons Tryz.func197 <|
 all_cons Tryz.func198 <|
 all_cons Tryz.func195 <|
 all_cons Tryz.func199 <|
 all_cons Tryz.func200 <|
 all_cons Tryz.func196 <|
 all_cons Tryz.func178 <|
 all_cons Tryz.func201 <|
 all_cons Tryz.func35 <|
 all_cons Tryz.func67 <|
 all_cons Tryz.func68 <|
 all_cons Tryz.func69 <|
 all_cons Tryz.func121 <|
 all_cons Tryz.func167 <|
 all_cons Tryz.func168 <|
 all_cons Tryz.func169 <|
 all_cons Tryz.func170 <|
 all_cons Tryz.func122 <|
 all_cons Tryz.func171 <|
 all_cons Tryz.func172 <|
 all_cons Tryz.func173 <|
 all_cons Tryz.func174 <|
 all_cons Tryz.func175 <|
 all_cons Tryz.func176 <|
 all_cons Tryz.func9 <|
 all_cons Tryz.func36 <|
 all_cons Tryz.func11 <|
 all_cons Tryz.func41 <|
 all_cons Tryz.func74 <|
 all_cons Tryz.func129 <|
 all_cons Tryz.func59 <|
 all_cons Tryz.func179 <|
 all_cons Tryz.func202 <|
 all_cons Tryz.func203 <|
 all_cons Tryz.func204 <|
 all_cons Tryz.func180 <|
 all_cons Tryz.func205 <|
 all_cons Tryz.func206 <|
 all_cons Tryz.func192 <|
 all_cons Tryz.func193 <|
 all_cons Tryz.func211 <|
 all_cons Tryz.func210 <|
 all_cons Tryz.func207 <|
 all_cons Tryz.func208 <|
 all_cons Tryz.func130 <|
 all_cons Tryz.func75 <|
 all_cons Tryz.func42 <|
 all_cons Tryz.func76 <|
 all_cons Tryz.func44 <|
 all_cons Tryz.func43 <|
 all_cons Tryz.func45 <|
 all_cons Tryz.func77 <|
 all_cons Tryz.func12 <|
 all_cons Tryz.func46 <|
 all_cons Tryz.func78 <|
 all_cons Tryz.func83 <|
 all_cons Tryz.func79 <|
 all_cons Tryz.func80 <|
 all_cons Tryz.func81 <|
 all_cons Tryz.func82 <|
 all_cons Tryz.func4 <|
 all_cons Tryz.func13 <|
 all_cons Tryz.func16 <|
 all_cons Tryz.func49 <|
 all_cons Tryz.func86 <|
 all_cons Tryz.func50 <|
 all_cons Tryz.func51 <|
 all_cons Tryz.func17 <|
 all_cons Tryz.func18 <|
 all_cons Tryz.func20 <|
 all_cons Tryz.func52 <|
 all_cons Tryz.func87 <|
 all_cons Tryz.func65 <|
 all_cons Tryz.func53 <|
 all_cons Tryz.func55 <|
 all_cons Tryz.func89 <|
 all_cons Tryz.func132 <|
 all_cons Tryz.func90 <|
 all_cons Tryz.func30 <|
 all_cons Tryz.func133 <|
 all_cons Tryz.func118 <|
 all_cons Tryz.func134 <|
 all_cons Tryz.func91 <|
 all_cons Tryz.func135 <|
 all_cons Tryz.func92 <|
 all_cons Tryz.func136 <|
 all_cons Tryz.func93 <|
 all_cons Tryz.func137 <|
 all_cons Tryz.func138 <|
 all_cons Tryz.func182 <|
 all_cons Tryz.func139 <|
 all_cons Tryz.func145 <|
 all_cons Tryz.func186 <|
 all_cons Tryz.func184 <|
 all_cons Tryz.func143 <|
 all_cons Tryz.func94 <|
 all_cons Tryz.func140 <|
 all_cons Tryz.func95 <|
 all_cons Tryz.func141 <|
 all_cons Tryz.func96 <|
 all_cons Tryz.func142 <|
 all_cons Tryz.func185 <|
 all_cons Tryz.func144 <|
 all_cons Tryz.func146 <|
 all_cons Tryz.func187 <|
 all_cons Tryz.func97 <|
 all_cons Tryz.func147 <|
 all_cons Tryz.func98 <|
 all_cons Tryz.func14 <|
 all_cons Tryz.func56 <|
 all_cons Tryz.func100 <|
 all_cons Tryz.func101 <|
 all_cons Tryz.func156 <|
 all_cons Tryz.func57 <|
 all_cons Tryz.func102 <|
 all_cons Tryz.func104 <|
 all_cons Tryz.func103 <|
 all_cons Tryz.func47 <|
 all_cons Tryz.func22 <|
 all_cons Tryz.func21 <|
 all_cons Tryz.func23 <|
 all_cons Tryz.func15 <|
 all_cons Tryz.func5 <|
 all_cons Tryz.func19 <|
 all_cons Tryz.func24 <|
 all_cons Tryz.func6 <|
 all_cons Tryz.func25 <|
 all_cons Tryz.func26 <|
 all_cons Tryz.func58 <|
 all_cons Tryz.func105 <|
 all_cons Tryz.func119 <|
 all_cons Tryz.func106 <|
 all_cons Tryz.func157 <|
 all_cons Tryz.func191 <|
 all_cons Tryz.func60 <|
 all_cons Tryz.func107 <|
 all_cons Tryz.func158 <|
 all_cons Tryz.func108 <|
 all_cons Tryz.func31 <|
 all_cons Tryz.func66 <|
 all_cons Tryz.func64 <|
 all_cons Tryz.func109 <|
 all_cons Tryz.func159 <|
 all_cons Tryz.func110 <|
 all_cons Tryz.func111 <|
 all_cons Tryz.func160 <|
 all_cons Tryz.func161 <|
 all_cons Tryz.func194 <|
 all_cons Tryz.func212 <|
 all_cons Tryz.func213 <|
 all_cons Tryz.func162 <|
 all_cons Tryz.func163 <|
 all_cons Tryz.func112 <|
 all_cons Tryz.func164 <|
 all_cons Tryz.func113 <|
 all_cons Tryz.func165 <|
 all_cons Tryz.func114 <|
 all_cons Tryz.func115 <|
 all_cons Tryz.func61 <|
 all_cons Tryz.func116 <|
 all_cons Tryz.func62 <|
 all_cons Tryz.func27 <|
 all_cons Tryz.func28 <|
 all_cons Tryz.func29 <|
 all_cons Tryz.func63 <|
 all_cons Tryz.func117 <|
 all_cons Tryz.func7 <| all_nil
def eqs:List Nat:=[76,85,64,42,58,69,45,40]
theorem PL:∀ t∈eqs,Tryz.prog.eqGuardType Tryz.prog.depth t=false/\Tryz.prog.stoodInHeld t=false/\(Tryz.prog.fieldsOf t).toList.all (fun f=>decide (f.name≠"_"))=true :=
 all_cons ⟨by kernel_rfl,by kernel_rfl,by kernel_rfl⟩ <|
 all_cons ⟨by kernel_rfl,by kernel_rfl,by kernel_rfl⟩ <|
 all_cons ⟨by kernel_rfl,by kernel_rfl,by kernel_rfl⟩ <|
 all_cons ⟨by kernel_rfl,by kernel_rfl,by kernel_rfl⟩ <|
 all_cons ⟨by kernel_rfl,by kernel_rfl,by kernel_rfl⟩ <|
 all_cons ⟨by kernel_rfl,by kernel_rfl,by kernel_rfl⟩ <|
 all_cons ⟨by kernel_rfl,by kernel_rfl,by kernel_rfl⟩ <|
 all_cons ⟨by kernel_rfl,by kernel_rfl,by kernel_rfl⟩ <| all_nil
theorem mixed:Tryz.prog.follows .mixedOrders=true:=by kernel_rfl
noncomputable def WE (qx:List (Nat × Nat)) (F':List Sum):Cx:={ P:=Tryz.prog,qx:=qx,F':=F',tt:=tt,fns:=fns,eqs:=eqs }
theorem cxOk (qx:List (Nat × Nat)) (F':List Sum):fY (WE qx F'):=⟨PI,PJ,PK,mixed,PL⟩
end Go.Proofs.YtnbngokbamifbaaGreatDoor.Ev
