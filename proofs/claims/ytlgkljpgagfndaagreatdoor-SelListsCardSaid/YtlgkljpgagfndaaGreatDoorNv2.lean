/- What this claim is proved with: no condition. -/
import Derived.Test.YtlgkljpgagfndaaGreatDoorNv1
import Derived.Test.YtlgkljpgagfndaaGreatDoorChecked
set_option linter.unusedVariables false
set_option linter.unusedSimpArgs false
namespace Go.Proofs.YtlgkljpgagfndaaGreatDoor.Ev
open Go Go.RowKit
def gX (P:Program) (f:FuncId):Prop:=∀ args w,(callFunc f args).run P w = .ok (.enter f args) w
section
variable {P:Program} {cx:Cx} {ρ:Env} {W:World} {wr:List Nat} {β aU:Pl} {heap:List N6} {w w':World}
theorem AT.ju {n:Nat} {a:AT} {v:Value} (hb:a.below n=true) (h:a.Is ρ β v):a.Is ρ (β.take n) v:=by
 have g:∀ {l:Nat} {p:Nat × Nat},Nat.blt l n=true->β[l]?=some p->(β.take n)[l]?=some p:=fun hl hp=>by
  have jv:_ < n:=Nat.le_of_ble_eq_true hl
  rw[List.getElem?_take,if_pos jv]; exact hp
 cases a<;>simp only[AT.Is,AT.below] at h hb ⊢
 case int=>exact h
 case bool=>exact h
 case val=>exact h
 case ptr=>obtain⟨p,hp,e⟩:=h; exact⟨p,g hb hp,e⟩
 case pti=>obtain⟨p,hp,e⟩:=h; exact⟨p,g hb hp,e⟩
 case slc=>obtain⟨p,hp,e⟩:=h; exact⟨p,g hb hp,e⟩
 case opq=>exact h
theorem ux {α γ:Type} {R S:α->γ->Prop}:∀ {l:List α} {m:List γ},(∀ a∈l,∀ b,R a b->S a b)->dP R l m->dP S l m
 | [],[],_,_=>trivial
 | a::l,b::m,hi,h=>⟨hi a (by simp) b h.1,ux (fun x hx=>hi x (by simp[hx])) h.2⟩
 | [],_::_,_,h=>h.elim
 | _::_,[],_,h=>h.elim
theorem A1.ju {n:Nat} {x:A1} {v:Value} (hb:x.below n=true) (h:x.Is ρ β v):x.Is ρ (β.take n) v:=by
 cases x with
 | c a=>exact AT.ju (by simpa [A1.below,A1.cells] using hb) h
 | g l =>
  obtain⟨cs,e,hc⟩:=h
  exact⟨cs,e,ux (fun a ha v hv=>AT.ju (List.all_eq_true.1 (show l.all (·.below n)=true from hb) a ha) hv) hc⟩
theorem AV.ju {n:Nat} {x:AV} {v:Value} (hb:x.below n=true) (h:x.Is ρ β v):x.Is ρ (β.take n) v:=by
 cases x with
 | v x=>exact A1.ju hb h
 | t l =>
  obtain⟨cs,e,hc⟩:=h
  exact⟨cs,e,ux (fun a ha v hv=>A1.ju (List.all_eq_true.1 (show l.all (·.below n)=true from hb) a ha) hv) hc⟩
theorem lq {f:FuncId} {fn:Func} {c:Code} (hf:P.funcs[f]?=some fn) (hb:fn.body=some c) (hn:(fn.name == "runtime.NumGoroutine")=false):gX P f:=fun args w=>by
 have Vt:fn.name≠"runtime.NumGoroutine":=by simpa using hn
 simp[callFunc,hf,hb,Vt]
theorem Ez {v:Array Value} (n:Nat) (hv:0 < v.size):((Array.range (n*v.size)).map fun i=>v[i % v.size]!).toList=(List.replicate n v.toList).flatten:=by
 apply List.ext_getElem?
 intro i
 simp only[Array.toList_map,Array.toList_range,List.getElem?_map]
 by_cases hi:i < n*v.size
 ·rw[List.getElem?_range hi]
  have hm:i % v.size < v.size:=Nat.mod_lt _ hv
  have key:∀ n i,i < n*v.size->(List.replicate n v.toList).flatten[i]?=v.toList[i % v.size]?:=by
   intro n
   induction n with
   | zero=>intro i hi; simp at hi
   | succ n ih =>
    intro i hi
    simp only[List.replicate_succ,List.flatten_cons]
    by_cases h:i < v.size
    ·rw[List.getElem?_append_left (by simpa using h),Nat.mod_eq_of_lt h]
    ·rw[List.getElem?_append_right (by simp; omega),ih _ (by simp; rw[Nat.succ_mul] at hi; omega)]
     simp only[Array.length_toList]
     rw[← Nat.mod_eq_sub_mod (by omega)]
  rw[key n i hi]
  simp[hm]
 ·have h1:(List.replicate n v.toList).flatten.length=n*v.size:=by simp
  rw[List.getElem?_eq_none (by simp; omega),List.getElem?_eq_none (by omega)]
  rfl
def mZ (P:Program) (K:Value->World->Prop):Result Next->Prop
 | .ok (.value u) w'=>K u w'
 | .ok .skip w'=>K undef w'
 | .ok (.enter f args) w'=>Calls P f args w' (fun e vN=>∃ u,e = .returned u/\K u vN)
 | _=>False
theorem lr {K K':Value->World->Prop} (hK:∀ v w,K v w->K' v w) {r:Result Next} (h:mZ P K r):mZ P K' r:=by
 cases r with
 | ok n w =>
  cases n<;>simp only[mZ] at h ⊢
  case enter f args=>exact h.mono fun e w' ⟨u,he,hu⟩=>⟨u,he,hK _ _ hu⟩
  all_goals exact hK _ _ h
 | halt x w=>exact h.elim
theorem uy {o:Oper} {a:Act} {K:Value->World->Prop} {K':Act->World->Prop} {Q:Exit->Act->World->Prop} (h:mZ P K ((execOp a.eval o).run P w)) (hK:∀ v w',K v w'->K' (a.put o.dst v) w'):o.wp P a w K' Q:=by
 unfold Oper.wp
 generalize (execOp a.eval o).run P w=r at *
 cases r with
 | ok n w =>
  cases n<;>simp only[mZ] at h
  case value u=>exact hK _ _ h
  case skip=>exact hK _ _ h
  case enter f args=>exact h.mono fun e w' ⟨u,he,hu⟩=>by subst he; exact hK _ _ hu
 | halt x w=>exact h.elim
end
section
variable {P:Program} {cx:Cx} {ρ:Env} {W:World} {wr:List Nat} {β aU:Pl} {heap:List N6} {w w':World}
def pJ (P:Program) (ops:Array Oper) (o:Oper) (a:Act) (w:World) (K:Value->World->Prop):Prop :=
 (Region.wanted o (yielded ops a.tmps)=true/\mZ P K ((execOp a.eval o).run P w))\/(Region.wanted o (yielded ops a.tmps)=false/\K undef w)
theorem pJ.mono {ops:Array Oper} {o:Oper} {a:Act} {K K':Value->World->Prop} (hK:∀ v w,K v w->K' v w) (h:pJ P ops o a w K):pJ P ops o a w K' :=
 h.imp (fun ⟨h1,h2⟩=>⟨h1,lr hK h2⟩) (fun ⟨h1,h2⟩=>⟨h1,hK _ _ h2⟩)
theorem vU {ops:Array Oper} {l:Array Bool} {i:Nat} (h:i∈Region.ready .any ops l):∃ o,ops[i]?=some o:=by
 obtain⟨_,o,ho,_⟩:=mem_ready.1 h; exact⟨o,ho⟩
end
section
variable {P:Program} {cx:Cx} {ρ:Env} {W:World} {wr:List Nat} {β aU:Pl} {heap:List N6} {w w':World}
theorem AT.Is.Jd {a:AT} {u v:Value} (hu:a.Is ρ β u) (hv:a.Is ρ β v):u=v:=by
 cases a<;>simp only[AT.Is] at hu hv
 case int=>exact hu.trans hv.symm
 case bool=>exact hu.trans hv.symm
 case val=>exact hu.1.trans hv.1.symm
 case ptr=>obtain⟨p,hp,e⟩:=hu; obtain⟨q,hq,f⟩:=hv; rw[hp] at hq; cases hq; exact e.trans f.symm
 case pti=>obtain⟨p,hp,e⟩:=hu; obtain⟨q,hq,f⟩:=hv; rw[hp] at hq; cases hq; exact e.trans f.symm
 case slc=>obtain⟨p,hp,e⟩:=hu; obtain⟨q,hq,f⟩:=hv; rw[hp] at hq; cases hq; exact e.trans f.symm
 case opq=>exact hu.1.trans hv.1.symm
theorem dP.Jd {α γ:Type} {R:α->γ->Prop} (h:∀ a u v,R a u->R a v->u=v):∀ {l:List α} {m n:List γ},dP R l m->dP R l n->m=n
 | [],[],[],_,_=>rfl
 | a::l,b::m,c::n,h1,h2=>by rw[h a b c h1.1 h2.1,dP.Jd h h1.2 h2.2]
 | [],_::_,_,h,_=>h.elim
 | _::_,[],_,h,_=>h.elim
 | [],[],_::_,_,h=>h.elim
 | _::_,_::_,[],_,h=>h.elim
theorem A1.Is.Jd {a:A1} {u v:Value} (hu:a.Is ρ β u) (hv:a.Is ρ β v):u=v:=by
 cases a with
 | c a=>exact AT.Is.Jd hu hv
 | g l=>obtain⟨x,e,hx⟩:=hu; obtain⟨y,f,hy⟩:=hv; rw[e,f,Array.toList_inj.1 (dP.Jd (R:=AT.Is ρ β) (fun _ _ _=>AT.Is.Jd) hx hy)]
theorem AV.Is.Jd {a:AV} {u v:Value} (hu:a.Is ρ β u) (hv:a.Is ρ β v):u=v:=by
 cases a with
 | v a=>exact A1.Is.Jd hu hv
 | t l=>obtain⟨x,e,hx⟩:=hu; obtain⟨y,f,hy⟩:=hv; rw[e,f,Array.toList_inj.1 (dP.Jd (R:=A1.Is ρ β) (fun _ _ _=>A1.Is.Jd) hx hy)]
end
theorem all_cons {α:Type} {Q:α->Prop} {a:α} {l:List α} (h:Q a) (t:∀ x∈l,Q x):∀ x∈a::l,Q x:=fun x hx=>by
 rcases List.mem_cons.1 hx with rfl|hx
 ·exact h
 ·exact t x hx
theorem all_nil {α:Type} {Q:α->Prop}:∀ x∈([]:List α),Q x:=fun x hx=>by cases hx
open Go
noncomputable def tt:List (Nat × TI):=[(3,⟨Tryz.t3.desc,Tryz.t3.size,Tryz.t3.zero⟩),
 (75,⟨Tryz.t74.desc,Tryz.t75.size,Tryz.t75.zero⟩),
 (24,⟨Tryz.t24.desc,Tryz.t24.size,Tryz.t24.zero⟩),
 (73,⟨Tryz.t3.desc,Tryz.t73.size,Tryz.t73.zero⟩),
 (186,⟨Tryz.t3.desc,Tryz.t186.size,Tryz.t186.zero⟩),
 (26,⟨Tryz.t25.desc,Tryz.t26.size,Tryz.t26.zero⟩),
 (184,⟨Tryz.t183.desc,Tryz.t184.size,Tryz.t184.zero⟩),
 (109,⟨Tryz.t108.desc,Tryz.t109.size,Tryz.t109.zero⟩),
 (29,⟨Tryz.t28.desc,Tryz.t29.size,Tryz.t29.zero⟩),
 (46,⟨Tryz.t45.desc,Tryz.t46.size,Tryz.t46.zero⟩),
 (32,⟨Tryz.t32.desc,Tryz.t32.size,Tryz.t32.zero⟩),
 (56,⟨Tryz.t25.desc,Tryz.t56.size,Tryz.t56.zero⟩),
 (41,⟨Tryz.t41.desc,Tryz.t41.size,Tryz.t41.zero⟩),
 (99,⟨Tryz.t99.desc,Tryz.t99.size,Tryz.t99.zero⟩),
 (44,⟨Tryz.t43.desc,Tryz.t44.size,Tryz.t44.zero⟩),
 (38,⟨Tryz.t38.desc,Tryz.t38.size,Tryz.t38.zero⟩),
 (23,⟨Tryz.t23.desc,Tryz.t23.size,Tryz.t23.zero⟩),
 (182,⟨Tryz.t181.desc,Tryz.t182.size,Tryz.t182.zero⟩),
 (87,⟨Tryz.t86.desc,Tryz.t87.size,Tryz.t87.zero⟩),
 (33,⟨Tryz.t3.desc,Tryz.t33.size,Tryz.t33.zero⟩),
 (91,⟨Tryz.t90.desc,Tryz.t91.size,Tryz.t91.zero⟩),
 (65,⟨Tryz.t28.desc,Tryz.t65.size,Tryz.t65.zero⟩),
 (72,⟨Tryz.t72.desc,Tryz.t72.size,Tryz.t72.zero⟩),
 (22,⟨Tryz.t22.desc,Tryz.t22.size,Tryz.t22.zero⟩),
 (42,⟨Tryz.t42.desc,Tryz.t42.size,Tryz.t42.zero⟩),
 (98,⟨Tryz.t98.desc,Tryz.t98.size,Tryz.t98.zero⟩),
 (27,⟨Tryz.t27.desc,Tryz.t27.size,Tryz.t27.zero⟩),
 (5,⟨Tryz.t5.desc,Tryz.t5.size,Tryz.t5.zero⟩),
 (4,⟨Tryz.t4.desc,Tryz.t4.size,Tryz.t4.zero⟩),
 (58,⟨Tryz.t57.desc,Tryz.t58.size,Tryz.t58.zero⟩),
 (47,⟨Tryz.t47.desc,Tryz.t47.size,Tryz.t47.zero⟩),
 (123,⟨Tryz.t122.desc,Tryz.t123.size,Tryz.t123.zero⟩),
 (89,⟨Tryz.t88.desc,Tryz.t89.size,Tryz.t89.zero⟩),
 (97,⟨Tryz.t96.desc,Tryz.t97.size,Tryz.t97.zero⟩),
 (153,⟨Tryz.t153.desc,Tryz.t153.size,Tryz.t153.zero⟩),
 (94,⟨Tryz.t93.desc,Tryz.t94.size,Tryz.t94.zero⟩),
 (39,⟨Tryz.t39.desc,Tryz.t39.size,Tryz.t39.zero⟩),
 (180,⟨Tryz.t3.desc,Tryz.t180.size,Tryz.t180.zero⟩),
 (68,⟨Tryz.t68.desc,Tryz.t68.size,Tryz.t68.zero⟩),
 (130,⟨Tryz.t130.desc,Tryz.t130.size,Tryz.t130.zero⟩),
 (9,⟨Tryz.t9.desc,Tryz.t9.size,Tryz.t9.zero⟩),
 (207,⟨Tryz.t207.desc,Tryz.t207.size,Tryz.t207.zero⟩),
 (142,⟨Tryz.t142.desc,Tryz.t142.size,Tryz.t142.zero⟩),
 (115,⟨Tryz.t115.desc,Tryz.t115.size,Tryz.t115.zero⟩),
 (190,⟨Tryz.t190.desc,Tryz.t190.size,Tryz.t190.zero⟩),
 (154,⟨Tryz.t154.desc,Tryz.t154.size,Tryz.t154.zero⟩),
 (137,⟨Tryz.t137.desc,Tryz.t137.size,Tryz.t137.zero⟩),
 (202,⟨Tryz.t202.desc,Tryz.t202.size,Tryz.t202.zero⟩)]
noncomputable def fns:List (Nat × Func):=[(3,Tryz.f3),
 (6,Tryz.f6),
 (23,Tryz.f23),
 (50,Tryz.f50),
 (8,Tryz.f8),
 (25,Tryz.f25),
 (53,Tryz.f53),
 (54,Tryz.f54),
 (55,Tryz.f55),
 (56,Tryz.f56),
 (26,Tryz.f26),
 (57,Tryz.f57),
 (94,Tryz.f94),
 (58,Tryz.f58),
 (60,Tryz.f60),
 (61,Tryz.f61),
 (96,Tryz.f96),
 (59,Tryz.f59),
 (95,Tryz.f95),
 (27,Tryz.f27),
 (28,Tryz.f28),
 (30,Tryz.f30),
 (31,Tryz.f31),
 (63,Tryz.f63),
 (64,Tryz.f64),
 (32,Tryz.f32),
 (65,Tryz.f65),
 (66,Tryz.f66),
 (97,Tryz.f97),
 (98,Tryz.f98),
 (130,Tryz.f130),
 (99,Tryz.f99),
 (33,Tryz.f33),
 (29,Tryz.f29),
 (62,Tryz.f62),
 (7,Tryz.f7),
 (24,Tryz.f24),
 (51,Tryz.f51),
 (52,Tryz.f52),
 (9,Tryz.f9),
 (10,Tryz.f10),
 (35,Tryz.f35),
 (67,Tryz.f67),
 (86,Tryz.f86),
 (122,Tryz.f122),
 (121,Tryz.f121),
 (152,Tryz.f152),
 (123,Tryz.f123),
 (153,Tryz.f153),
 (124,Tryz.f124),
 (125,Tryz.f125),
 (126,Tryz.f126),
 (127,Tryz.f127),
 (154,Tryz.f154),
 (128,Tryz.f128),
 (146,Tryz.f146),
 (148,Tryz.f148),
 (162,Tryz.f162),
 (100,Tryz.f100),
 (68,Tryz.f68),
 (102,Tryz.f102),
 (135,Tryz.f135),
 (131,Tryz.f131),
 (155,Tryz.f155),
 (156,Tryz.f156),
 (157,Tryz.f157),
 (158,Tryz.f158),
 (159,Tryz.f159),
 (161,Tryz.f161),
 (132,Tryz.f132),
 (160,Tryz.f160),
 (36,Tryz.f36),
 (69,Tryz.f69),
 (37,Tryz.f37),
 (14,Tryz.f14),
 (17,Tryz.f17),
 (43,Tryz.f43),
 (72,Tryz.f72),
 (38,Tryz.f38),
 (73,Tryz.f73),
 (74,Tryz.f74),
 (103,Tryz.f103),
 (136,Tryz.f136),
 (137,Tryz.f137),
 (138,Tryz.f138),
 (139,Tryz.f139),
 (104,Tryz.f104),
 (140,Tryz.f140),
 (141,Tryz.f141),
 (142,Tryz.f142),
 (143,Tryz.f143),
 (144,Tryz.f144),
 (145,Tryz.f145),
 (44,Tryz.f44),
 (45,Tryz.f45),
 (75,Tryz.f75),
 (46,Tryz.f46),
 (76,Tryz.f76),
 (105,Tryz.f105),
 (77,Tryz.f77),
 (12,Tryz.f12),
 (106,Tryz.f106),
 (93,Tryz.f93),
 (107,Tryz.f107),
 (78,Tryz.f78),
 (108,Tryz.f108),
 (79,Tryz.f79),
 (109,Tryz.f109),
 (80,Tryz.f80),
 (110,Tryz.f110),
 (111,Tryz.f111),
 (147,Tryz.f147),
 (112,Tryz.f112),
 (118,Tryz.f118),
 (151,Tryz.f151),
 (149,Tryz.f149),
 (116,Tryz.f116),
 (81,Tryz.f81),
 (113,Tryz.f113),
 (82,Tryz.f82),
 (114,Tryz.f114),
 (83,Tryz.f83),
 (115,Tryz.f115),
 (150,Tryz.f150),
 (117,Tryz.f117),
 (84,Tryz.f84),
 (119,Tryz.f119),
 (85,Tryz.f85),
 (120,Tryz.f120),
 (47,Tryz.f47),
 (87,Tryz.f87),
 (88,Tryz.f88),
 (129,Tryz.f129),
 (48,Tryz.f48),
 (89,Tryz.f89),
 (91,Tryz.f91),
 (90,Tryz.f90),
 (34,Tryz.f34),
 (4,Tryz.f4),
 (11,Tryz.f11),
 (13,Tryz.f13),
 (39,Tryz.f39),
 (15,Tryz.f15),
 (16,Tryz.f16),
 (40,Tryz.f40),
 (41,Tryz.f41),
 (70,Tryz.f70),
 (42,Tryz.f42),
 (71,Tryz.f71),
 (101,Tryz.f101),
 (134,Tryz.f134),
 (133,Tryz.f133),
 (18,Tryz.f18),
 (19,Tryz.f19),
 (20,Tryz.f20),
 (21,Tryz.f21),
 (49,Tryz.f49),
 (92,Tryz.f92),
 (5,Tryz.f5),
 (22,Tryz.f22)]
theorem N8:∀ p∈tt,Tryz.prog.underlying p.1=some p.2.desc :=
 all_cons (by kernel_rfl) <|
 all_cons (by kernel_rfl) <|
 all_cons (by kernel_rfl) <|
 all_cons (by kernel_rfl) <|
 all_cons (by kernel_rfl) <|
 all_cons (by kernel_rfl) <|
 all_cons (by kernel_rfl) <|
 all_cons (by kernel_rfl) <|
 all_cons (by kernel_rfl) <|
 all_cons (by kernel_rfl) <|
 all_cons (by kernel_rfl) <|
 all_cons (by kernel_rfl) <|
 all_cons (by kernel_rfl) <|
 all_cons (by kernel_rfl) <|
 all_cons (by kernel_rfl) <|
 all_cons (by kernel_rfl) <|
 all_cons (by kernel_rfl) <|
 all_cons (by kernel_rfl) <|
 all_cons (by kernel_rfl) <|
 all_cons (by kernel_rfl) <|
 all_cons (by kernel_rfl) <|
 all_cons (by kernel_rfl) <|
 all_cons (by kernel_rfl) <|
 all_cons (by kernel_rfl) <|
 all_cons (by kernel_rfl) <|
 all_cons (by kernel_rfl) <|
 all_cons (by kernel_rfl) <|
 all_cons (by kernel_rfl) <|
 all_cons (by kernel_rfl) <|
 all_cons (by kernel_rfl) <|
 all_cons (by kernel_rfl) <|
 all_cons (by kernel_rfl) <|
 all_cons (by kernel_rfl) <|
 all_cons (by kernel_rfl) <|
 all_cons (by kernel_rfl) <|
 all_cons (by kernel_rfl) <|
 all_cons (by kernel_rfl) <|
 all_cons (by kernel_rfl) <|
 all_cons (by kernel_rfl) <|
 all_cons (by kernel_rfl) <|
 all_cons (by kernel_rfl) <|
 all_cons (by kernel_rfl) <|
 all_cons (by kernel_rfl) <|
 all_cons (by kernel_rfl) <|
 all_cons (by kernel_rfl) <|
 all_cons (by kernel_rfl) <|
 all_cons (by kernel_rfl) <|
 all_cons (by kernel_rfl) <| all_nil
theorem N9:∀ p∈tt,∃ i,Tryz.prog.info? p.1=some i/\i.size=p.2.size/\i.zero=p.2.zero :=
 all_cons ⟨Tryz.t3,by kernel_rfl,rfl,rfl⟩ <|
 all_cons ⟨Tryz.t75,by kernel_rfl,rfl,rfl⟩ <|
 all_cons ⟨Tryz.t24,by kernel_rfl,rfl,rfl⟩ <|
 all_cons ⟨Tryz.t73,by kernel_rfl,rfl,rfl⟩ <|
 all_cons ⟨Tryz.t186,by kernel_rfl,rfl,rfl⟩ <|
 all_cons ⟨Tryz.t26,by kernel_rfl,rfl,rfl⟩ <|
 all_cons ⟨Tryz.t184,by kernel_rfl,rfl,rfl⟩ <|
 all_cons ⟨Tryz.t109,by kernel_rfl,rfl,rfl⟩ <|
 all_cons ⟨Tryz.t29,by kernel_rfl,rfl,rfl⟩ <|
 all_cons ⟨Tryz.t46,by kernel_rfl,rfl,rfl⟩ <|
 all_cons ⟨Tryz.t32,by kernel_rfl,rfl,rfl⟩ <|
 all_cons ⟨Tryz.t56,by kernel_rfl,rfl,rfl⟩ <|
 all_cons ⟨Tryz.t41,by kernel_rfl,rfl,rfl⟩ <|
 all_cons ⟨Tryz.t99,by kernel_rfl,rfl,rfl⟩ <|
 all_cons ⟨Tryz.t44,by kernel_rfl,rfl,rfl⟩ <|
 all_cons ⟨Tryz.t38,by kernel_rfl,rfl,rfl⟩ <|
 all_cons ⟨Tryz.t23,by kernel_rfl,rfl,rfl⟩ <|
 all_cons ⟨Tryz.t182,by kernel_rfl,rfl,rfl⟩ <|
 all_cons ⟨Tryz.t87,by kernel_rfl,rfl,rfl⟩ <|
 all_cons ⟨Tryz.t33,by kernel_rfl,rfl,rfl⟩ <|
 all_cons ⟨Tryz.t91,by kernel_rfl,rfl,rfl⟩ <|
 all_cons ⟨Tryz.t65,by kernel_rfl,rfl,rfl⟩ <|
 all_cons ⟨Tryz.t72,by kernel_rfl,rfl,rfl⟩ <|
 all_cons ⟨Tryz.t22,by kernel_rfl,rfl,rfl⟩ <|
 all_cons ⟨Tryz.t42,by kernel_rfl,rfl,rfl⟩ <|
 all_cons ⟨Tryz.t98,by kernel_rfl,rfl,rfl⟩ <|
 all_cons ⟨Tryz.t27,by kernel_rfl,rfl,rfl⟩ <|
 all_cons ⟨Tryz.t5,by kernel_rfl,rfl,rfl⟩ <|
 all_cons ⟨Tryz.t4,by kernel_rfl,rfl,rfl⟩ <|
 all_cons ⟨Tryz.t58,by kernel_rfl,rfl,rfl⟩ <|
 all_cons ⟨Tryz.t47,by kernel_rfl,rfl,rfl⟩ <|
 all_cons ⟨Tryz.t123,by kernel_rfl,rfl,rfl⟩ <|
 all_cons ⟨Tryz.t89,by kernel_rfl,rfl,rfl⟩ <|
 all_cons ⟨Tryz.t97,by kernel_rfl,rfl,rfl⟩ <|
 all_cons ⟨Tryz.t153,by kernel_rfl,rfl,rfl⟩ <|
 all_cons ⟨Tryz.t94,by kernel_rfl,rfl,rfl⟩ <|
 all_cons ⟨Tryz.t39,by kernel_rfl,rfl,rfl⟩ <|
 all_cons ⟨Tryz.t180,by kernel_rfl,rfl,rfl⟩ <|
 all_cons ⟨Tryz.t68,by kernel_rfl,rfl,rfl⟩ <|
 all_cons ⟨Tryz.t130,by kernel_rfl,rfl,rfl⟩ <|
 all_cons ⟨Tryz.t9,by kernel_rfl,rfl,rfl⟩ <|
 all_cons ⟨Tryz.t207,by kernel_rfl,rfl,rfl⟩ <|
 all_cons ⟨Tryz.t142,by kernel_rfl,rfl,rfl⟩ <|
 all_cons ⟨Tryz.t115,by kernel_rfl,rfl,rfl⟩ <|
 all_cons ⟨Tryz.t190,by kernel_rfl,rfl,rfl⟩ <|
 all_cons ⟨Tryz.t154,by kernel_rfl,rfl,rfl⟩ <|
 all_cons ⟨Tryz.t137,by kernel_rfl,rfl,rfl⟩ <|
 all_cons ⟨Tryz.t202,by kernel_rfl,rfl,rfl⟩ <| all_nil
theorem N':∀ p∈fns,Tryz.prog.funcs[p.1]?=some p.2 :=
 all_cons Tryz.func3 <|
 all_cons Tryz.func6 <|
 all_cons Tryz.func23 <|
 all_cons Tryz.func50 <|
 all_cons Tryz.func8 <|
 all_cons Tryz.func25 <|
 all_cons Tryz.func53 <|
 all_cons Tryz.func54 <|
 all_cons Tryz.func55 <|
 all_cons Tryz.func56 <|
 all_cons Tryz.func26 <|
 all_cons Tryz.func57 <|
 all_cons Tryz.func94 <|
 all_cons Tryz.func58 <|
 all_cons Tryz.func60 <|
 all_cons Tryz.func61 <|
 all_cons Tryz.func96 <|
 all_cons Tryz.func59 <|
 all_cons Tryz.func95 <|
 all_cons Tryz.func27 <|
 all_cons Tryz.func28 <|
 all_cons Tryz.func30 <|
 all_cons Tryz.func31 <|
 all_cons Tryz.func63 <|
 all_cons Tryz.func64 <|
 all_cons Tryz.func32 <|
 all_cons Tryz.func65 <|
 all_cons Tryz.func66 <|
 all_cons Tryz.func97 <|
 all_cons Tryz.func98 <|
 all_cons Tryz.func130 <|
 all_cons Tryz.func99 <|
 all_cons Tryz.func33 <|
 all_cons Tryz.func29 <|
 all_cons Tryz.func62 <|
 all_cons Tryz.func7 <|
 all_cons Tryz.func24 <|
 all_cons Tryz.func51 <|
 all_cons Tryz.func52 <|
 all_cons Tryz.func9 <|
 all_cons Tryz.func10 <|
 all_cons Tryz.func35 <|
 all_cons Tryz.func67 <|
 all_cons Tryz.func86 <|
 all_cons Tryz.func122 <|
 all_cons Tryz.func121 <|
 all_cons Tryz.func152 <|
 all_cons Tryz.func123 <|
 all_cons Tryz.func153 <|
 all_cons Tryz.func124 <|
 all_cons Tryz.func125 <|
 all_cons Tryz.func126 <|
 all_cons Tryz.func127 <|
 all_cons Tryz.func154 <|
 all_cons Tryz.func128 <|
 all_cons Tryz.func146 <|
 all_cons Tryz.func148 <|
 all_cons Tryz.func162 <|
 all_cons Tryz.func100 <|
 all_cons Tryz.func68 <|
 all_cons Tryz.func102 <|
 all_cons Tryz.func135 <|
 all_cons Tryz.func131 <|
 all_cons Tryz.func155 <|
 all_cons Tryz.func156 <|
 all_cons Tryz.func157 <|
 all_cons Tryz.func158 <|
 all_cons Tryz.func159 <|
 all_cons Tryz.func161 <|
 all_cons Tryz.func132 <|
 all_cons Tryz.func160 <|
 all_cons Tryz.func36 <|
 all_cons Tryz.func69 <|
 all_cons Tryz.func37 <|
 all_cons Tryz.func14 <|
 all_cons Tryz.func17 <|
 all_cons Tryz.func43 <|
 all_cons Tryz.func72 <|
 all_cons Tryz.func38 <|
 all_cons Tryz.func73 <|
 all_cons Tryz.func74 <|
 all_cons Tryz.func103 <|
 all_cons Tryz.func136 <|
 all_cons Tryz.func137 <|
 all_cons Tryz.func138 <|
 all_cons Tryz.func139 <|
 all_cons Tryz.func104 <|
 all_cons Tryz.func140 <|
 all_cons Tryz.func141 <|
 all_cons Tryz.func142 <|
 all_cons Tryz.func143 <|
 all_cons Tryz.func144 <|
 all_cons Tryz.func145 <|
 all_cons Tryz.func44 <|
 all_cons Tryz.func45 <|
 all_cons Tryz.func75 <|
 all_cons Tryz.func46 <|
 all_cons Tryz.func76 <|
 all_cons Tryz.func105 <|
 all_cons Tryz.func77 <|
 all_cons Tryz.func12 <|
 all_cons Tryz.func106 <|
 all_cons Tryz.func93 <|
 all_cons Tryz.func107 <|
 all_cons Tryz.func78 <|
 all_cons Tryz.func108 <|
 all_cons Tryz.func79 <|
 all_cons Tryz.func109 <|
 all_cons Tryz.func80 <|
 all_cons Tryz.func110 <|
 all_cons Tryz.func111 <|
 all_cons Tryz.func147 <|
 all_cons Tryz.func112 <|
 all_cons Tryz.func118 <|
 all_cons Tryz.func151 <|
 all_cons Tryz.func149 <|
 all_cons Tryz.func116 <|
 all_cons Tryz.func81 <|
 all_cons Tryz.func113 <|
 all_cons Tryz.func82 <|
 all_cons Tryz.func114 <|
 all_cons Tryz.func83 <|
 all_cons Tryz.func115 <|
 all_cons Tryz.func150 <|
 all_cons Tryz.func117 <|
 all_cons Tryz.func84 <|
 all_cons Tryz.func119 <|
 all_cons Tryz.func85 <|
 all_cons Tryz.func120 <|
 all_cons Tryz.func47 <|
 all_cons Tryz.func87 <|
 all_cons Tryz.func88 <|
 all_cons Tryz.func129 <|
 all_cons Tryz.func48 <|
 all_cons Tryz.func89 <|
 all_cons Tryz.func91 <|
 all_cons Tryz.func90 <|
 all_cons Tryz.func34 <|
 all_cons Tryz.func4 <|
 all_cons Tryz.func11 <|
 all_cons Tryz.func13 <|
 all_cons Tryz.func39 <|
 all_cons Tryz.func15 <|
 all_cons Tryz.func16 <|
 all_cons Tryz.func40 <|
 all_cons Tryz.func41 <|
 all_cons Tryz.func70 <|
 all_cons Tryz.func42 <|
 all_cons Tryz.func71 <|
 all_cons Tryz.func101 <|
 all_cons Tryz.func134 <|
 all_cons Tryz.func133 <|
 all_cons Tryz.func18 <|
 all_cons Tryz.func19 <|
 all_cons Tryz.func20 <|
 all_cons Tryz.func21 <|
 all_cons Tryz.func49 <|
 all_cons Tryz.func92 <|
 all_cons Tryz.func5 <|
 all_cons Tryz.func22 <| all_nil
def eqs:List Nat:=[75]
theorem N_:∀ t∈eqs,Tryz.prog.eqGuardType Tryz.prog.depth t=false/\Tryz.prog.stoodInHeld t=false/\(Tryz.prog.fieldsOf t).toList.all (fun f=>decide (f.name≠"_"))=true :=
 all_cons ⟨by kernel_rfl,by kernel_rfl,by kernel_rfl⟩ <| all_nil
theorem mixed:Tryz.prog.follows .mixedOrders=true:=by kernel_rfl
noncomputable def Vu (pH:List (Nat × Nat)) (Es:List Sum):Cx:={ P:=Tryz.prog,pH:=pH,Es:=Es,tt:=tt,fns:=fns,eqs:=eqs }
theorem cxOk (pH:List (Nat × Nat)) (Es:List Sum):f_ (Vu pH Es):=⟨N8,N9,N',mixed,N_⟩
end Go.Proofs.YtlgkljpgagfndaaGreatDoor.Ev
