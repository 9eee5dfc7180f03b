/- What the laws of this claim are proved with, joined (join.py) of 1 texts: no condition. -/
import Derived.WalkKit
import Derived.Laws.Entries
set_option linter.unusedVariables false
set_option linter.unusedSimpArgs false

/- Terms over integers (a truth is 1 or 0), what they denote, bounds of what they denote, and what a truth that is assumed tells of bounds. No program in sight. -/
namespace Go.Proofs.YtnbngokbamifbaaGreatDoor.Ev
open Go

/-- what stands for numbers, for functions that are summed up, for opaque values -/
structure Env where
  v : Nat → Int
  φ : Nat → List Int → Int
  o : Nat → Value

inductive E where
  | lit (n : Int) | var (i : Nat)
  | add (a b : E) | sub (a b : E) | mul (a b : E)
  | div (a b : E) | mod (a b : E) | quo (a b : E) | rem (a b : E)
  | wrap (k : IntKind) (a : E) | pow (k : IntKind) (a : E)
  | bit (op : BinOp) (k : IntKind) (a b : E)
  | land (a b : E) | lor (a b : E) | lxor (a b : E)
  | eq (a b : E) | lt (a b : E) | le (a b : E) | not (a : E)
  | ite (c a b : E) | sel (i l : E) | ap (f : Nat) (l : E) | nil | cons (a l : E)
  deriving Repr, Inhabited

def pow2 (k : IntKind) (n : Int) : Int := ((2 ^ (min n.toNat k.bits) : Nat) : Int)
def truth (b : Bool) : Int := if b then 1 else 0
def tb (n : Int) : Bool := if n = 0 then false else true
@[simp] theorem tb_truth (b : Bool) : tb (truth b) = b := by cases b <;> rfl
theorem tb_iff (n : Int) : tb n = true ↔ n ≠ 0 := by unfold tb; split <;> simp [*]
theorem tb_zero {n : Int} (h : n = 0) : tb n = false := by unfold tb; rw [if_pos h]
theorem tb_one {n : Int} (h : n ≠ 0) : tb n = true := by unfold tb; rw [if_neg h]

mutual
def E.den (ρ : Env) : E → Int
  | .lit n => n
  | .var i => ρ.v i
  | .add a b => a.den ρ + b.den ρ
  | .sub a b => a.den ρ - b.den ρ
  | .mul a b => a.den ρ * b.den ρ
  | .div a b => a.den ρ / b.den ρ
  | .mod a b => a.den ρ % b.den ρ
  | .quo a b => (a.den ρ).tdiv (b.den ρ)
  | .rem a b => (a.den ρ).tmod (b.den ρ)
  | .wrap k a => k.wrap (a.den ρ)
  | .pow k a => pow2 k (a.den ρ)
  | .bit op k a b => bits op k (a.den ρ) (b.den ρ)
  | .land a b => (((a.den ρ).toNat &&& (b.den ρ).toNat : Nat) : Int)
  | .lor a b => (((a.den ρ).toNat ||| (b.den ρ).toNat : Nat) : Int)
  | .lxor a b => (((a.den ρ).toNat ^^^ (b.den ρ).toNat : Nat) : Int)
  | .eq a b => truth (decide (a.den ρ = b.den ρ))
  | .lt a b => truth (decide (a.den ρ < b.den ρ))
  | .le a b => truth (decide (a.den ρ ≤ b.den ρ))
  | .not a => truth (decide (a.den ρ = 0))
  | .ite c a b => if c.den ρ = 0 then b.den ρ else a.den ρ
  | .sel i l => (l.denL ρ).getD (i.den ρ).toNat 0
  | .ap f l => ρ.φ f (l.denL ρ)
  | .nil => 0
  | .cons a _ => a.den ρ
def E.denL (ρ : Env) : E → List Int
  | .cons a l => a.den ρ :: l.denL ρ
  | _ => []
end

def E.beq : E → E → Bool
  | .lit m, .lit n => decide (m = n)
  | .var i, .var j => Nat.beq i j
  | .add a b, .add c d => a.beq c && b.beq d
  | .sub a b, .sub c d => a.beq c && b.beq d
  | .mul a b, .mul c d => a.beq c && b.beq d
  | .div a b, .div c d => a.beq c && b.beq d
  | .mod a b, .mod c d => a.beq c && b.beq d
  | .quo a b, .quo c d => a.beq c && b.beq d
  | .rem a b, .rem c d => a.beq c && b.beq d
  | .wrap k a, .wrap l b => decide (k = l) && a.beq b
  | .pow k a, .pow l b => decide (k = l) && a.beq b
  | .bit o k a b, .bit p l c d => decide (o = p) && decide (k = l) && a.beq c && b.beq d
  | .land a b, .land c d => a.beq c && b.beq d
  | .lor a b, .lor c d => a.beq c && b.beq d
  | .lxor a b, .lxor c d => a.beq c && b.beq d
  | .eq a b, .eq c d => a.beq c && b.beq d
  | .lt a b, .lt c d => a.beq c && b.beq d
  | .le a b, .le c d => a.beq c && b.beq d
  | .not a, .not b => a.beq b
  | .ite x a b, .ite y c d => x.beq y && a.beq c && b.beq d
  | .sel a b, .sel c d => a.beq c && b.beq d
  | .ap f a, .ap g b => Nat.beq f g && a.beq b
  | .nil, .nil => true
  | .cons a b, .cons c d => a.beq c && b.beq d
  | _, _ => false

theorem E.beq_eq : ∀ {a b : E}, a.beq b = true → a = b := by
  intro a
  induction a <;> intro b h <;> cases b <;> simp_all [E.beq]
  all_goals first
    | (rename_i p q ih1 ih2 r s; exact ⟨ih1 h.1, ih2 h.2⟩)
    | (rename_i k p ih k' r; exact ih h.2)
    | (rename_i o k p q ih1 ih2 o' k' r s; exact ⟨ih1 h.1.2, ih2 h.2⟩)
    | (rename_i p ih r; exact ih h)
    | (rename_i c p q i1 i2 i3 c' r s; exact ⟨i1 h.1.1, i2 h.1.2, i3 h.2⟩)

/-- a term lies from .2.1 to .2.2 -/
abbrev Fact := E × Int × Int
abbrev FL := List Fact
def flOk (ρ : Env) (l : FL) : Prop := ∀ f ∈ l, f.2.1 ≤ f.1.den ρ ∧ f.1.den ρ ≤ f.2.2
/-- what is known, by a number that is drawn from the term -/
inductive PC where
  | nil | node (b : List Fact) (l r : PC)
  deriving Inhabited
def PC.get : PC → Nat → FL
  | .nil, _ => []
  | .node b l r, n => bif Nat.beq n 0 then b else bif Nat.beq (n % 2) 1 then l.get ((n - 1) / 2) else r.get ((n - 1) / 2)
def PC.add1 (x : Fact) : Nat → Nat → PC
  | 0, _ => .node [x] .nil .nil
  | f + 1, n => bif Nat.beq n 0 then .node [x] .nil .nil else bif Nat.beq (n % 2) 1 then .node [] (PC.add1 x f ((n - 1) / 2)) .nil else .node [] .nil (PC.add1 x f ((n - 1) / 2))
def PC.add (x : Fact) : PC → Nat → PC
  | .nil, n => PC.add1 x 16 n
  | .node b l r, n => bif Nat.beq n 0 then .node (x :: b) l r else bif Nat.beq (n % 2) 1 then .node b (PC.add x l ((n - 1) / 2)) r else .node b l (PC.add x r ((n - 1) / 2))
def pcOk (ρ : Env) : PC → Prop
  | .nil => True
  | .node b l r => flOk ρ b ∧ pcOk ρ l ∧ pcOk ρ r
theorem pcOk_get {ρ : Env} : ∀ {pc : PC} {n : Nat}, pcOk ρ pc → flOk ρ (pc.get n)
  | .nil, n, _ => fun f hf => by cases hf
  | .node b l r, n, h => by
    unfold PC.get
    cases Nat.beq n 0
    · cases Nat.beq (n % 2) 1
      · exact pcOk_get h.2.2
      · exact pcOk_get h.2.1
    · exact h.1
theorem flOk_cons {ρ : Env} {x : Fact} {l : FL} (h : x.2.1 ≤ x.1.den ρ ∧ x.1.den ρ ≤ x.2.2) (hl : flOk ρ l) : flOk ρ (x :: l) := fun f hf => by
  rcases List.mem_cons.1 hf with rfl | hf
  · exact h
  · exact hl f hf
theorem pcOk_add1 {ρ : Env} {x : Fact} (h : x.2.1 ≤ x.1.den ρ ∧ x.1.den ρ ≤ x.2.2) : ∀ {f n : Nat}, pcOk ρ (PC.add1 x f n)
  | 0, n => ⟨flOk_cons h (fun f hf => by cases hf), trivial, trivial⟩
  | f + 1, n => by
    unfold PC.add1
    cases Nat.beq n 0
    · cases Nat.beq (n % 2) 1
      · exact ⟨(fun f hf => nomatch hf), trivial, pcOk_add1 h⟩
      · exact ⟨(fun f hf => nomatch hf), pcOk_add1 h, trivial⟩
    · exact ⟨flOk_cons h (fun f hf => by cases hf), trivial, trivial⟩
theorem pcOk_add {ρ : Env} {x : Fact} (h : x.2.1 ≤ x.1.den ρ ∧ x.1.den ρ ≤ x.2.2) : ∀ {pc : PC} {n : Nat}, pcOk ρ pc → pcOk ρ (PC.add x pc n)
  | .nil, n, _ => pcOk_add1 h
  | .node b l r, n, hp => by
    unfold PC.add
    cases Nat.beq n 0
    · cases Nat.beq (n % 2) 1
      · exact ⟨hp.1, hp.2.1, pcOk_add h hp.2.2⟩
      · exact ⟨hp.1, pcOk_add h hp.2.1, hp.2.2⟩
    · exact ⟨flOk_cons h hp.1, hp.2.1, hp.2.2⟩
/-- a number that is drawn from a term -/
def E.key : E → Nat
  | .var i => i + 1
  | .lit n => n.natAbs % 16
  | .eq a b => (a.key * 5 + b.key * 3 + 17) % 128
  | .lt a b => (a.key * 5 + b.key * 3 + 23) % 128
  | .le a b => (a.key * 5 + b.key * 3 + 29) % 128
  | .not a => (a.key + 31) % 128
  | .ap f l => (f + l.key * 3 + 37) % 128
  | .cons a _ => a.key
  | .add a _ => (a.key + 41) % 128
  | .sub a _ => (a.key + 43) % 128
  | .mul a _ => (a.key + 47) % 128
  | .div a _ => (a.key + 53) % 128
  | .mod a _ => (a.key + 59) % 128
  | .quo a _ => (a.key + 61) % 128
  | .rem a _ => (a.key + 67) % 128
  | .wrap _ a => (a.key + 71) % 128
  | .land a _ => (a.key + 73) % 128
  | _ => 0
def PC.put (x : Fact) (pc : PC) : PC := pc.add x x.1.key
def addAll : FL → PC → PC
  | [], pc => pc
  | x :: l, pc => (addAll l pc).put x
theorem addAll_ok {ρ : Env} : ∀ {l : FL} {pc : PC}, flOk ρ l → pcOk ρ pc → pcOk ρ (addAll l pc)
  | [], _, _, hp => hp
  | x :: l, _, hl, hp => pcOk_add (hl x (by simp)) (addAll_ok (fun f hf => hl f (by simp [hf])) hp)
/-- a quick look at a term's head -/
def E.tag : E → Nat
  | .lit _ => 0 | .var _ => 1 | .add _ _ => 2 | .sub _ _ => 3 | .mul _ _ => 4 | .div _ _ => 5 | .mod _ _ => 6 | .quo _ _ => 7 | .rem _ _ => 8
  | .wrap _ _ => 9 | .pow _ _ => 10 | .bit _ _ _ _ => 11 | .land _ _ => 12 | .lor _ _ => 13 | .lxor _ _ => 14 | .eq _ _ => 15 | .lt _ _ => 16 | .le _ _ => 17
  | .not _ => 18 | .ite _ _ _ => 19 | .sel _ _ => 20 | .ap _ _ => 21 | .nil => 22 | .cons _ _ => 23
def lookV (i : Nat) : FL → Option (Int × Int)
  | [] => none
  | f :: l => match f.1 with
    | .var j => bif Nat.beq j i then some f.2 else lookV i l
    | _ => lookV i l
def lookT (e : E) (t : Nat) : FL → Option (Int × Int)
  | [] => none
  | f :: l => bif Nat.beq f.1.tag t then (bif f.1.beq e then some f.2 else lookT e t l) else lookT e t l
def look (pc : PC) (e : E) : Option (Int × Int) := match e with
  | .var i => lookV i (pc.get (i + 1))
  | _ => lookT e e.tag (pc.get e.key)
theorem lookV_sound {ρ : Env} {i : Nat} : ∀ {pc : FL} {r : Int × Int}, flOk ρ pc → lookV i pc = some r → r.1 ≤ (E.var i).den ρ ∧ (E.var i).den ρ ≤ r.2
  | [], _, _, h => by cases h
  | f :: l, r, hp, h => by
    unfold lookV at h
    split at h
    · rename_i j hj
      cases hb : Nat.beq j i with
      | true =>
        rw [hb] at h
        cases h
        have := Nat.eq_of_beq_eq_true hb
        subst this
        rw [← hj]; exact hp f (by simp)
      | false => rw [hb] at h; exact lookV_sound (fun g hg => hp g (by simp [hg])) h
    · exact lookV_sound (fun g hg => hp g (by simp [hg])) h
theorem lookT_sound {ρ : Env} {e : E} {t : Nat} : ∀ {pc : FL} {r : Int × Int}, flOk ρ pc → lookT e t pc = some r → r.1 ≤ e.den ρ ∧ e.den ρ ≤ r.2
  | [], _, _, h => by cases h
  | f :: l, r, hp, h => by
    unfold lookT at h
    have ih : lookT e t l = some r → _ := lookT_sound (fun g hg => hp g (by simp [hg]))
    cases hb : Nat.beq f.1.tag t with
    | true =>
      rw [hb] at h
      cases hb2 : f.1.beq e with
      | true => rw [hb2] at h; cases h; rw [← E.beq_eq hb2]; exact hp f (by simp)
      | false => rw [hb2] at h; exact ih h
    | false => rw [hb] at h; exact ih h
theorem look_sound {ρ : Env} {pc : PC} {e : E} {r : Int × Int} (hp : pcOk ρ pc) (h : look pc e = some r) : r.1 ≤ e.den ρ ∧ e.den ρ ≤ r.2 := by
  unfold look at h
  split at h
  · exact lookV_sound (pcOk_get hp) h
  · exact lookT_sound (pcOk_get hp) h

/-- the bounds of a kind -/
def kmin (k : IntKind) : Int := if k.signed then -((2 ^ (k.bits - 1) : Nat) : Int) else 0
def kmax (k : IntKind) : Int := if k.signed then ((2 ^ (k.bits - 1) : Nat) : Int) - 1 else ((2 ^ k.bits : Nat) : Int) - 1

theorem wrap_bd (k : IntKind) (n : Int) : kmin k ≤ k.wrap n ∧ k.wrap n ≤ kmax k := by
  cases k <;> simp only [kmin, kmax, IntKind.wrap, IntKind.signed, IntKind.bits] <;> simp <;> (try split) <;> omega
theorem wrap_in (k : IntKind) (n : Int) (h0 : kmin k ≤ n) (h1 : n ≤ kmax k) : k.wrap n = n := by
  cases k <;> simp only [kmin, kmax, IntKind.wrap, IntKind.signed, IntKind.bits] at * <;> simp at * <;> (try split) <;> omega

def hull (x y : Option (Int × Int)) : Option (Int × Int) :=
  match x, y with
  | some a, some b => some (min a.1 b.1, max a.2 b.2)
  | _, _ => none
def two (x y : Option (Int × Int)) (f : Int × Int → Int × Int → Option (Int × Int)) : Option (Int × Int) :=
  match x, y with
  | some a, some b => f a b
  | _, _ => none
def lk (pc : PC) (e : E) (d : Option (Int × Int)) : Option (Int × Int) :=
  match look pc e with
  | some r => some r
  | none => d
def inK (k : IntKind) (x : Int × Int) : Bool := decide (kmin k ≤ x.1) && decide (x.2 ≤ kmax k)
/-- the least power of two, less 1, that is no less -/
def mask (n : Int) : Int := ((2 ^ (Nat.log2 n.toNat + 1) : Nat) : Int) - 1

mutual
def rng (pc : PC) : E → Option (Int × Int)
  | .lit n => some (n, n)
  | .var i => look pc (.var i)
  | .add a b => lk pc (.add a b) (two (rng pc a) (rng pc b) fun x y => some (x.1 + y.1, x.2 + y.2))
  | .sub a b => lk pc (.sub a b) (two (rng pc a) (rng pc b) fun x y => some (x.1 - y.2, x.2 - y.1))
  | .mul a b => lk pc (.mul a b) (two (rng pc a) (rng pc b) fun x y => if decide (0 ≤ x.1) && decide (0 ≤ y.1) then some (x.1 * y.1, x.2 * y.2) else none)
  | .div a b => lk pc (.div a b) (two (rng pc a) (rng pc b) fun x y => if decide (y.1 = y.2) && decide (0 < y.1) then some (x.1 / y.1, x.2 / y.1) else if decide (0 ≤ x.1) && decide (0 < y.1) then some (0, x.2) else none)
  | .mod a b => lk pc (.mod a b) (two (rng pc a) (rng pc b) fun x y => if decide (0 < y.1) then (if decide (x.1 = x.2) && decide (y.1 = y.2) then some (x.1 % y.1, x.1 % y.1) else if decide (0 ≤ x.1) && decide (x.2 < y.1) then some x else some (0, y.2 - 1)) else none)
  | .quo a b => look pc (.quo a b)
  | .rem a b => look pc (.rem a b)
  | .wrap k a => lk pc (.wrap k a) (match rng pc a with
      | some x => if inK k x then some x else some (kmin k, kmax k)
      | none => some (kmin k, kmax k))
  | .pow k a => lk pc (.pow k a) (match rng pc a with
      | some x => if decide (x.1 = x.2) then some (pow2 k x.1, pow2 k x.1) else some (1, pow2 k k.bits)
      | none => some (1, pow2 k k.bits))
  | .bit op k a b => lk pc (.bit op k a b) (match rng pc a, rng pc b with
      | some x, some y => if decide (x.1 = x.2) && decide (y.1 = y.2) then some (bits op k x.1 y.1, bits op k x.1 y.1) else some (kmin k, kmax k)
      | _, _ => some (kmin k, kmax k))
  | .land a b => lk pc (.land a b) (match rng pc a, rng pc b with
      | some x, some y => if decide (x.1 = x.2) && decide (y.1 = y.2) then some (((x.1.toNat &&& y.1.toNat : Nat) : Int), ((x.1.toNat &&& y.1.toNat : Nat) : Int)) else some (0, max 0 (min x.2 y.2))
      | some x, none => some (0, max 0 x.2)
      | none, some y => some (0, max 0 y.2)
      | none, none => none)
  | .lor a b => lk pc (.lor a b) (two (rng pc a) (rng pc b) fun x y => if decide (x.1 = x.2) && decide (y.1 = y.2) then some (((x.1.toNat ||| y.1.toNat : Nat) : Int), ((x.1.toNat ||| y.1.toNat : Nat) : Int)) else some (0, mask (max x.2 y.2)))
  | .lxor a b => lk pc (.lxor a b) (two (rng pc a) (rng pc b) fun x y => if decide (x.1 = x.2) && decide (y.1 = y.2) then some (((x.1.toNat ^^^ y.1.toNat : Nat) : Int), ((x.1.toNat ^^^ y.1.toNat : Nat) : Int)) else some (0, mask (max x.2 y.2)))
  | .eq a b => lk pc (.eq a b) (if a.beq b then some (1, 1) else match rng pc a, rng pc b with
      | some x, some y => if decide (x.2 < y.1) || decide (y.2 < x.1) then some (0, 0) else if decide (x.1 = x.2) && decide (y.1 = y.2) && decide (x.1 = y.1) then some (1, 1) else some (0, 1)
      | _, _ => some (0, 1))
  | .lt a b => lk pc (.lt a b) (match rng pc a, rng pc b with
      | some x, some y => if decide (x.2 < y.1) then some (1, 1) else if decide (y.2 ≤ x.1) then some (0, 0) else some (0, 1)
      | _, _ => some (0, 1))
  | .le a b => lk pc (.le a b) (match rng pc a, rng pc b with
      | some x, some y => if decide (x.2 ≤ y.1) then some (1, 1) else if decide (y.2 < x.1) then some (0, 0) else some (0, 1)
      | _, _ => some (0, 1))
  | .not a => lk pc (.not a) (match rng pc a with
      | some x => if decide (0 < x.1) || decide (x.2 < 0) then some (0, 0) else if decide (x.1 = 0) && decide (x.2 = 0) then some (1, 1) else some (0, 1)
      | none => some (0, 1))
  | .ite c a b => lk pc (.ite c a b) (match rng pc c with
      | some x => if decide (0 < x.1) || decide (x.2 < 0) then rng pc a else if decide (x.1 = 0) && decide (x.2 = 0) then rng pc b else hull (rng pc a) (rng pc b)
      | none => hull (rng pc a) (rng pc b))
  | .sel i l => lk pc (.sel i l) (rngL pc l)
  | .ap f l => look pc (.ap f l)
  | .nil => none
  | .cons _ _ => none
def rngL (pc : PC) : E → Option (Int × Int)
  | .cons a l => hull (rng pc a) (rngL pc l)
  | _ => some (0, 0)
end

def In (r : Int × Int) (n : Int) : Prop := r.1 ≤ n ∧ n ≤ r.2

theorem truth_in (b : Bool) : 0 ≤ truth b ∧ truth b ≤ 1 := by cases b <;> simp [truth]
theorem lk_sound {ρ : Env} {pc : PC} (hp : pcOk ρ pc) {e : E} {d : Option (Int × Int)} (h : ∀ r, d = some r → In r (e.den ρ)) : ∀ r, lk pc e d = some r → In r (e.den ρ) := by
  intro r hr
  unfold lk at hr
  split at hr
  · rename_i r' hl; cases hr; exact look_sound hp hl
  · exact h r hr
theorem two_sound {x y : Option (Int × Int)} {f : Int × Int → Int × Int → Option (Int × Int)} {n m : Int} {P : Int × Int → Prop} (hx : ∀ r, x = some r → In r n) (hy : ∀ r, y = some r → In r m)
    (h : ∀ a b r, In a n → In b m → f a b = some r → P r) : ∀ r, two x y f = some r → P r := by
  intro r hr
  unfold two at hr
  split at hr
  · exact h _ _ r (hx _ rfl) (hy _ rfl) hr
  · cases hr
theorem hull_sound {x y : Option (Int × Int)} {n : Int} (h : (∀ r, x = some r → In r n) ∨ (∀ r, y = some r → In r n)) : ∀ r, hull x y = some r → In r n := by
  intro r hr
  unfold hull at hr
  split at hr
  · cases hr
    rcases h with h | h
    · have := h _ rfl; unfold In at *; simp; omega
    · have := h _ rfl; unfold In at *; simp; omega
  · cases hr
theorem le_mask (n m : Int) (h : n ≤ m) : n.toNat < 2 ^ (Nat.log2 m.toNat + 1) :=
  Nat.lt_of_le_of_lt (by omega : n.toNat ≤ m.toNat) Nat.lt_log2_self
theorem pow2_bd (k : IntKind) (n : Int) : 1 ≤ pow2 k n ∧ pow2 k n ≤ pow2 k k.bits := by
  unfold pow2
  constructor
  · have : 0 < 2 ^ (min n.toNat k.bits) := Nat.pow_pos (by omega)
    omega
  · have : 2 ^ (min n.toNat k.bits) ≤ 2 ^ (min (k.bits : Int).toNat k.bits) := Nat.pow_le_pow_right (by omega) (by omega)
    omega

theorem div_le_self' {a b : Int} (ha : 0 ≤ a) (hb : 0 < b) : 0 ≤ a / b ∧ a / b ≤ a := ⟨Int.ediv_nonneg ha (by omega), Int.ediv_le_self b ha⟩

theorem rng_both {ρ : Env} {pc : PC} (hp : pcOk ρ pc) (e : E) : (∀ r, rng pc e = some r → In r (e.den ρ)) ∧ (∀ r, rngL pc e = some r → ∀ n, In r ((e.denL ρ).getD n 0)) := by
  induction e with
  | lit n => exact ⟨fun r h => by simp only [rng] at h; cases h; exact ⟨Int.le_refl _, Int.le_refl _⟩, fun r h n => by simp only [rngL] at h; cases h; simp [In, E.denL]⟩
  | var i => exact ⟨fun r h => by simp only [rng] at h; exact look_sound hp h, fun r h n => by simp only [rngL] at h; cases h; simp [In, E.denL]⟩
  | add a b iha ihb =>
    refine ⟨?_, fun r h n => by simp only [rngL] at h; cases h; simp [In, E.denL]⟩
    simp only [rng]
    refine lk_sound hp (two_sound iha.1 ihb.1 fun x y r hx hy h => ?_)
    cases h; simp only [In, E.den] at *; omega
  | sub a b iha ihb =>
    refine ⟨?_, fun r h n => by simp only [rngL] at h; cases h; simp [In, E.denL]⟩
    simp only [rng]
    refine lk_sound hp (two_sound iha.1 ihb.1 fun x y r hx hy h => ?_)
    cases h; simp only [In, E.den] at *; omega
  | mul a b iha ihb =>
    refine ⟨?_, fun r h n => by simp only [rngL] at h; cases h; simp [In, E.denL]⟩
    simp only [rng]
    refine lk_sound hp (two_sound iha.1 ihb.1 fun x y r hx hy h => ?_)
    split at h
    · rename_i hc
      cases h; simp only [In, E.den, Bool.and_eq_true, decide_eq_true_eq] at *
      exact ⟨Int.mul_le_mul hx.1 hy.1 hc.2 (by omega), Int.mul_le_mul hx.2 hy.2 (by omega) (by omega)⟩
    · cases h
  | div a b iha ihb =>
    refine ⟨?_, fun r h n => by simp only [rngL] at h; cases h; simp [In, E.denL]⟩
    simp only [rng]
    refine lk_sound hp (two_sound iha.1 ihb.1 fun x y r hx hy h => ?_)
    split at h
    · rename_i hc
      cases h; simp only [In, E.den, Bool.and_eq_true, decide_eq_true_eq] at *
      have e : b.den ρ = y.1 := by omega
      rw [e]
      exact ⟨Int.ediv_le_ediv hc.2 hx.1, Int.ediv_le_ediv hc.2 hx.2⟩
    · split at h
      · rename_i hc
        cases h; simp only [In, E.den, Bool.and_eq_true, decide_eq_true_eq] at *
        have := div_le_self' (a := a.den ρ) (b := b.den ρ) (by omega) (by omega)
        omega
      · cases h
  | mod a b iha ihb =>
    refine ⟨?_, fun r h n => by simp only [rngL] at h; cases h; simp [In, E.denL]⟩
    simp only [rng]
    refine lk_sound hp (two_sound iha.1 ihb.1 fun x y r hx hy h => ?_)
    split at h
    · rename_i hc
      simp only [In, E.den, Bool.and_eq_true, decide_eq_true_eq] at *
      split at h
      · rename_i hd
        cases h
        have e1 : a.den ρ = x.1 := by omega
        have e2 : b.den ρ = y.1 := by omega
        rw [e1, e2]; exact ⟨Int.le_refl _, Int.le_refl _⟩
      split at h
      · rename_i hd
        cases h
        rw [Int.emod_eq_of_lt (by omega) (by omega)]; exact hx
      · cases h
        have h1 := Int.emod_nonneg (a.den ρ) (b := b.den ρ) (by omega)
        have h2 := Int.emod_lt_of_pos (a.den ρ) (b := b.den ρ) (by omega)
        simp only; omega
    · cases h
  | quo a b _ _ => exact ⟨fun r h => by simp only [rng] at h; exact look_sound hp h, fun r h n => by simp only [rngL] at h; cases h; simp [In, E.denL]⟩
  | rem a b _ _ => exact ⟨fun r h => by simp only [rng] at h; exact look_sound hp h, fun r h n => by simp only [rngL] at h; cases h; simp [In, E.denL]⟩
  | wrap k a iha =>
    refine ⟨?_, fun r h n => by simp only [rngL] at h; cases h; simp [In, E.denL]⟩
    simp only [rng]
    refine lk_sound hp fun r h => ?_
    have hb := wrap_bd k (a.den ρ)
    split at h
    · rename_i x hx
      split at h
      · rename_i hk
        cases h
        have hi := iha.1 _ hx
        simp only [inK, Bool.and_eq_true, decide_eq_true_eq] at hk
        simp only [In, E.den] at *
        rw [wrap_in k _ (by omega) (by omega)]; exact hi
      · cases h; exact hb
    · cases h; exact hb
  | pow k a iha =>
    refine ⟨?_, fun r h n => by simp only [rngL] at h; cases h; simp [In, E.denL]⟩
    simp only [rng]
    refine lk_sound hp fun r h => ?_
    have hb := pow2_bd k (a.den ρ)
    split at h
    · rename_i x hx
      split at h
      · rename_i hk
        cases h
        have hi := iha.1 _ hx
        simp only [decide_eq_true_eq] at hk
        simp only [In, E.den] at *
        have e : a.den ρ = x.1 := by omega
        rw [e]; exact ⟨Int.le_refl _, Int.le_refl _⟩
      · cases h; exact hb
    · cases h; exact hb
  | bit op k a b iha ihb =>
    refine ⟨?_, fun r h n => by simp only [rngL] at h; cases h; simp [In, E.denL]⟩
    simp only [rng]
    refine lk_sound hp fun r h => ?_
    have hw : In (kmin k, kmax k) ((E.bit op k a b).den ρ) := by
      simp only [In, E.den, bits]
      exact wrap_bd _ _
    split at h
    · rename_i x y hx hy
      have ha := iha.1 _ hx; have hb := ihb.1 _ hy
      split at h
      · rename_i hd
        cases h
        simp only [In, E.den, Bool.and_eq_true, decide_eq_true_eq] at *
        have e1 : a.den ρ = x.1 := by omega
        have e2 : b.den ρ = y.1 := by omega
        rw [e1, e2]; exact ⟨Int.le_refl _, Int.le_refl _⟩
      · cases h; exact hw
    · cases h; exact hw
  | land a b iha ihb =>
    refine ⟨?_, fun r h n => by simp only [rngL] at h; cases h; simp [In, E.denL]⟩
    simp only [rng]
    refine lk_sound hp fun r h => ?_
    have h1 : (a.den ρ).toNat &&& (b.den ρ).toNat ≤ (a.den ρ).toNat := Nat.and_le_left
    have h2 : (a.den ρ).toNat &&& (b.den ρ).toNat ≤ (b.den ρ).toNat := Nat.and_le_right
    split at h
    · rename_i x y hx hy
      have ha := iha.1 _ hx; have hb := ihb.1 _ hy
      split at h
      · rename_i hd
        cases h
        simp only [In, E.den, Bool.and_eq_true, decide_eq_true_eq] at *
        have e1 : a.den ρ = x.1 := by omega
        have e2 : b.den ρ = y.1 := by omega
        rw [e1, e2]; exact ⟨Int.le_refl _, Int.le_refl _⟩
      · cases h
        simp only [In, E.den] at *; omega
    · rename_i x hx _
      cases h
      have ha := iha.1 _ hx
      simp only [In, E.den] at *; omega
    · rename_i y _ hy
      cases h
      have hb := ihb.1 _ hy
      simp only [In, E.den] at *; omega
    · cases h
  | lor a b iha ihb =>
    refine ⟨?_, fun r h n => by simp only [rngL] at h; cases h; simp [In, E.denL]⟩
    simp only [rng]
    refine lk_sound hp (two_sound iha.1 ihb.1 fun x y r hx hy h => ?_)
    split at h
    · rename_i hd
      cases h
      simp only [In, E.den, Bool.and_eq_true, decide_eq_true_eq] at *
      have e1 : a.den ρ = x.1 := by omega
      have e2 : b.den ρ = y.1 := by omega
      rw [e1, e2]; exact ⟨Int.le_refl _, Int.le_refl _⟩
    · cases h
      simp only [In, E.den, mask] at *
      have h1 := le_mask (a.den ρ) (max x.2 y.2) (by omega)
      have h2 := le_mask (b.den ρ) (max x.2 y.2) (by omega)
      have h3 := Nat.or_lt_two_pow h1 h2
      omega
  | lxor a b iha ihb =>
    refine ⟨?_, fun r h n => by simp only [rngL] at h; cases h; simp [In, E.denL]⟩
    simp only [rng]
    refine lk_sound hp (two_sound iha.1 ihb.1 fun x y r hx hy h => ?_)
    split at h
    · rename_i hd
      cases h
      simp only [In, E.den, Bool.and_eq_true, decide_eq_true_eq] at *
      have e1 : a.den ρ = x.1 := by omega
      have e2 : b.den ρ = y.1 := by omega
      rw [e1, e2]; exact ⟨Int.le_refl _, Int.le_refl _⟩
    · cases h
      simp only [In, E.den, mask] at *
      have h1 := le_mask (a.den ρ) (max x.2 y.2) (by omega)
      have h2 := le_mask (b.den ρ) (max x.2 y.2) (by omega)
      have h3 := Nat.xor_lt_two_pow h1 h2
      omega
  | eq a b iha ihb =>
    refine ⟨?_, fun r h n => by simp only [rngL] at h; cases h; simp [In, E.denL]⟩
    simp only [rng]
    refine lk_sound hp fun r h => ?_
    have ht := truth_in (decide (a.den ρ = b.den ρ))
    split at h
    · rename_i hb
      cases h
      rw [E.beq_eq hb]; simp [In, E.den, truth]
    · split at h
      · rename_i x y hx hy
        have ha := iha.1 _ hx; have hb := ihb.1 _ hy
        simp only [In, E.den] at *
        split at h
        · rename_i hc
          cases h
          have : ¬ (a.den ρ = b.den ρ) := by simp at hc; omega
          simp [truth, this]
        · split at h
          · rename_i hc
            cases h
            have : a.den ρ = b.den ρ := by simp at hc; omega
            simp [truth, this]
          · cases h; exact ht
      · cases h; exact ht
  | lt a b iha ihb =>
    refine ⟨?_, fun r h n => by simp only [rngL] at h; cases h; simp [In, E.denL]⟩
    simp only [rng]
    refine lk_sound hp fun r h => ?_
    have ht := truth_in (decide (a.den ρ < b.den ρ))
    split at h
    · rename_i x y hx hy
      have ha := iha.1 _ hx; have hb := ihb.1 _ hy
      simp only [In, E.den] at *
      split at h
      · rename_i hc
        cases h
        have : a.den ρ < b.den ρ := by simp at hc; omega
        simp [truth, this]
      · split at h
        · rename_i hc
          cases h
          have : ¬ (a.den ρ < b.den ρ) := by simp at hc; omega
          simp [truth, this]
        · cases h; exact ht
    · cases h; exact ht
  | le a b iha ihb =>
    refine ⟨?_, fun r h n => by simp only [rngL] at h; cases h; simp [In, E.denL]⟩
    simp only [rng]
    refine lk_sound hp fun r h => ?_
    have ht := truth_in (decide (a.den ρ ≤ b.den ρ))
    split at h
    · rename_i x y hx hy
      have ha := iha.1 _ hx; have hb := ihb.1 _ hy
      simp only [In, E.den] at *
      split at h
      · rename_i hc
        cases h
        have : a.den ρ ≤ b.den ρ := by simp at hc; omega
        simp [truth, this]
      · split at h
        · rename_i hc
          cases h
          have : ¬ (a.den ρ ≤ b.den ρ) := by simp at hc; omega
          simp [truth, this]
        · cases h; exact ht
    · cases h; exact ht
  | not a iha =>
    refine ⟨?_, fun r h n => by simp only [rngL] at h; cases h; simp [In, E.denL]⟩
    simp only [rng]
    refine lk_sound hp fun r h => ?_
    have ht := truth_in (decide (a.den ρ = 0))
    split at h
    · rename_i x hx
      have ha := iha.1 _ hx
      simp only [In, E.den] at *
      split at h
      · rename_i hc
        cases h
        have : ¬ (a.den ρ = 0) := by simp at hc; omega
        simp [truth, this]
      · split at h
        · rename_i hc
          cases h
          have : a.den ρ = 0 := by simp at hc; omega
          simp [truth, this]
        · cases h; exact ht
    · cases h; exact ht
  | ite c a b ihc iha ihb =>
    refine ⟨?_, fun r h n => by simp only [rngL] at h; cases h; simp [In, E.denL]⟩
    simp only [rng]
    refine lk_sound hp fun r h => ?_
    have hh : ∀ r, hull (rng pc a) (rng pc b) = some r → In r ((E.ite c a b).den ρ) := by
      refine hull_sound ?_
      simp only [E.den]
      by_cases h0 : c.den ρ = 0
      · rw [if_pos h0]; exact .inr ihb.1
      · rw [if_neg h0]; exact .inl iha.1
    split at h
    · rename_i x hx
      have hc := ihc.1 _ hx
      split at h
      · rename_i hd
        have : ¬ (c.den ρ = 0) := by simp [In] at hc hd; omega
        simp only [E.den, if_neg this]; exact iha.1 _ h
      · split at h
        · rename_i hd
          have : c.den ρ = 0 := by simp [In] at hc hd; omega
          simp only [E.den, if_pos this]; exact ihb.1 _ h
        · exact hh _ h
    · exact hh _ h
  | sel i l _ ihl =>
    refine ⟨?_, fun r h n => by simp only [rngL] at h; cases h; simp [In, E.denL]⟩
    simp only [rng]
    refine lk_sound hp fun r h => ?_
    simp only [E.den]
    exact ihl.2 r h _
  | ap f l _ => exact ⟨fun r h => by simp only [rng] at h; exact look_sound hp h, fun r h n => by simp only [rngL] at h; cases h; simp [In, E.denL]⟩
  | nil => exact ⟨fun r h => (by simp only [rng] at h; cases h), fun r h n => by simp only [rngL] at h; cases h; simp [In, E.denL]⟩
  | cons a l iha ihl =>
    refine ⟨fun r h => (by simp only [rng] at h; cases h), fun r h n => ?_⟩
    simp only [rngL] at h
    simp only [E.denL]
    cases n with
    | zero => exact hull_sound (.inl (by simpa using iha.1)) r h
    | succ n => exact hull_sound (.inr (fun r hr => by simpa using ihl.2 r hr n)) r h

theorem rng_sound {ρ : Env} {pc : PC} (hp : pcOk ρ pc) {e : E} {r : Int × Int} (h : rng pc e = some r) : r.1 ≤ e.den ρ ∧ e.den ρ ≤ r.2 := (rng_both hp e).1 r h

theorem truth_congr {p q : Prop} [Decidable p] [Decidable q] (h : p ↔ q) : truth (decide p) = truth (decide q) := by
  by_cases hp : p
  · simp [truth, hp, h.1 hp]
  · have hq : ¬ q := fun hq => hp (h.2 hq)
    simp [truth, hp, hq]
/-! ### terms that are laid simply -/
/-- a number, where the bounds leave but one -/
def fin (pc : PC) (e : E) : E := match rng pc e with
  | some x => if decide (x.1 = x.2) then .lit x.1 else e
  | none => e
theorem fin_den {ρ : Env} {pc : PC} (hp : pcOk ρ pc) (e : E) : (fin pc e).den ρ = e.den ρ := by
  unfold fin
  split
  · rename_i x hx
    have := rng_sound hp hx
    split
    · rename_i h; simp at h; simp only [E.den]; omega
    · rfl
  · rfl

def isLit (n : Int) : E → Bool
  | .lit m => decide (m = n)
  | _ => false
theorem isLit_den {ρ : Env} {n : Int} {e : E} (h : isLit n e = true) : e.den ρ = n := by
  cases e <;> simp [isLit] at h
  simpa [E.den] using h
/-- two numbers -/
def lits (a b : E) : Option (Int × Int) := match a with
  | .lit m => (match b with
    | .lit n => some (m, n)
    | _ => none)
  | _ => none
theorem lits_den {ρ : Env} {a b : E} {x : Int × Int} (h : lits a b = some x) : a.den ρ = x.1 ∧ b.den ρ = x.2 := by
  unfold lits at h
  split at h
  · split at h
    · cases h; exact ⟨rfl, rfl⟩
    · cases h
  · cases h
def mkAdd (pc : PC) (a b : E) : E := match lits a b with
  | some x => .lit (x.1 + x.2)
  | none => if isLit 0 a then b else if isLit 0 b then a else fin pc (.add a b)
def mkSub (pc : PC) (a b : E) : E := match lits a b with
  | some x => .lit (x.1 - x.2)
  | none => if isLit 0 b then a else fin pc (.sub a b)
def mkMul (pc : PC) (a b : E) : E := match lits a b with
  | some x => .lit (x.1 * x.2)
  | none => if isLit 1 a then b else if isLit 1 b then a else fin pc (.mul a b)
def mkWrap (pc : PC) (k : IntKind) (a : E) : E := match a with
  | .lit n => .lit (k.wrap n)
  | _ => (match rng pc a with
    | some x => if inK k x then a else .wrap k a
    | none => .wrap k a)
/-- comparisons, the number on the right -/
def mkEq (pc : PC) (a b : E) : E := match lits a b with
  | some x => .lit (truth (decide (x.1 = x.2)))
  | none => (match a with
    | .lit _ => fin pc (.eq b a)
    | _ => fin pc (.eq a b))
def mkLe (pc : PC) (a b : E) : E := match lits a b with
  | some x => .lit (truth (decide (x.1 ≤ x.2)))
  | none => fin pc (.le a b)
def mkLt (pc : PC) (a b : E) : E := match b with
  | .lit n => mkLe pc a (.lit (n - 1))
  | _ => (match a with
    | .lit n => mkLe pc (.lit (n + 1)) b
    | _ => fin pc (.lt a b))
def mkQuo (pc : PC) (a b : E) : E := match rng pc a, rng pc b with
  | some x, some y => if decide (0 ≤ x.1) && decide (0 < y.1) then (if isLit 1 b then a else fin pc (.div a b)) else .quo a b
  | _, _ => .quo a b
def mkRem (pc : PC) (a b : E) : E := match rng pc a, rng pc b with
  | some x, some y => if decide (0 ≤ x.1) && decide (0 < y.1) then (if decide (x.2 < y.1) then a else fin pc (.mod a b)) else .rem a b
  | _, _ => .rem a b
/-- an unsigned word's (or a number's that is not below 0) bits -/
def mkBit (pc : PC) (op : BinOp) (k : IntKind) (a b : E) : E := match rng pc a, rng pc b with
  | some x, some y => if decide (0 ≤ x.1) && decide (0 ≤ y.1) && decide (x.2 ≤ kmax k) && decide (y.2 ≤ kmax k) then (match op with
      | .and => fin pc (.land a b)
      | .or => if isLit 0 a then b else if isLit 0 b then a else fin pc (.lor a b)
      | .xor => fin pc (.lxor a b)
      | .andNot => fin pc (.sub a (.land a b))
      | _ => .bit op k a b) else .bit op k a b
  | _, _ => .bit op k a b
def mkNot (pc : PC) (a : E) : E := match a with
  | .not b => (match rng pc b with
      | some x => if decide (0 ≤ x.1) && decide (x.2 ≤ 1) then b else fin pc (.not a)
      | none => fin pc (.not a))
  | _ => fin pc (.not a)
def mkIte (pc : PC) (c a b : E) : E := if a.beq b then a else fin pc (.ite c a b)

section
variable {ρ : Env} {pc : PC} (hp : pcOk ρ pc)
include hp
theorem mkAdd_den (a b : E) : (mkAdd pc a b).den ρ = a.den ρ + b.den ρ := by
  unfold mkAdd
  split
  · rename_i x h; obtain ⟨h1, h2⟩ := lits_den (ρ := ρ) h; rw [h1, h2]; rfl
  split
  · rename_i h; rw [isLit_den h]; omega
  split
  · rename_i h; rw [isLit_den h]; omega
  rw [fin_den hp]; rfl
theorem mkSub_den (a b : E) : (mkSub pc a b).den ρ = a.den ρ - b.den ρ := by
  unfold mkSub
  split
  · rename_i x h; obtain ⟨h1, h2⟩ := lits_den (ρ := ρ) h; rw [h1, h2]; rfl
  split
  · rename_i h; rw [isLit_den h]; omega
  rw [fin_den hp]; rfl
theorem mkMul_den (a b : E) : (mkMul pc a b).den ρ = a.den ρ * b.den ρ := by
  unfold mkMul
  split
  · rename_i x h; obtain ⟨h1, h2⟩ := lits_den (ρ := ρ) h; rw [h1, h2]; rfl
  split
  · rename_i h; rw [isLit_den h]; omega
  split
  · rename_i h; rw [isLit_den h]; omega
  rw [fin_den hp]; rfl
theorem mkWrap_den (k : IntKind) (a : E) : (mkWrap pc k a).den ρ = k.wrap (a.den ρ) := by
  unfold mkWrap
  split
  · rfl
  split
  · rename_i x hx
    have := rng_sound hp hx
    split
    · rename_i h
      simp only [inK, Bool.and_eq_true, decide_eq_true_eq] at h
      exact (wrap_in k _ (by omega) (by omega)).symm
    · rfl
  · rfl
theorem mkEq_den (a b : E) : (mkEq pc a b).den ρ = truth (decide (a.den ρ = b.den ρ)) := by
  unfold mkEq
  split
  · rename_i x h; obtain ⟨h1, h2⟩ := lits_den (ρ := ρ) h; rw [h1, h2]; rfl
  split
  · rw [fin_den hp]; exact truth_congr eq_comm
  · rw [fin_den hp]; rfl
theorem mkLe_den (a b : E) : (mkLe pc a b).den ρ = truth (decide (a.den ρ ≤ b.den ρ)) := by
  unfold mkLe
  split
  · rename_i x h; obtain ⟨h1, h2⟩ := lits_den (ρ := ρ) h; rw [h1, h2]; rfl
  · rw [fin_den hp]; rfl
theorem mkLt_den (a b : E) : (mkLt pc a b).den ρ = truth (decide (a.den ρ < b.den ρ)) := by
  unfold mkLt
  split
  · rw [mkLe_den hp]; exact truth_congr (by simp only [E.den]; omega)
  split
  · rw [mkLe_den hp]; exact truth_congr (by simp only [E.den]; omega)
  · rw [fin_den hp]; rfl
theorem mkQuo_den (a b : E) : (mkQuo pc a b).den ρ = (a.den ρ).tdiv (b.den ρ) := by
  unfold mkQuo
  split
  · rename_i x y hx hy
    have h1 := rng_sound hp hx
    have h2 := rng_sound hp hy
    split
    · rename_i h
      simp only [Bool.and_eq_true, decide_eq_true_eq] at h
      rw [Int.tdiv_eq_ediv_of_nonneg (by omega)]
      split
      · rename_i h'; rw [isLit_den h']; simp
      · rw [fin_den hp]; rfl
    · rfl
  · rfl
theorem mkRem_den (a b : E) : (mkRem pc a b).den ρ = (a.den ρ).tmod (b.den ρ) := by
  unfold mkRem
  split
  · rename_i x y hx hy
    have h1 := rng_sound hp hx
    have h2 := rng_sound hp hy
    split
    · rename_i h
      simp only [Bool.and_eq_true, decide_eq_true_eq] at h
      rw [Int.tmod_eq_emod_of_nonneg (by omega)]
      split
      · rename_i h'; simp at h'; rw [Int.emod_eq_of_lt (by omega) (by omega)]
      · rw [fin_den hp]; rfl
    · rfl
  · rfl
omit hp in
theorem bits_low (op : BinOp) (k : IntKind) (x y : Int) (hx : 0 ≤ x) (hy : 0 ≤ y) (hx1 : x ≤ kmax k) (hy1 : y ≤ kmax k) :
    bits .and k x y = ((x.toNat &&& y.toNat : Nat) : Int) ∧ bits .or k x y = ((x.toNat ||| y.toNat : Nat) : Int) ∧ bits .xor k x y = ((x.toNat ^^^ y.toNat : Nat) : Int) ∧ bits .andNot k x y = x - ((x.toNat &&& y.toNat : Nat) : Int) := by
  obtain ⟨m, rfl⟩ : ∃ m : Nat, x = m := ⟨x.toNat, by omega⟩
  obtain ⟨n, rfl⟩ : ∃ n : Nat, y = n := ⟨y.toNat, by omega⟩
  have hk : kmax k < ((2 ^ k.bits : Nat) : Int) := by cases k <;> simp [kmax, IntKind.signed, IntKind.bits]
  have hkm : kmin k ≤ 0 := by cases k <;> simp [kmin, IntKind.signed, IntKind.bits]
  have hm : m < 2 ^ k.bits := by omega
  have hn : n < 2 ^ k.bits := by omega
  have ea : (BitVec.ofInt k.bits (m : Int)).toNat = m := by rw [BitVec.ofInt_natCast, BitVec.toNat_ofNat, Nat.mod_eq_of_lt hm]
  have eb : (BitVec.ofInt k.bits (n : Int)).toNat = n := by rw [BitVec.ofInt_natCast, BitVec.toNat_ofNat, Nat.mod_eq_of_lt hn]
  obtain ⟨j, hj⟩ : ∃ j, kmax k = ((2 ^ j : Nat) : Int) - 1 := by
    cases k
    · exact ⟨7, by decide⟩
    · exact ⟨15, by decide⟩
    · exact ⟨31, by decide⟩
    · exact ⟨63, by decide⟩
    · exact ⟨8, by decide⟩
    · exact ⟨16, by decide⟩
    · exact ⟨32, by decide⟩
    · exact ⟨64, by decide⟩
  have hmj : m < 2 ^ j := by omega
  have hnj : n < 2 ^ j := by omega
  have h1 := Nat.and_le_left (n := m) (m := n)
  have h2 := Nat.or_lt_two_pow hmj hnj
  have h3 := Nat.xor_lt_two_pow hmj hnj
  refine ⟨?_, ?_, ?_, ?_⟩
  · simp only [bits, BitVec.toNat_and, ea, eb, Int.toNat_natCast]
    exact wrap_in k _ (by omega) (by omega)
  · simp only [bits, BitVec.toNat_or, ea, eb, Int.toNat_natCast]
    exact wrap_in k _ (by omega) (by omega)
  · simp only [bits, BitVec.toNat_xor, ea, eb, Int.toNat_natCast]
    exact wrap_in k _ (by omega) (by omega)
  · have e : (BitVec.ofInt k.bits (m : Int) &&& ~~~ BitVec.ofInt k.bits (n : Int)).toNat = m - (m &&& n) := by
      have d1 : (BitVec.ofInt k.bits (m : Int) &&& BitVec.ofInt k.bits (n : Int)) &&& (BitVec.ofInt k.bits (m : Int) &&& ~~~ BitVec.ofInt k.bits (n : Int)) = 0#k.bits := by
        ext i hi
        simp only [BitVec.getElem_and, BitVec.getElem_not, BitVec.getElem_zero]
        cases (BitVec.ofInt k.bits (m : Int))[i] <;> cases (BitVec.ofInt k.bits (n : Int))[i] <;> rfl
      have d2 : (BitVec.ofInt k.bits (m : Int) &&& BitVec.ofInt k.bits (n : Int)) ||| (BitVec.ofInt k.bits (m : Int) &&& ~~~ BitVec.ofInt k.bits (n : Int)) = BitVec.ofInt k.bits (m : Int) := by
        ext i hi
        simp only [BitVec.getElem_or, BitVec.getElem_and, BitVec.getElem_not]
        cases (BitVec.ofInt k.bits (m : Int))[i] <;> cases (BitVec.ofInt k.bits (n : Int))[i] <;> rfl
      have d3 := BitVec.toNat_add_of_and_eq_zero d1
      rw [BitVec.add_eq_or_of_and_eq_zero _ _ d1, d2, BitVec.toNat_and, ea, eb] at d3
      omega
    simp only [bits, e, Int.toNat_natCast]
    rw [wrap_in k _ (by omega) (by omega)]
    omega
theorem mkBit_den (op : BinOp) (k : IntKind) (a b : E) : (mkBit pc op k a b).den ρ = bits op k (a.den ρ) (b.den ρ) := by
  unfold mkBit
  split
  · rename_i x y hx hy
    have h1 := rng_sound hp hx
    have h2 := rng_sound hp hy
    split
    · rename_i h
      simp only [Bool.and_eq_true, decide_eq_true_eq] at h
      obtain ⟨e1, e2, e3, e4⟩ := bits_low op k (a.den ρ) (b.den ρ) (by omega) (by omega) (by omega) (by omega)
      split
      · rw [fin_den hp, e1]; rfl
      · rw [e2]
        split
        · rename_i h'; rw [isLit_den h']; simp; omega
        split
        · rename_i h'; rw [isLit_den h']; simp; omega
        rw [fin_den hp]; rfl
      · rw [fin_den hp, e3]; rfl
      · rw [fin_den hp, e4]; rfl
      · rfl
    · rfl
  · rfl
theorem mkNot_den (a : E) : (mkNot pc a).den ρ = truth (decide (a.den ρ = 0)) := by
  unfold mkNot
  split
  · rename_i b
    split
    · rename_i x hx
      split
      · rename_i h
        have := rng_sound hp hx
        simp only [Bool.and_eq_true, decide_eq_true_eq] at h
        have hb : b.den ρ = 0 ∨ b.den ρ = 1 := by omega
        simp only [E.den]
        rcases hb with hb | hb <;> simp [hb, truth]
      · rw [fin_den hp]; rfl
    · rw [fin_den hp]; rfl
  · rw [fin_den hp]; rfl
theorem mkIte_den (c a b : E) : (mkIte pc c a b).den ρ = if c.den ρ = 0 then b.den ρ else a.den ρ := by
  unfold mkIte
  split
  · rename_i h; rw [E.beq_eq h]; simp
  · rw [fin_den hp]; rfl
end

/-! ### what an assumed truth tells -/
def meet (x y : Int × Int) : Int × Int := (max x.1 y.1, min x.2 y.2)
def fact1 (a : E) (x : Int × Int) : FL := match a with
  | .lit n => if decide (x.1 ≤ n) && decide (n ≤ x.2) then [] else [(a, 1, 0)]
  | _ => [(a, x)]
def factsEq (x y : Option (Int × Int)) (a b : E) : FL := match x, y with
  | some x, some y => fact1 a (meet x y) ++ fact1 b (meet x y)
  | some x, none => fact1 b x
  | none, some y => fact1 a y
  | none, none => []
def factsNe (x y : Option (Int × Int)) (a b : E) : FL := match x, y with
  | some x, some y => (if decide (y.1 = y.2) then (if decide (x.1 = y.1) then fact1 a (x.1 + 1, x.2) else if decide (x.2 = y.1) then fact1 a (x.1, x.2 - 1) else []) else []) ++
      (if decide (x.1 = x.2) then (if decide (y.1 = x.1) then fact1 b (y.1 + 1, y.2) else if decide (y.2 = x.1) then fact1 b (y.1, y.2 - 1) else []) else [])
  | _, _ => []
/-- a + d ≤ b -/
def factsLe (x y : Option (Int × Int)) (d : Int) (a b : E) : FL := match x, y with
  | some x, some y => fact1 a (x.1, min x.2 (y.2 - d)) ++ fact1 b (max y.1 (x.1 + d), y.2)
  | _, _ => []
def base (pc : PC) (e : E) (v : Bool) : FL := match rng pc e, v with
  | _, false => [(e, 0, 0)]
  | some x, true => if decide (x.1 = 0) then [(e, 1, x.2)] else []
  | none, true => []
def facts (pc : PC) : E → Bool → FL
  | .not a, v => base pc (.not a) v ++ facts pc a (!v)
  | .eq a b, true => base pc (.eq a b) true ++ factsEq (rng pc a) (rng pc b) a b
  | .eq a b, false => base pc (.eq a b) false ++ factsNe (rng pc a) (rng pc b) a b
  | .lt a b, true => base pc (.lt a b) true ++ factsLe (rng pc a) (rng pc b) 1 a b
  | .lt a b, false => base pc (.lt a b) false ++ factsLe (rng pc b) (rng pc a) 0 b a
  | .le a b, true => base pc (.le a b) true ++ factsLe (rng pc a) (rng pc b) 0 a b
  | .le a b, false => base pc (.le a b) false ++ factsLe (rng pc b) (rng pc a) 1 b a
  | .ite c a b, v => base pc (.ite c a b) v ++ ((if v && isLit 0 b then facts pc c true ++ facts pc a true else []) ++ (if !v && isLit 1 a then facts pc c false ++ facts pc b false else []))
  | e, v => base pc e v
/-- bounds without what is known not to be -/
def tight (pc : PC) (e : E) : Nat → Int × Int → Int × Int
  | 0, r => r
  | n + 1, r => match look pc (.eq e (.lit r.1)) with
    | some q => if decide (q.1 = 0) && decide (q.2 = 0) then tight pc e n (r.1 + 1, r.2) else r
    | none => match look pc (.eq e (.lit r.2)) with
      | some q => if decide (q.1 = 0) && decide (q.2 = 0) then tight pc e n (r.1, r.2 - 1) else r
      | none => r
def tightAll (pc : PC) (l : FL) : FL := l.map fun f => match f.1 with
  | .var _ => (f.1, tight pc f.1 4 f.2)
  | .ap _ _ => (f.1, tight pc f.1 4 f.2)
  | _ => f

def good (pc : FL) : Bool := pc.all fun f => decide (f.2.1 ≤ f.2.2)
def assume (pc : PC) (e : E) (v : Bool) : Option PC := let l := tightAll pc (facts pc e v); if good l then some (addAll l pc) else none

theorem flOk_append {ρ : Env} {p q : FL} (hp : flOk ρ p) (hq : flOk ρ q) : flOk ρ (p ++ q) := fun f hf => by
  rcases List.mem_append.1 hf with h | h
  · exact hp f h
  · exact hq f h
theorem flOk_one {ρ : Env} {e : E} {x : Int × Int} (h : x.1 ≤ e.den ρ ∧ e.den ρ ≤ x.2) : flOk ρ [(e, x)] := fun f hf => by
  rw [List.mem_singleton] at hf; subst hf; exact h
theorem flOk_nil {ρ : Env} : flOk ρ [] := fun f hf => by cases hf
theorem fact1_ok {ρ : Env} {a : E} {x : Int × Int} (h : x.1 ≤ a.den ρ ∧ a.den ρ ≤ x.2) : flOk ρ (fact1 a x) := by
  unfold fact1
  split
  · rename_i n
    simp only [E.den] at h
    rw [if_pos (by simp; omega)]; exact flOk_nil
  · exact flOk_one h
theorem good_of_ok {ρ : Env} {p : FL} (hp : flOk ρ p) : good p = true := by
  unfold good
  rw [List.all_eq_true]
  intro f hf
  have := hp f hf
  simp; omega

section
variable {ρ : Env} {pc : PC}
theorem base_ok (hp : pcOk ρ pc) (e : E) (v : Bool) (h : (e.den ρ ≠ 0) ↔ v = true) : flOk ρ (base pc e v) := by
  unfold base
  split
  · have : e.den ρ = 0 := by simpa using h
    exact flOk_one (by simp; omega)
  · rename_i x hx
    have := rng_sound hp hx
    split
    · rename_i h0
      have : e.den ρ ≠ 0 := by simpa using h
      simp at h0
      exact flOk_one (by simp; omega)
    · exact flOk_nil
  · exact flOk_nil
theorem rr (hp : pcOk ρ pc) (e : E) : ∀ r, rng pc e = some r → In r (e.den ρ) := (rng_both hp e).1
theorem factsEq_ok {x y : Option (Int × Int)} {a b : E} (hx : ∀ r, x = some r → In r (a.den ρ)) (hy : ∀ r, y = some r → In r (b.den ρ)) (h : a.den ρ = b.den ρ) : flOk ρ (factsEq x y a b) := by
  unfold factsEq
  split
  · have h1 := hx _ rfl; have h2 := hy _ rfl
    unfold In at *
    exact flOk_append (fact1_ok (by simp [meet]; omega)) (fact1_ok (by simp [meet]; omega))
  · have h1 := hx _ rfl; unfold In at *; exact fact1_ok (by omega)
  · have h2 := hy _ rfl; unfold In at *; exact fact1_ok (by omega)
  · exact flOk_nil
theorem factsNe_ok {x y : Option (Int × Int)} {a b : E} (hx : ∀ r, x = some r → In r (a.den ρ)) (hy : ∀ r, y = some r → In r (b.den ρ)) (h : a.den ρ ≠ b.den ρ) : flOk ρ (factsNe x y a b) := by
  unfold factsNe
  split
  · have h1 := hx _ rfl; have h2 := hy _ rfl
    unfold In at *
    refine flOk_append ?_ ?_
    · split
      · rename_i hc
        simp at hc
        split
        · rename_i hd; simp at hd; exact fact1_ok (by simp; omega)
        · split
          · rename_i hd; simp at hd; exact fact1_ok (by simp; omega)
          · exact flOk_nil
      · exact flOk_nil
    · split
      · rename_i hc
        simp at hc
        split
        · rename_i hd; simp at hd; exact fact1_ok (by simp; omega)
        · split
          · rename_i hd; simp at hd; exact fact1_ok (by simp; omega)
          · exact flOk_nil
      · exact flOk_nil
  · exact flOk_nil
theorem factsLe_ok {x y : Option (Int × Int)} {d : Int} {a b : E} (hx : ∀ r, x = some r → In r (a.den ρ)) (hy : ∀ r, y = some r → In r (b.den ρ)) (h : a.den ρ + d ≤ b.den ρ) : flOk ρ (factsLe x y d a b) := by
  unfold factsLe
  split
  · have h1 := hx _ rfl; have h2 := hy _ rfl
    unfold In at *
    exact flOk_append (fact1_ok (by simp; omega)) (fact1_ok (by simp; omega))
  · exact flOk_nil
theorem truth_ne (b : Bool) : truth b ≠ 0 ↔ b = true := by cases b <;> simp [truth]
theorem facts_ok (hp : pcOk ρ pc) (e : E) : ∀ (v : Bool), ((e.den ρ ≠ 0) ↔ v = true) → flOk ρ (facts pc e v) := by
  induction e with
  | not a iha =>
    intro v h
    unfold facts
    refine flOk_append (base_ok hp _ v h) (iha _ ?_)
    simp only [E.den, truth_ne, decide_eq_true_eq] at h
    cases v <;> simp at h ⊢ <;> exact h
  | eq a b _ _ =>
    intro v h
    have h' := h
    simp only [E.den, truth_ne, decide_eq_true_eq] at h'
    cases v with
    | true => unfold facts; exact flOk_append (base_ok hp _ _ h) (factsEq_ok (rr hp a) (rr hp b) (h'.2 rfl))
    | false => unfold facts; exact flOk_append (base_ok hp _ _ h) (factsNe_ok (rr hp a) (rr hp b) (by simpa using h'))
  | lt a b _ _ =>
    intro v h
    have h' := h
    simp only [E.den, truth_ne, decide_eq_true_eq] at h'
    cases v with
    | true => unfold facts; exact flOk_append (base_ok hp _ _ h) (factsLe_ok (rr hp a) (rr hp b) (by have := h'.2 rfl; omega))
    | false => unfold facts; exact flOk_append (base_ok hp _ _ h) (factsLe_ok (rr hp b) (rr hp a) (by simp at h'; omega))
  | le a b _ _ =>
    intro v h
    have h' := h
    simp only [E.den, truth_ne, decide_eq_true_eq] at h'
    cases v with
    | true => unfold facts; exact flOk_append (base_ok hp _ _ h) (factsLe_ok (rr hp a) (rr hp b) (by have := h'.2 rfl; omega))
    | false => unfold facts; exact flOk_append (base_ok hp _ _ h) (factsLe_ok (rr hp b) (rr hp a) (by simp at h'; omega))
  | ite c a b ihc iha ihb =>
    intro v h
    unfold facts
    refine flOk_append (base_ok hp _ v h) (flOk_append ?_ ?_)
    · split
      · rename_i hd
        simp only [Bool.and_eq_true] at hd
        obtain ⟨rfl, hb⟩ := hd
        have hb' := isLit_den hb (ρ := ρ)
        have h' : (E.ite c a b).den ρ ≠ 0 := h.2 rfl
        simp only [E.den, hb'] at h'
        by_cases h0 : c.den ρ = 0
        · rw [if_pos h0] at h'; exact absurd rfl h'
        · rw [if_neg h0] at h'; exact flOk_append (ihc true (by simp [h0])) (iha true (by simp [h']))
      · exact flOk_nil
    · split
      · rename_i hd
        simp only [Bool.and_eq_true, Bool.not_eq_true'] at hd
        obtain ⟨rfl, ha⟩ := hd
        have ha' := isLit_den ha (ρ := ρ)
        have h' : (E.ite c a b).den ρ = 0 := by simpa using h
        simp only [E.den, ha'] at h'
        by_cases h0 : c.den ρ = 0
        · rw [if_pos h0] at h'; exact flOk_append (ihc false (by simp [h0])) (ihb false (by simp [h']))
        · rw [if_neg h0] at h'; exact absurd h' (by decide)
      · exact flOk_nil
  | _ => intro v h; cases v <;> exact base_ok hp _ _ h
theorem tight_ok (hp : pcOk ρ pc) (e : E) : ∀ n r, (r.1 ≤ e.den ρ ∧ e.den ρ ≤ r.2) → (tight pc e n r).1 ≤ e.den ρ ∧ e.den ρ ≤ (tight pc e n r).2
  | 0, r, h => h
  | n + 1, r, h => by
    have key : ∀ (m : Int) (q : Int × Int), look pc (.eq e (.lit m)) = some q → (decide (q.1 = 0) && decide (q.2 = 0)) = true → e.den ρ ≠ m := by
      intro m q hq hd he
      have := look_sound hp hq
      simp only [In, E.den, he] at this
      simp at hd this
      simp [truth] at this
      omega
    unfold tight
    split
    · rename_i q hq
      split
      · rename_i hd; have := key _ _ hq hd; exact tight_ok hp e n _ ⟨by show r.1 + 1 ≤ _; omega, h.2⟩
      · exact h
    · split
      · rename_i q hq
        split
        · rename_i hd; have := key _ _ hq hd; exact tight_ok hp e n _ ⟨h.1, by show _ ≤ r.2 - 1; omega⟩
        · exact h
      · exact h
theorem tightAll_ok (hp : pcOk ρ pc) {l : FL} (hl : flOk ρ l) : flOk ρ (tightAll pc l) := by
  intro f hf
  obtain ⟨g, hg, rfl⟩ := List.mem_map.1 hf
  have h := hl g hg
  split
  · exact tight_ok hp _ _ _ h
  · exact tight_ok hp _ _ _ h
  · exact h
theorem assume_some (hp : pcOk ρ pc) {e : E} {v : Bool} (h : (e.den ρ ≠ 0) ↔ v = true) : ∃ p, assume pc e v = some p ∧ pcOk ρ p := by
  have hf := tightAll_ok hp (facts_ok hp e v h)
  exact ⟨_, by unfold assume; rw [if_pos (good_of_ok hf)], addAll_ok hf hp⟩
end

end Go.Proofs.YtnbngokbamifbaaGreatDoor.Ev
