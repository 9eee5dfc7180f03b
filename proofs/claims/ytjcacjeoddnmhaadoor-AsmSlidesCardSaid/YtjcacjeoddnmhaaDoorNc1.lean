/- What the laws of this claim are proved with, joined (join.py) of 2 texts: no condition. -/
import Derived.WalkKit
import Derived.Laws.Entries
import Derived.Orders
set_option linter.unusedVariables false
set_option linter.unusedSimpArgs false

/- Terms over integers (a truth is 1 or 0), what they denote, bounds of what they denote, and what a truth that is assumed tells of bounds. No program in sight. -/
namespace Go.Proofs.YtjcacjeoddnmhaaDoor.Ev
open Go

/-- what stands for numbers, for functions that are summed up, for opaque values -/
structure Env where
  v : Nat → Int
  φ : Nat → List Int → Int
  o : Nat → Value

inductive E where
  | lit (n : Int) | var (i : Nat)
  | add (a b : E) | sub (a b : E) | mul (a b : E)
  | div (a b : E) | mod (a b : E) | quo (a b : E) | rem (a b : E)
  | wrap (k : IntKind) (a : E) | pow (k : IntKind) (a : E)
  | bit (op : BinOp) (k : IntKind) (a b : E)
  | land (a b : E) | lor (a b : E) | lxor (a b : E)
  | eq (a b : E) | lt (a b : E) | le (a b : E) | not (a : E)
  | ite (c a b : E) | sel (i l : E) | ap (f : Nat) (l : E) | nil | cons (a l : E)
  deriving Repr, Inhabited

def pow2 (k : IntKind) (n : Int) : Int := ((2 ^ (min n.toNat k.bits) : Nat) : Int)
def truth (b : Bool) : Int := if b then 1 else 0
def tb (n : Int) : Bool := if n = 0 then false else true
@[simp] theorem tb_truth (b : Bool) : tb (truth b) = b := by cases b <;> rfl
theorem tb_iff (n : Int) : tb n = true ↔ n ≠ 0 := by unfold tb; split <;> simp [*]
mutual
def E.den (ρ : Env) : E → Int
  | .lit n => n
  | .var i => ρ.v i
  | .add a b => a.den ρ + b.den ρ
  | .sub a b => a.den ρ - b.den ρ
  | .mul a b => a.den ρ * b.den ρ
  | .div a b => a.den ρ / b.den ρ
  | .mod a b => a.den ρ % b.den ρ
  | .quo a b => (a.den ρ).tdiv (b.den ρ)
  | .rem a b => (a.den ρ).tmod (b.den ρ)
  | .wrap k a => k.wrap (a.den ρ)
  | .pow k a => pow2 k (a.den ρ)
  | .bit op k a b => bits op k (a.den ρ) (b.den ρ)
  | .land a b => (((a.den ρ).toNat &&& (b.den ρ).toNat : Nat) : Int)
  | .lor a b => (((a.den ρ).toNat ||| (b.den ρ).toNat : Nat) : Int)
  | .lxor a b => (((a.den ρ).toNat ^^^ (b.den ρ).toNat : Nat) : Int)
  | .eq a b => truth (decide (a.den ρ = b.den ρ))
  | .lt a b => truth (decide (a.den ρ < b.den ρ))
  | .le a b => truth (decide (a.den ρ ≤ b.den ρ))
  | .not a => truth (decide (a.den ρ = 0))
  | .ite c a b => if c.den ρ = 0 then b.den ρ else a.den ρ
  | .sel i l => (l.denL ρ).getD (i.den ρ).toNat 0
  | .ap f l => ρ.φ f (l.denL ρ)
  | .nil => 0
  | .cons a _ => a.den ρ
def E.denL (ρ : Env) : E → List Int
  | .cons a l => a.den ρ :: l.denL ρ
  | _ => []
end

def E.beq : E → E → Bool
  | .lit m, .lit n => decide (m = n)
  | .var i, .var j => Nat.beq i j
  | .add a b, .add c d => a.beq c && b.beq d
  | .sub a b, .sub c d => a.beq c && b.beq d
  | .mul a b, .mul c d => a.beq c && b.beq d
  | .div a b, .div c d => a.beq c && b.beq d
  | .mod a b, .mod c d => a.beq c && b.beq d
  | .quo a b, .quo c d => a.beq c && b.beq d
  | .rem a b, .rem c d => a.beq c && b.beq d
  | .wrap k a, .wrap l b => decide (k = l) && a.beq b
  | .pow k a, .pow l b => decide (k = l) && a.beq b
  | .bit o k a b, .bit p l c d => decide (o = p) && decide (k = l) && a.beq c && b.beq d
  | .land a b, .land c d => a.beq c && b.beq d
  | .lor a b, .lor c d => a.beq c && b.beq d
  | .lxor a b, .lxor c d => a.beq c && b.beq d
  | .eq a b, .eq c d => a.beq c && b.beq d
  | .lt a b, .lt c d => a.beq c && b.beq d
  | .le a b, .le c d => a.beq c && b.beq d
  | .not a, .not b => a.beq b
  | .ite x a b, .ite y c d => x.beq y && a.beq c && b.beq d
  | .sel a b, .sel c d => a.beq c && b.beq d
  | .ap f a, .ap g b => Nat.beq f g && a.beq b
  | .nil, .nil => true
  | .cons a b, .cons c d => a.beq c && b.beq d
  | _, _ => false

theorem E.beq_eq : ∀ {a b : E}, a.beq b = true → a = b := by
  intro a
  induction a <;> intro b h <;> cases b <;> simp_all [E.beq]
  all_goals first
    | (rename_i p q ih1 ih2 r s; exact ⟨ih1 h.1, ih2 h.2⟩)
    | (rename_i k p ih k' r; exact ih h.2)
    | (rename_i o k p q ih1 ih2 o' k' r s; exact ⟨ih1 h.1.2, ih2 h.2⟩)
    | (rename_i p ih r; exact ih h)
    | (rename_i c p q i1 i2 i3 c' r s; exact ⟨i1 h.1.1, i2 h.1.2, i3 h.2⟩)

/-- a term lies from .2.1 to .2.2 -/
abbrev Fact := E × Int × Int
abbrev FL := List Fact
def flOk (ρ : Env) (l : FL) : Prop := ∀ f ∈ l, f.2.1 ≤ f.1.den ρ ∧ f.1.den ρ ≤ f.2.2
/-- what is known, by a number that is drawn from the term -/
inductive PC where
  | nil | node (b : List Fact) (l r : PC)
  deriving Inhabited
def PC.get : PC → Nat → FL
  | .nil, _ => []
  | .node b l r, n => bif Nat.beq n 0 then b else bif Nat.beq (n % 2) 1 then l.get ((n - 1) / 2) else r.get ((n - 1) / 2)
def PC.add1 (x : Fact) : Nat → Nat → PC
  | 0, _ => .node [x] .nil .nil
  | f + 1, n => bif Nat.beq n 0 then .node [x] .nil .nil else bif Nat.beq (n % 2) 1 then .node [] (PC.add1 x f ((n - 1) / 2)) .nil else .node [] .nil (PC.add1 x f ((n - 1) / 2))
def PC.add (x : Fact) : PC → Nat → PC
  | .nil, n => PC.add1 x 16 n
  | .node b l r, n => bif Nat.beq n 0 then .node (x :: b) l r else bif Nat.beq (n % 2) 1 then .node b (PC.add x l ((n - 1) / 2)) r else .node b l (PC.add x r ((n - 1) / 2))
def pcOk (ρ : Env) : PC → Prop
  | .nil => True
  | .node b l r => flOk ρ b ∧ pcOk ρ l ∧ pcOk ρ r
theorem pcOk_get {ρ : Env} : ∀ {pc : PC} {n : Nat}, pcOk ρ pc → flOk ρ (pc.get n)
  | .nil, n, _ => fun f hf => by cases hf
  | .node b l r, n, h => by
    unfold PC.get
    cases Nat.beq n 0
    · cases Nat.beq (n % 2) 1
      · exact pcOk_get h.2.2
      · exact pcOk_get h.2.1
    · exact h.1
/-- a number that is drawn from a term -/
def E.key : E → Nat
  | .var i => i + 1
  | .lit n => n.natAbs % 16
  | .eq a b => (a.key * 5 + b.key * 3 + 17) % 128
  | .lt a b => (a.key * 5 + b.key * 3 + 23) % 128
  | .le a b => (a.key * 5 + b.key * 3 + 29) % 128
  | .not a => (a.key + 31) % 128
  | .ap f l => (f + l.key * 3 + 37) % 128
  | .cons a _ => a.key
  | .add a _ => (a.key + 41) % 128
  | .sub a _ => (a.key + 43) % 128
  | .mul a _ => (a.key + 47) % 128
  | .div a _ => (a.key + 53) % 128
  | .mod a _ => (a.key + 59) % 128
  | .quo a _ => (a.key + 61) % 128
  | .rem a _ => (a.key + 67) % 128
  | .wrap _ a => (a.key + 71) % 128
  | .land a _ => (a.key + 73) % 128
  | _ => 0
def PC.put (x : Fact) (pc : PC) : PC := pc.add x x.1.key
def addAll : FL → PC → PC
  | [], pc => pc
  | x :: l, pc => (addAll l pc).put x
/-- a quick look at a term's head -/
def E.tag : E → Nat
  | .lit _ => 0 | .var _ => 1 | .add _ _ => 2 | .sub _ _ => 3 | .mul _ _ => 4 | .div _ _ => 5 | .mod _ _ => 6 | .quo _ _ => 7 | .rem _ _ => 8
  | .wrap _ _ => 9 | .pow _ _ => 10 | .bit _ _ _ _ => 11 | .land _ _ => 12 | .lor _ _ => 13 | .lxor _ _ => 14 | .eq _ _ => 15 | .lt _ _ => 16 | .le _ _ => 17
  | .not _ => 18 | .ite _ _ _ => 19 | .sel _ _ => 20 | .ap _ _ => 21 | .nil => 22 | .cons _ _ => 23
def lookV (i : Nat) : FL → Option (Int × Int)
  | [] => none
  | f :: l => match f.1 with
    | .var j => bif Nat.beq j i then some f.2 else lookV i l
    | _ => lookV i l
def lookT (e : E) (t : Nat) : FL → Option (Int × Int)
  | [] => none
  | f :: l => bif Nat.beq f.1.tag t then (bif f.1.beq e then some f.2 else lookT e t l) else lookT e t l
def look (pc : PC) (e : E) : Option (Int × Int) := match e with
  | .var i => lookV i (pc.get (i + 1))
  | _ => lookT e e.tag (pc.get e.key)
theorem lookV_sound {ρ : Env} {i : Nat} : ∀ {pc : FL} {r : Int × Int}, flOk ρ pc → lookV i pc = some r → r.1 ≤ (E.var i).den ρ ∧ (E.var i).den ρ ≤ r.2
  | [], _, _, h => by cases h
  | f :: l, r, hp, h => by
    unfold lookV at h
    split at h
    · rename_i j hj
      cases hb : Nat.beq j i with
      | true =>
        rw [hb] at h
        cases h
        have := Nat.eq_of_beq_eq_true hb
        subst this
        rw [← hj]; exact hp f (by simp)
      | false => rw [hb] at h; exact lookV_sound (fun g hg => hp g (by simp [hg])) h
    · exact lookV_sound (fun g hg => hp g (by simp [hg])) h
theorem lookT_sound {ρ : Env} {e : E} {t : Nat} : ∀ {pc : FL} {r : Int × Int}, flOk ρ pc → lookT e t pc = some r → r.1 ≤ e.den ρ ∧ e.den ρ ≤ r.2
  | [], _, _, h => by cases h
  | f :: l, r, hp, h => by
    unfold lookT at h
    have ih : lookT e t l = some r → _ := lookT_sound (fun g hg => hp g (by simp [hg]))
    cases hb : Nat.beq f.1.tag t with
    | true =>
      rw [hb] at h
      cases hb2 : f.1.beq e with
      | true => rw [hb2] at h; cases h; rw [← E.beq_eq hb2]; exact hp f (by simp)
      | false => rw [hb2] at h; exact ih h
    | false => rw [hb] at h; exact ih h
theorem look_sound {ρ : Env} {pc : PC} {e : E} {r : Int × Int} (hp : pcOk ρ pc) (h : look pc e = some r) : r.1 ≤ e.den ρ ∧ e.den ρ ≤ r.2 := by
  unfold look at h
  split at h
  · exact lookV_sound (pcOk_get hp) h
  · exact lookT_sound (pcOk_get hp) h

/-- the bounds of a kind -/
def kmin (k : IntKind) : Int := if k.signed then -((2 ^ (k.bits - 1) : Nat) : Int) else 0
def kmax (k : IntKind) : Int := if k.signed then ((2 ^ (k.bits - 1) : Nat) : Int) - 1 else ((2 ^ k.bits : Nat) : Int) - 1

theorem wrap_bd (k : IntKind) (n : Int) : kmin k ≤ k.wrap n ∧ k.wrap n ≤ kmax k := by
  cases k <;> simp only [kmin, kmax, IntKind.wrap, IntKind.signed, IntKind.bits] <;> simp <;> (try split) <;> omega
theorem wrap_in (k : IntKind) (n : Int) (h0 : kmin k ≤ n) (h1 : n ≤ kmax k) : k.wrap n = n := by
  cases k <;> simp only [kmin, kmax, IntKind.wrap, IntKind.signed, IntKind.bits] at * <;> simp at * <;> (try split) <;> omega

def hull (x y : Option (Int × Int)) : Option (Int × Int) :=
  match x, y with
  | some a, some b => some (min a.1 b.1, max a.2 b.2)
  | _, _ => none
def two (x y : Option (Int × Int)) (f : Int × Int → Int × Int → Option (Int × Int)) : Option (Int × Int) :=
  match x, y with
  | some a, some b => f a b
  | _, _ => none
def lk (pc : PC) (e : E) (d : Option (Int × Int)) : Option (Int × Int) :=
  match look pc e with
  | some r => some r
  | none => d
def inK (k : IntKind) (x : Int × Int) : Bool := decide (kmin k ≤ x.1) && decide (x.2 ≤ kmax k)
/-- the least power of two, less 1, that is no less -/
def mask (n : Int) : Int := ((2 ^ (Nat.log2 n.toNat + 1) : Nat) : Int) - 1

mutual
def rng (pc : PC) : E → Option (Int × Int)
  | .lit n => some (n, n)
  | .var i => look pc (.var i)
  | .add a b => lk pc (.add a b) (two (rng pc a) (rng pc b) fun x y => some (x.1 + y.1, x.2 + y.2))
  | .sub a b => lk pc (.sub a b) (two (rng pc a) (rng pc b) fun x y => some (x.1 - y.2, x.2 - y.1))
  | .mul a b => lk pc (.mul a b) (two (rng pc a) (rng pc b) fun x y => if decide (0 ≤ x.1) && decide (0 ≤ y.1) then some (x.1 * y.1, x.2 * y.2) else none)
  | .div a b => lk pc (.div a b) (two (rng pc a) (rng pc b) fun x y => if decide (y.1 = y.2) && decide (0 < y.1) then some (x.1 / y.1, x.2 / y.1) else if decide (0 ≤ x.1) && decide (0 < y.1) then some (0, x.2) else none)
  | .mod a b => lk pc (.mod a b) (two (rng pc a) (rng pc b) fun x y => if decide (0 < y.1) then (if decide (x.1 = x.2) && decide (y.1 = y.2) then some (x.1 % y.1, x.1 % y.1) else if decide (0 ≤ x.1) && decide (x.2 < y.1) then some x else some (0, y.2 - 1)) else none)
  | .quo a b => look pc (.quo a b)
  | .rem a b => look pc (.rem a b)
  | .wrap k a => lk pc (.wrap k a) (match rng pc a with
      | some x => if inK k x then some x else some (kmin k, kmax k)
      | none => some (kmin k, kmax k))
  | .pow k a => lk pc (.pow k a) (match rng pc a with
      | some x => if decide (x.1 = x.2) then some (pow2 k x.1, pow2 k x.1) else some (1, pow2 k k.bits)
      | none => some (1, pow2 k k.bits))
  | .bit op k a b => lk pc (.bit op k a b) (match rng pc a, rng pc b with
      | some x, some y => if decide (x.1 = x.2) && decide (y.1 = y.2) then some (bits op k x.1 y.1, bits op k x.1 y.1) else some (kmin k, kmax k)
      | _, _ => some (kmin k, kmax k))
  | .land a b => lk pc (.land a b) (match rng pc a, rng pc b with
      | some x, some y => if decide (x.1 = x.2) && decide (y.1 = y.2) then some (((x.1.toNat &&& y.1.toNat : Nat) : Int), ((x.1.toNat &&& y.1.toNat : Nat) : Int)) else some (0, max 0 (min x.2 y.2))
      | some x, none => some (0, max 0 x.2)
      | none, some y => some (0, max 0 y.2)
      | none, none => none)
  | .lor a b => lk pc (.lor a b) (two (rng pc a) (rng pc b) fun x y => if decide (x.1 = x.2) && decide (y.1 = y.2) then some (((x.1.toNat ||| y.1.toNat : Nat) : Int), ((x.1.toNat ||| y.1.toNat : Nat) : Int)) else some (0, mask (max x.2 y.2)))
  | .lxor a b => lk pc (.lxor a b) (two (rng pc a) (rng pc b) fun x y => if decide (x.1 = x.2) && decide (y.1 = y.2) then some (((x.1.toNat ^^^ y.1.toNat : Nat) : Int), ((x.1.toNat ^^^ y.1.toNat : Nat) : Int)) else some (0, mask (max x.2 y.2)))
  | .eq a b => lk pc (.eq a b) (if a.beq b then some (1, 1) else match rng pc a, rng pc b with
      | some x, some y => if decide (x.2 < y.1) || decide (y.2 < x.1) then some (0, 0) else if decide (x.1 = x.2) && decide (y.1 = y.2) && decide (x.1 = y.1) then some (1, 1) else some (0, 1)
      | _, _ => some (0, 1))
  | .lt a b => lk pc (.lt a b) (match rng pc a, rng pc b with
      | some x, some y => if decide (x.2 < y.1) then some (1, 1) else if decide (y.2 ≤ x.1) then some (0, 0) else some (0, 1)
      | _, _ => some (0, 1))
  | .le a b => lk pc (.le a b) (match rng pc a, rng pc b with
      | some x, some y => if decide (x.2 ≤ y.1) then some (1, 1) else if decide (y.2 < x.1) then some (0, 0) else some (0, 1)
      | _, _ => some (0, 1))
  | .not a => lk pc (.not a) (match rng pc a with
      | some x => if decide (0 < x.1) || decide (x.2 < 0) then some (0, 0) else if decide (x.1 = 0) && decide (x.2 = 0) then some (1, 1) else some (0, 1)
      | none => some (0, 1))
  | .ite c a b => lk pc (.ite c a b) (match rng pc c with
      | some x => if decide (0 < x.1) || decide (x.2 < 0) then rng pc a else if decide (x.1 = 0) && decide (x.2 = 0) then rng pc b else hull (rng pc a) (rng pc b)
      | none => hull (rng pc a) (rng pc b))
  | .sel i l => lk pc (.sel i l) (rngL pc l)
  | .ap f l => look pc (.ap f l)
  | .nil => none
  | .cons _ _ => none
def rngL (pc : PC) : E → Option (Int × Int)
  | .cons a l => hull (rng pc a) (rngL pc l)
  | _ => some (0, 0)
end

def In (r : Int × Int) (n : Int) : Prop := r.1 ≤ n ∧ n ≤ r.2

theorem truth_in (b : Bool) : 0 ≤ truth b ∧ truth b ≤ 1 := by cases b <;> simp [truth]
theorem lk_sound {ρ : Env} {pc : PC} (hp : pcOk ρ pc) {e : E} {d : Option (Int × Int)} (h : ∀ r, d = some r → In r (e.den ρ)) : ∀ r, lk pc e d = some r → In r (e.den ρ) := by
  intro r hr
  unfold lk at hr
  split at hr
  · rename_i r' hl; cases hr; exact look_sound hp hl
  · exact h r hr
theorem two_sound {x y : Option (Int × Int)} {f : Int × Int → Int × Int → Option (Int × Int)} {n m : Int} {P : Int × Int → Prop} (hx : ∀ r, x = some r → In r n) (hy : ∀ r, y = some r → In r m)
    (h : ∀ a b r, In a n → In b m → f a b = some r → P r) : ∀ r, two x y f = some r → P r := by
  intro r hr
  unfold two at hr
  split at hr
  · exact h _ _ r (hx _ rfl) (hy _ rfl) hr
  · cases hr
theorem hull_sound {x y : Option (Int × Int)} {n : Int} (h : (∀ r, x = some r → In r n) ∨ (∀ r, y = some r → In r n)) : ∀ r, hull x y = some r → In r n := by
  intro r hr
  unfold hull at hr
  split at hr
  · cases hr
    rcases h with h | h
    · have := h _ rfl; unfold In at *; simp; omega
    · have := h _ rfl; unfold In at *; simp; omega
  · cases hr
theorem le_mask (n m : Int) (h : n ≤ m) : n.toNat < 2 ^ (Nat.log2 m.toNat + 1) :=
  Nat.lt_of_le_of_lt (by omega : n.toNat ≤ m.toNat) Nat.lt_log2_self
theorem pow2_bd (k : IntKind) (n : Int) : 1 ≤ pow2 k n ∧ pow2 k n ≤ pow2 k k.bits := by
  unfold pow2
  constructor
  · have : 0 < 2 ^ (min n.toNat k.bits) := Nat.pow_pos (by omega)
    omega
  · have : 2 ^ (min n.toNat k.bits) ≤ 2 ^ (min (k.bits : Int).toNat k.bits) := Nat.pow_le_pow_right (by omega) (by omega)
    omega

theorem div_le_self' {a b : Int} (ha : 0 ≤ a) (hb : 0 < b) : 0 ≤ a / b ∧ a / b ≤ a := ⟨Int.ediv_nonneg ha (by omega), Int.ediv_le_self b ha⟩

theorem rng_both {ρ : Env} {pc : PC} (hp : pcOk ρ pc) (e : E) : (∀ r, rng pc e = some r → In r (e.den ρ)) ∧ (∀ r, rngL pc e = some r → ∀ n, In r ((e.denL ρ).getD n 0)) := by
  induction e with
  | lit n => exact ⟨fun r h => by simp only [rng] at h; cases h; exact ⟨Int.le_refl _, Int.le_refl _⟩, fun r h n => by simp only [rngL] at h; cases h; simp [In, E.denL]⟩
  | var i => exact ⟨fun r h => by simp only [rng] at h; exact look_sound hp h, fun r h n => by simp only [rngL] at h; cases h; simp [In, E.denL]⟩
  | add a b iha ihb =>
    refine ⟨?_, fun r h n => by simp only [rngL] at h; cases h; simp [In, E.denL]⟩
    simp only [rng]
    refine lk_sound hp (two_sound iha.1 ihb.1 fun x y r hx hy h => ?_)
    cases h; simp only [In, E.den] at *; omega
  | sub a b iha ihb =>
    refine ⟨?_, fun r h n => by simp only [rngL] at h; cases h; simp [In, E.denL]⟩
    simp only [rng]
    refine lk_sound hp (two_sound iha.1 ihb.1 fun x y r hx hy h => ?_)
    cases h; simp only [In, E.den] at *; omega
  | mul a b iha ihb =>
    refine ⟨?_, fun r h n => by simp only [rngL] at h; cases h; simp [In, E.denL]⟩
    simp only [rng]
    refine lk_sound hp (two_sound iha.1 ihb.1 fun x y r hx hy h => ?_)
    split at h
    · rename_i hc
      cases h; simp only [In, E.den, Bool.and_eq_true, decide_eq_true_eq] at *
      exact ⟨Int.mul_le_mul hx.1 hy.1 hc.2 (by omega), Int.mul_le_mul hx.2 hy.2 (by omega) (by omega)⟩
    · cases h
  | div a b iha ihb =>
    refine ⟨?_, fun r h n => by simp only [rngL] at h; cases h; simp [In, E.denL]⟩
    simp only [rng]
    refine lk_sound hp (two_sound iha.1 ihb.1 fun x y r hx hy h => ?_)
    split at h
    · rename_i hc
      cases h; simp only [In, E.den, Bool.and_eq_true, decide_eq_true_eq] at *
      have e : b.den ρ = y.1 := by omega
      rw [e]
      exact ⟨Int.ediv_le_ediv hc.2 hx.1, Int.ediv_le_ediv hc.2 hx.2⟩
    · split at h
      · rename_i hc
        cases h; simp only [In, E.den, Bool.and_eq_true, decide_eq_true_eq] at *
        have := div_le_self' (a := a.den ρ) (b := b.den ρ) (by omega) (by omega)
        omega
      · cases h
  | mod a b iha ihb =>
    refine ⟨?_, fun r h n => by simp only [rngL] at h; cases h; simp [In, E.denL]⟩
    simp only [rng]
    refine lk_sound hp (two_sound iha.1 ihb.1 fun x y r hx hy h => ?_)
    split at h
    · rename_i hc
      simp only [In, E.den, Bool.and_eq_true, decide_eq_true_eq] at *
      split at h
      · rename_i hd
        cases h
        have e1 : a.den ρ = x.1 := by omega
        have e2 : b.den ρ = y.1 := by omega
        rw [e1, e2]; exact ⟨Int.le_refl _, Int.le_refl _⟩
      split at h
      · rename_i hd
        cases h
        rw [Int.emod_eq_of_lt (by omega) (by omega)]; exact hx
      · cases h
        have h1 := Int.emod_nonneg (a.den ρ) (b := b.den ρ) (by omega)
        have h2 := Int.emod_lt_of_pos (a.den ρ) (b := b.den ρ) (by omega)
        simp only; omega
    · cases h
  | quo a b _ _ => exact ⟨fun r h => by simp only [rng] at h; exact look_sound hp h, fun r h n => by simp only [rngL] at h; cases h; simp [In, E.denL]⟩
  | rem a b _ _ => exact ⟨fun r h => by simp only [rng] at h; exact look_sound hp h, fun r h n => by simp only [rngL] at h; cases h; simp [In, E.denL]⟩
  | wrap k a iha =>
    refine ⟨?_, fun r h n => by simp only [rngL] at h; cases h; simp [In, E.denL]⟩
    simp only [rng]
    refine lk_sound hp fun r h => ?_
    have hb := wrap_bd k (a.den ρ)
    split at h
    · rename_i x hx
      split at h
      · rename_i hk
        cases h
        have hi := iha.1 _ hx
        simp only [inK, Bool.and_eq_true, decide_eq_true_eq] at hk
        simp only [In, E.den] at *
        rw [wrap_in k _ (by omega) (by omega)]; exact hi
      · cases h; exact hb
    · cases h; exact hb
  | pow k a iha =>
    refine ⟨?_, fun r h n => by simp only [rngL] at h; cases h; simp [In, E.denL]⟩
    simp only [rng]
    refine lk_sound hp fun r h => ?_
    have hb := pow2_bd k (a.den ρ)
    split at h
    · rename_i x hx
      split at h
      · rename_i hk
        cases h
        have hi := iha.1 _ hx
        simp only [decide_eq_true_eq] at hk
        simp only [In, E.den] at *
        have e : a.den ρ = x.1 := by omega
        rw [e]; exact ⟨Int.le_refl _, Int.le_refl _⟩
      · cases h; exact hb
    · cases h; exact hb
  | bit op k a b iha ihb =>
    refine ⟨?_, fun r h n => by simp only [rngL] at h; cases h; simp [In, E.denL]⟩
    simp only [rng]
    refine lk_sound hp fun r h => ?_
    have hw : In (kmin k, kmax k) ((E.bit op k a b).den ρ) := by
      simp only [In, E.den, bits]
      exact wrap_bd _ _
    split at h
    · rename_i x y hx hy
      have ha := iha.1 _ hx; have hb := ihb.1 _ hy
      split at h
      · rename_i hd
        cases h
        simp only [In, E.den, Bool.and_eq_true, decide_eq_true_eq] at *
        have e1 : a.den ρ = x.1 := by omega
        have e2 : b.den ρ = y.1 := by omega
        rw [e1, e2]; exact ⟨Int.le_refl _, Int.le_refl _⟩
      · cases h; exact hw
    · cases h; exact hw
  | land a b iha ihb =>
    refine ⟨?_, fun r h n => by simp only [rngL] at h; cases h; simp [In, E.denL]⟩
    simp only [rng]
    refine lk_sound hp fun r h => ?_
    have h1 : (a.den ρ).toNat &&& (b.den ρ).toNat ≤ (a.den ρ).toNat := Nat.and_le_left
    have h2 : (a.den ρ).toNat &&& (b.den ρ).toNat ≤ (b.den ρ).toNat := Nat.and_le_right
    split at h
    · rename_i x y hx hy
      have ha := iha.1 _ hx; have hb := ihb.1 _ hy
      split at h
      · rename_i hd
        cases h
        simp only [In, E.den, Bool.and_eq_true, decide_eq_true_eq] at *
        have e1 : a.den ρ = x.1 := by omega
        have e2 : b.den ρ = y.1 := by omega
        rw [e1, e2]; exact ⟨Int.le_refl _, Int.le_refl _⟩
      · cases h
        simp only [In, E.den] at *; omega
    · rename_i x hx _
      cases h
      have ha := iha.1 _ hx
      simp only [In, E.den] at *; omega
    · rename_i y _ hy
      cases h
      have hb := ihb.1 _ hy
      simp only [In, E.den] at *; omega
    · cases h
  | lor a b iha ihb =>
    refine ⟨?_, fun r h n => by simp only [rngL] at h; cases h; simp [In, E.denL]⟩
    simp only [rng]
    refine lk_sound hp (two_sound iha.1 ihb.1 fun x y r hx hy h => ?_)
    split at h
    · rename_i hd
      cases h
      simp only [In, E.den, Bool.and_eq_true, decide_eq_true_eq] at *
      have e1 : a.den ρ = x.1 := by omega
      have e2 : b.den ρ = y.1 := by omega
      rw [e1, e2]; exact ⟨Int.le_refl _, Int.le_refl _⟩
    · cases h
      simp only [In, E.den, mask] at *
      have h1 := le_mask (a.den ρ) (max x.2 y.2) (by omega)
      have h2 := le_mask (b.den ρ) (max x.2 y.2) (by omega)
      have h3 := Nat.or_lt_two_pow h1 h2
      omega
  | lxor a b iha ihb =>
    refine ⟨?_, fun r h n => by simp only [rngL] at h; cases h; simp [In, E.denL]⟩
    simp only [rng]
    refine lk_sound hp (two_sound iha.1 ihb.1 fun x y r hx hy h => ?_)
    split at h
    · rename_i hd
      cases h
      simp only [In, E.den, Bool.and_eq_true, decide_eq_true_eq] at *
      have e1 : a.den ρ = x.1 := by omega
      have e2 : b.den ρ = y.1 := by omega
      rw [e1, e2]; exact ⟨Int.le_refl _, Int.le_refl _⟩
    · cases h
      simp only [In, E.den, mask] at *
      have h1 := le_mask (a.den ρ) (max x.2 y.2) (by omega)
      have h2 := le_mask (b.den ρ) (max x.2 y.2) (by omega)
      have h3 := Nat.xor_lt_two_pow h1 h2
      omega
  | eq a b iha ihb =>
    refine ⟨?_, fun r h n => by simp only [rngL] at h; cases h; simp [In, E.denL]⟩
    simp only [rng]
    refine lk_sound hp fun r h => ?_
    have ht := truth_in (decide (a.den ρ = b.den ρ))
    split at h
    · rename_i hb
      cases h
      rw [E.beq_eq hb]; simp [In, E.den, truth]
    · split at h
      · rename_i x y hx hy
        have ha := iha.1 _ hx; have hb := ihb.1 _ hy
        simp only [In, E.den] at *
        split at h
        · rename_i hc
          cases h
          have : ¬ (a.den ρ = b.den ρ) := by simp at hc; omega
          simp [truth, this]
        · split at h
          · rename_i hc
            cases h
            have : a.den ρ = b.den ρ := by simp at hc; omega
            simp [truth, this]
          · cases h; exact ht
      · cases h; exact ht
  | lt a b iha ihb =>
    refine ⟨?_, fun r h n => by simp only [rngL] at h; cases h; simp [In, E.denL]⟩
    simp only [rng]
    refine lk_sound hp fun r h => ?_
    have ht := truth_in (decide (a.den ρ < b.den ρ))
    split at h
    · rename_i x y hx hy
      have ha := iha.1 _ hx; have hb := ihb.1 _ hy
      simp only [In, E.den] at *
      split at h
      · rename_i hc
        cases h
        have : a.den ρ < b.den ρ := by simp at hc; omega
        simp [truth, this]
      · split at h
        · rename_i hc
          cases h
          have : ¬ (a.den ρ < b.den ρ) := by simp at hc; omega
          simp [truth, this]
        · cases h; exact ht
    · cases h; exact ht
  | le a b iha ihb =>
    refine ⟨?_, fun r h n => by simp only [rngL] at h; cases h; simp [In, E.denL]⟩
    simp only [rng]
    refine lk_sound hp fun r h => ?_
    have ht := truth_in (decide (a.den ρ ≤ b.den ρ))
    split at h
    · rename_i x y hx hy
      have ha := iha.1 _ hx; have hb := ihb.1 _ hy
      simp only [In, E.den] at *
      split at h
      · rename_i hc
        cases h
        have : a.den ρ ≤ b.den ρ := by simp at hc; omega
        simp [truth, this]
      · split at h
        · rename_i hc
          cases h
          have : ¬ (a.den ρ ≤ b.den ρ) := by simp at hc; omega
          simp [truth, this]
        · cases h; exact ht
    · cases h; exact ht
  | not a iha =>
    refine ⟨?_, fun r h n => by simp only [rngL] at h; cases h; simp [In, E.denL]⟩
    simp only [rng]
    refine lk_sound hp fun r h => ?_
    have ht := truth_in (decide (a.den ρ = 0))
    split at h
    · rename_i x hx
      have ha := iha.1 _ hx
      simp only [In, E.den] at *
      split at h
      · rename_i hc
        cases h
        have : ¬ (a.den ρ = 0) := by simp at hc; omega
        simp [truth, this]
      · split at h
        · rename_i hc
          cases h
          have : a.den ρ = 0 := by simp at hc; omega
          simp [truth, this]
        · cases h; exact ht
    · cases h; exact ht
  | ite c a b ihc iha ihb =>
    refine ⟨?_, fun r h n => by simp only [rngL] at h; cases h; simp [In, E.denL]⟩
    simp only [rng]
    refine lk_sound hp fun r h => ?_
    have hh : ∀ r, hull (rng pc a) (rng pc b) = some r → In r ((E.ite c a b).den ρ) := by
      refine hull_sound ?_
      simp only [E.den]
      by_cases h0 : c.den ρ = 0
      · rw [if_pos h0]; exact .inr ihb.1
      · rw [if_neg h0]; exact .inl iha.1
    split at h
    · rename_i x hx
      have hc := ihc.1 _ hx
      split at h
      · rename_i hd
        have : ¬ (c.den ρ = 0) := by simp [In] at hc hd; omega
        simp only [E.den, if_neg this]; exact iha.1 _ h
      · split at h
        · rename_i hd
          have : c.den ρ = 0 := by simp [In] at hc hd; omega
          simp only [E.den, if_pos this]; exact ihb.1 _ h
        · exact hh _ h
    · exact hh _ h
  | sel i l _ ihl =>
    refine ⟨?_, fun r h n => by simp only [rngL] at h; cases h; simp [In, E.denL]⟩
    simp only [rng]
    refine lk_sound hp fun r h => ?_
    simp only [E.den]
    exact ihl.2 r h _
  | ap f l _ => exact ⟨fun r h => by simp only [rng] at h; exact look_sound hp h, fun r h n => by simp only [rngL] at h; cases h; simp [In, E.denL]⟩
  | nil => exact ⟨fun r h => (by simp only [rng] at h; cases h), fun r h n => by simp only [rngL] at h; cases h; simp [In, E.denL]⟩
  | cons a l iha ihl =>
    refine ⟨fun r h => (by simp only [rng] at h; cases h), fun r h n => ?_⟩
    simp only [rngL] at h
    simp only [E.denL]
    cases n with
    | zero => exact hull_sound (.inl (by simpa using iha.1)) r h
    | succ n => exact hull_sound (.inr (fun r hr => by simpa using ihl.2 r hr n)) r h

theorem rng_sound {ρ : Env} {pc : PC} (hp : pcOk ρ pc) {e : E} {r : Int × Int} (h : rng pc e = some r) : r.1 ≤ e.den ρ ∧ e.den ρ ≤ r.2 := (rng_both hp e).1 r h

theorem truth_congr {p q : Prop} [Decidable p] [Decidable q] (h : p ↔ q) : truth (decide p) = truth (decide q) := by
  by_cases hp : p
  · simp [truth, hp, h.1 hp]
  · have hq : ¬ q := fun hq => hp (h.2 hq)
    simp [truth, hp, hq]
/-! ### terms that are laid simply -/
/-- a number, where the bounds leave but one -/
def fin (pc : PC) (e : E) : E := match rng pc e with
  | some x => if decide (x.1 = x.2) then .lit x.1 else e
  | none => e
theorem fin_den {ρ : Env} {pc : PC} (hp : pcOk ρ pc) (e : E) : (fin pc e).den ρ = e.den ρ := by
  unfold fin
  split
  · rename_i x hx
    have := rng_sound hp hx
    split
    · rename_i h; simp at h; simp only [E.den]; omega
    · rfl
  · rfl

def isLit (n : Int) : E → Bool
  | .lit m => decide (m = n)
  | _ => false
/-- two numbers -/
def lits (a b : E) : Option (Int × Int) := match a with
  | .lit m => (match b with
    | .lit n => some (m, n)
    | _ => none)
  | _ => none
theorem lits_den {ρ : Env} {a b : E} {x : Int × Int} (h : lits a b = some x) : a.den ρ = x.1 ∧ b.den ρ = x.2 := by
  unfold lits at h
  split at h
  · split at h
    · cases h; exact ⟨rfl, rfl⟩
    · cases h
  · cases h
def mkAdd (pc : PC) (a b : E) : E := match lits a b with
  | some x => .lit (x.1 + x.2)
  | none => if isLit 0 a then b else if isLit 0 b then a else fin pc (.add a b)
def mkSub (pc : PC) (a b : E) : E := match lits a b with
  | some x => .lit (x.1 - x.2)
  | none => if isLit 0 b then a else fin pc (.sub a b)
def mkMul (pc : PC) (a b : E) : E := match lits a b with
  | some x => .lit (x.1 * x.2)
  | none => if isLit 1 a then b else if isLit 1 b then a else fin pc (.mul a b)
def mkWrap (pc : PC) (k : IntKind) (a : E) : E := match a with
  | .lit n => .lit (k.wrap n)
  | _ => (match rng pc a with
    | some x => if inK k x then a else .wrap k a
    | none => .wrap k a)
/-- comparisons, the number on the right -/
def mkEq (pc : PC) (a b : E) : E := match lits a b with
  | some x => .lit (truth (decide (x.1 = x.2)))
  | none => (match a with
    | .lit _ => fin pc (.eq b a)
    | _ => fin pc (.eq a b))
def mkLe (pc : PC) (a b : E) : E := match lits a b with
  | some x => .lit (truth (decide (x.1 ≤ x.2)))
  | none => fin pc (.le a b)
def mkLt (pc : PC) (a b : E) : E := match b with
  | .lit n => mkLe pc a (.lit (n - 1))
  | _ => (match a with
    | .lit n => mkLe pc (.lit (n + 1)) b
    | _ => fin pc (.lt a b))
def mkQuo (pc : PC) (a b : E) : E := match rng pc a, rng pc b with
  | some x, some y => if decide (0 ≤ x.1) && decide (0 < y.1) then (if isLit 1 b then a else fin pc (.div a b)) else .quo a b
  | _, _ => .quo a b
def mkRem (pc : PC) (a b : E) : E := match rng pc a, rng pc b with
  | some x, some y => if decide (0 ≤ x.1) && decide (0 < y.1) then (if decide (x.2 < y.1) then a else fin pc (.mod a b)) else .rem a b
  | _, _ => .rem a b
/-- an unsigned word's (or a number's that is not below 0) bits -/
def mkBit (pc : PC) (op : BinOp) (k : IntKind) (a b : E) : E := match rng pc a, rng pc b with
  | some x, some y => if decide (0 ≤ x.1) && decide (0 ≤ y.1) && decide (x.2 ≤ kmax k) && decide (y.2 ≤ kmax k) then (match op with
      | .and => fin pc (.land a b)
      | .or => if isLit 0 a then b else if isLit 0 b then a else fin pc (.lor a b)
      | .xor => fin pc (.lxor a b)
      | .andNot => fin pc (.sub a (.land a b))
      | _ => .bit op k a b) else .bit op k a b
  | _, _ => .bit op k a b
def mkNot (pc : PC) (a : E) : E := match a with
  | .not b => (match rng pc b with
      | some x => if decide (0 ≤ x.1) && decide (x.2 ≤ 1) then b else fin pc (.not a)
      | none => fin pc (.not a))
  | _ => fin pc (.not a)
def mkIte (pc : PC) (c a b : E) : E := if a.beq b then a else fin pc (.ite c a b)

section
variable {ρ : Env} {pc : PC} (hp : pcOk ρ pc)
include hp
theorem mkEq_den (a b : E) : (mkEq pc a b).den ρ = truth (decide (a.den ρ = b.den ρ)) := by
  unfold mkEq
  split
  · rename_i x h; obtain ⟨h1, h2⟩ := lits_den (ρ := ρ) h; rw [h1, h2]; rfl
  split
  · rw [fin_den hp]; exact truth_congr eq_comm
  · rw [fin_den hp]; rfl
theorem mkIte_den (c a b : E) : (mkIte pc c a b).den ρ = if c.den ρ = 0 then b.den ρ else a.den ρ := by
  unfold mkIte
  split
  · rename_i h; rw [E.beq_eq h]; simp
  · rw [fin_den hp]; rfl
end

/-! ### what an assumed truth tells -/
def meet (x y : Int × Int) : Int × Int := (max x.1 y.1, min x.2 y.2)
def fact1 (a : E) (x : Int × Int) : FL := match a with
  | .lit n => if decide (x.1 ≤ n) && decide (n ≤ x.2) then [] else [(a, 1, 0)]
  | _ => [(a, x)]
def factsEq (x y : Option (Int × Int)) (a b : E) : FL := match x, y with
  | some x, some y => fact1 a (meet x y) ++ fact1 b (meet x y)
  | some x, none => fact1 b x
  | none, some y => fact1 a y
  | none, none => []
def factsNe (x y : Option (Int × Int)) (a b : E) : FL := match x, y with
  | some x, some y => (if decide (y.1 = y.2) then (if decide (x.1 = y.1) then fact1 a (x.1 + 1, x.2) else if decide (x.2 = y.1) then fact1 a (x.1, x.2 - 1) else []) else []) ++
      (if decide (x.1 = x.2) then (if decide (y.1 = x.1) then fact1 b (y.1 + 1, y.2) else if decide (y.2 = x.1) then fact1 b (y.1, y.2 - 1) else []) else [])
  | _, _ => []
/-- a + d ≤ b -/
def factsLe (x y : Option (Int × Int)) (d : Int) (a b : E) : FL := match x, y with
  | some x, some y => fact1 a (x.1, min x.2 (y.2 - d)) ++ fact1 b (max y.1 (x.1 + d), y.2)
  | _, _ => []
def base (pc : PC) (e : E) (v : Bool) : FL := match rng pc e, v with
  | _, false => [(e, 0, 0)]
  | some x, true => if decide (x.1 = 0) then [(e, 1, x.2)] else []
  | none, true => []
def facts (pc : PC) : E → Bool → FL
  | .not a, v => base pc (.not a) v ++ facts pc a (!v)
  | .eq a b, true => base pc (.eq a b) true ++ factsEq (rng pc a) (rng pc b) a b
  | .eq a b, false => base pc (.eq a b) false ++ factsNe (rng pc a) (rng pc b) a b
  | .lt a b, true => base pc (.lt a b) true ++ factsLe (rng pc a) (rng pc b) 1 a b
  | .lt a b, false => base pc (.lt a b) false ++ factsLe (rng pc b) (rng pc a) 0 b a
  | .le a b, true => base pc (.le a b) true ++ factsLe (rng pc a) (rng pc b) 0 a b
  | .le a b, false => base pc (.le a b) false ++ factsLe (rng pc b) (rng pc a) 1 b a
  | .ite c a b, v => base pc (.ite c a b) v ++ ((if v && isLit 0 b then facts pc c true ++ facts pc a true else []) ++ (if !v && isLit 1 a then facts pc c false ++ facts pc b false else []))
  | e, v => base pc e v
/-- bounds without what is known not to be -/
def tight (pc : PC) (e : E) : Nat → Int × Int → Int × Int
  | 0, r => r
  | n + 1, r => match look pc (.eq e (.lit r.1)) with
    | some q => if decide (q.1 = 0) && decide (q.2 = 0) then tight pc e n (r.1 + 1, r.2) else r
    | none => match look pc (.eq e (.lit r.2)) with
      | some q => if decide (q.1 = 0) && decide (q.2 = 0) then tight pc e n (r.1, r.2 - 1) else r
      | none => r
def tightAll (pc : PC) (l : FL) : FL := l.map fun f => match f.1 with
  | .var _ => (f.1, tight pc f.1 4 f.2)
  | .ap _ _ => (f.1, tight pc f.1 4 f.2)
  | _ => f

def good (pc : FL) : Bool := pc.all fun f => decide (f.2.1 ≤ f.2.2)
def assume (pc : PC) (e : E) (v : Bool) : Option PC := let l := tightAll pc (facts pc e v); if good l then some (addAll l pc) else none

section
variable {ρ : Env} {pc : PC}
end

end Go.Proofs.YtjcacjeoddnmhaaDoor.Ev

/- An evaluator of the model's code over terms: what stands in temporaries, known memory, one operation, the code, a call. No program in sight. -/
namespace Go.Proofs.YtjcacjeoddnmhaaDoor.Ev
open Go

/-- one cell's value -/
inductive AT where
  | int (k : IntKind) (e : E) | bool (e : E) | val (v : Value)
  | ptr (l off : Nat) | pti (l off : Nat) (i : E) (size : Nat)
  | slc (l off len cap : Nat) | opq (i : Nat)
  deriving Inhabited
inductive A1 where
  | c (a : AT) | g (l : List AT)
  deriving Inhabited
inductive AV where
  | v (x : A1) | t (l : List A1)
  deriving Inhabited
def A1.cells : A1 → List AT
  | .c a => [a]
  | .g l => l

/-- a block that is known: its first cells; whether it may be written -/
structure Blk where
  ty : TypeId
  cells : List AT
  rw : Bool
  deriving Inhabited
/-- temporaries, by the bits of their numbers -/
inductive TM where
  | nil | node (v : Option AV) (l r : TM)
  deriving Inhabited
def TM.get : TM → Nat → Option AV
  | .nil, _ => none
  | .node v l r, n => bif Nat.beq n 0 then v else bif Nat.beq (n % 2) 1 then l.get ((n - 1) / 2) else r.get ((n - 1) / 2)
def TM.set1 (v : AV) : Nat → Nat → TM
  | 0, _ => .nil
  | f + 1, n => bif Nat.beq n 0 then .node (some v) .nil .nil else bif Nat.beq (n % 2) 1 then .node none (TM.set1 v f ((n - 1) / 2)) .nil else .node none .nil (TM.set1 v f ((n - 1) / 2))
def TM.set (v : AV) : TM → Nat → TM
  | .nil, n => TM.set1 v 24 n
  | .node u l r, n => bif Nat.beq n 0 then .node (some v) l r else bif Nat.beq (n % 2) 1 then .node u (TM.set v l ((n - 1) / 2)) r else .node u l (TM.set v r ((n - 1) / 2))

structure St where
  n : Nat
  tmps : TM
  heap : List Blk
  pc : PC
  deriving Inhabited

inductive Tr (α : Type) where
  | leaf (x : α)
  | node (c : E) (t e : Tr α)
  | bad (s : String)
def Tr.bind {α β : Type} : Tr α → (α → Tr β) → Tr β
  | .leaf x, f => f x
  | .node c t e, f => .node c (t.bind f) (e.bind f)
  | .bad s, _ => .bad s
def Tr.All {α : Type} (ρ : Env) (Φ : α → Prop) : Tr α → Prop
  | .leaf x => Φ x
  | .node c t e => (c.den ρ ≠ 0 → t.All ρ Φ) ∧ (c.den ρ = 0 → e.All ρ Φ)
  | .bad _ => False

/-- by a truth, or by both -/
def branch2 {α : Type} (pc : PC) (e : E) (f : Bool → PC → Tr α) : Tr α :=
  match assume pc e true with
  | some p => (match assume pc e false with
    | some q => .node e (f true p) (f false q)
    | none => f true p)
  | none => (match assume pc e false with
    | some q => f false q
    | none => .bad "absurd")
def branch {α : Type} (pc : PC) (e : E) (f : Bool → PC → Tr α) : Tr α :=
  match rng pc e with
  | some r => if decide (0 < r.1) || decide (r.2 < 0) then f true pc else if decide (r.1 = 0) && decide (r.2 = 0) then f false pc else branch2 pc e f
  | none => branch2 pc e f

inductive X where
  | nml | exit (id : Nat) | ret

/-- a function whose contract is known -/
structure Sum where
  f : FuncId
  run : PC → List Blk → List AV → Option (AV × List Blk × PC)
/-- what is asked of a type -/
structure TI where
  desc : TypeDesc
  size : Nat
  zero : Option Value
structure Cx where
  P : Program
  glob : List (Nat × Nat)
  sums : List Sum
  tt : List (Nat × TI)
  fns : List (Nat × Func)
  eqs : List Nat := []

def lkT {α : Type} (t : Nat) : List (Nat × α) → Option α
  | [] => none
  | p :: l => bif Nat.beq p.1 t then some p.2 else lkT t l
def Cx.und (cx : Cx) (t : TypeId) : Option TypeDesc := (lkT t cx.tt).map TI.desc
def find (t : Nat) (m : TM) : Option AV := m.get t
def assoc (t : Nat) : List (Nat × Nat) → Option Nat
  | [] => none
  | p :: l => if Nat.beq p.1 t then some p.2 else assoc t l

def allSome {α : Type} : List (Option α) → Option (List α)
  | [] => some []
  | none :: _ => none
  | some x :: l => (allSome l).map (x :: ·)
def flat : Value → Bool
  | .agg _ => false
  | .tuple _ => false
  | _ => true
def konstA : Value → Option AT
  | .int k n => some (.int k (.lit n))
  | .bool b => some (.bool (.lit (truth b)))
  | v => if flat v then some (.val v) else none
def konst1 : Value → Option A1
  | .agg cs => (allSome (cs.toList.map konstA)).map .g
  | v => (konstA v).map .c
def konst : Value → Option AV
  | .tuple vs => (allSome (vs.toList.map konst1)).map .t
  | v => (konst1 v).map .v

def St.ev (cx : Cx) (s : St) : Operand → Option AV
  | .tmp t => find t s.tmps
  | .const v => konst v
  | .global g => (assoc g cx.glob).map fun l => .v (.c (.ptr l 0))
  | .func f => some (.v (.c (.val (.func (.func f) #[] #[]))))
def St.put (s : St) (dst : Option Tmp) (x : AV) : Option St :=
  match dst with
  | none => some s
  | some d => bif Nat.blt d s.n then some { s with tmps := s.tmps.set x d } else none

def ret1 (a : AT) : AV := .v (.c a)
def must {α β : Type} (o : Option α) (why : String) (f : α → Tr β) : Tr β :=
  match o with
  | some x => f x
  | none => .bad why

/-! ### operations that look at no memory -/
def mkPow (pc : PC) (k : IntKind) (b : E) : E := fin pc (.pow k b)
def mkShr (pc : PC) (a b : E) : E := if isLit 1 b then a else fin pc (.div a b)

/-- two cells that are the same but for a truth -/
def mrg (pc : PC) (c : E) (x y : AT) : Option AT :=
  match x, y with
  | .int k a, .int l b => if decide (k = l) then some (.int k (mkIte pc c a b)) else none
  | .bool a, .bool b => some (.bool (mkIte pc c a b))
  | _, _ => none

def cmpE (pc : PC) (op : BinOp) (a b : E) : Option E :=
  match op with
  | .eql => some (mkEq pc a b)
  | .neq => some (mkNot pc (mkEq pc a b))
  | .lss => some (mkLt pc a b)
  | .leq => some (mkLe pc a b)
  | .gtr => some (mkLt pc b a)
  | .geq => some (mkLe pc b a)
  | _ => none
def evBin (pc : PC) (op : BinOp) (x y : AV) : Tr (AV × PC) :=
  match x, y with
  | .v (.c (.int k a)), .v (.c (.int k' b)) =>
    match op with
    | .shl => branch pc (.lt b (.lit 0)) fun v pc => if v then .bad "shift" else .leaf (ret1 (.int k (mkWrap pc k (mkMul pc a (mkPow pc k b)))), pc)
    | .shr => branch pc (.lt b (.lit 0)) fun v pc => if v then .bad "shift" else .leaf (ret1 (.int k (mkShr pc a (mkPow pc k b))), pc)
    | _ => if decide (k = k') then
      match op with
      | .add => .leaf (ret1 (.int k (mkWrap pc k (mkAdd pc a b))), pc)
      | .sub => .leaf (ret1 (.int k (mkWrap pc k (mkSub pc a b))), pc)
      | .mul => .leaf (ret1 (.int k (mkWrap pc k (mkMul pc a b))), pc)
      | .quo => branch pc (.eq b (.lit 0)) fun v pc => if v then .bad "div" else .leaf (ret1 (.int k (mkWrap pc k (mkQuo pc a b))), pc)
      | .rem => branch pc (.eq b (.lit 0)) fun v pc => if v then .bad "div" else .leaf (ret1 (.int k (mkRem pc a b)), pc)
      | .and => .leaf (ret1 (.int k (mkBit pc .and k a b)), pc)
      | .or => .leaf (ret1 (.int k (mkBit pc .or k a b)), pc)
      | .xor => .leaf (ret1 (.int k (mkBit pc .xor k a b)), pc)
      | .andNot => .leaf (ret1 (.int k (mkBit pc .andNot k a b)), pc)
      | _ => must (cmpE pc op a b) "cmp" fun e => .leaf (ret1 (.bool e), pc)
      else .bad "kinds"
  | .v (.c (.val (.string a))), .v (.c (.val (.string b))) =>
    match op with
    | .eql => .leaf (ret1 (.bool (.lit (truth (a.toList == b.toList)))), pc)
    | .neq => .leaf (ret1 (.bool (.lit (truth (!(a.toList == b.toList))))), pc)
    | _ => .bad "string"
  | _, _ => .bad "binop"

/-- '==' of bools: the type is asked -/
def evEqB (cx : Cx) (pc : PC) (op : BinOp) (t : TypeId) (x y : AV) : Tr (AV × PC) :=
  match cx.und t, x, y with
  | some .bool, .v (.c (.bool a)), .v (.c (.bool b)) =>
    match rng pc a, rng pc b with
    | some r, some q => if decide (0 ≤ r.1) && decide (r.2 ≤ 1) && decide (0 ≤ q.1) && decide (q.2 ≤ 1) then
        (match op with
        | .eql => .leaf (ret1 (.bool (mkEq pc a b)), pc)
        | .neq => .leaf (ret1 (.bool (mkNot pc (mkEq pc a b))), pc)
        | _ => .bad "bools") else .bad "bools"
    | _, _ => .bad "bools"
  | some (.slice _), .v (.c (.slc _ _ _ _)), .v (.c (.val (.slice none _ _))) =>
    match op with
    | .eql => .leaf (ret1 (.bool (.lit 0)), pc)
    | .neq => .leaf (ret1 (.bool (.lit 1)), pc)
    | _ => .bad "nil"
  | some (.slice _), .v (.c (.val (.slice none _ _))), .v (.c (.val (.slice b _ _))) =>
    match op with
    | .eql => .leaf (ret1 (.bool (.lit (truth b.isNone))), pc)
    | .neq => .leaf (ret1 (.bool (.lit (truth (!b.isNone)))), pc)
    | _ => .bad "nil"
  | _, _, _ => .bad "eq"

def evUn (pc : PC) (op : UnOp) (x : AV) : Tr (AV × PC) :=
  match op, x with
  | .neg, .v (.c (.int k a)) => .leaf (ret1 (.int k (mkWrap pc k (fin pc (.sub (.lit 0) a)))), pc)
  | .xor, .v (.c (.int k a)) => .leaf (ret1 (.int k (mkBit pc .xor k (.lit (if k.signed then -1 else k.max)) a)), pc)
  | .not, .v (.c (.bool a)) => .leaf (ret1 (.bool (mkNot pc a)), pc)
  | _, _ => .bad "unop"

def mkL : List E → E
  | [] => .nil
  | a :: l => .cons a (mkL l)
def intsOf (k : IntKind) : List AT → Option (List E)
  | [] => some []
  | .int l e :: r => if decide (k = l) then (intsOf k r).map (e :: ·) else none
  | _ :: _ => none
def boolsOf : List AT → Option (List E)
  | [] => some []
  | .bool e :: r => (boolsOf r).map (e :: ·)
  | _ :: _ => none
/-- one that is the same wherever the index may be -/
def same (pc : PC) (i : E) (es : List E) : Option E :=
  match rng pc i with
  | some r => if decide (0 ≤ r.1) && decide (r.2 < es.length) then
      (match es.drop r.1.toNat with
      | a :: l => if (l.take (r.2.toNat - r.1.toNat)).all (a.beq ·) then some a else none
      | [] => none) else none
  | none => none
def mkSel (pc : PC) (i : E) (es : List E) : E := match same pc i es with
  | some a => a
  | none => fin pc (.sel i (mkL es))
/-- one of some cells -/
def selA (pc : PC) (i : E) (l : List AT) : Option AT :=
  match l with
  | .int k _ :: _ => (intsOf k l).map fun es => .int k (mkSel pc i es)
  | .bool _ :: _ => (boolsOf l).map fun es => .bool (mkSel pc i es)
  | _ => none
/-- every n-th cell -/
def every (size : Nat) : Nat → List AT → List AT
  | 0, _ => []
  | m + 1, l => match l with
    | [] => []
    | a :: _ => a :: every size m (l.drop size)

def isAggT (cx : Cx) (t : TypeId) : Option Bool :=
  match cx.und t with
  | some (.struct _) | some (.array _ _) => some true
  | some _ => some false
  | none => none
def sizeT (cx : Cx) (t : TypeId) : Option Nat := (lkT t cx.tt).map TI.size
def part1 (cx : Cx) (t : TypeId) (cs : List AT) (off : Nat) : Option A1 :=
  match isAggT cx t, sizeT cx t with
  | some true, some n => if Nat.ble (off + n) cs.length then some (.g ((cs.drop off).take n)) else none
  | some false, _ => (cs[off]?).map .c
  | _, _ => none

/-- '==' of structs, field by field -/
def eqFs (r : TypeId → A1 → A1 → Option E) (cx : Cx) (pc : PC) (xs ys : List AT) : List Field → Option E
  | [] => some (.lit 1)
  | f :: fs => match part1 cx f.type xs f.offset, part1 cx f.type ys f.offset with
    | some a, some b => (match r f.type a b, eqFs r cx pc xs ys fs with
      | some e, some e' => some (mkIte pc e e' (.lit 0))
      | _, _ => none)
    | _, _ => none
def bit01 (pc : PC) (e : E) : Bool := match rng pc e with
  | some r => decide (0 ≤ r.1) && decide (r.2 ≤ 1)
  | none => false
def eqT (cx : Cx) (pc : PC) : Nat → TypeId → A1 → A1 → Option E
  | 0, _, _, _ => none
  | n + 1, t, a, b => match cx.und t, a, b with
    | some (.int _), .c (.int k x), .c (.int l y) => if decide (k = l) then some (mkEq pc x y) else none
    | some .bool, .c (.bool x), .c (.bool y) => if bit01 pc x && bit01 pc y then some (mkEq pc x y) else none
    | some (.struct fs), .g xs, .g ys => if cx.eqs.any (Nat.beq t) then eqFs (eqT cx pc n) cx pc xs ys fs.toList else none
    | _, _, _ => none
def evEqS (cx : Cx) (pc : PC) (op : BinOp) (t : TypeId) (xs ys : List AT) : Tr (AV × PC) :=
  if cx.eqs.any (Nat.beq t) then
    match eqT cx pc 6 t (.g xs) (.g ys) with
    | some e => (match op with
      | .eql => .leaf (ret1 (.bool e), pc)
      | .neq => .leaf (ret1 (.bool (mkNot pc e)), pc)
      | _ => .bad "structs")
    | none => .bad "structs"
  else .bad "structs"

def one (pc : PC) (e : E) : Option Int := match rng pc e with
  | some r => if decide (r.1 = r.2) then some r.1 else none
  | none => none

/-- an index within: a number, or a term; else both are asked -/
def within {β : Type} (pc : PC) (e : E) (len : Nat) (f : Nat → PC → Tr β) (g : PC → Tr β) : Tr β :=
  match one pc e with
  | some n => if decide (0 ≤ n) && decide (n < len) then f n.toNat pc else .bad "index"
  | none => branch pc (.lt e (.lit 0)) fun v pc => if v then .bad "index" else branch pc (.lt e (.lit len)) fun v pc => if v then g pc else .bad "index"

def strE (s : ByteArray) : List E := s.data.toList.map fun b => .lit (b.toNat : Int)
def evIndex (cx : Cx) (pc : PC) (xt : TypeId) (x i : AV) : Tr (AV × PC) :=
  match cx.und xt, x, i with
  | some (.array len elem), .v (.g cs), .v (.c (.int _ e)) =>
    must (sizeT cx elem) "size" fun size =>
    within pc e len
      (fun n pc => must (part1 cx elem cs (n * size)) "part" fun p => .leaf (.v p, pc))
      (fun pc => must (isAggT cx elem) "agg" fun ag => if ag then .bad "aggs" else if Nat.beq size 1 && Nat.beq cs.length len then must (selA pc e cs) "sel" fun a => .leaf (ret1 a, pc) else .bad "sizes")
  | some .string, .v (.c (.val (.string s))), .v (.c (.int _ e)) =>
    within pc e s.size (fun _ pc => .leaf (ret1 (.int .u8 (mkSel pc e (strE s))), pc)) (fun pc => .leaf (ret1 (.int .u8 (mkSel pc e (strE s))), pc))
  | _, _, _ => .bad "index"

def evIndexAddr (cx : Cx) (pc : PC) (t : TypeId) (x i : AV) : Tr (AV × PC) :=
  match cx.und t, x, i with
  | some (.array len elem), .v (.c (.ptr l off)), .v (.c (.int _ e)) =>
    must (sizeT cx elem) "size" fun size =>
    within pc e len (fun n pc => .leaf (ret1 (.ptr l (off + n * size)), pc)) (fun pc => .leaf (ret1 (.pti l off e size), pc))
  | some (.array len elem), .v (.c (.pti l off j sz)), .v (.c (.int _ e)) =>
    must (sizeT cx elem) "size" fun size =>
    within pc e len (fun n pc => .leaf (ret1 (.pti l (off + n * size) j sz), pc)) (fun _ => .bad "two indices")
  | some (.slice elem), .v (.c (.slc l off len _)), .v (.c (.int _ e)) =>
    must (sizeT cx elem) "size" fun size =>
    within pc e len (fun n pc => .leaf (ret1 (.ptr l (off + n * size)), pc)) (fun pc => .leaf (ret1 (.pti l off e size), pc))
  | _, _, _ => .bad "indexAddr"

def fillA (place : Nat → Option (Nat × Nat)) (cells : List AT) : List (Nat × A1) → Option (List AT)
  | [] => some cells
  | (i, v) :: rest =>
    match place i with
    | none => none
    | some (off, size) =>
      if Nat.beq v.cells.length size && Nat.ble (off + size) cells.length
      then fillA place (cells.take off ++ v.cells ++ cells.drop (off + size)) rest else none
/-- the same, where the places rise -/
def fillS (place : Nat → Option (Nat × Nat)) (pos : Nat) (cells : List AT) : List (Nat × A1) → Option (List AT)
  | [] => some cells
  | (i, v) :: rest =>
    match place i with
    | none => none
    | some (off, size) =>
      if Nat.ble pos off && Nat.beq v.cells.length size && Nat.ble (off - pos + size) cells.length
      then (fillS place (off + size) (cells.drop (off - pos + size)) rest).map fun r => cells.take (off - pos) ++ (v.cells ++ r) else none
def fillB (place : Nat → Option (Nat × Nat)) (cells : List AT) (ps : List (Nat × A1)) : Option (List AT) :=
  match fillS place 0 cells ps with
  | some r => some r
  | none => fillA place cells ps
def asV : AV → Option A1
  | .v x => some x
  | .t _ => none
def partsOf (cx : Cx) (s : St) (ps : List (Nat × Operand)) : Option (List (Nat × A1)) :=
  allSome (ps.map fun p => ((s.ev cx p.2).bind asV).map fun x => (p.1, x))
def placeF (cx : Cx) (fs : List Field) : Option (List (Nat × Nat)) := allSome (fs.map fun f => (sizeT cx f.type).map fun n => (f.offset, n))
def zeroA (cx : Cx) (t : TypeId) : Option (List AT) := ((lkT t cx.tt).bind TI.zero).bind fun v => (konst1 v).map A1.cells
def evBuild (cx : Cx) (s : St) (t : TypeId) (parts : List (Nat × Operand)) : Option AV :=
  match zeroA cx t, cx.und t, partsOf cx s parts with
  | some z, some (.struct fs), some ps => (placeF cx fs.toList).bind fun pl => (fillB (pl[·]?) z ps).map fun l => .v (.g l)
  | some z, some (.array _ elem), some ps => (sizeT cx elem).bind fun n => (fillB (fun i => some (i * n, n)) z ps).map fun l => .v (.g l)
  | _, _, _ => none

def litNat (pc : PC) (lim : Nat) (x : Option AV) (d : Nat) : Option Nat :=
  match x with
  | none => some d
  | some (.v (.c (.int _ e))) => (one pc e).bind fun n => if decide (0 ≤ n) && decide (n ≤ lim) then some n.toNat else none
  | some _ => none
def optEv (cx : Cx) (s : St) : Option Operand → Option (Option AV)
  | none => some none
  | some x => (s.ev cx x).map some
def evSlice (cx : Cx) (s : St) (pc : PC) (t : TypeId) (x : AV) (lo hi mx : Option Operand) : Option AV :=
  match mx, optEv cx s lo, optEv cx s hi with
  | none, some lo, some hi =>
    match cx.und t, x with
    | some (.array n elem), .v (.c (.ptr b off)) =>
      (sizeT cx elem).bind fun size => (litNat pc n hi n).bind fun h => (litNat pc h lo 0).map fun l => ret1 (.slc b (if Nat.beq n l then off else off + l * size) (h - l) (n - l))
    | some (.slice elem), .v (.c (.slc b off len cap)) =>
      (sizeT cx elem).bind fun size => (litNat pc cap hi len).bind fun h => (litNat pc h lo 0).map fun l => ret1 (.slc b (if Nat.beq cap l then off else off + l * size) (h - l) (cap - l))
    | _, _ => none
  | _, _, _ => none

def minE (pc : PC) (a b : E) : E := fin pc (.ite (.lt b a) b a)
def maxE (pc : PC) (a b : E) : E := fin pc (.ite (.lt a b) b a)

/-- of operations that look at no memory: the value -/
def evPure (cx : Cx) (s : St) (o : Oper) : Tr (AV × PC) :=
  match o.op with
  | .move x | .assign x => must (s.ev cx x) "move" fun v => .leaf (v, s.pc)
  | .pick c a b =>
    match s.ev cx c, s.ev cx a, s.ev cx b with
    | some (.v (.c (.bool e))), some x, some y =>
      (match rng s.pc e with
      | some r => if decide (0 < r.1) || decide (r.2 < 0) then .leaf (x, s.pc) else if decide (r.1 = 0) && decide (r.2 = 0) then .leaf (y, s.pc) else
          (match x, y with
          | .v (.c p), .v (.c q) => must (mrg s.pc e p q) "pick" fun a => .leaf (ret1 a, s.pc)
          | _, _ => .bad "pick")
      | none => .bad "pick")
    | some (.v (.c (.bool e))), x, y =>
      (match rng s.pc e with
      | some r => if decide (0 < r.1) || decide (r.2 < 0) then must x "pick" fun x => .leaf (x, s.pc) else if decide (r.1 = 0) && decide (r.2 = 0) then must y "pick" fun y => .leaf (y, s.pc) else .bad "pick"
      | none => .bad "pick")
    | _, _, _ => .bad "pick"
  | .binOp op t x y _ =>
    match s.ev cx x, s.ev cx y with
    | some a, some b => (match a, b with
      | .v (.c (.bool _)), _ => evEqB cx s.pc op t a b
      | .v (.c (.slc _ _ _ _)), _ => evEqB cx s.pc op t a b
      | .v (.c (.val (.slice _ _ _))), _ => evEqB cx s.pc op t a b
      | .v (.g xs), .v (.g ys) => evEqS cx s.pc op t xs ys
      | _, _ => evBin s.pc op a b)
    | _, _ => .bad "binop"
  | .unOp op _ x => must (s.ev cx x) "unop" fun v => evUn s.pc op v
  | .convert src dst x =>
    match cx.und src, cx.und dst, s.ev cx x with
    | some _, some (.int k), some (.v (.c (.int _ e))) => .leaf (ret1 (.int k (mkWrap s.pc k e)), s.pc)
    | _, _, _ => .bad "convert"
  | .nilCheck x =>
    match s.ev cx x with
    | some (.v (.c (.ptr l off))) => .leaf (ret1 (.ptr l off), s.pc)
    | some (.v (.c (.pti l off i n))) => .leaf (ret1 (.pti l off i n), s.pc)
    | _ => .bad "nilCheck"
  | .build t ps => must (evBuild cx s t ps.toList) "build" fun v => .leaf (v, s.pc)
  | .fieldAddr t x f =>
    match cx.und t, s.ev cx x with
    | some (.struct fs), some x =>
      must fs[f]? "field" fun fd => must (sizeT cx fd.type) "size" fun n => if Nat.beq n 0 then .bad "size" else
      (match x with
      | .v (.c (.ptr l off)) => .leaf (ret1 (.ptr l (off + fd.offset)), s.pc)
      | .v (.c (.pti l off i n)) => .leaf (ret1 (.pti l (off + fd.offset) i n), s.pc)
      | _ => .bad "fieldAddr")
    | _, _ => .bad "fieldAddr"
  | .field t x f =>
    match cx.und t, s.ev cx x with
    | some (.struct fs), some (.v (.g cs)) => must fs[f]? "field" fun fd => must (part1 cx fd.type cs fd.offset) "part" fun p => .leaf (.v p, s.pc)
    | _, _ => .bad "field"
  | .indexAddr t x i => must (s.ev cx x) "indexAddr" fun x => must (s.ev cx i) "indexAddr" fun i => evIndexAddr cx s.pc t x i
  | .index t x i => must (s.ev cx x) "index" fun x => must (s.ev cx i) "index" fun i => evIndex cx s.pc t x i
  | .extract x i =>
    match s.ev cx x with
    | some (.t l) => must l[i]? "extract" fun p => .leaf (.v p, s.pc)
    | _ => .bad "extract"
  | .slice t x lo hi mx => must (s.ev cx x) "slice" fun v => must (evSlice cx s s.pc t v lo hi mx) "slice" fun r => .leaf (r, s.pc)
  | .call { callee := .builtin .len, args, argTypes } =>
    match (argTypes[0]?).bind cx.und, (args[0]?).bind (s.ev cx) with
    | some (.slice _), some (.v (.c (.slc _ _ n _))) => .leaf (ret1 (.int .i64 (.lit n)), s.pc)
    | some (.slice _), some (.v (.c (.val (.slice _ n _)))) => .leaf (ret1 (.int .i64 (.lit n)), s.pc)
    | some (.array n _), some _ => .leaf (ret1 (.int .i64 (.lit n)), s.pc)
    | _, _ => .bad "len"
  | .call { callee := .builtin b, args, argTypes := _ } =>
    match b, args.toList.map (s.ev cx) with
    | .min, [some (.v (.c (.int k x))), some (.v (.c (.int _ y)))] => .leaf (ret1 (.int k (minE s.pc x y)), s.pc)
    | .max, [some (.v (.c (.int k x))), some (.v (.c (.int _ y)))] => .leaf (ret1 (.int k (maxE s.pc x y)), s.pc)
    | _, _ => .bad "builtin"
  | _ => .bad "op"

/-! ### memory -/
def evLoad (cx : Cx) (s : St) (t : TypeId) (x : AV) : Option A1 :=
  match x with
  | .v (.c (.ptr l off)) => (s.heap[l]?).bind fun b => part1 cx t b.cells off
  | .v (.c (.pti l off i size)) => (s.heap[l]?).bind fun b =>
    match isAggT cx t, sizeT cx t, rng s.pc i with
    | some false, _, some r => if decide (0 ≤ r.1) && decide (off + r.2.toNat * size < b.cells.length) then (selA s.pc i (every size (r.2.toNat + 1) (b.cells.drop off))).map .c else none
    | some true, some m, some r => if decide (0 ≤ r.1) && decide (off + r.2.toNat * size + m ≤ b.cells.length) && Nat.ble m size then (allSome ((List.range m).map fun j => selA s.pc i (every size (r.2.toNat + 1) (b.cells.drop (off + j))))).map .g else none
    | _, _, _ => none
  | _ => none

/-- cells that are put among others -/
def putAt (off : Nat) (new cells : List AT) : List AT := cells.take off ++ new ++ cells.drop (off + new.length)
def zipM (pc : PC) (c : E) : List AT → List AT → Option (List AT)
  | [], r => some r
  | a :: l, b :: r => (mrg pc c a b).bind fun x => (zipM pc c l r).map (x :: ·)
  | _ :: _, [] => none
/-- cells that are put at the element number i, counted from m on -/
def putEach (pc : PC) (i : E) (size : Nat) (new : List AT) : Nat → Nat → List AT → Option (List AT)
  | _, 0, r => some r
  | m, k + 1, r => (zipM pc (fin pc (.eq i (.lit m))) new (r.take size)).bind fun h => (putEach pc i size new (m + 1) k (r.drop size)).map (h ++ ·)
def evStore (cx : Cx) (s : St) (t : TypeId) (x v : AV) : Option (List Blk) :=
  match sizeT cx t, asV v with
  | some n, some v =>
    if Nat.beq v.cells.length n && Nat.blt 0 n then
      match x with
      | .v (.c (.ptr l off)) => (s.heap[l]?).bind fun b => if b.rw && Nat.ble (off + n) b.cells.length then some (s.heap.set l { b with cells := putAt off v.cells b.cells }) else none
      | .v (.c (.pti l off i size)) => (s.heap[l]?).bind fun b =>
        (match rng s.pc i with
        | some r => if b.rw && decide (0 ≤ r.1) && Nat.ble n size && decide (off + r.2.toNat * size + size ≤ b.cells.length) then
            (putEach s.pc i size v.cells 0 (r.2.toNat + 1) (b.cells.drop off)).map fun c => s.heap.set l { b with cells := b.cells.take off ++ c } else none
        | none => none)
      | _ => none
    else none
  | _, _ => none

def AT.below (n : Nat) : AT → Bool
  | .ptr l _ => Nat.blt l n
  | .pti l _ _ _ => Nat.blt l n
  | .slc l _ _ _ => Nat.blt l n
  | _ => true
def A1.below (n : Nat) (x : A1) : Bool := x.cells.all (·.below n)
def AV.below (n : Nat) : AV → Bool
  | .v x => x.below n
  | .t l => l.all (·.below n)
/-- blocks that nothing leads to any more are left out -/
def trim (n : Nat) (x : AV) (h : List Blk) : List Blk :=
  if x.below n && (h.take n).all (fun b => b.cells.all (·.below n)) then h.take n else h

def resA (cx : Cx) (s : St) : ResultVar → Option A1
  | .tmp t => (find t s.tmps).bind asV
  | .cell a t => (find a s.tmps).bind fun x => match x with
    | .v (.c (.ptr l off)) => evLoad cx s t (.v (.c (.ptr l off)))
    | _ => none
def resultsA (cx : Cx) (rs : List ResultVar) (s : St) : Option AV :=
  match rs with
  | [.tmp t] => find t s.tmps
  | _ => (allSome (rs.map (resA cx s))).map fun l => match l with
    | [x] => .v x
    | l => .t l

def number : Nat → List AV → TM → TM
  | _, [], m => m
  | n, x :: l, m => number (n + 1) l (m.set x n)

def sumOf (f : FuncId) : List Sum → Option Sum
  | [] => none
  | s :: l => if Nat.beq s.f f then some s else sumOf f l

def calleeOf (cx : Cx) (s : St) (c : Callee) : Option FuncId :=
  match c with
  | .value x => (match s.ev cx x with
    | some (.v (.c (.val (.func (.func f) first captured)))) => if first.isEmpty && captured.isEmpty then some f else none
    | _ => none)
  | _ => none

/-- a call: by its sum, or by its body -/
def evCall (cx : Cx) (ih : Code → St → Tr (X × St)) (s : St) (f : FuncId) (args : List AV) : Tr (AV × List Blk × PC) :=
  match sumOf f cx.sums with
  | some m => must (m.run s.pc s.heap args) "sum" fun r => .leaf r
  | none =>
    match lkT f cx.fns with
    | some fn =>
      match fn.body with
      | some c =>
        if Nat.ble args.length fn.ntmps && Nat.ble fn.ntmps 16777215 && !(fn.name == "runtime.NumGoroutine") then
          (ih c { n := fn.ntmps, tmps := number 0 args .nil, heap := s.heap, pc := s.pc }).bind fun r =>
            match r.1 with
            | .exit _ => .bad "exit"
            | _ => must (resultsA cx fn.results.toList r.2) "results" fun v => .leaf (v, trim s.heap.length v r.2.heap, r.2.pc)
        else .bad "args"
      | none => .bad "no body"
    | none => .bad "no function"

def asArgs (cx : Cx) (s : St) (args : List Operand) : Option (List AV) := allSome (args.map (s.ev cx))

/-- one operation: its value, and the state but for that -/
def evOp (cx : Cx) (ih : Code → St → Tr (X × St)) (s : St) (o : Oper) : Tr (AV × St) :=
  match o.op with
  | .load t a => must ((s.ev cx a).bind (evLoad cx s t)) "load" fun v => .leaf (.v v, s)
  | .store t a x =>
    match s.ev cx a, s.ev cx x with
    | some a, some x => must (evStore cx s t a x) "store" fun h => .leaf (.t [], { s with heap := h })
    | _, _ => .bad "store"
  | .alloc t => must (zeroA cx t) "alloc" fun z => .leaf (ret1 (.ptr s.heap.length 0), { s with heap := s.heap ++ [⟨t, z, true⟩] })
  | .box t x => must ((s.ev cx x).bind asV) "box" fun v => .leaf (ret1 (.ptr s.heap.length 0), { s with heap := s.heap ++ [⟨t, v.cells, true⟩] })
  | .buildSlice t len ps =>
    match cx.und t with
    | some (.slice elem) =>
      must (sizeT cx elem) "size" fun size => must (zeroA cx elem) "zero" fun z => must (partsOf cx s ps.toList) "parts" fun l =>
      if Nat.beq z.length size && Nat.ble (len * size) 16777216 then
        must (fillB (fun i => some (i * size, size)) ((List.replicate len z).flatten) l) "fill" fun cs => .leaf (ret1 (.slc s.heap.length 0 len len), { s with heap := s.heap ++ [⟨elem, cs, true⟩] })
      else .bad "buildSlice"
    | _ => .bad "buildSlice"
  | .call { callee := .value x, args, argTypes := _ } =>
    must (calleeOf cx s (.value x)) "callee" fun f => must (asArgs cx s args.toList) "args" fun l =>
    (evCall cx ih s f l).bind fun r => .leaf (r.1, { s with heap := r.2.1, pc := r.2.2 })
  | _ => (evPure cx s o).bind fun r => .leaf (r.1, { s with pc := r.2 })

/-- is an operation carried out, by its guard? -/
def guardE (ops : Array Oper) (s : St) (o : Oper) : Option (Option (E × Bool)) :=
  match o.guard with
  | none => some none
  | some (j, want) =>
    match ((ops[j]?).bind (·.dst)).bind (find · s.tmps) with
    | some (.v (.c (.bool e))) => some (some (e, want))
    | some (.t []) => some (some (.lit (truth (!want)), want))
    | _ => none

def evOps (cx : Cx) (ih : Code → St → Tr (X × St)) (ops : Array Oper) : List Oper → St → Tr (X × St)
  | [], s => .leaf (.nml, s)
  | o :: rest, s =>
    let run := fun (s : St) => (evOp cx ih s o).bind fun r => must (r.2.put o.dst r.1) "put" (evOps cx ih ops rest)
    let pass := fun (s : St) => must (s.put o.dst (.t [])) "put" (evOps cx ih ops rest)
    must (guardE ops s o) "guard" fun g =>
    match g with
    | none => run s
    | some (e, want) => branch s.pc e fun v pc => if v == want then run { s with pc := pc } else pass { s with pc := pc }

/-! ### regions that draw their order -/
/-- 0: nothing that was there is changed, and nothing new is yielded · 1: something new is · 2: something is changed -/
def level : Op → Nat
  | .alloc _ | .box .. | .buildSlice .. => 1
  | .move _ | .assign _ | .pick .. | .binOp .. | .unOp .. | .convert .. | .nilCheck _ | .build .. | .fieldAddr .. | .field .. | .indexAddr .. | .index .. | .extract .. | .slice .. | .load .. => 0
  | .call { callee := .value _, .. } => 0
  | .call { callee := .builtin .len, .. } | .call { callee := .builtin .min, .. } | .call { callee := .builtin .max, .. } => 0
  | _ => 2
def pureOp : Op → Bool
  | .move _ | .assign _ | .pick .. | .binOp .. | .unOp .. | .nilCheck _ | .build .. | .fieldAddr .. | .field .. | .indexAddr .. | .index .. | .extract .. | .slice .. => true
  | .call { callee := .builtin .len, .. } | .call { callee := .builtin .min, .. } | .call { callee := .builtin .max, .. } => true
  | .convert _ d _ => !(Nat.beq d 9)
  | _ => false
/-- all others that have not come up, and do not wait for i, change nothing -/
def calm (ops : Array Oper) (listed : Array Bool) (i : Nat) : Bool :=
  (List.range ops.size).all fun j => j == i || listed.getD j true || match ops[j]? with
    | none => true
    | some oj => (oj.after.any fun e => Region.binds .any e && e.on == i) || Nat.ble (level oj.op) 1
def takeable (ops : Array Oper) (listed : Array Bool) (i : Nat) : Bool :=
  match ops[i]? with
  | some o => Nat.beq (level o.op) 0 && Region.free .any ops listed i && (pureOp o.op || calm ops listed i)
  | none => false
def firstOf (p : Nat → Bool) : List Nat → Option Nat
  | [] => none
  | i :: l => if p i then some i else firstOf p l

inductive DR (α : Type) where
  | ok (x : α) | need (c : E) | bad (s : String)
def Tr.dr {α : Type} : Tr α → DR α
  | .leaf x => .ok x
  | .node c _ _ => .need c
  | .bad s => .bad s
def DR.bind {α β : Type} : DR α → (α → DR β) → DR β
  | .ok x, f => f x
  | .need c, _ => .need c
  | .bad s, _ => .bad s
def freeze (h : List Blk) : List Blk := h.map fun b => { b with rw := false }
/-- an operation that changes nothing that was there: what is new is let go -/
def evCalm (cx : Cx) (ih : Code → St → Tr (X × St)) (s : St) (o : Oper) : DR (AV × PC) :=
  if pureOp o.op then (evPure cx s o).dr else
  (evOp cx ih { s with heap := freeze s.heap } o).dr.bind fun r => if r.1.below s.heap.length then .ok (r.1, r.2.pc) else .bad "new"
/-- an operation of a region that draws: whether it is carried out, and what it leaves -/
def evOne (cx : Cx) (ih : Code → St → Tr (X × St)) (ops : Array Oper) (s : St) (i : Nat) (o : Oper) (lvl0 : Bool) : DR St :=
  let run := fun (s : St) =>
    if lvl0 then (evCalm cx ih s o).bind fun r => match St.put { s with pc := r.2 } o.dst r.1 with
      | some s => .ok s
      | none => .bad "put"
    else (evOp cx ih s o).dr.bind fun r => match r.2.put o.dst r.1 with
      | some s => .ok s
      | none => .bad "put"
  match guardE ops s o with
  | none => .bad "guard"
  | some none => run s
  | some (some (e, want)) =>
    match one s.pc e with
    | none => .need e
    | some n => if (decide (n ≠ 0)) == want then run s else match s.put o.dst (.t []) with
      | some s => .ok s
      | none => .bad "put"
def drn (cx : Cx) (ih : Code → St → Tr (X × St)) (ops : Array Oper) : Nat → Array Bool → St → DR St
  | 0, listed, s => if (Region.ready .any ops listed).isEmpty then .ok s else .bad "fuel"
  | fuel + 1, listed, s =>
    if (Region.ready .any ops listed).isEmpty then .ok s else
    match firstOf (takeable ops listed) (Region.ready .any ops listed) with
    | some i => (match ops[i]? with
      | some o => (evOne cx ih ops s i o true).bind (drn cx ih ops fuel (listed.setIfInBounds i true))
      | none => .bad "op")
    | none => (match Region.ready .any ops listed with
      | [i] => (match ops[i]? with
        | some o => if Nat.beq (level o.op) 0 then .bad "level" else (evOne cx ih ops s i o false).bind (drn cx ih ops fuel (listed.setIfInBounds i true))
        | none => .bad "op")
      | _ => .bad "order")
def evDrawn (cx : Cx) (ih : Code → St → Tr (X × St)) (ops : Array Oper) : Nat → St → Tr (X × St)
  | 0, _ => .bad "splits"
  | fuel + 1, s =>
    if !Region.noSelect ops then .bad "select" else
    match drn cx ih ops ops.size (Array.replicate ops.size false) s with
    | .ok s => .leaf (.nml, s)
    | .bad w => .bad w
    | .need c => branch s.pc c fun _ pc => evDrawn cx ih ops fuel { s with pc := pc }

/-! ### code -/
def evLoop (ih : Code → St → Tr (X × St)) (c : Code) : Nat → St → Tr (X × St)
  | 0, _ => .bad "rounds"
  | n + 1, s => (ih c s).bind fun r => match r.1 with
    | .nml => evLoop ih c n r.2
    | _ => .leaf r
def step (cx : Cx) (ih : Code → St → Tr (X × St)) (c : Code) (s : St) : Tr (X × St) :=
  match c with
  | .skip | .label _ => .leaf (.nml, s)
  | .ret => .leaf (.ret, s)
  | .exit id => .leaf (.exit id, s)
  | .seq a b => (ih a s).bind fun r => match r.1 with
    | .nml => ih b r.2
    | _ => .leaf r
  | .cond c a b =>
    match s.ev cx c with
    | some (.v (.c (.bool e))) => branch s.pc e fun v pc => ih (if v then a else b) { s with pc := pc }
    | _ => .bad "cond"
  | .block id c => (ih c s).bind fun r => match r.1 with
    | .exit j => .leaf (if Nat.beq j id then .nml else .exit j, r.2)
    | _ => .leaf r
  | .loop c => evLoop ih c 100000 s
  | .region _ ops draw => if draw then evDrawn cx ih ops 64 s else evOps cx ih ops ops.toList s
  | _ => .bad "code"
end Go.Proofs.YtjcacjeoddnmhaaDoor.Ev
