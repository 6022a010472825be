/- Parts of the proof: Sha, U32. -/
import Derived.Laws.BitsAllLaws
import Derived.Test.YtmbfenkmabdokaaGreatDoorR00
set_option linter.all false
namespace Go.Proofs.YtmbfenkmabdokaaGreatDoor
open Go.RowKit

/-! ### Turning a number of 32 bits -/

def rotN (x k : Nat) : Nat := x * 2 ^ k % 4294967296 + x * 2 ^ k / 4294967296

theorem rotN_zero (x : Nat) (h : x < 4294967296) : rotN x 0 = x := by unfold rotN; simp; omega

/-- what is left and what comes over, of a number that is turned: m and q, multiples of p below and below p -/
theorem rot_parts (a p u : Nat) (hu : p * u = 4294967296) (ha : p ∣ a) : ∃ r, a % 4294967296 = p * r ∧ r < u := by
  have hr : p ∣ a % 4294967296 := by
    rw [Nat.dvd_mod_iff ⟨u, hu.symm⟩]; exact ha
  obtain ⟨r, hr⟩ := hr
  refine ⟨r, hr, ?_⟩
  have hlt : a % 4294967296 < 4294967296 := Nat.mod_lt _ (by decide)
  apply Nat.lt_of_not_le
  intro h
  have := Nat.mul_le_mul_left p h
  omega

theorem rot_step (a p v : Nat) (hu : p * (2 * v) = 4294967296) (ha : p ∣ a) (hq : a / 4294967296 < p) :
    (a % 4294967296 + a / 4294967296) * 2 % 4294967296 + (a % 4294967296 + a / 4294967296) * 2 / 4294967296 = a * 2 % 4294967296 + a * 2 / 4294967296 := by
  obtain ⟨r, hr, hlt⟩ := rot_parts a p (2 * v) hu ha
  have e : a = 4294967296 * (a / 4294967296) + a % 4294967296 := (Nat.div_add_mod a 4294967296).symm
  have k1 : p * r + p ≤ 4294967296 := by
    have := Nat.mul_le_mul_left p (show r + 1 ≤ 2 * v from hlt)
    rw [Nat.mul_succ] at this; omega
  have k2 : 2 * (p * r) < 4294967296 → 2 * (p * r) + 2 * p ≤ 4294967296 := by
    intro h
    have e2 : p * (2 * v) = 2 * (p * v) := by rw [Nat.mul_left_comm]
    have h1 : r < v := by
      apply Nat.lt_of_not_le; intro hv
      have := Nat.mul_le_mul_left p hv
      omega
    have h3 := Nat.mul_le_mul_left p (show r + 1 ≤ v from h1)
    rw [Nat.mul_succ] at h3
    omega
  rw [hr] at e
  have hm : a % 4294967296 = p * r := hr
  rw [hm]
  clear hr hm ha hu
  generalize p * r = m at *
  generalize a / 4294967296 = q at *
  subst e
  by_cases h : 2 * m < 4294967296
  · have := k2 h
    omega
  · omega

theorem rot_q (x k : Nat) (h : x < 4294967296) : x * 2 ^ k / 4294967296 < 2 ^ k := by
  have hp : 0 < 2 ^ k := Nat.pow_pos (by decide)
  apply Nat.div_lt_of_lt_mul
  exact Nat.mul_lt_mul_of_pos_right h hp
theorem rot_u (k : Nat) (h : k ≤ 32) : 2 ^ k * 2 ^ (32 - k) = 4294967296 := by
  rw [← Nat.pow_add, show k + (32 - k) = 32 from by omega]

theorem rotN_succ (x k : Nat) (hx : x < 4294967296) (hk : k < 32) : rotN x (k + 1) = rotN x k * 2 % 4294967296 + rotN x k * 2 / 4294967296 := by
  unfold rotN
  have hu : 2 ^ k * (2 * 2 ^ (31 - k)) = 4294967296 := by
    have := rot_u k (by omega)
    rw [show 32 - k = (31 - k) + 1 from by omega, Nat.pow_succ, Nat.mul_comm (2 ^ (31 - k)) 2] at this
    exact this
  have := rot_step (x * 2 ^ k) (2 ^ k) (2 ^ (31 - k)) hu (Nat.dvd_mul_left _ _) (rot_q x k hx)
  rw [this, Nat.pow_succ, Nat.mul_assoc]

theorem rotN_lt (x k : Nat) (hx : x < 4294967296) (hk : k ≤ 32) : rotN x k < 4294967296 := by
  unfold rotN
  obtain ⟨r, hr, hlt⟩ := rot_parts (x * 2 ^ k) (2 ^ k) (2 ^ (32 - k)) (rot_u k hk) (Nat.dvd_mul_left _ _)
  have h1 := rot_q x k hx
  have h2 := Nat.mul_le_mul_left (2 ^ k) (show r + 1 ≤ 2 ^ (32 - k) from hlt)
  rw [rot_u k hk, Nat.mul_succ] at h2
  rw [hr]
  omega

/-- the program's way -/
theorem rot_or (x k : Nat) (hx : x < 4294967296) (hk : k ≤ 32) : (x * 2 ^ k % 4294967296) ||| (x / 2 ^ (32 - k)) = rotN x k := by
  unfold rotN
  have e : x / 2 ^ (32 - k) = x * 2 ^ k / 4294967296 := by
    rw [← rot_u k hk, Nat.mul_comm (2 ^ k) (2 ^ (32 - k)), Nat.mul_div_mul_right _ _ (Nat.pow_pos (by decide))]
  rw [e]
  obtain ⟨r, hr, hlt⟩ := rot_parts (x * 2 ^ k) (2 ^ k) (2 ^ (32 - k)) (rot_u k hk) (Nat.dvd_mul_left _ _)
  rw [hr]
  exact (Nat.two_pow_add_eq_or_of_lt (rot_q x k hx) r).symm

def rotl (x : UInt32) (k : Nat) : UInt32 := UInt32.ofNat (rotN x.toNat k)
theorem rotl_toNat (x : UInt32) (k : Nat) (hk : k ≤ 32) : (rotl x k).toNat = rotN x.toNat k := by
  unfold rotl
  rw [UInt32.toNat_ofNat']
  exact Nat.mod_eq_of_lt (rotN_lt _ _ x.toNat_lt hk)

/-! ### The digest -/

structure S5 where
  a : UInt32
  b : UInt32
  c : UInt32
  d : UInt32
  e : UInt32

def S5.start : S5 := ⟨1732584193, 4023233417, 2562383102, 271733878, 3285377520⟩
/-- a word of a block -/
def word (p : Bytes) (i : Nat) : UInt32 :=
  UInt32.ofNat ((p.getD (4 * i) 0).toNat * 16777216 + (p.getD (4 * i + 1) 0).toNat * 65536 + (p.getD (4 * i + 2) 0).toNat * 256 + (p.getD (4 * i + 3) 0).toNat)
/-- the first so many of a block's eighty words -/
def wl (p : Bytes) : Nat → List UInt32
  | 0 => []
  | i + 1 => wl p i ++ [if i < 16 then word p i else rotl ((wl p i).getD (i - 3) 0 ^^^ (wl p i).getD (i - 8) 0 ^^^ (wl p i).getD (i - 14) 0 ^^^ (wl p i).getD (i - 16) 0) 1]
theorem wl_length (p : Bytes) : ∀ n, (wl p n).length = n
  | 0 => rfl
  | n + 1 => by rw [wl, List.length_append, wl_length p n]; rfl
def fF (i : Nat) (b c d : UInt32) : UInt32 :=
  if i < 20 then (b &&& c) ||| (~~~b &&& d) else if i < 40 then b ^^^ c ^^^ d else if i < 60 then (b &&& c) ||| (b &&& d) ||| (c &&& d) else b ^^^ c ^^^ d
def kF (i : Nat) : UInt32 := if i < 20 then 1518500249 else if i < 40 then 1859775393 else if i < 60 then 2400959708 else 3395469782
def rnd (i : Nat) (x : UInt32) (s : S5) : S5 := ⟨rotl s.a 5 + fF i s.b s.c s.d + s.e + kF i + x, s.a, rotl s.b 30, s.c, s.d⟩
def rnds (ws : List UInt32) (h : S5) : Nat → S5
  | 0 => h
  | i + 1 => rnd i (ws.getD i 0) (rnds ws h i)
def S5.add (h k : S5) : S5 := ⟨h.a + k.a, h.b + k.b, h.c + k.c, h.d + k.d, h.e + k.e⟩
def blk (h : S5) (p : Bytes) : S5 := h.add (rnds (wl p 80) h 80)
/-- the first n blocks -/
def blks (h : S5) (m : Bytes) : Nat → S5
  | 0 => h
  | n + 1 => blk (blks h m n) ((m.drop (64 * n)).take 64)
def zpad (n : Nat) : Nat := (119 - n % 64) % 64
/-- what stands behind the text -/
def tailP (n : Nat) : Bytes := [128] ++ List.replicate (zpad n) 0 ++ numB (8 * n % 18446744073709551616) 8
def padB (l : Bytes) : Bytes := l ++ tailP l.length
def outB (h : S5) : Bytes := numB h.a.toNat 4 ++ numB h.b.toNat 4 ++ numB h.c.toNat 4 ++ numB h.d.toNat 4 ++ numB h.e.toNat 4
def sha (l : Bytes) : Bytes := outB (blks S5.start (padB l) ((padB l).length / 64))
theorem outB_length (h : S5) : (outB h).length = 20 := by simp [outB, numB_length]
theorem sha_length (l : Bytes) : (sha l).length = 20 := outB_length _

theorem tailP_length (n : Nat) : (tailP n).length = 9 + zpad n := by simp [tailP, numB_length]; omega
theorem zpad_le (n : Nat) : zpad n ≤ 63 := by unfold zpad; omega
theorem padB_length (l : Bytes) : (padB l).length = l.length + 9 + zpad l.length := by rw [padB, List.length_append, tailP_length]; omega
theorem padB_mod (l : Bytes) : (padB l).length % 64 = 0 := by rw [padB_length]; unfold zpad; omega

/-- two blocks' rows that have the same parts -/
theorem blks_congr (h : S5) (m m' : Bytes) (n : Nat) (hm : ∀ i, i < n → (m.drop (64 * i)).take 64 = (m'.drop (64 * i)).take 64) : blks h m n = blks h m' n := by
  induction n with
  | zero => rfl
  | succ n ih => rw [blks, blks, ih (fun i hi => hm i (by omega)), hm n (by omega)]
theorem blks_add (h : S5) (m : Bytes) (n : Nat) : ∀ k, blks h m (n + k) = blks (blks h m n) (m.drop (64 * n)) k
  | 0 => rfl
  | k + 1 => by
    rw [← Nat.add_assoc, blks, blks, blks_add h m n k, List.drop_drop]
    congr 3
    omega

/-! ### The tag -/
def keyB (k : Bytes) : Bytes := let j := if 64 < k.length then sha k else k; j ++ List.replicate (64 - j.length) 0
theorem keyB_length (k : Bytes) : (keyB k).length = 64 := by
  unfold keyB
  by_cases h : 64 < k.length
  · simp [h, sha_length]
  · simp [h]; omega
def inB (k : Bytes) : Bytes := (keyB k).map (· ^^^ 54)
def exB (k : Bytes) : Bytes := (keyB k).map (· ^^^ 92)
def tagB (k b : Bytes) : Bytes := sha (exB k ++ sha (inB k ++ b))
theorem tagB_length (k b : Bytes) : (tagB k b).length = 20 := sha_length _

/-! ### Base sixteen -/
def digB (n : Nat) : UInt8 := UInt8.ofNat (if n < 10 then 48 + n else 87 + n)
def hexB (l : Bytes) : Bytes := l.flatMap fun c => [digB (c.toNat / 16), digB (c.toNat % 16)]
theorem hexB_length (l : Bytes) : (hexB l).length = 2 * l.length := by
  induction l with
  | nil => rfl
  | cons c l ih => rw [hexB, List.flatMap_cons, List.length_append]; rw [hexB] at ih; rw [ih]; simp; omega
theorem hexB_snoc (l : Bytes) (c : UInt8) : hexB (l ++ [c]) = hexB l ++ [digB (c.toNat / 16), digB (c.toNat % 16)] := by simp [hexB]
theorem hexB_append (a b : Bytes) : hexB (a ++ b) = hexB a ++ hexB b := by simp [hexB]
theorem hexB_cons (c : UInt8) (l : Bytes) : hexB (c :: l) = digB (c.toNat / 16) :: digB (c.toNat % 16) :: hexB l := by simp [hexB]
theorem digB_inj : ∀ a b : Nat, a < 16 → b < 16 → digB a = digB b → a = b := by
  have : ∀ a : Fin 16, ∀ b : Fin 16, digB a.1 = digB b.1 → a.1 = b.1 := by decide
  intro a b ha hb h
  exact this ⟨a, ha⟩ ⟨b, hb⟩ h
theorem hexB_inj : ∀ a b : Bytes, hexB a = hexB b → a = b
  | [], [], _ => rfl
  | [], _ :: _, h => by simp [hexB] at h
  | _ :: _, [], h => by simp [hexB] at h
  | c :: a, d :: b, h => by
    rw [hexB_cons, hexB_cons] at h
    simp only [List.cons.injEq] at h
    obtain ⟨h1, h2, h3⟩ := h
    have hc := c.toNat_lt
    have hd := d.toNat_lt
    have e1 := digB_inj _ _ (by omega) (by omega) h1
    have e2 := digB_inj _ _ (by omega) (by omega) h2
    have e : c = d := UInt8.toNat_inj.1 (by omega)
    rw [e, hexB_inj a b h3]

/-- is that a sign of base sixteen? -/
def isHex (c : UInt8) : Bool := (48 ≤ c && c ≤ 57) || (97 ≤ c && c ≤ 102)
theorem isHex_digB : ∀ n, n < 16 → isHex (digB n) = true := by
  have : ∀ a : Fin 16, isHex (digB a.1) = true := by decide
  intro n hn; exact this ⟨n, hn⟩
theorem hexB_hex (l : Bytes) : (hexB l).all isHex = true := by
  induction l with
  | nil => rfl
  | cons c l ih =>
    have hc := c.toNat_lt
    rw [hexB_cons, List.all_cons, List.all_cons, ih, isHex_digB _ (by omega), isHex_digB _ (by omega)]
    rfl
/-- is that a token? -/
def isTok (s : Bytes) : Bool := s.length == 32 && s.all isHex
/-- a token's cookie -/
def cookieB (k t : Bytes) : Bytes := t ++ [46] ++ hexB (tagB k t)
theorem cookieB_length (k t : Bytes) (h : t.length = 32) : (cookieB k t).length = 73 := by simp [cookieB, hexB_length, tagB_length, h]
end Go.Proofs.YtmbfenkmabdokaaGreatDoor

namespace Go.Proofs.YtmbfenkmabdokaaGreatDoor
open Go.RowKit

theorem b_and (x y : UInt32) : bits BinOp.and IntKind.u32 (x.toNat : Int) (y.toNat : Int) = ((x &&& y).toNat : Int) := by
  rw [u32_and_nat _ _ x.toNat_lt y.toNat_lt, UInt32.toNat_and]
theorem b_or (x y : UInt32) : bits BinOp.or IntKind.u32 (x.toNat : Int) (y.toNat : Int) = ((x ||| y).toNat : Int) := by
  rw [u32_or_nat _ _ x.toNat_lt y.toNat_lt, UInt32.toNat_or]
theorem b_xor (x y : UInt32) : bits BinOp.xor IntKind.u32 (x.toNat : Int) (y.toNat : Int) = ((x ^^^ y).toNat : Int) := by
  rw [u32_xor_nat _ _ x.toNat_lt y.toNat_lt, UInt32.toNat_xor]
theorem b_not (x : UInt32) : bits BinOp.xor IntKind.u32 (IntKind.u32.max) (x.toNat : Int) = ((~~~x).toNat : Int) := by
  have hm : IntKind.u32.max = ((4294967295 : Nat) : Int) := by decide
  rw [hm, u32_xor_nat _ _ (by omega) x.toNat_lt]
  have e : ((-1 : UInt32) ^^^ x) = ~~~x := UInt32.neg_one_xor
  rw [← e, UInt32.toNat_xor]
  rfl
theorem b_add (x y : UInt32) : ((x.toNat : Int) + (y.toNat : Int)) % 4294967296 = ((x + y).toNat : Int) := by
  rw [UInt32.toNat_add]; omega
theorem c_and (x y : UInt32) : bits BinOp.and IntKind.u64 (x.toNat : Int) (y.toNat : Int) = ((x &&& y).toNat : Int) := by
  have hx := x.toNat_lt; have hy := y.toNat_lt
  rw [u64_and_nat _ _ (by omega) (by omega), UInt32.toNat_and]
theorem c_or (x y : UInt32) : bits BinOp.or IntKind.u64 (x.toNat : Int) (y.toNat : Int) = ((x ||| y).toNat : Int) := by
  have hx := x.toNat_lt; have hy := y.toNat_lt
  rw [u64_or_nat _ _ (by omega) (by omega), UInt32.toNat_or]
theorem c_xor (x y : UInt32) : bits BinOp.xor IntKind.u64 (x.toNat : Int) (y.toNat : Int) = ((x ^^^ y).toNat : Int) := by
  have hx := x.toNat_lt; have hy := y.toNat_lt
  rw [u64_xor_nat _ _ (by omega) (by omega), UInt32.toNat_xor]
theorem c_not (x : UInt32) : (4294967295 : Int) - (x.toNat : Int) = ((~~~x).toNat : Int) := by
  have hx := x.toNat_lt
  rw [UInt32.toNat_not]
  have : UInt32.size = 4294967296 := rfl
  omega
theorem c_add (x y : UInt32) : ((x.toNat : Int) + (y.toNat : Int)) % 4294967296 = ((x + y).toNat : Int) := b_add x y
theorem u_lt (x : UInt32) : (x.toNat : Int) < 4294967296 := by have := x.toNat_lt; omega
end Go.Proofs.YtmbfenkmabdokaaGreatDoor
