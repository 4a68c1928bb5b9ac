/- Sets of nodes, most of them, and how far most have come, as plain numbers and lists (no program). -/
import Derived.Below
namespace Go.Proofs.YtiamkjokiapanaaDoor

def rt (s : Int) : Nat := if 0 ≤ s ∧ s ≤ 127 then s.toNat else 0
theorem rt_lt (s : Int) : rt s < 128 := by unfold rt; split <;> omega
theorem rt_of (n : Nat) (h : n < 128) : rt (n : Int) = n := by
  unfold rt
  rw [if_pos (by omega)]
  omega
theorem rt_idem (s : Int) : rt ((rt s : Nat) : Int) = rt s := rt_of _ (rt_lt s)
def bitN (s i : Nat) : Nat := if s.testBit i then 1 else 0
def hasN (s : Nat) (w : Int) : Bool := decide (0 ≤ w ∧ w < 7) && s.testBit w.toNat
def addN (s : Nat) (w : Int) : Nat := if 0 ≤ w ∧ w < 7 then s ||| 2 ^ w.toNat else s
def addsN : Nat → List Int → Nat
  | s, [] => s
  | s, w :: l => addsN (addN s w) l
def sizeN (s : Nat) : Nat := bitN s 0 + bitN s 1 + bitN s 2 + bitN s 3 + bitN s 4 + bitN s 5 + bitN s 6
def membN (s : Nat) : List Int := ([0, 1, 2, 3, 4, 5, 6] : List Int).filter (hasN s)
def enoughN (s : Nat) (n : Int) : Bool := decide (1 ≤ n ∧ n ≤ 7) && decide (n / 2 + 1 ≤ (sizeN (s % 2 ^ n.toNat) : Int))
def leadN (view n : Int) : Int := if 1 ≤ n ∧ n ≤ 7 ∧ 0 ≤ view then view % n else 0
def leadB (view n : Int) : Bool := decide (1 ≤ n ∧ n ≤ 7 ∧ 0 ≤ view)
def reachN (n : Int) (far : List Int) : Int :=
  if 1 ≤ n ∧ n ≤ 7 ∧ n / 2 + 1 ≤ (far.length : Int) then max ((far.mergeSort fun x y => decide (x ≤ y)).getD (far.length - (n / 2 + 1).toNat) 0) 0 else 0

theorem addN_lt (s : Nat) (w : Int) (h : s < 128) : addN s w < 128 := by
  unfold addN
  split
  · rename_i hw
    have h2 : 2 ^ w.toNat < 2 ^ 7 := Nat.pow_lt_pow_right (by omega) (by omega)
    exact Nat.or_lt_two_pow (n := 7) h h2
  · exact h
theorem addsN_lt : ∀ (l : List Int) (s : Nat), s < 128 → addsN s l < 128
  | [], _, h => h
  | w :: l, s, h => addsN_lt l _ (addN_lt s w h)
theorem bit_add (s : Nat) (w : Int) (i : Nat) : (addN s w).testBit i = (s.testBit i || (decide (0 ≤ w ∧ w < 7) && decide (w.toNat = i))) := by
  unfold addN
  by_cases h : 0 ≤ w ∧ w < 7
  · rw [if_pos h, Nat.testBit_or, Nat.testBit_two_pow]
    simp [h]
  · rw [if_neg h]; simp [h]
theorem bit_adds : ∀ (l : List Int) (s i : Nat), (addsN s l).testBit i = (s.testBit i || (decide (i < 7) && l.contains (i : Int)))
  | [], s, i => by simp [addsN]
  | w :: l, s, i => by
    rw [addsN, bit_adds l, bit_add, List.contains_cons]
    by_cases hi : i < 7
    · by_cases hw : w = (i : Int)
      · subst hw
        have h7 : (i : Int) < 7 := by omega
        simp [hi, h7]
      · have h1 : (decide (0 ≤ w ∧ w < 7) && decide (w.toNat = i)) = false := by
          simp
          intro a b
          omega
        have h2 : ((i : Int) == w) = false := by simp; exact fun e => hw e.symm
        rw [h1, h2]
        simp
    · have h1 : (decide (0 ≤ w ∧ w < 7) && decide (w.toNat = i)) = false := by
        simp
        intro a b
        omega
      rw [h1]
      simp [hi]
theorem has_adds (s : Nat) (l : List Int) (w : Int) : hasN (addsN s l) w = (hasN s w || (l.contains w && decide (0 ≤ w ∧ w < 7))) := by
  unfold hasN
  by_cases h : 0 ≤ w ∧ w < 7
  · have e : ((w.toNat : Nat) : Int) = w := by omega
    rw [bit_adds, e]
    simp [h]
  · simp [h]
theorem adds_perm (s : Nat) (l m : List Int) (h : ∀ i : Nat, l.contains (i : Int) = m.contains (i : Int)) : addsN s l = addsN s m := by
  apply Nat.eq_of_testBit_eq
  intro i
  rw [bit_adds, bit_adds, h i]
theorem adds_append : ∀ (l m : List Int) (s : Nat), addsN s (l ++ m) = addsN (addsN s l) m
  | [], _, _ => rfl
  | w :: l, m, s => by rw [List.cons_append, addsN, adds_append l m, addsN]
theorem adds_idem (s : Nat) (l : List Int) : addsN (addsN s l) l = addsN s l := by
  apply Nat.eq_of_testBit_eq
  intro i
  rw [bit_adds, bit_adds]
  cases s.testBit i <;> cases (decide (i < 7) && l.contains (i : Int)) <;> rfl

theorem all128 (p : Nat → Bool) (h : (List.range 128).all p = true) (s : Nat) (hs : s < 128) : p s = true :=
  List.all_eq_true.1 h s (List.mem_range.2 hs)
theorem memb_adds (s : Nat) (hs : s < 128) : addsN 0 (membN s) = s := by
  have := all128 (fun s => addsN 0 (membN s) == s) (by decide +kernel) s hs
  simpa using this
theorem memb_size (s : Nat) (hs : s < 128) : (membN s).length = sizeN s := by
  have := all128 (fun s => (membN s).length == sizeN s) (by decide +kernel) s hs
  simpa using this
theorem memb_has (s : Nat) (w : Int) : (membN s).contains w = hasN s w := by
  by_cases h : 0 ≤ w ∧ w < 7
  · obtain rfl | rfl | rfl | rfl | rfl | rfl | rfl : w = 0 ∨ w = 1 ∨ w = 2 ∨ w = 3 ∨ w = 4 ∨ w = 5 ∨ w = 6 := by omega
    all_goals
      rw [Bool.eq_iff_iff]
      simp [membN]
  · have : hasN s w = false := by simp [hasN, h]
    rw [this]
    rw [Bool.eq_false_iff]
    intro hc
    have hm := List.mem_of_elem_eq_true hc
    have := List.mem_filter.1 hm
    simp at this
    omega

theorem bit_or (x y i : Nat) : bitN (x ||| y) i + bitN (x &&& y) i = bitN x i + bitN y i := by
  unfold bitN
  rw [Nat.testBit_or, Nat.testBit_and]
  cases x.testBit i <;> cases y.testBit i <;> rfl
theorem size_or (x y : Nat) : sizeN (x ||| y) + sizeN (x &&& y) = sizeN x + sizeN y := by
  unfold sizeN
  have := bit_or x y 0; have := bit_or x y 1; have := bit_or x y 2; have := bit_or x y 3; have := bit_or x y 4; have := bit_or x y 5; have := bit_or x y 6
  omega
theorem bit_le (s i : Nat) : bitN s i ≤ 1 := by unfold bitN; split <;> omega
theorem bit_mod (s n i : Nat) : bitN (s % 2 ^ n) i = if i < n then bitN s i else 0 := by
  unfold bitN
  rw [Nat.testBit_mod_two_pow]
  by_cases h : i < n <;> simp [h]
theorem size_mod (s n : Nat) (hn : n ≤ 7) : sizeN (s % 2 ^ n) ≤ n := by
  unfold sizeN
  simp only [bit_mod]
  have := bit_le s 0; have := bit_le s 1; have := bit_le s 2; have := bit_le s 3; have := bit_le s 4; have := bit_le s 5; have := bit_le s 6
  obtain rfl | rfl | rfl | rfl | rfl | rfl | rfl | rfl : n = 0 ∨ n = 1 ∨ n = 2 ∨ n = 3 ∨ n = 4 ∨ n = 5 ∨ n = 6 ∨ n = 7 := by omega
  all_goals simp <;> omega
theorem size_pos (s : Nat) (h : 0 < sizeN s) : ∃ i, i < 7 ∧ s.testBit i = true := by
  apply Classical.byContradiction
  intro hc
  have hz : ∀ i, i < 7 → bitN s i = 0 := fun i hi => by
    unfold bitN
    rw [if_neg]
    intro e
    exact hc ⟨i, hi, e⟩
  unfold sizeN at h
  have := hz 0 (by omega); have := hz 1 (by omega); have := hz 2 (by omega); have := hz 3 (by omega); have := hz 4 (by omega); have := hz 5 (by omega); have := hz 6 (by omega)
  omega
/-- Two sets that are enough have a node in common. -/
theorem meets (a b : Nat) (n : Int) (ha : enoughN a n = true) (hb : enoughN b n = true) : ∃ i : Nat, (i : Int) < n ∧ i < 7 ∧ a.testBit i = true ∧ b.testBit i = true := by
  unfold enoughN at ha hb
  simp only [Bool.and_eq_true, decide_eq_true_eq] at ha hb
  obtain ⟨h1, h2⟩ := ha
  have hn : n.toNat ≤ 7 := by omega
  have hor := size_or (a % 2 ^ n.toNat) (b % 2 ^ n.toNat)
  have hle : sizeN (a % 2 ^ n.toNat ||| b % 2 ^ n.toNat) ≤ n.toNat := by
    have e : a % 2 ^ n.toNat ||| b % 2 ^ n.toNat = (a ||| b) % 2 ^ n.toNat := by
      apply Nat.eq_of_testBit_eq
      intro i
      simp only [Nat.testBit_or, Nat.testBit_mod_two_pow]
      cases decide (i < n.toNat) <;> simp
    rw [e]
    exact size_mod _ _ hn
  have hpos : 0 < sizeN (a % 2 ^ n.toNat &&& b % 2 ^ n.toNat) := by omega
  obtain ⟨i, hi, hbit⟩ := size_pos _ hpos
  simp only [Nat.testBit_and, Nat.testBit_mod_two_pow, Bool.and_eq_true, decide_eq_true_eq] at hbit
  exact ⟨i, by omega, hi, hbit.1.2, hbit.2.2⟩
end Go.Proofs.YtiamkjokiapanaaDoor
