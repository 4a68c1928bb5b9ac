/- Plain words of spots: no program. -/
import Derived.Lib.ItoaNum
import Derived.Lib.AtoiAll
import Derived.Lib.IndexMore
import Derived.Lib.SlicesCompact
namespace Go.Proofs.YtpchbdpepgeibaaDoor
open Go.Lib

def isS (b c : Int) : Bool := decide (1 ≤ b) && decide (b ≤ 99) && decide (0 ≤ c) && decide (c ≤ 7)
theorem isS_iff (b c : Int) : isS b c = true ↔ 1 ≤ b ∧ b ≤ 99 ∧ 0 ≤ c ∧ c ≤ 7 := by simp [isS, and_assoc]
def ds (n : Nat) : List UInt8 := if n < 10 then [UInt8.ofNat (48 + n)] else [UInt8.ofNat (48 + n / 10), UInt8.ofNat (48 + n % 10)]
theorem dd_ds (n : Nat) (h : n < 100) : decDigits n = ds n := by
  unfold ds
  split
  · next h1 => exact decDigits_one h1
  · next h1 => exact decDigits_two h1 h
theorem ds_len (n : Nat) : (ds n).length ≤ 2 ∧ 1 ≤ (ds n).length := by unfold ds; split <;> simp
def txL (b c : Int) : List UInt8 := ds b.toNat ++ (47 :: ds c.toNat)
def tx (b c : Int) : ByteArray := ⟨(txL b c).toArray⟩
theorem ba_ext {a b : ByteArray} (h : a.data.toList = b.data.toList) : a = b := by
  cases a; cases b; simp at h; simp [h]
theorem tx_list (b c : Int) : (tx b c).data.toList = txL b c := by simp [tx]
theorem tx_size (b c : Int) (h : isS b c = true) : (tx b c).size ≤ 4 := by
  have h2 : 0 ≤ c ∧ c ≤ 7 := by have := (isS_iff b c).1 h; omega
  have h1 := ds_len b.toNat
  have h3 : (ds c.toNat).length = 1 := by unfold ds; rw [if_pos (by omega)]; rfl
  show (txL b c).toArray.size ≤ 4
  simp [txL, h3]
  omega
def okNum : NumEnd Int → Int → Bool
  | .ok v, n => v == n
  | _, _ => false
theorem okNum_eq {e : NumEnd Int} {n : Int} (h : okNum e n = true) : e = .ok n := by
  cases e <;> simp [okNum] at h
  rw [h]
theorem tx_all : ∀ b : Fin 100, ∀ c : Fin 8, (okNum (atoiAll (cut (txL b.val c.val) [47]).1) b.val && okNum (atoiAll (cut (txL b.val c.val) [47]).2.1) c.val) = true := by decide +kernel
theorem tx_atoi (b c : Int) (h : isS b c = true) : atoiAll (cut (tx b c).data.toList [47]).1 = .ok b ∧ atoiAll (cut (tx b c).data.toList [47]).2.1 = .ok c := by
  have h2 := (isS_iff b c).1 h
  obtain ⟨x, rfl⟩ : ∃ x : Nat, b = x := ⟨b.toNat, by omega⟩
  obtain ⟨y, rfl⟩ : ∃ y : Nat, c = y := ⟨c.toNat, by omega⟩
  have h3 := tx_all ⟨x, by omega⟩ ⟨y, by omega⟩
  rw [Bool.and_eq_true] at h3
  rw [tx_list]
  exact ⟨okNum_eq h3.1, okNum_eq h3.2⟩
theorem tx_inj {b c b' c' : Int} (h : isS b c = true) (h' : isS b' c' = true) (e : tx b c = tx b' c') : b = b' ∧ c = c' := by
  have h1 := tx_atoi b c h
  have h2 := tx_atoi b' c' h'
  rw [e] at h1
  exact ⟨by simpa using h1.1.symm.trans h2.1, by simpa using h1.2.symm.trans h2.2⟩

/-- What a text is. -/
def pV (t : ByteArray) : Int × Int × Int :=
  match atoiAll (cut t.data.toList [47]).1, atoiAll (cut t.data.toList [47]).2.1 with
  | .ok a, .ok b => if isS a b = true ∧ tx a b = t then (a, b, 0) else (0, 0, 20)
  | _, _ => (0, 0, 20)
theorem pV_tx (b c : Int) (h : isS b c = true) : pV (tx b c) = (b, c, 0) := by
  obtain ⟨h1, h2⟩ := tx_atoi b c h
  unfold pV
  rw [h1, h2]
  simp [h]
theorem pV_cases (t : ByteArray) : (∃ b c, isS b c = true ∧ tx b c = t ∧ pV t = (b, c, 0)) ∨ ((∀ b c, isS b c = true → tx b c ≠ t) ∧ pV t = (0, 0, 20)) := by
  by_cases h : ∃ b c, isS b c = true ∧ tx b c = t
  · obtain ⟨b, c, h1, h2⟩ := h
    exact .inl ⟨b, c, h1, h2, by rw [← h2]; exact pV_tx b c h1⟩
  · refine .inr ⟨fun b c h1 h2 => h ⟨b, c, h1, h2⟩, ?_⟩
    unfold pV
    split
    · next a b _ _ => rw [if_neg (fun hh => h ⟨a, b, hh.1, hh.2⟩)]
    · rfl

def numV (b c : Int) : Int × Int := if isS b c = true then (8 * (b - 1) + c, 0) else (0, 1)
def atV (n : Int) : Int × Int × Int := if 0 ≤ n ∧ n ≤ 791 then (n / 8 + 1, n % 8, 0) else (0, 0, 1)
def prV (b c : Int) : ByteArray × Int := if isS b c = true then (tx b c, 0) else (⟨#[]⟩, 1)
def lessS (a b x y : Int) : Bool := decide (a < x ∨ (a = x ∧ b < y))

/-! ### rising rows -/
theorem rise_ext {l m : List Int} (hl : l.Pairwise (· < ·)) (hm : m.Pairwise (· < ·)) (h : ∀ x, x ∈ l ↔ x ∈ m) : l = m := by
  have nl : l.Nodup := hl.imp (fun h => by omega)
  have nm : m.Nodup := hm.imp (fun h => by omega)
  have hp : l.Perm m := (List.perm_ext_iff_of_nodup nl nm).2 h
  exact List.Perm.eq_of_pairwise (le := (· < ·)) (fun a b _ _ h1 h2 => by omega) hl hm hp
theorem compact_inv (d : Array Int) (hd : ∀ i j, i < j → j < d.size → d[i]! ≤ d[j]!) : ∀ m, m ≤ d.size →
    (compactUpTo d m).Pairwise (· < ·) ∧ (∀ x, x ∈ compactUpTo d m ↔ ∃ j, j < m ∧ d[j]! = x)
  | 0, _ => by simp [compactUpTo]
  | m + 1, hm => by
    obtain ⟨h1, h2⟩ := compact_inv d hd m (by omega)
    rw [compactUpTo_succ]
    by_cases hk : keeps d m = true
    · rw [if_pos hk]
      constructor
      · rw [List.pairwise_append]
        refine ⟨h1, by simp, fun x hx y hy => ?_⟩
        obtain rfl : y = d[m]! := by simpa using hy
        obtain ⟨j, hj, rfl⟩ := (h2 x).1 hx
        have hk' : m = 0 ∨ d[m]! ≠ d[m - 1]! := by simpa [keeps] using hk
        have h3 := hd j m hj (by omega)
        rcases hk' with h0 | h0
        · omega
        · have h4 := hd (m - 1) m (by omega) (by omega)
          by_cases hj' : j = m - 1
          · subst hj'; omega
          · have h5 := hd j (m - 1) (by omega) (by omega)
            omega
      · intro x
        rw [List.mem_append, h2]
        constructor
        · rintro (⟨j, hj, rfl⟩ | h)
          · exact ⟨j, by omega, rfl⟩
          · exact ⟨m, by omega, (by simpa using h : x = d[m]!).symm⟩
        · rintro ⟨j, hj, rfl⟩
          by_cases e : j = m
          · subst e; simp
          · exact .inl ⟨j, by omega, rfl⟩
    · rw [if_neg hk, List.append_nil]
      refine ⟨h1, fun x => ?_⟩
      rw [h2]
      have hk' : m ≠ 0 ∧ d[m]! = d[m - 1]! := by
        have : ¬ (m = 0 ∨ d[m]! ≠ d[m - 1]!) := by simpa [keeps] using hk
        constructor
        · intro h; exact this (.inl h)
        · by_cases h : d[m]! = d[m - 1]!
          · exact h
          · exact absurd (.inr h) this
      constructor
      · rintro ⟨j, hj, rfl⟩; exact ⟨j, by omega, rfl⟩
      · rintro ⟨j, hj, rfl⟩
        by_cases e : j = m
        · subst e; exact ⟨j - 1, by omega, hk'.2.symm⟩
        · exact ⟨j, by omega, rfl⟩
theorem compact_sorted (zs : List Int) (h : zs.Pairwise (fun a b => decide (a ≤ b) = true)) : (compact zs).Pairwise (· < ·) ∧ ∀ x, x ∈ compact zs ↔ x ∈ zs := by
  have hd : ∀ i j, i < j → j < zs.toArray.size → zs.toArray[i]! ≤ zs.toArray[j]! := by
    intro i j hij hj
    have hj' : j < zs.length := by simpa using hj
    have := List.pairwise_iff_getElem.1 h i j (by omega) hj' hij
    simpa [hj', show i < zs.length by omega] using this
  obtain ⟨h1, h2⟩ := compact_inv zs.toArray hd zs.length (by simp)
  refine ⟨h1, fun x => (h2 x).trans ?_⟩
  rw [List.mem_iff_getElem]
  constructor
  · rintro ⟨j, hj, e⟩
    exact ⟨j, hj, by simpa [hj] using e⟩
  · rintro ⟨j, hj, e⟩
    exact ⟨j, hj, by simpa [hj] using e⟩
theorem sort_rises (zs : List Int) : (zs.mergeSort fun x y => decide (x ≤ y)).Pairwise (fun a b => decide (a ≤ b) = true) := by
  refine List.pairwise_mergeSort ?_ ?_ zs
  · intro a b c h1 h2; simp at h1 h2 ⊢; omega
  · intro a b; simp; omega
end Go.Proofs.YtpchbdpepgeibaaDoor
