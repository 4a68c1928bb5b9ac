/- The rows of deeds that lead from phase to phase, as plain lists (no program). -/
import Derived.Below
namespace Go.Proofs.Ytfdaepicbgiamaa

def tab : List Int := [-1,1,-1,-1,-1,-1,-1, -1,1,2,3,4,0,-1, -1,2,-1,3,4,0,-1, -1,1,-1,-1,4,0,-1, -1,4,-1,3,-1,0,1]
def nx (p d : Int) : Int := tab.getD (p * 7 + d).toNat (-1)
def nxo (p d : Int) : Bool := decide (0 ≤ p ∧ p < 5 ∧ 1 ≤ d ∧ d < 7) && (nx p d != -1)
def nxv (p d : Int) : Int := if nxo p d = true then nx p d else 0

/-- Rows of deeds by the phase that they make, and the phases that are still to be gone on from. -/
abbrev St := List (Int × List Int) × List Int
def getL (F : List (Int × List Int)) (p : Int) : List Int := ((F.find? (·.1 == p)).map (·.2)).getD []
def hasL (F : List (Int × List Int)) (p : Int) : Bool := (F.find? (·.1 == p)).isSome
def stepS (p d : Int) (s : St) : St := if (nxo p d && !hasL s.1 (nxv p d)) = true then (s.1 ++ [(nxv p d, getL s.1 p ++ [d])], s.2 ++ [nxv p d]) else s
def inn (p : Int) : Nat → St → St
  | 0, s => s
  | m + 1, s => stepS p ((m : Int) + 1) (inn p m s)
def outer (s : St) : St := match s.2 with | [] => s | p :: r => inn p 6 (s.1, r)
def stAt (f : Int) : Nat → St
  | 0 => ([(f, [])], [f])
  | k + 1 => outer (stAt f k)
def waysL (f : Int) : List (Int × List Int) := (stAt f 5).1

/-- What the walk asks of all states: small, and the phase gone on from is among the found. -/
def okS (p : Int) (s : St) : Bool := decide (s.1.length ≤ 5) && decide (s.2.length ≤ 5) && s.1.all (fun x => decide (x.2.length ≤ 5)) && hasL s.1 p && decide (0 ≤ p ∧ p < 5)
def okAll (f : Int) : Bool := (List.range 5).all fun k => match (stAt f k).2 with
  | [] => false
  | p :: r => (List.range 7).all fun m => okS p (inn p m ((stAt f k).1, r))
theorem ok_all (f : Int) (h0 : 0 ≤ f) (h1 : f < 5) : okAll f = true := by
  obtain rfl | rfl | rfl | rfl | rfl : f = 0 ∨ f = 1 ∨ f = 2 ∨ f = 3 ∨ f = 4 := by omega
  all_goals decide +kernel
theorem at_end (f : Int) (h0 : 0 ≤ f) (h1 : f < 5) : (stAt f 5).2 = [] := by
  obtain rfl | rfl | rfl | rfl | rfl : f = 0 ∨ f = 1 ∨ f = 2 ∨ f = 3 ∨ f = 4 := by omega
  all_goals decide +kernel
theorem ok_at (f : Int) (h0 : 0 ≤ f) (h1 : f < 5) (k : Nat) (hk : k < 5) : ∃ p r, (stAt f k).2 = p :: r ∧ ∀ m, m ≤ 6 → okS p (inn p m ((stAt f k).1, r)) = true := by
  have h := ok_all f h0 h1
  unfold okAll at h
  rw [List.all_eq_true] at h
  have hk' := h k (List.mem_range.2 hk)
  cases e : (stAt f k).2 with
  | nil => rw [e] at hk'; cases hk'
  | cons p r =>
    rw [e] at hk'
    simp only [List.all_eq_true] at hk'
    exact ⟨p, r, rfl, fun m hm => hk' m (List.mem_range.2 (by omega))⟩
theorem stAt_succ (f : Int) (k : Nat) (p : Int) (r : List Int) (e : (stAt f k).2 = p :: r) : stAt f (k + 1) = inn p 6 ((stAt f k).1, r) := by
  show outer (stAt f k) = _
  unfold outer
  rw [e]

/-- Two lists, member by member. -/
def All2 {α β : Type} (R : α → β → Prop) : List α → List β → Prop
  | [], [] => True
  | a :: l, b :: m => R a b ∧ All2 R l m
  | _, _ => False
theorem All2.imp {α β : Type} {R R' : α → β → Prop} (hR : ∀ a b, R a b → R' a b) : ∀ {l : List α} {m : List β}, All2 R l m → All2 R' l m
  | [], [], _ => trivial
  | _ :: _, _ :: _, h => ⟨hR _ _ h.1, All2.imp hR h.2⟩
  | [], _ :: _, h => h.elim
  | _ :: _, [], h => h.elim
theorem All2.snoc {α β : Type} {R : α → β → Prop} {a : α} {b : β} (hab : R a b) : ∀ {l : List α} {m : List β}, All2 R l m → All2 R (l ++ [a]) (m ++ [b])
  | [], [], _ => ⟨hab, trivial⟩
  | _ :: _, _ :: _, h => ⟨h.1, All2.snoc hab h.2⟩
  | [], _ :: _, h => h.elim
  | _ :: _, [], h => h.elim
theorem All2.length {α β : Type} {R : α → β → Prop} : ∀ {l : List α} {m : List β}, All2 R l m → l.length = m.length
  | [], [], _ => rfl
  | _ :: _, _ :: _, h => by rw [List.length_cons, List.length_cons, All2.length h.2]
  | [], _ :: _, h => h.elim
  | _ :: _, [], h => h.elim
theorem All2.find {β γ : Type} {R : Int × γ → Int × β → Prop} (hk : ∀ a b, R a b → a.1 = b.1) (k : Int) : ∀ {L : List (Int × γ)} {F : List (Int × β)}, All2 R L F →
    (L.find? (·.1 == k) = none ∧ F.find? (·.1 == k) = none) ∨ ∃ a b, L.find? (·.1 == k) = some a ∧ F.find? (·.1 == k) = some b ∧ R a b
  | [], [], _ => .inl ⟨rfl, rfl⟩
  | a :: l, b :: m, h => by
    have e := hk _ _ h.1
    by_cases hb : (a.1 == k) = true
    · have hb' : (b.1 == k) = true := by rw [← e]; exact hb
      exact .inr ⟨a, b, by simp only [List.find?_cons, hb], by simp only [List.find?_cons, hb'], h.1⟩
    · have hb1 : (a.1 == k) = false := by simpa using hb
      have hb' : (b.1 == k) = false := by rw [← e]; exact hb1
      simp only [List.find?_cons, hb1, hb']
      exact All2.find hk k h.2
  | [], _ :: _, h => h.elim
  | _ :: _, [], h => h.elim
end Go.Proofs.Ytfdaepicbgiamaa
