/- The computing reader and the model: what its trees keep, what its values and regions stand for, how a world may evolve. What the computing reader says of an operation, the model does. Conditions: none. -/
import Derived.Test.YtindppnanjcoaaaGreatDoorE2
import Derived.Test.YtindppnanjcoaaaGreatDoorAb6
section
namespace Go.Proofs.YtindppnanjcoaaaGreatDoor.Ev
open Go

/- Trees. -/
theorem dig (i : Nat) : i % 8 = 0 ∨ i % 8 = 1 ∨ i % 8 = 2 ∨ i % 8 = 3 ∨ i % 8 = 4 ∨ i % 8 = 5 ∨ i % 8 = 6 ∨ i % 8 = 7 := by omega
section
variable {α : Type}
theorem getF_succ (k i : Nat) : getF α (k + 1) i = pick (i % 8) ⟨g0 (getF α k (i / 8))⟩ ⟨g1 (getF α k (i / 8))⟩ ⟨g2 (getF α k (i / 8))⟩ ⟨g3 (getF α k (i / 8))⟩ ⟨g4 (getF α k (i / 8))⟩ ⟨g5 (getF α k (i / 8))⟩ ⟨g6 (getF α k (i / 8))⟩ ⟨g7 (getF α k (i / 8))⟩ := rfl
theorem setF_succ (k i : Nat) : setF α (k + 1) i = pick (i % 8) ⟨s0 (setF α k (i / 8))⟩ ⟨s1 (setF α k (i / 8))⟩ ⟨s2 (setF α k (i / 8))⟩ ⟨s3 (setF α k (i / 8))⟩ ⟨s4 (setF α k (i / 8))⟩ ⟨s5 (setF α k (i / 8))⟩ ⟨s6 (setF α k (i / 8))⟩ ⟨s7 (setF α k (i / 8))⟩ := rfl
theorem get_same : ∀ (k i : Nat) (x : α) (E : Tr α k), (getF α k i).g ((setF α k i).s x E) = x
  | 0, _, _, _ => rfl
  | k + 1, i, x, E => by
    rw [getF_succ, setF_succ]
    rcases dig i with h | h | h | h | h | h | h | h <;> rw [h] <;> exact get_same k (i / 8) x _
theorem get_ne : ∀ (k i j : Nat) (x : α) (E : Tr α k), i % 8 ^ k ≠ j % 8 ^ k → (getF α k i).g ((setF α k j).s x E) = (getF α k i).g E
  | 0, i, j, _, _, h => absurd (by simp [Nat.mod_one]) h
  | k + 1, i, j, x, E, h => by
    rw [getF_succ, setF_succ]
    by_cases hd : i % 8 = j % 8
    · have h' : i / 8 % 8 ^ k ≠ j / 8 % 8 ^ k := fun hc => h (by rw [Nat.pow_succ, Nat.mul_comm, Nat.mod_mul, Nat.mod_mul, hd, hc])
      rw [hd]
      rcases dig j with h | h | h | h | h | h | h | h <;> rw [h] <;> exact get_ne k (i / 8) (j / 8) x _ h'
    · rcases dig i with h | h | h | h | h | h | h | h <;> rcases dig j with h2 | h2 | h2 | h2 | h2 | h2 | h2 | h2 <;> rw [h, h2] at hd ⊢ <;> first | exact absurd rfl hd | rfl
theorem set_set : ∀ (k i : Nat) (x y : α) (E : Tr α k), (setF α k i).s x ((setF α k i).s y E) = (setF α k i).s x E
  | 0, _, _, _, _ => rfl
  | k + 1, i, x, y, E => by
    rw [setF_succ]
    rcases dig i with h | h | h | h | h | h | h | h <;> rw [h] <;> (simp only [pick, s0, s1, s2, s3, s4, s5, s6, s7, Nat.beq, cond_true, cond_false, set_set k (i / 8) x y]; rfl)
theorem set_comm : ∀ (k i j : Nat) (x y : α) (E : Tr α k), i % 8 ^ k ≠ j % 8 ^ k → (setF α k i).s x ((setF α k j).s y E) = (setF α k j).s y ((setF α k i).s x E)
  | 0, i, j, _, _, _, h => absurd (by simp [Nat.mod_one]) h
  | k + 1, i, j, x, y, E, h => by
    rw [setF_succ, setF_succ]
    by_cases hd : i % 8 = j % 8
    · have h' : i / 8 % 8 ^ k ≠ j / 8 % 8 ^ k := fun hc => h (by rw [Nat.pow_succ, Nat.mul_comm, Nat.mod_mul, Nat.mod_mul, hd, hc])
      rw [hd]
      rcases dig j with h | h | h | h | h | h | h | h <;> rw [h] <;> (simp only [pick, s0, s1, s2, s3, s4, s5, s6, s7, Nat.beq, cond_true, cond_false, set_comm k (i / 8) (j / 8) x y _ h']; rfl)
    · rcases dig i with h | h | h | h | h | h | h | h <;> rcases dig j with h2 | h2 | h2 | h2 | h2 | h2 | h2 | h2 <;> rw [h, h2] at hd ⊢ <;> first | exact absurd rfl hd | rfl
theorem get_all : ∀ (k i : Nat) (x : α), (getF α k i).g (allT α x k) = x
  | 0, _, _ => rfl
  | k + 1, i, x => by
    rw [getF_succ]
    rcases dig i with h | h | h | h | h | h | h | h <;> rw [h] <;> exact get_all k (i / 8) x
end
theorem frc_eq {β : Type} (f : Nat → β) (n : Nat) : frc f n = f n := by cases n <;> rfl

/- The heap. -/
theorem Hp.get_eq (H : Hp) (id : Nat) : H.get id = (getF AO 4 id).g H.h := frc_eq _ _
theorem Hp.wr_eq {H H' : Hp} {id : Nat} {x : AO} (h : H.wr id x = some H') : H.fl ≤ id ∧ H' = ⟨(setF AO 4 id).s x H.h, H.n, H.fl⟩ := by
  simp only [Hp.wr, frc_eq] at h
  cases hb : Nat.ble H.fl id with
  | false => rw [hb] at h; cases h
  | true => rw [hb] at h; exact ⟨Nat.le_of_ble_eq_true hb, (Option.some.inj h).symm⟩
theorem Hp.new_eq {H H' : Hp} {x : AO} {K : Nat → CV} {v : CV} (h : H.new x K = some (v, H')) : H.n < 4096 ∧ v = K H.n ∧ H' = ⟨(setF AO 4 H.n).s x H.h, H.n + 1, H.fl⟩ := by
  simp only [Hp.new, frc_eq] at h
  cases hb : Nat.blt H.n 4096 with
  | false => rw [hb] at h; cases h
  | true =>
    rw [hb] at h
    have := Option.some.inj h
    exact ⟨by simpa [Nat.blt_eq] using hb, (Prod.mk.inj this).1.symm, (Prod.mk.inj this).2.symm⟩
theorem Hp.get_set_same (h : Tr AO 4) (n f id : Nat) (x : AO) : (⟨(setF AO 4 id).s x h, n, f⟩ : Hp).get id = x := by rw [Hp.get_eq]; exact get_same _ _ _ _
theorem Hp.get_set_ne (h : Tr AO 4) (n f n' f' : Nat) {id j : Nat} (x : AO) (hi : id < 4096) (hj : j < 4096) (hne : id ≠ j) : (⟨(setF AO 4 j).s x h, n, f⟩ : Hp).get id = (⟨h, n', f'⟩ : Hp).get id := by
  rw [Hp.get_eq, Hp.get_eq]
  exact get_ne _ _ _ _ _ (by rw [Nat.mod_eq_of_lt (by simpa using hi), Nat.mod_eq_of_lt (by simpa using hj)]; exact hne)

/-- Where the regions stand: block, place in it, cells from there on. -/
abbrev Sg := Nat → Option (Nat × Nat × Nat)

mutual
/-- What a value stands for. -/
def RV (σ : Sg) : CV → Value → Prop
  | .i k n, x => x = .int k n
  | .b q, x => x = .bool q
  | .v y, x => x = y
  | .sl id o len cap, x => ∃ b p c, σ id = some (b, p, c) ∧ x = .slice (some ⟨b, p + o, none⟩) len cap
  | .so id k len s, x => ∃ b p c cap q, σ id = some (b, p, c) ∧ x = .slice (some ⟨b, q, none⟩) len cap ∧ (k + cap) * s = c ∧ len ≤ cap ∧ 0 < s ∧ cap ≤ 9223372036854775807 ∧ (0 < cap → q = p + k * s)
  | .p id o, x => ∃ b p c, σ id = some (b, p, c) ∧ x = .pointer (some ⟨b, p + o, none⟩)
  | .m id, x => ∃ b p c, σ id = some (b, p, c) ∧ x = .map (some b)
  | .f fn caps, x => ∃ l, x = .func fn #[] ⟨l⟩ ∧ RVs σ caps l
  | .a l, x => ∃ m, x = .agg ⟨m⟩ ∧ RVs σ l m
  | .t l, x => ∃ m, x = .tuple ⟨m⟩ ∧ RVs σ l m
  | .cp lo, x => ∃ n : Nat, x = .int .i64 n ∧ lo ≤ n
  | .any, _ => True
def RVs (σ : Sg) : List CV → List Value → Prop
  | [], m => m = []
  | x :: l, m => ∃ y r, m = y :: r ∧ RV σ x y ∧ RVs σ l r
end

mutual
theorem RV.mono {σ σ' : Sg} (h : ∀ id x, σ id = some x → σ' id = some x) : ∀ {c : CV} {y : Value}, RV σ c y → RV σ' c y
  | .i _ _, _, hr => hr
  | .b _, _, hr => hr
  | .v _, _, hr => hr
  | .cp _, _, hr => hr
  | .any, _, _ => trivial
  | .sl _ _ _ _, _, ⟨b, p, c, h1, h2⟩ => ⟨b, p, c, h _ _ h1, h2⟩
  | .so _ _ _ _, _, ⟨b, p, c, cap, a, h1, h2⟩ => ⟨b, p, c, cap, a, h _ _ h1, h2⟩
  | .p _ _, _, ⟨b, p, c, h1, h2⟩ => ⟨b, p, c, h _ _ h1, h2⟩
  | .m _, _, ⟨b, p, c, h1, h2⟩ => ⟨b, p, c, h _ _ h1, h2⟩
  | .f _ _, _, ⟨l, h1, h2⟩ => ⟨l, h1, RVs.mono h h2⟩
  | .a _, _, ⟨l, h1, h2⟩ => ⟨l, h1, RVs.mono h h2⟩
  | .t _, _, ⟨l, h1, h2⟩ => ⟨l, h1, RVs.mono h h2⟩
theorem RVs.mono {σ σ' : Sg} (h : ∀ id x, σ id = some x → σ' id = some x) : ∀ {c : List CV} {y : List Value}, RVs σ c y → RVs σ' c y
  | [], _, hr => hr
  | _ :: _, _, ⟨y, r, h1, h2, h3⟩ => ⟨y, r, h1, RV.mono h h2, RVs.mono h h3⟩
end

def RVm (σ : Sg) : List (CV × CV × Nat) → List MapEntry → Prop
  | [], m => m = []
  | (k, v, b) :: l, m => ∃ e r, m = e :: r ∧ RV σ k e.key ∧ RV σ v e.val ∧ e.born = b ∧ RVm σ l r
theorem RVm.mono {σ σ' : Sg} (h : ∀ id x, σ id = some x → σ' id = some x) : ∀ {c : List (CV × CV × Nat)} {y : List MapEntry}, RVm σ c y → RVm σ' c y
  | [], _, hr => hr
  | (_, _, _) :: _, _, ⟨e, r, h1, h2, h3, h4, h5⟩ => ⟨e, r, h1, h2.mono h, h3.mono h, h4, h5.mono h⟩

theorem RVs.length {σ : Sg} : ∀ {c : List CV} {y : List Value}, RVs σ c y → c.length = y.length
  | [], _, h => by cases h; rfl
  | _ :: _, _, ⟨_, _, h1, _, h3⟩ => by subst h1; simp [RVs.length h3]
theorem nth_eq {α : Type} : ∀ (l : List α) (i : Nat), nth l i = l[i]?
  | [], _ => by simp; rfl
  | _ :: _, 0 => rfl
  | x :: l, i + 1 => by rw [List.getElem?_cons_succ, ← nth_eq l i]; rfl
theorem RVs.nth {σ : Sg} : ∀ {c : List CV} {y : List Value}, RVs σ c y → ∀ {i : Nat} {x : CV}, nth c i = some x → ∃ v, y[i]? = some v ∧ RV σ x v
  | [], _, _, i, x, hx => by simp [nth_eq] at hx
  | a :: l, _, ⟨b, r, h1, h2, h3⟩, i, x, hx => by
    subst h1
    cases i with
    | zero => simp [nth_eq] at hx; subst hx; exact ⟨b, rfl, h2⟩
    | succ i => exact (RVs.nth h3 (i := i) (x := x) (by simpa [nth_eq] using hx)).imp fun v hv => ⟨by simpa using hv.1, hv.2⟩
theorem RVs.append {σ : Sg} : ∀ {c d : List CV} {y z : List Value}, RVs σ c y → RVs σ d z → RVs σ (c ++ d) (y ++ z)
  | [], _, _, _, h, h' => by cases h; exact h'
  | _ :: _, _, _, _, ⟨b, r, h1, h2, h3⟩, h' => by subst h1; exact ⟨b, _, rfl, h2, h3.append h'⟩
theorem drp_eq {α : Type} : ∀ (l : List α) (i : Nat), drp l i = l.drop i
  | [], _ => by simp [drp]
  | x :: l, 0 => rfl
  | x :: l, i + 1 => by rw [List.drop_succ_cons, ← drp_eq l i]; rfl
theorem RVs.drop {σ : Sg} : ∀ {c : List CV} {y : List Value}, RVs σ c y → ∀ (i : Nat), RVs σ (c.drop i) (y.drop i)
  | _, _, h, 0 => h
  | [], _, h, i + 1 => by cases h; simp [RVs]
  | _ :: _, _, ⟨_, _, h1, _, h3⟩, i + 1 => by subst h1; exact h3.drop i
theorem tk_eq {α : Type} : ∀ {n : Nat} {l r : List α}, tk n l = some r → r = l.take n ∧ n ≤ l.length
  | 0, l, r, h => by simp [tk] at h; subst h; simp
  | n + 1, [], r, h => by simp [tk] at h
  | n + 1, x :: l, r, h => by
    simp only [tk] at h
    split at h
    · rename_i s hs
      cases h
      obtain ⟨h1, h2⟩ := tk_eq hs
      exact ⟨by simp [h1], by simpa using h2⟩
    · cases h
theorem RVs.take {σ : Sg} : ∀ {c : List CV} {y : List Value}, RVs σ c y → ∀ (i : Nat), RVs σ (c.take i) (y.take i)
  | _, _, h, 0 => by simp [RVs]
  | [], _, h, i + 1 => by cases h; simp [RVs]
  | _ :: _, _, ⟨_, _, h1, h2, h3⟩, i + 1 => by subst h1; exact ⟨_, _, rfl, h2, h3.take i⟩

def AO.live : AO → Bool
  | .free | .res => false
  | _ => true
/-- What may be written. -/
def AO.wrt : AO → Bool
  | .free | .res | .k _ => false
  | _ => true
theorem AO.wrt_live : ∀ {x : AO}, x.wrt = true → x.live = true
  | .c _, _ | .m _ _, _ | .si _ _, _ | .mi _ _ _ _, _ => rfl

/-- What a region stands for. -/
def Ent (σ : Sg) (w : World) (id : Nat) : AO → Prop
  | .free => True
  | .res => σ id = none
  | .c l => ∃ b p c arr et, σ id = some (b, p, c) ∧ w.heap[b]? = some (.cells arr et (0, 0)) ∧ l.length ≤ c ∧ p + c ≤ arr.size ∧ RVs σ l ((arr.toList.drop p).take l.length)
  | .k l => ∃ b p c arr et fr, σ id = some (b, p, c) ∧ w.heap[b]? = some (.cells arr et fr) ∧ l.length ≤ c ∧ p + c ≤ arr.size ∧ RVs σ l ((arr.toList.drop p).take l.length)
  | .m es cl => ∃ b c arr, σ id = some (b, 0, c) ∧ w.heap[b]? = some (.map arr cl) ∧ RVm σ es arr.toList
  | .si s pos => ∃ b c, σ id = some (b, 0, c) ∧ w.heap[b]? = some (.stringIter s pos)
  | .mi m since seen st => ∃ b c mb, σ id = some (b, 0, c) ∧ w.heap[b]? = some (.mapIter mb since ⟨seen⟩ st) ∧ match m with | none => mb = none | some i => ∃ y, σ i = some y ∧ mb = some y.1

theorem Ent.mono {σ σ' : Sg} {w w' : World} {id : Nat} (h : ∀ id x, σ id = some x → σ' id = some x) : ∀ {o : AO}, Ent σ w id o → (o = .res → σ' id = none) →
    (∀ x, σ id = some x → o.live = true → w'.heap[x.1]? = w.heap[x.1]?) → Ent σ' w' id o
  | .free, _, _, _ => trivial
  | .res, _, hr, _ => hr rfl
  | .c _, ⟨b, p, c, arr, et, h1, h2, h3, h4, h5⟩, _, hw => ⟨b, p, c, arr, et, h _ _ h1, (hw _ h1 rfl).trans h2, h3, h4, h5.mono h⟩
  | .k _, ⟨b, p, c, arr, et, fr, h1, h2, h3, h4, h5⟩, _, hw => ⟨b, p, c, arr, et, fr, h _ _ h1, (hw _ h1 rfl).trans h2, h3, h4, h5.mono h⟩
  | .m _ _, ⟨b, c, arr, h1, h2, h3⟩, _, hw => ⟨b, c, arr, h _ _ h1, (hw _ h1 rfl).trans h2, h3.mono h⟩
  | .si _ _, ⟨b, c, h1, h2⟩, _, hw => ⟨b, c, h _ _ h1, (hw _ h1 rfl).trans h2⟩
  | .mi none _ _ _, ⟨b, c, mb, h1, h2, h3⟩, _, hw => ⟨b, c, mb, h _ _ h1, (hw _ h1 rfl).trans h2, h3⟩
  | .mi (some _) _ _ _, ⟨b, c, mb, h1, h2, y, h3, h4⟩, _, hw => ⟨b, c, mb, h _ _ h1, (hw _ h1 rfl).trans h2, y, h _ _ h3, h4⟩
theorem Ent.blk {σ : Sg} {w : World} {id : Nat} : ∀ {o : AO}, Ent σ w id o → o.live = true → ∃ x, σ id = some x ∧ x.1 < w.heap.size
  | .free, _, h => by cases h
  | .res, _, h => by cases h
  | .c _, ⟨b, p, c, arr, et, h1, h2, _⟩, _ => ⟨_, h1, (Array.getElem?_eq_some_iff.1 h2).1⟩
  | .k _, ⟨b, p, c, arr, et, fr, h1, h2, _⟩, _ => ⟨_, h1, (Array.getElem?_eq_some_iff.1 h2).1⟩
  | .m _ _, ⟨b, c, arr, h1, h2, _⟩, _ => ⟨_, h1, (Array.getElem?_eq_some_iff.1 h2).1⟩
  | .si _ _, ⟨b, c, h1, h2⟩, _ => ⟨_, h1, (Array.getElem?_eq_some_iff.1 h2).1⟩
  | .mi _ _ _ _, ⟨b, c, mb, h1, h2, _⟩, _ => ⟨_, h1, (Array.getElem?_eq_some_iff.1 h2).1⟩

structure WOK (σ : Sg) (H : Hp) (w : World) : Prop where
  nn : ∀ id, H.n ≤ id → σ id = none
  le : H.n ≤ 4096
  fl : H.fl ≤ H.n
  ent : ∀ id, id < H.n → Ent σ w id (H.get id)
  sep : ∀ id id' x x', id < H.n → id' < H.n → H.fl ≤ id → (H.get id).wrt = true → (H.get id').live = true → σ id = some x → σ id' = some x' → x.1 = x'.1 → id = id'

structure Evo (σ : Sg) (H : Hp) (w : World) (σ' : Sg) (H' : Hp) (w' : World) : Prop where
  same : w'.os = w.os ∧ w'.tape = w.tape ∧ w'.output = w.output
  size : w.heap.size ≤ w'.heap.size
  ext : ∀ id x, σ id = some x → σ' id = some x
  keep : ∀ id, id < H.n → H.get id ≠ .res → σ' id = σ id ∧ H'.get id ≠ .res
  lowS : ∀ id, id < H.fl → σ' id = σ id
  n : H.n ≤ H'.n
  fl : H'.fl = H.fl
  low : ∀ id, id < H.fl → H'.get id = H.get id
  frame : ∀ b, b < w.heap.size → (∀ id x, id < H.n → H.fl ≤ id → (H.get id).wrt = true → σ id = some x → x.1 ≠ b) → w'.heap[b]? = w.heap[b]?
  own : ∀ id x, id < H'.n → H.fl ≤ id → (H'.get id).wrt = true → σ' id = some x → x.1 < w.heap.size → ∃ id0 x0, id0 < H.n ∧ H.fl ≤ id0 ∧ (H.get id0).wrt = true ∧ σ id0 = some x0 ∧ x0.1 = x.1
  ownL : ∀ id x, id < H'.n → H.fl ≤ id → (H'.get id).live = true → σ' id = some x → x.1 < w.heap.size → ∃ id0 x0, id0 < H.n ∧ H.fl ≤ id0 ∧ (H.get id0).live = true ∧ σ id0 = some x0 ∧ x0.1 = x.1

theorem Evo.refl (σ : Sg) (H : Hp) (w : World) : Evo σ H w σ H w where
  same := ⟨rfl, rfl, rfl⟩
  size := Nat.le_refl _
  ext := fun _ _ h => h
  keep := fun _ _ h => ⟨rfl, h⟩
  lowS := fun _ _ => rfl
  n := Nat.le_refl _
  fl := rfl
  low := fun _ _ => rfl
  frame := fun _ _ _ => rfl
  own := fun id x h1 h2 h3 h4 _ => ⟨id, x, h1, h2, h3, h4, rfl⟩
  ownL := fun id x h1 h2 h3 h4 _ => ⟨id, x, h1, h2, h3, h4, rfl⟩

theorem Evo.trans {σ σ' σ'' : Sg} {H H' H'' : Hp} {w w' w'' : World} (h : Evo σ H w σ' H' w') (h' : Evo σ' H' w' σ'' H'' w'') : Evo σ H w σ'' H'' w'' where
  same := ⟨h'.same.1.trans h.same.1, h'.same.2.1.trans h.same.2.1, h'.same.2.2.trans h.same.2.2⟩
  size := Nat.le_trans h.size h'.size
  ext := fun id x hx => h'.ext id x (h.ext id x hx)
  keep := fun id hi hr => by
    obtain ⟨h1, h2⟩ := h.keep id hi hr
    obtain ⟨h3, h4⟩ := h'.keep id (Nat.lt_of_lt_of_le hi h.n) h2
    exact ⟨h3.trans h1, h4⟩
  lowS := fun id hi => (h'.lowS id (by rw [h.fl]; exact hi)).trans (h.lowS id hi)
  n := Nat.le_trans h.n h'.n
  fl := h'.fl.trans h.fl
  low := fun id hi => (h'.low id (by rw [h.fl]; exact hi)).trans (h.low id hi)
  frame := fun b hb ho => by
    refine (h'.frame b (Nat.lt_of_lt_of_le hb h.size) ?_).trans (h.frame b hb ho)
    intro id x h1 h2 h3 h4 h5
    rw [h.fl] at h2
    obtain ⟨i0, x0, k1, k2, k3, k4, k5⟩ := h.own id x h1 h2 h3 h4 (by rw [h5]; exact hb)
    exact ho i0 x0 k1 k2 k3 k4 (k5.trans h5)
  own := fun id x h1 h2 h3 h4 h5 => by
    obtain ⟨i1, x1, k1, k2, k3, k4, k5⟩ := h'.own id x h1 (by rw [h.fl]; exact h2) h3 h4 (Nat.lt_of_lt_of_le h5 h.size)
    rw [h.fl] at k2
    obtain ⟨i0, x0, l1, l2, l3, l4, l5⟩ := h.own i1 x1 k1 k2 k3 k4 (by rw [k5]; exact h5)
    exact ⟨i0, x0, l1, l2, l3, l4, l5.trans k5⟩
  ownL := fun id x h1 h2 h3 h4 h5 => by
    obtain ⟨i1, x1, k1, k2, k3, k4, k5⟩ := h'.ownL id x h1 (by rw [h.fl]; exact h2) h3 h4 (Nat.lt_of_lt_of_le h5 h.size)
    rw [h.fl] at k2
    obtain ⟨i0, x0, l1, l2, l3, l4, l5⟩ := h.ownL i1 x1 k1 k2 k3 k4 (by rw [k5]; exact h5)
    exact ⟨i0, x0, l1, l2, l3, l4, l5.trans k5⟩

/-- A new region in a new block. -/
theorem WOK.new {σ : Sg} {H : Hp} {w : World} (hw : WOK σ H w) {x : AO} {o : Obj} {y : Nat × Nat} (hn : H.n < 4096) (hx : x ≠ .res)
    (he : ∀ σ' : Sg, (∀ id z, σ id = some z → σ' id = some z) → σ' H.n = some (w.heap.size, y) → Ent σ' { w with heap := w.heap.push o } H.n x) :
    ∃ σ' : Sg, σ' H.n = some (w.heap.size, y) ∧ WOK σ' ⟨(setF AO 4 H.n).s x H.h, H.n + 1, H.fl⟩ { w with heap := w.heap.push o } ∧
      Evo σ H w σ' ⟨(setF AO 4 H.n).s x H.h, H.n + 1, H.fl⟩ { w with heap := w.heap.push o } := by
  refine ⟨fun i => if i = H.n then some (w.heap.size, y) else σ i, by simp, ?_, ?_⟩
  all_goals
    have hext : ∀ id z, σ id = some z → (fun i => if i = H.n then some (w.heap.size, y) else σ i) id = some z := by
      intro id z hz
      have : id ≠ H.n := fun hc => by rw [hw.nn id (by omega)] at hz; cases hz
      simp [this, hz]
    have hget : ∀ id, id < H.n → (⟨(setF AO 4 H.n).s x H.h, H.n + 1, H.fl⟩ : Hp).get id = H.get id := fun id hi => Hp.get_set_ne _ _ _ _ _ _ (by omega) hn (by omega)
    have hself : (⟨(setF AO 4 H.n).s x H.h, H.n + 1, H.fl⟩ : Hp).get H.n = x := Hp.get_set_same _ _ _ _ _
    have hheap : ∀ b, b < w.heap.size → (w.heap.push o)[b]? = w.heap[b]? := fun b hb => by rw [Array.getElem?_push]; simp [Nat.ne_of_lt hb]
    have hblk : ∀ id z, id < H.n → (H.get id).live = true → σ id = some z → z.1 < w.heap.size := fun id z hi hl hz => by
      obtain ⟨z', h1, h2⟩ := (hw.ent id hi).blk hl
      rw [hz] at h1; cases h1; exact h2
  · refine ⟨fun id hi => ?_, hn, Nat.le_succ_of_le hw.fl, fun id hi => ?_, ?_⟩
    · have : id ≠ H.n := by simp at hi; omega
      simp only [this, if_false]; exact hw.nn id (by simp at hi; omega)
    · by_cases h : id = H.n
      · subst h; rw [hself]; exact he _ hext (by simp)
      · have hi' : id < H.n := by simp at hi; omega
        rw [hget id hi']
        exact (hw.ent id hi').mono hext (fun hr => by
          have := hw.ent id hi'; rw [hr] at this
          simp only [h, if_false]; exact this) (fun z hz hl => hheap _ (hblk id z hi' hl hz))
    · intro id id' z z' h1 h2 h3 h4 h5 h6 h7 h8
      by_cases h : id = H.n <;> by_cases h' : id' = H.n
      · omega
      · exfalso
        have hi' : id' < H.n := by simp at h2; omega
        rw [hget id' hi'] at h5
        simp only [h', if_false] at h7
        have := hblk id' z' hi' h5 h7
        simp only [h, if_true, Option.some.injEq] at h6
        subst h6; simp at h8; omega
      · exfalso
        have hi' : id < H.n := by simp at h1; omega
        rw [hget id hi'] at h4
        simp only [h, if_false] at h6
        have := hblk id z hi' (AO.wrt_live h4) h6
        simp only [h', if_true, Option.some.injEq] at h7
        subst h7; simp at h8; omega
      · have k1 : id < H.n := by simp at h1; omega
        have k2 : id' < H.n := by simp at h2; omega
        rw [hget id k1] at h4
        rw [hget id' k2] at h5
        simp only [h, if_false] at h6
        simp only [h', if_false] at h7
        exact hw.sep id id' z z' k1 k2 h3 h4 h5 h6 h7 h8
  · refine ⟨⟨rfl, rfl, rfl⟩, by simp, hext, fun id hi hr => ?_, fun id hi => by have : id ≠ H.n := (by have := hw.fl; omega); simp [this], Nat.le_succ _, rfl, fun id hi => hget id (Nat.lt_of_lt_of_le hi hw.fl), fun b hb _ => hheap b hb, ?_, ?_⟩
    · have : id ≠ H.n := by omega
      exact ⟨by simp [this], by rw [hget id hi]; exact hr⟩
    · intro id z h1 h2 h3 h4 h5
      by_cases h : id = H.n
      · exfalso; simp only [h, if_true, Option.some.injEq] at h4; subst h4; simp at h5
      · have hi' : id < H.n := by simp at h1; omega
        simp only [h, if_false] at h4
        rw [hget id hi'] at h3
        exact ⟨id, z, hi', h2, h3, h4, rfl⟩
    · intro id z h1 h2 h3 h4 h5
      by_cases h : id = H.n
      · exfalso; simp only [h, if_true, Option.some.injEq] at h4; subst h4; simp at h5
      · have hi' : id < H.n := by simp at h1; omega
        simp only [h, if_false] at h4
        rw [hget id hi'] at h3
        exact ⟨id, z, hi', h2, h3, h4, rfl⟩

/-- A region that is written. -/
theorem WOK.wr {σ : Sg} {H : Hp} {w w' : World} (hw : WOK σ H w) {id : Nat} {x : AO} {z : Nat × Nat × Nat} (hi : id < H.n) (hf : H.fl ≤ id) (hl : (H.get id).wrt = true) (hz : σ id = some z)
    (hs : w'.os = w.os ∧ w'.tape = w.tape ∧ w'.output = w.output) (hsz : w'.heap.size = w.heap.size) (hh : ∀ b, b ≠ z.1 → w'.heap[b]? = w.heap[b]?) (hx : x ≠ .res)
    (he : Ent σ w' id x) : WOK σ ⟨(setF AO 4 id).s x H.h, H.n, H.fl⟩ w' ∧ Evo σ H w σ ⟨(setF AO 4 id).s x H.h, H.n, H.fl⟩ w' := by
  have hle := hw.le
  have hget : ∀ j, j < H.n → j ≠ id → (⟨(setF AO 4 id).s x H.h, H.n, H.fl⟩ : Hp).get j = H.get j := fun j hj hne => Hp.get_set_ne _ _ _ _ _ _ (by omega) (by omega) hne
  have hself : (⟨(setF AO 4 id).s x H.h, H.n, H.fl⟩ : Hp).get id = x := Hp.get_set_same _ _ _ _ _
  have hlive : ∀ j, j < H.n → ((⟨(setF AO 4 id).s x H.h, H.n, H.fl⟩ : Hp).get j).live = true → (H.get j).live = true := fun j hj h => by
    by_cases hji : j = id
    · subst hji; exact AO.wrt_live hl
    · rwa [hget j hj hji] at h
  have hwrt : ∀ j, j < H.n → ((⟨(setF AO 4 id).s x H.h, H.n, H.fl⟩ : Hp).get j).wrt = true → (H.get j).wrt = true := fun j hj h => by
    by_cases hji : j = id
    · subst hji; exact hl
    · rwa [hget j hj hji] at h
  refine ⟨⟨hw.nn, hw.le, hw.fl, fun j hj => ?_, ?_⟩, ⟨hs, by omega, fun _ _ h => h, fun j hj hr => ⟨rfl, ?_⟩, fun _ _ => rfl, Nat.le_refl _, rfl, fun j hj => hget j (Nat.lt_of_lt_of_le hj hw.fl) (by omega), ?_, ?_, ?_⟩⟩
  · by_cases hji : j = id
    · subst hji; rw [hself]; exact he
    · rw [hget j hj hji]
      exact (hw.ent j hj).mono (fun _ _ h => h) (fun hr => by have := hw.ent j hj; rw [hr] at this; exact this)
        (fun y hy hly => hh _ fun hc => hji (hw.sep id j z y hi hj hf hl hly hz hy hc.symm).symm)
  · intro j j' y y' h1 h2 h3 h4 h5 h6 h7 h8
    exact hw.sep j j' y y' h1 h2 h3 (hwrt j h1 h4) (hlive j' h2 h5) h6 h7 h8
  · by_cases hji : j = id
    · subst hji; rw [hself]; exact hx
    · rw [hget j hj hji]; exact hr
  · intro b hb ho
    exact hh b fun hc => ho id z hi hf hl hz hc.symm
  · intro j y h1 h2 h3 h4 h5
    exact ⟨j, y, h1, h2, hwrt j h1 h3, h4, rfl⟩
  · intro j y h1 h2 h3 h4 h5
    exact ⟨j, y, h1, h2, hlive j h1 h3, h4, rfl⟩

theorem row_eq {H : Hp} {id : Nat} {l : List CV} (h : row H id = some l) : H.get id = .c l := by
  unfold row at h; split at h <;> simp_all

/-- What is not live stands for nothing: it is below n all the same where a value tells of it. -/
theorem WOK.lt {σ : Sg} {H : Hp} {w : World} (hw : WOK σ H w) {id : Nat} {z : Nat × Nat × Nat} (h : σ id = some z) : id < H.n := by
  rcases Nat.lt_or_ge id H.n with h1 | h1
  · exact h1
  · rw [hw.nn id h1] at h; cases h
end Go.Proofs.YtindppnanjcoaaaGreatDoor.Ev
end
section
namespace Go.Proofs.YtindppnanjcoaaaGreatDoor.Ev
open Go
open Ab (OpRuns run_sizeOf' run_zeroValue' Addr.add_none)

theorem pureV_run (P : Program) {α : Type} (s : Sem α) : ∀ (a : α), pureV P s = some a → ∀ w, s.run P w = .ok a w := by
  induction s with
  | pure a => intro b h w; cases h; rfl
  | program k ih => intro b h w; exact ih P b h w
  | _ => intro b h; cases h

mutual
theorem toV_eq {σ : Sg} : ∀ {c : CV} {x y : Value}, toV c = some x → RV σ c y → y = x
  | .i _ _, _, _, h, hr => by cases h; exact hr
  | .b _, _, _, h, hr => by cases h; exact hr
  | .v _, _, _, h, hr => by cases h; exact hr
  | .a l, _, _, h, ⟨m, h1, h2⟩ => by
    simp only [toV] at h
    split at h
    · rename_i r hr
      cases h; rw [h1, toVs_eq hr h2]
    · cases h
  | .t l, _, _, h, ⟨m, h1, h2⟩ => by
    simp only [toV] at h
    split at h
    · rename_i r hr
      cases h; rw [h1, toVs_eq hr h2]
    · cases h
  | .sl _ _ _ _, _, _, h, _ => by cases h
  | .so _ _ _ _, _, _, h, _ => by cases h
  | .p _ _, _, _, h, _ => by cases h
  | .m _, _, _, h, _ => by cases h
  | .f _ _, _, _, h, _ => by cases h
  | .cp _, _, _, h, _ => by cases h
  | .any, _, _, h, _ => by cases h
theorem toVs_eq {σ : Sg} : ∀ {c : List CV} {x y : List Value}, toVs c = some x → RVs σ c y → y = x
  | [], _, _, h, hr => by cases h; exact hr
  | a :: l, x, y, h, ⟨b, r, h1, h2, h3⟩ => by
    simp only [toVs] at h
    split at h
    · rename_i u v hu hv
      cases h; rw [h1, toV_eq hu h2, toVs_eq hv h3]
    · cases h
end

theorem cv1_rv (σ : Sg) (x : Value) : RV σ (cv1 x) x := by unfold cv1; split <;> rfl
theorem cv1s_rv (σ : Sg) : ∀ (l : List Value), RVs σ (l.map cv1) l
  | [] => rfl
  | x :: l => ⟨x, l, rfl, cv1_rv σ x, cv1s_rv σ l⟩
theorem cvOf_rv (σ : Sg) (x : Value) : RV σ (cvOf x) x := by
  unfold cvOf; split
  · rename_i cs; exact ⟨cs.toList, rfl, cv1s_rv σ _⟩
  · exact cv1_rv σ _

theorem evX_t (E : Env) (p : G Env CV) : evX E (.t p) = p.g E := rfl
theorem evX_c (E : Env) (v : CV) : evX E (.c v) = v := rfl
theorem evO_rv {σ : Sg} {E : Env} {a : Act} (h : ∀ t, t < 512 → RV σ ((getF CV 3 t).g E) (a.tmps.getD t undef)) : ∀ (x : Operand), RV σ (evO E x) (a.eval x)
  | .tmp t => by
    cases hb : Nat.blt t 512 with
    | true => simp only [evO, compX, hb, cond_true, evX_t]; exact h t (by simpa [Nat.blt_eq] using hb)
    | false => simp only [evO, compX, hb, cond_false, evX_c, RV]
  | .const v => cvOf_rv σ v
  | .func f => ⟨[], rfl, rfl⟩
  | .global _ => trivial

theorem notAgg_eq (d : TypeDesc) : notAgg d = Ab.notAgg d := by cases d <;> rfl

theorem keq_eq {j k : IntKind} (h : keq j k = true) : j = k := by cases j <;> cases k <;> first | rfl | cases h
theorem wrap64 (n : Int) (h1 : -9223372036854775808 ≤ n) (h2 : n < 9223372036854775808) : IntKind.i64.wrap n = n := by
  simp only [IntKind.wrap, IntKind.bits, IntKind.signed]; simp; omega
theorem b63_eq : b63 = 9223372036854775808 := rfl
theorem wr64_eq : ∀ n : Int, wr64 n = IntKind.i64.wrap n
  | .ofNat m => by
    simp only [wr64]
    by_cases hb : m < b63
    · rw [show Nat.blt m b63 = true by rw [Nat.blt_eq]; exact hb, cond_true]
      rw [b63_eq] at hb
      exact (wrap64 _ (by simp only [Int.ofNat_eq_natCast]; omega) (by simp only [Int.ofNat_eq_natCast]; omega)).symm
    · rw [show Nat.blt m b63 = false by rw [Bool.eq_false_iff, ne_eq, Nat.blt_eq]; exact hb, cond_false]
  | .negSucc m => by
    simp only [wr64]
    by_cases hb : m < b63
    · rw [show Nat.blt m b63 = true by rw [Nat.blt_eq]; exact hb, cond_true]
      rw [b63_eq] at hb
      exact (wrap64 _ (by omega) (by omega)).symm
    · rw [show Nat.blt m b63 = false by rw [Bool.eq_false_iff, ne_eq, Nat.blt_eq]; exact hb, cond_false]
theorem wr_eq (k : IntKind) (n : Int) : wr k n = k.wrap n := by
  cases k
  case i64 => exact wr64_eq n
  all_goals rfl
theorem ilt_eq : ∀ (a b : Int), ilt a b = decide (a < b)
  | .ofNat a, .ofNat b => by
    simp only [ilt, Int.ofNat_eq_natCast]
    by_cases h : a < b
    · rw [show Nat.blt a b = true by simpa [Nat.blt_eq] using h, decide_eq_true (by omega)]
    · rw [show Nat.blt a b = false by simpa [Bool.eq_false_iff, Nat.blt_eq] using h, decide_eq_false (by omega)]
  | .negSucc a, .ofNat b => by simp only [ilt, Int.ofNat_eq_natCast]; rw [decide_eq_true (by omega)]
  | .ofNat a, .negSucc b => by simp only [ilt, Int.ofNat_eq_natCast]; rw [decide_eq_false (by omega)]
  | .negSucc a, .negSucc b => by
    simp only [ilt]
    by_cases h : b < a
    · rw [show Nat.blt b a = true by simpa [Nat.blt_eq] using h, decide_eq_true (by omega)]
    · rw [show Nat.blt b a = false by simpa [Bool.eq_false_iff, Nat.blt_eq] using h, decide_eq_false (by omega)]
theorem nbeq (a b : Nat) : Nat.beq a b = decide (a = b) := by
  by_cases h : a = b
  · subst h; simp
  · rw [decide_eq_false h, ← Bool.not_eq_true, Nat.beq_eq]; exact h
theorem ieq_eq : ∀ (a b : Int), ieq a b = (a == b)
  | .ofNat a, .ofNat b => by
    simp only [ieq, Int.ofNat_eq_natCast, nbeq, Ab.beq_dec]
    by_cases h : a = b
    · simp [h]
    · rw [decide_eq_false h, decide_eq_false (by omega)]
  | .negSucc a, .ofNat b => by simp only [ieq, Int.ofNat_eq_natCast, Ab.beq_dec]; rw [decide_eq_false (by omega)]
  | .ofNat a, .negSucc b => by simp only [ieq, Int.ofNat_eq_natCast, Ab.beq_dec]; rw [decide_eq_false (by omega)]
  | .negSucc a, .negSucc b => by simp only [ieq, nbeq, Ab.beq_dec]; by_cases h : a = b <;> simp [h]

theorem arF_ok {P : Program} {op : BinOp} {g : IntKind → Int → Int → CV} (h : arF op = some g) (k : IntKind) (a b : Int) (t : TypeId) (ox oy : Operand) (w : World) (σ : Sg) :
    ∃ rv, (do eqGuard op t ox oy (.int k a) (.int k b); binOp op t (.int k a) (.int k b)).run P w = .ok rv w ∧ RV σ (g k a b) rv := by
  cases op <;> simp only [arF, Option.some.injEq, reduceCtorEq] at h <;> subst h
  all_goals refine ⟨_, ?_, rfl⟩
  all_goals simp [eqGuard, binOp, Op.intArith, Op.intCmp, wr_eq, ilt_eq, ieq_eq, bne]
  all_goals first | done | rfl | (by_cases h : a < b <;> simp [h] <;> omega) | (by_cases h : b < a <;> simp [h] <;> omega)

theorem run_eq_of {P : Program} {t : TypeId} {x y : Value} {b : Bool} {w : World} (h : ∀ d, (Op.equalIn (d + 1) t x y).run P w = .ok b w) : (Op.equal t x y).run P w = .ok b w := h 9999

theorem binG_ok {P : Program} {op : BinOp} {t : TypeId} {ox oy : Operand} {cx cy v : CV} (h : binG P op t ox oy cx cy = some v) {σ : Sg} {a b : Value} (ha : RV σ cx a) (hb : RV σ cy b) (w : World) :
    ∃ rv, (do eqGuard op t ox oy a b; binOp op t a b).run P w = .ok rv w ∧ RV σ v rv := by
  unfold binG at h
  split at h
  · rename_i n lo
    split at h
    · cases hd : decide (n ≤ (lo : Int)) with
      | false => rw [hd] at h; cases h
      | true =>
        rw [hd] at h
        cases h
        obtain ⟨m, rfl, hm⟩ := hb
        cases ha
        have := of_decide_eq_true hd
        refine ⟨_, ?_, rfl⟩
        simp [eqGuard, binOp, Op.intCmp]
        omega
    · cases h
  · split at h
    · rename_i x y hx hy
      split at h
      · rename_i r hr
        cases h
        rw [toV_eq hx ha, toV_eq hy hb]
        exact ⟨r, pureV_run P _ _ hr w, cv1_rv σ r⟩
      · cases h
    · split at h
      · rename_i p q hp hq
        have hsl : ∀ {c : CV} {x : Value} {p : Bool}, isNil c = some p → RV σ c x → ∃ u n m, x = .slice u n m ∧ u.isNone = p := by
          intro c x p hc hr
          unfold isNil at hc
          split at hc <;> cases hc
          · cases hr; exact ⟨_, _, _, rfl, rfl⟩
          · obtain ⟨b, p, c, h1, h2⟩ := hr; exact ⟨_, _, _, h2, rfl⟩
          · obtain ⟨b, p, c, cap, q, h1, h2, _⟩ := hr; exact ⟨_, _, _, h2, rfl⟩
        obtain ⟨u, n, m, rfl, hu⟩ := hsl hp ha
        obtain ⟨u', n', m', rfl, hu'⟩ := hsl hq hb
        cases hc : (p || q) && (elemT P t).isSome with
        | false => rw [hc] at h; cases h
        | true =>
          rw [hc] at h
          cases h
          simp only [Bool.and_eq_true] at hc
          have ht : ∃ e, P.underlying t = some (.slice e) := by
            have := hc.2; unfold elemT at this; split at this
            · exact ⟨_, by assumption⟩
            · cases this
          obtain ⟨e, ht⟩ := ht
          refine ⟨.bool (p && q), ?_, rfl⟩
          have : (Op.equal t (.slice u n m) (.slice u' n' m')).run P w = .ok (p && q) w := by
            refine run_eq_of (fun d => ?_)
            cases u <;> cases u' <;> simp_all [Op.equalIn, run_underlying ht]
          simp [eqGuard, binOp, this]
      · cases h

/-- What an operation comes to. -/
def OK1 (P : Program) (o : Op) (ty : TypeId) (ρ : Operand → CV) (H : Hp) (v : CV) (H' : Hp) : Prop :=
  ∀ σ w r pos after guard dst, WOK σ H w → (∀ x, x ∈ o.operands → RV σ (ρ x) (r x)) →
    OpRuns P ⟨dst, o, ty, pos, after, guard⟩ r w fun rv w' => ∃ σ', WOK σ' H' w' ∧ Evo σ H w σ' H' w' ∧ RV σ' v rv

section
variable {P : Program} {o : Op} {ty : TypeId} {ρ : Operand → CV} {H H' : Hp} {v : CV}

theorem OK1.val (h : ∀ σ w r, WOK σ H w → (∀ x, x ∈ o.operands → RV σ (ρ x) (r x)) → ∃ rv, (∀ pos after guard dst, (execOp r ⟨dst, o, ty, pos, after, guard⟩).run P w = .ok (.value rv) w) ∧ RV σ v rv) :
    OK1 P o ty ρ H v H := by
  intro σ w r pos after guard dst hw hx
  obtain ⟨rv, h1, h2⟩ := h σ w r hw hx
  unfold OpRuns
  rw [h1]
  exact ⟨σ, hw, .refl _ _ _, h2⟩

theorem OK1.of (h : ∀ σ w r, WOK σ H w → (∀ x, x ∈ o.operands → RV σ (ρ x) (r x)) → ∃ rv w' σ', (∀ pos after guard dst, (execOp r ⟨dst, o, ty, pos, after, guard⟩).run P w = .ok (.value rv) w') ∧ WOK σ' H' w' ∧ Evo σ H w σ' H' w' ∧ RV σ' v rv) :
    OK1 P o ty ρ H v H' := by
  intro σ w r pos after guard dst hw hx
  obtain ⟨rv, w', σ', h1, h2⟩ := h σ w r hw hx
  unfold OpRuns
  rw [h1]
  exact ⟨σ', h2⟩
theorem OK1.skip (hv : v = .v undef) (h : ∀ σ w r, WOK σ H w → (∀ x, x ∈ o.operands → RV σ (ρ x) (r x)) → ∃ w' σ', (∀ pos after guard dst, (execOp r ⟨dst, o, ty, pos, after, guard⟩).run P w = .ok .skip w') ∧ WOK σ' H' w' ∧ Evo σ H w σ' H' w') :
    OK1 P o ty ρ H v H' := by
  subst hv
  intro σ w r pos after guard dst hw hx
  obtain ⟨w', σ', h1, h2, h3⟩ := h σ w r hw hx
  unfold OpRuns
  rw [h1]
  exact ⟨σ', h2, h3, rfl⟩

theorem ok_bin {op : BinOp} {t u : TypeId} {x y : Operand} (h : exBin (arF op) (binG P op t x y) (ρ x) (ρ y) = some v) : OK1 P (.binOp op t x y u) ty ρ H v H :=
  OK1.val fun σ w r _ hx => by
    have h1 := hx x (by simp [Op.operands])
    have h2 := hx y (by simp [Op.operands])
    have key : ∃ rv, (do eqGuard op t x y (r x) (r y); binOp op t (r x) (r y)).run P w = .ok rv w ∧ RV σ v rv := by
      unfold exBin at h
      generalize hcx : ρ x = cx at h h1
      generalize hcy : ρ y = cy at h h2
      split at h
      · rename_i k a
        split at h
        · rename_i k' b
          cases hk : keq k k' with
          | false => rw [hk] at h; exact binG_ok h h1 h2 w
          | true =>
            rw [hk] at h
            obtain rfl := keq_eq hk
            simp only [cond_true] at h
            split at h
            · rename_i g hg
              cases h
              rw [show r x = .int k a from h1, show r y = .int k b from h2]
              exact arF_ok hg k a b t x y w σ
            · exact binG_ok h h1 h2 w
        · exact binG_ok h h1 h2 w
      · exact binG_ok h h1 h2 w
    obtain ⟨rv, e1, e2⟩ := key
    refine ⟨rv, fun _ _ _ _ => ?_, e2⟩
    have ha : ∀ {α β γ : Type} (x : Result α) (f : α → World → Result β) (g : β → World → Result γ), (x.andThen fun a w => (f a w).andThen g) = (x.andThen f).andThen g := fun x f g => by cases x <;> rfl
    simp only [Sem.run_bind] at e1
    simp [execOp, ha, e1]

theorem ok_mv {x : Operand} : OK1 P (.move x) ty ρ H (ρ x) H := OK1.val fun _ _ r _ hx => ⟨r x, fun _ _ _ _ => rfl, hx x (by simp [Op.operands])⟩
theorem ok_as {x : Operand} : OK1 P (.assign x) ty ρ H (ρ x) H := OK1.val fun _ _ r _ hx => ⟨r x, fun _ _ _ _ => rfl, hx x (by simp [Op.operands])⟩

theorem Ent.rd {σ : Sg} {w : World} {id : Nat} {l : List CV} : Ent σ w id (.c l) → Ent σ w id (.k l)
  | ⟨b, p, c, arr, et, h1, h2, h3⟩ => ⟨b, p, c, arr, et, _, h1, h2, h3⟩
theorem rowR_ent {σ : Sg} {w : World} {H : Hp} {id : Nat} {l : List CV} (h : rowR H id = some l) (he : Ent σ w id (H.get id)) : Ent σ w id (.k l) := by
  unfold rowR at h
  split at h <;> rename_i hg <;> cases h
  · rw [hg] at he; exact he.rd
  · rw [hg] at he; exact he

/-- The cells of a region. -/
theorem Ent.cell {σ : Sg} {w : World} {id : Nat} {l : List CV} (h : Ent σ w id (.k l)) {b p c : Nat} (hb : σ id = some (b, p, c)) :
    ∃ arr et fr, w.heap[b]? = some (.cells arr et fr) ∧ l.length ≤ c ∧ p + c ≤ arr.size ∧ RVs σ l ((arr.toList.drop p).take l.length) ∧ ∀ k, k < c → w.cell? ⟨b, p + k, none⟩ = some (arr.getD (p + k) undef) := by
  obtain ⟨b', p', c', arr, et, fr, h1, h2, h3, h4, h5⟩ := h
  rw [hb] at h1; cases h1
  refine ⟨arr, et, fr, h2, h3, h4, h5, fun k hk => ?_⟩
  have : p + k < arr.size := by omega
  simp [World.cell?, h2, Array.getD, this]

theorem seg_map (arr : Array Value) (p n o m : Nat) (h : o + m ≤ n) (h2 : p + n ≤ arr.size) : (((arr.toList.drop p).take n).drop o).take m = (List.range m).map fun k => arr.getD (p + o + k) undef := by
  apply List.ext_getElem?
  intro i
  by_cases hi : i < m
  · have h3 : p + o + i < arr.size := by omega
    rw [List.getElem?_take, if_pos hi, List.getElem?_drop, List.getElem?_take, if_pos (by omega), List.getElem?_drop, Array.getElem?_toList]
    simp only [List.getElem?_map, List.getElem?_range hi, Option.map_some, Array.getD, ← Nat.add_assoc, h3, dif_pos, Array.getElem?_eq_getElem h3, Array.getInternal_eq_getElem]
  · rw [List.getElem?_eq_none (by simp; omega), List.getElem?_eq_none (by simp; omega)]

theorem Ent.seg {σ : Sg} {w : World} {id : Nat} {l : List CV} (h : Ent σ w id (.k l)) {b p c : Nat} (hb : σ id = some (b, p, c)) {o m : Nat} {r : List CV} (hr : tk m (drp l o) = some r) :
    ∃ f : Nat → Value, RVs σ r ((List.range m).map f) ∧ (∀ k, k < m → w.cell? ⟨b, p + o + k, none⟩ = some (f k)) ∧ (0 < m → o + m ≤ c) := by
  obtain ⟨arr, et, fr, h2, h3, h4, h5, h6⟩ := h.cell hb
  rw [drp_eq] at hr
  obtain ⟨e1, e2⟩ := tk_eq hr
  simp only [List.length_drop] at e2
  by_cases hm : m = 0
  · subst hm
    exact ⟨fun _ => undef, by rw [e1]; simp [RVs], by simp, by omega⟩
  · refine ⟨fun k => arr.getD (p + o + k) undef, ?_, fun k hk => ?_, fun _ => by omega⟩
    · rw [e1, ← seg_map arr p l.length o m (by omega) (by omega)]; exact (h5.drop o).take m
    · have := h6 (o + k) (by omega)
      simpa [Nat.add_assoc] using this

theorem Ent.one {σ : Sg} {w : World} {id : Nat} {l : List CV} (h : Ent σ w id (.k l)) {b p c : Nat} (hb : σ id = some (b, p, c)) {o : Nat} {x : CV} (hx : nth l o = some x) :
    ∃ v, RV σ x v ∧ w.cell? ⟨b, p + o, none⟩ = some v := by
  obtain ⟨arr, et, fr, h2, h3, h4, h5, h6⟩ := h.cell hb
  obtain ⟨v, hv, hr⟩ := h5.nth hx
  rw [nth_eq] at hx
  have ho := (List.getElem?_eq_some_iff.1 hx).1
  refine ⟨v, hr, ?_⟩
  rw [h6 o (by omega)]
  rw [List.getElem?_take, if_pos ho, List.getElem?_drop, Array.getElem?_toList] at hv
  simp [Array.getD_eq_getD_getElem?, hv]

theorem ok_ld {t : TypeId} {x : Operand} {d : TypeDesc} {n : Nat} (hd : P.underlying t = some d) (hn : sizeT P t = some n) (h : exLd (bif notAgg d then 0 else Nat.succ n) (ρ x) H = some v) : OK1 P (.load t x) ty ρ H v H :=
  OK1.val fun σ w r hw hx => by
    have h1 := hx x (by simp [Op.operands])
    generalize ρ x = cx at h h1
    unfold exLd at h
    split at h
    · rename_i id o
      split at h
      · rename_i l hl
        obtain ⟨b, p, c, hb, hrx⟩ := h1
        have he := rowR_ent hl (hw.ent id (hw.lt hb))
        have hload : ∀ (u : Value) (a : Addr), r x = .pointer (some a) → (loadVar t a).run P w = .ok u w → ∀ pos after guard dst, (execOp r ⟨dst, .load t x, ty, pos, after, guard⟩).run P w = .ok (.value u) w := by
          intro u a ha hu pos after guard dst
          simp [execOp, Instr.loadAt, Instr.sureAddr, ha, hu]
        cases hag : notAgg d with
        | true =>
          rw [hag] at h
          obtain ⟨u, h3, h4⟩ := he.one hb (show nth l o = some v from h)
          refine ⟨u, hload u _ hrx ?_, h3⟩
          simp [loadVar, Ab.run_isAgg' hd, ← notAgg_eq, hag, h4]
        | false =>
          rw [hag] at h
          have h : (match tk n (drp l o) with | some r => some (CV.a r) | none => none) = some v := h
          split at h
          · rename_i q hq
            cases h
            obtain ⟨f, f1, f2, _⟩ := he.seg hb hq
            unfold sizeT at hn
            split at hn
            · rename_i i hi
              cases hn
              refine ⟨.agg ((List.range i.size).map f).toArray, hload _ _ hrx ?_, ⟨_, rfl, f1⟩⟩
              have := run_loadCells (P := P) w ⟨b, p + o, none⟩ i.size f (fun j hj => by rw [Addr.add_none]; exact f2 j hj)
              simp [loadVar, Ab.run_isAgg' hd, ← notAgg_eq, hag, run_sizeOf' hi, this]
            · cases hn
          · cases h
      · cases h
    · cases h

theorem asN_rv {σ : Sg} {c : CV} {n : Nat} (h : asN c = some n) {x : Value} (hr : RV σ c x) : ∃ k, x = .int k n := by
  unfold asN at h; split at h
  · cases h; exact ⟨_, hr⟩
  · cases h

theorem ok_ix {t e s : Nat} {x y : Operand} (hu : P.underlying t = some (.slice e)) (hs : sizeT P e = some s) (h : exIx s (ρ x) (asN (ρ y)) = some v) : OK1 P (.indexAddr t x y) ty ρ H v H :=
  OK1.val fun σ w r hw hx => by
    have h1 := hx x (by simp [Op.operands])
    have h2 := hx y (by simp [Op.operands])
    generalize ρ x = cx at h h1
    generalize ρ y = cy at h h2
    unfold exIx at h
    unfold sizeT at hs
    split at hs
    · rename_i ie hie
      cases hs
      split at h
      · rename_i i hi
        obtain ⟨k, hk⟩ := asN_rv hi h2
        split at h
        · rename_i id o len cap
          obtain ⟨b, p, c, hb, hrx⟩ := h1
          cases hlt : Nat.blt i len with
          | false => rw [hlt] at h; cases h
          | true =>
            rw [hlt] at h; cases h
            rw [Nat.blt_eq] at hlt
            refine ⟨.pointer (some ⟨b, p + (o + i * ie.size), none⟩), fun _ _ _ _ => ?_, b, p, c, hb, rfl⟩
            simp [execOp, Instr.indexAt, asIntOf, hrx, hk, run_underlying hu, hlt, run_sizeOf' hie, Addr.add_none, Nat.add_assoc]
        · rename_i id k' len s'
          obtain ⟨b, p, c, cap, q, hb, hrx, hc, hle, hs0, hcap, hq⟩ := h1
          cases hlt : Nat.blt i len && Nat.beq ie.size s' with
          | false => rw [hlt] at h; cases h
          | true =>
            rw [hlt] at h; cases h
            simp only [Bool.and_eq_true, Nat.blt_eq, Nat.beq_eq] at hlt
            have hq := hq (by omega)
            refine ⟨.pointer (some ⟨b, p + ((k' + i) * ie.size), none⟩), fun _ _ _ _ => ?_, b, p, c, hb, rfl⟩
            have e : p + k' * s' + i * ie.size = p + (k' + i) * ie.size := by rw [hlt.2, Nat.add_mul, Nat.add_assoc]
            simp [execOp, Instr.indexAt, asIntOf, hrx, hk, run_underlying hu, hlt.1, run_sizeOf' hie, Addr.add_none, hq, e]
        · cases h
      · cases h
    · cases hs

theorem ok_fa {t k s : Nat} {x : Operand} {f : Field} (hf : fldT P t k = some f) (hs : sizeT P f.type = some s) (h0 : s ≠ 0) (h : exFa f.offset (ρ x) = some v) : OK1 P (.fieldAddr t x k) ty ρ H v H :=
  OK1.val fun σ w r hw hx => by
    have h1 := hx x (by simp [Op.operands])
    generalize ρ x = cx at h h1
    unfold exFa at h
    unfold fldT at hf
    unfold sizeT at hs
    split at hs
    · rename_i ie hie
      cases hs
      split at hf
      · rename_i fs hu
        split at h
        · rename_i id o
          cases h
          obtain ⟨b, p, c, hb, hrx⟩ := h1
          refine ⟨.pointer (some ⟨b, p + (o + f.offset), none⟩), fun _ _ _ _ => ?_, b, p, c, hb, rfl⟩
          simp [execOp, Instr.fieldAt, Instr.sureAddr, hrx, run_underlying hu, hf, fieldPlace, run_sizeOf' hie, h0, Addr.add_none, Nat.add_assoc]
        · cases h
      · cases hf
    · cases hs

theorem ok_pk {c a b : Operand} {E : Env} (h : exPk (evO E c) (compX a) (compX b) E = some v) : OK1 P (.pick c a b) ty (evO E) H v H :=
  OK1.val fun σ w r hw hx => by
    have h1 := hx c (by simp [Op.operands])
    generalize evO E c = cc at h h1
    unfold exPk at h
    split at h
    · rename_i q
      cases h
      have hrc : r c = .bool q := h1
      cases q with
      | true => exact ⟨r a, fun _ _ _ _ => by simp [execOp, hrc, asBool], hx a (by simp [Op.operands])⟩
      | false => exact ⟨r b, fun _ _ _ _ => by simp [execOp, hrc, asBool], hx b (by simp [Op.operands])⟩
    · cases h

theorem ok_ex {x : Operand} {i : Nat} (h : exEx (ρ x) i = some v) : OK1 P (.extract x i) ty ρ H v H :=
  OK1.val fun σ w r hw hx => by
    have h1 := hx x (by simp [Op.operands])
    generalize ρ x = cx at h h1
    unfold exEx at h
    split at h
    · rename_i l
      obtain ⟨m, hm, hr⟩ := h1
      obtain ⟨u, hu, hv⟩ := hr.nth h
      exact ⟨u, fun _ _ _ _ => by simp [execOp, Instr.extract, hm, hu], hv⟩
    · rename_i a
      split at h
      · rename_i u hu
        cases h
        rw [nth_eq, Array.getElem?_toList] at hu
        have hrx : r x = .tuple a := h1
        exact ⟨u, fun _ _ _ _ => by simp [execOp, Instr.extract, hrx, hu], cv1_rv σ u⟩
      · cases h
    · cases h
end
end Go.Proofs.YtindppnanjcoaaaGreatDoor.Ev
end
