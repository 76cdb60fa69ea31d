/- Regions whose order is drawn: what an operation does to the heap. Regions whose order is drawn: two operations that may change places. Regions whose order is drawn: one operation against the model, and against what stands in other slots. Conditions: none. -/
import Derived.Test.YtindppnanjcoaaaGreatDoorE21
section
namespace Go.Proofs.YtindppnanjcoaaaGreatDoor.Ev
open Go

/-- Where a heap is as another one for an operation that looks at it. -/
def Rd (H H2 : Hp) : Kind → Prop
  | .n => True
  | .r id => H2.get id = H.get id
  | _ => False
theorem Rd.refl {H : Hp} {k : Kind} (h : k.rd = true) : Rd H H k := by cases k <;> first | trivial | rfl | cases h

section
variable {P : Program} {o : Op} {ty : TypeId} {E : Env} {H H' H2 : Hp} {v : CV} {wq wq2 : Option Nat}

theorem row_congr {id : Nat} (h : H2.get id = H.get id) : row H2 id = row H id := by unfold row; rw [h]
theorem rowR_congr {id : Nat} (h : H2.get id = H.get id) : rowR H2 id = rowR H id := by unfold rowR; rw [h]

theorem val_rd {c : Option CV} (h : val H c = some (v, H')) : H' = H ∧ val H2 c = some (v, H2) := by
  obtain ⟨rfl, rfl⟩ := val_eq h; exact ⟨rfl, rfl⟩

theorem evSlice_rd {t : TypeId} {x : CV} {lo hi : Option CV} (hr : ∀ id k l s, x = .so id k l s → H2.get id = H.get id) (h : evSlice P H t x lo hi = some (v, H')) : H' = H ∧ evSlice P H2 t x lo hi = some (v, H2) := by
  have key : ∃ c, evSlice P H t x lo hi = val H c ∧ evSlice P H2 t x lo hi = val H2 c := by
    have hn : ∃ c, (none : Option (CV × Hp)) = val H c ∧ (none : Option (CV × Hp)) = val H2 c := ⟨none, rfl, rfl⟩
    have hs : ∀ v, ∃ c, some (v, H) = val H c ∧ some (v, H2) = val H2 c := fun v => ⟨some v, rfl, rfl⟩
    have hp : ∀ (y : Option Value), ∃ c, (match y with | some v => some (cv1 v, H) | none => none) = val H c ∧ (match y with | some v => some (cv1 v, H2) | none => none) = val H2 c := fun y => by
      cases y
      · exact hn
      · exact hs _
    cases x with
    | sl id o len cap =>
      simp only [evSlice]
      split
      · split
        · split
          · exact hs _
          · exact hn
        · exact hn
      · exact hn
    | so id k len s =>
      simp only [evSlice, row_congr (hr id k len s rfl)]
      split
      · split
        · rename_i s' _
          cases Nat.beq s s'
          · exact hn
          · simp only [cond_true]
            have hl : ∀ (q : Option Nat), ∃ c, (match q with | some h => (match bnd lo 0 h with | some l => some (CV.so id (k + l) (h - l) s, H) | none => none) | none => none) = val H c ∧ (match q with | some h => (match bnd lo 0 h with | some l => some (CV.so id (k + l) (h - l) s, H2) | none => none) | none => none) = val H2 c := by
              intro q
              cases q with
              | none => exact hn
              | some h =>
                simp only
                cases bnd lo 0 h with
                | none => exact hn
                | some l => exact hs _
            exact hl _
        · exact hn
      · exact hn
    | p id off =>
      simp only [evSlice]
      split
      · split
        · split
          · exact hs _
          · exact hn
        · exact hn
      · exact hn
    | _ =>
      simp only [evSlice]
      split
      · exact hp _
      · exact hp _
      · exact hp _
      · exact hp _
      · exact hn
  obtain ⟨c, h1, h2⟩ := key
  rw [h1] at h; rw [h2]
  exact val_rd h

theorem rd_evOp (hk : (kindO E o).rd = true) (h : evOp P o ty E H wq = some (v, H')) : H' = H ∧ (Rd H H2 (kindO E o) → evOp P o ty E H2 wq2 = some (v, H2)) := by
  cases o with
  | build t ps => exact ⟨(val_rd (H2 := H2) h).1, fun _ => (val_rd h).2⟩
  | indexAddr t x i => exact ⟨(val_rd (H2 := H2) h).1, fun _ => (val_rd h).2⟩
  | index t x i => exact ⟨(val_rd (H2 := H2) h).1, fun _ => (val_rd h).2⟩
  | unOp op t x =>
    simp only [evOp] at h ⊢
    split at h
    · split at h
      · cases h; exact ⟨rfl, fun _ => by simp_all⟩
      · cases h
    · cases h
  | nilCheck x =>
    simp only [evOp] at h ⊢
    split at h
    · cases h; exact ⟨rfl, fun _ => by simp_all⟩
    · cases h
  | makeFunc fn fst cs =>
    simp only [evOp] at h ⊢
    cases he : fst.isEmpty with
    | false => rw [he] at h; cases h
    | true => rw [he] at h; cases h; exact ⟨rfl, fun _ => rfl⟩
  | slice t x lo hi mx =>
    cases mx with
    | some m => cases h
    | none =>
      refine ⟨(evSlice_rd (H2 := H) (fun _ _ _ _ _ => rfl) (show evSlice P H t (evO E x) (lo.map (evO E)) (hi.map (evO E)) = some (v, H') from h)).1, fun hr => ?_⟩
      refine (evSlice_rd (H2 := H2) (fun id k l s hx => ?_) (show evSlice P H t (evO E x) (lo.map (evO E)) (hi.map (evO E)) = some (v, H') from h)).2
      simpa only [kindO, hx, Rd] using hr
  | lookup t x k ok =>
    have h' : val H (evLookup P t (evO E x) (evO E k) ok H) = some (v, H') := h
    obtain ⟨h1, h2⟩ := val_eq h'
    refine ⟨h2, fun hr => ?_⟩
    show val H2 (evLookup P t (evO E x) (evO E k) ok H2) = some (v, H2)
    have : evLookup P t (evO E x) (evO E k) ok H2 = evLookup P t (evO E x) (evO E k) ok H := by
      simp only [kindO] at hr
      unfold evLookup
      split
      · rename_i id _ hx
        rw [hx] at hr
        rw [show H2.get id = H.get id from hr]
      · rfl
    rw [this, h1]; rfl
  | convert s d x =>
    simp only [kindO] at hk
    simp only [evOp] at h ⊢
    split at hk
    · rename_i k z hx
      rw [hx] at h ⊢
      unfold evConvert at h ⊢
      simp only [toV] at h ⊢
      split at h
      · rename_i r hr
        cases h
        exact ⟨rfl, fun _ => by rfl⟩
      · cases h
    · cases hk
  | store t x y => simp only [kindO] at hk; split at hk <;> cases hk
  | call c =>
    obtain ⟨cal, xs, ts⟩ := c
    simp only [kindO] at hk ⊢
    cases cal with
    | builtin b =>
      simp only [evOp] at h ⊢
      have hpure : ∀ {ys : List CV}, (b = .len ∨ b = .min ∨ b = .max) → (∀ id, ys = [.m id] → b ≠ .len) → evB P H b ts ty ys = some (v, H') → H' = H ∧ evB P H2 b ts ty ys = some (v, H2) := by
        intro ys hb hm h
        unfold evB at h ⊢
        split at h
        · rename_i id
          rcases hb with rfl | rfl | rfl
          · exact absurd rfl (hm id rfl)
          · cases h
          · cases h
        · rcases hb with rfl | rfl | rfl <;> cases h
        · rcases hb with rfl | rfl | rfl <;> cases h
        · rename_i e1 e2 e3
          rcases hb with rfl | rfl | rfl <;> exact val_rd h
      cases b with
      | len =>
        simp only at hk ⊢
        split at hk
        · rename_i x hxs
          rw [hxs] at h ⊢
          simp only [List.map_cons, List.map_nil] at h ⊢
          generalize evO E x = cx at h hk ⊢
          by_cases hm : ∃ id, cx = .m id
          · obtain ⟨id, rfl⟩ := hm
            have h' : evLenM P H ts id = some (v, H') := h
            show _ ∧ (H2.get id = H.get id → evLenM P H2 ts id = some (v, H2))
            unfold evLenM at h' ⊢
            split at h'
            · split at h'
              · rename_i t _ kt et es cl hu hg
                cases h'
                exact ⟨rfl, fun hr => by rw [hr, hg]; simp only [hu]⟩
              · cases h'
            · cases h'
          · obtain ⟨k1, k2⟩ := hpure (ys := [cx]) (.inl rfl) (fun id hid => by cases hid; exact absurd ⟨id, rfl⟩ hm) h
            exact ⟨k1, fun _ => k2⟩
        · cases hk
      | min => obtain ⟨k1, k2⟩ := hpure (.inr (.inl rfl)) (fun _ _ => by simp) h; exact ⟨k1, fun _ => k2⟩
      | max => obtain ⟨k1, k2⟩ := hpure (.inr (.inr rfl)) (fun _ _ => by simp) h; exact ⟨k1, fun _ => k2⟩
      | _ => cases hk
    | _ => cases hk
  | _ => cases hk

def I.pl : I → Bool
  | .mv _ | .bin .. | .ix .. | .fa .. | .pk .. | .ex .. => true
  | _ => false

/-- How an operation is made ready. -/
theorem comp_form (P : Program) (o : Op) (ty : TypeId) : comp P o ty = .o o ty ∨ (∃ x, comp P o ty = .ln x o ty ∧ (∀ E, (kindO E o).rd = true) ∧ loudS o = true) ∨ (∃ n x, comp P o ty = .ld n x ∧ loudS o = true) ∨ (comp P o ty).pl = true ∨ (∃ f xs, comp P o ty = .cl f xs ∧ loudS o = true ∧ calmO o = false) ∨ (∃ x s, comp P o ty = .nx x s ∧ loudS o = true ∧ calmO o = false) ∨ comp P o ty = .bad := by
  cases o with
  | move x => exact .inr (.inr (.inr (.inl rfl)))
  | assign x => exact .inr (.inr (.inr (.inl rfl)))
  | binOp op t x y u => exact .inr (.inr (.inr (.inl rfl)))
  | pick c a b => exact .inr (.inr (.inr (.inl rfl)))
  | extract x i => exact .inr (.inr (.inr (.inl rfl)))
  | next x s => exact .inr (.inr (.inr (.inr (.inr (.inl ⟨_, _, rfl, rfl, rfl⟩)))))
  | load t x =>
    simp only [comp]
    split
    · exact .inr (.inr (.inl ⟨_, _, rfl, rfl⟩))
    · exact .inr (.inr (.inr (.inr (.inr (.inr rfl)))))
  | indexAddr t x i =>
    simp only [comp]
    split
    · split
      · exact .inr (.inr (.inr (.inl rfl)))
      · exact .inr (.inr (.inr (.inr (.inr (.inr rfl)))))
    · exact .inl rfl
  | fieldAddr t x k =>
    simp only [comp]
    split
    · split
      · rename_i s hs
        cases Nat.beq s 0
        · exact .inr (.inr (.inr (.inl rfl)))
        · exact .inr (.inr (.inr (.inr (.inr (.inr rfl)))))
      · exact .inr (.inr (.inr (.inr (.inr (.inr rfl)))))
    · exact .inr (.inr (.inr (.inr (.inr (.inr rfl)))))
  | call c =>
    obtain ⟨cal, xs, ts⟩ := c
    simp only [comp]
    split
    · exact .inr (.inr (.inr (.inr (.inl ⟨_, _, rfl, rfl, rfl⟩))))
    · rename_i x hxs
      split
      · rename_i t ht
        cases (elemT P t).isSome with
        | true => exact .inr (.inl ⟨_, rfl, fun E => by simp only [kindO, hxs]; split <;> rfl, rfl⟩)
        | false => exact .inl rfl
      · exact .inl rfl
    · exact .inl rfl
  | _ => exact .inl rfl

theorem pl_kind {i : I} {pair : Bool} (h : i.pl = true) : kindI E i pair = .n := by cases i <;> first | rfl | cases h
theorem pl_exec {i : I} (h : i.pl = true) : ∃ c, ∀ H wq, exec P i E H wq = val H c := by
  cases i with
  | mv x => exact ⟨some (evX E x), fun _ _ => rfl⟩
  | bin g s x y => exact ⟨_, fun _ _ => rfl⟩
  | ix s x y => exact ⟨_, fun _ _ => rfl⟩
  | fa s x => exact ⟨_, fun _ _ => rfl⟩
  | pk s x y => exact ⟨_, fun _ _ => rfl⟩
  | ex s x => exact ⟨_, fun _ _ => rfl⟩
  | _ => cases h

theorem rd_exec {pair : Bool} (hk : (kindI E (comp P o ty) pair).rd = true) (h : exec P (comp P o ty) E H wq = some (v, H')) : H' = H ∧ (Rd H H2 (kindI E (comp P o ty) pair) → exec P (comp P o ty) E H2 wq2 = some (v, H2)) := by
  have h0 : (kindO E o).rd = true → evOp P o ty E H wq = some (v, H') → H' = H ∧ (Rd H H2 (kindO E o) → evOp P o ty E H2 wq2 = some (v, H2)) := rd_evOp
  rcases comp_form P o ty with hc | ⟨x, hc, -⟩ | ⟨n, x, hc, -⟩ | hc | ⟨f, xs, hc, -⟩ | ⟨x, s, hc, -⟩ | hc
  · rw [hc] at hk h ⊢; exact h0 hk h
  · rw [hc] at hk h ⊢
    simp only [kindI, exec] at hk h ⊢
    generalize evX E x = cx at hk h ⊢
    cases cx with
    | sl a b c d => cases h; exact ⟨rfl, fun _ => rfl⟩
    | so a b c d => cases h; exact ⟨rfl, fun _ => rfl⟩
    | _ => exact h0 hk h
  · rw [hc] at hk h ⊢
    simp only [kindI, exec] at hk h ⊢
    generalize evX E x = cx at hk h ⊢
    cases cx with
    | p id o =>
      refine ⟨(val_rd (H2 := H2) h).1, fun hr => ?_⟩
      simp only [exLd, rowR_congr (show H2.get id = H.get id from hr)]
      exact (val_rd h).2
    | _ => cases hk
  · obtain ⟨c, hc⟩ := pl_exec (P := P) (E := E) hc
    rw [hc] at h ⊢
    exact ⟨(val_rd (H2 := H2) h).1, fun _ => (val_rd h).2⟩
  · rw [hc] at h; cases h
  · rw [hc] at h; cases h
  · rw [hc] at h; cases h

/-- What makes a region puts it at its place. -/
theorem put_form (ho : allocS o = true) {r : CV × Hp} (h : exec P (comp P o ty) E H wq = some r) : ∃ x K, ∀ H2 wq2, exec P (comp P o ty) E H2 wq2 = put H2 wq2 x K := by
  cases o with
  | alloc e =>
    simp only [comp, exec, evOp] at h ⊢
    split at h
    · rename_i z hz; exact ⟨.c z, (.p · 0), fun _ _ => by simp only [hz]⟩
    · cases h
  | box e x =>
    simp only [comp, exec, evOp] at h ⊢
    split at h
    · rename_i l hl; exact ⟨.c l, (.p · 0), fun _ _ => by simp only [hl]⟩
    · cases h
  | buildSlice t len ps =>
    simp only [comp, exec, evOp, evBuildSlice] at h ⊢
    split at h
    · split at h
      · rename_i e he s z hs hz
        cases hb : Nat.beq s z.length && Nat.ble (len * s) 65536 with
        | false => rw [hb] at h; cases h
        | true =>
          rw [hb] at h
          simp only [cond_true] at h
          split at h
          · rename_i cs hcs
            exact ⟨.c cs, (.sl · 0 len len), fun _ _ => by simp only [hb, cond_true, hcs]⟩
          · cases h
      · cases h
    · cases h
  | makeSlice t l c =>
    simp only [comp, exec, evOp, evMakeSlice] at h ⊢
    split at h
    · split at h
      · rename_i s z ll cc hs hz hl hc
        cases hb : Nat.beq s z.length && Nat.ble ll cc && Nat.ble cc 65536 && smallT P _ with
        | false => rw [hb] at h; cases h
        | true => exact ⟨.c (rep cc z), (.sl · 0 ll cc), fun _ _ => by simp only [hb, cond_true]⟩
      · cases h
    · cases h
  | makeMap t r =>
    cases r with
    | some r => cases h
    | none => exact ⟨.m [] 0, .m, fun _ _ => rfl⟩
  | _ => cases ho

theorem put_some {rid : Nat} {x : AO} {K : Nat → CV} (h : put H (some rid) x K = some (v, H')) : H.get rid = .res ∧ H.fl ≤ rid ∧ v = K rid ∧ H' = ⟨(setF AO 4 rid).s x H.h, H.n, H.fl⟩ := by
  unfold put at h
  simp only at h
  split at h
  · rename_i hg
    split at h
    · rename_i H3 hw
      obtain ⟨h1, rfl⟩ := Hp.wr_eq hw
      cases h
      exact ⟨hg, h1, rfl, rfl⟩
    · cases h
  · cases h
theorem put_of {rid : Nat} {x : AO} {K : Nat → CV} (hg : H.get rid = .res) (hf : H.fl ≤ rid) : put H (some rid) x K = some (K rid, ⟨(setF AO 4 rid).s x H.h, H.n, H.fl⟩) := by
  have : H.wr rid x = some ⟨(setF AO 4 rid).s x H.h, H.n, H.fl⟩ := by
    unfold Hp.wr
    rw [show Nat.ble H.fl rid = true from by rw [Nat.ble_eq]; exact hf]
    simp only [cond_true, frc_eq]
  simp only [put, hg, this]
theorem put_get {x : AO} {K : Nat → CV} (h : put H none x K = some (v, H')) {j : Nat} (hj : j < H.n) : H'.get j = H.get j := by
  obtain ⟨h1, -, rfl⟩ := Hp.new_eq h
  exact Hp.get_set_ne _ _ _ _ _ _ (by omega) h1 (by omega)

/-- A store changes its region alone. -/
theorem wr_exec {pair : Bool} {id : Nat} (hk : kindI E (comp P o ty) pair = .w id) (h : exec P (comp P o ty) E H wq = some (v, H')) : ∃ x, H' = ⟨(setF AO 4 id).s x H.h, H.n, H.fl⟩ := by
  have h0 : kindO E o = .w id → evOp P o ty E H wq = some (v, H') → ∃ x, H' = ⟨(setF AO 4 id).s x H.h, H.n, H.fl⟩ := by
    intro hk h
    cases o with
    | store t x y =>
      simp only [kindO] at hk
      simp only [evOp] at h
      split at hk
      · rename_i i off hx
        cases hk
        rw [hx] at h
        unfold evStore at h
        simp only at h
        split at h
        · rename_i l s hl hs
          cases hb : Nat.beq (cells (evO E y)).length s && (cells (evO E y)).all oneCell with
          | false => rw [hb] at h; cases h
          | true =>
            rw [hb] at h
            simp only [cond_true] at h
            split at h
            · split at h
              · rename_i l' _ H3 hw
                cases h
                exact ⟨_, (Hp.wr_eq hw).2⟩
              · cases h
            · cases h
        · cases h
      · cases hk
    | slice t x lo hi mx => simp only [kindO] at hk; split at hk <;> cases hk
    | lookup t x k ok => simp only [kindO] at hk; split at hk <;> cases hk
    | convert s d x => simp only [kindO] at hk; split at hk <;> cases hk
    | call c =>
      obtain ⟨cal, xs, ts⟩ := c
      simp only [kindO] at hk
      split at hk
      · split at hk
        · split at hk <;> cases hk
        · cases hk
      · cases hk
      · cases hk
      · cases hk
    | _ => cases hk
  rcases comp_form P o ty with hc | ⟨x, hc, hr, -⟩ | ⟨n, x, hc, -⟩ | hc | ⟨f, xs, hc, -⟩ | ⟨x, s, hc, -⟩ | hc
  · rw [hc] at hk h; exact h0 hk h
  · rw [hc] at hk
    simp only [kindI] at hk
    have := hr E
    split at hk
    · cases hk
    · cases hk
    · rw [hk] at this; cases this
  · rw [hc] at hk
    simp only [kindI] at hk
    split at hk <;> cases hk
  · rw [pl_kind hc] at hk; cases hk
  · rw [hc] at h; cases h
  · rw [hc] at h; cases h
  · rw [hc] at h; cases h

/-- What may make regions: a call, or what is put at a place. -/
theorem x_exec {pair : Bool} (hk : kindI E (comp P o ty) pair = .x) : (∃ f xs, comp P o ty = .cl f xs) ∨ allocS o = true := by
  have h0 : kindO E o = .x → allocS o = true := by
    intro hk
    cases o with
    | slice t x lo hi mx => simp only [kindO] at hk; split at hk <;> cases hk
    | lookup t x k ok => simp only [kindO] at hk; split at hk <;> cases hk
    | store t x k => simp only [kindO] at hk; split at hk <;> cases hk
    | convert s d x => simp only [kindO] at hk; split at hk <;> cases hk
    | call c =>
      obtain ⟨cal, xs, ts⟩ := c
      simp only [kindO] at hk
      split at hk
      · split at hk
        · split at hk <;> cases hk
        · cases hk
      · cases hk
      · cases hk
      · cases hk
    | _ => first | rfl | cases hk
  rcases comp_form P o ty with hc | ⟨x, hc, hr, -⟩ | ⟨n, x, hc, -⟩ | hc | ⟨f, xs, hc, -⟩ | ⟨x, s, hc, -⟩ | hc
  · rw [hc] at hk; exact .inr (h0 hk)
  · rw [hc] at hk
    simp only [kindI] at hk
    have := hr E
    split at hk
    · cases hk
    · cases hk
    · rw [hk] at this; cases this
  · rw [hc] at hk
    simp only [kindI] at hk
    split at hk <;> cases hk
  · rw [pl_kind hc] at hk; cases hk
  · exact .inl ⟨f, xs, hc⟩
  · rw [hc] at hk; cases hk
  · rw [hc] at hk; cases hk

/-- What isn't loud does not look at the heap. -/
theorem quiet_kind {pair : Bool} (ho : loudS o = false) {r : CV × Hp} (h : exec P (comp P o ty) E H wq = some r) : kindI E (comp P o ty) pair = .n := by
  rcases comp_form P o ty with hc | ⟨x, hc, -, hr⟩ | ⟨n, x, hc, hr⟩ | hc | ⟨f, xs, hc, hr, -⟩ | ⟨x, s, hc, hr, -⟩ | hc
  · rw [hc]
    show kindO E o = .n
    cases o with
    | call c =>
      obtain ⟨cal, xs, ts⟩ := c
      simp only [loudS] at ho
      split at ho
      · rfl
      · rfl
      · cases ho
    | move x => cases hc
    | assign x => cases hc
    | binOp op t x y u => cases hc
    | pick c a b => cases hc
    | extract x i => cases hc
    | fieldAddr t x k => rw [hc] at h; cases h
    | _ => first | rfl | cases ho
  · rw [ho] at hr; cases hr
  · rw [ho] at hr; cases hr
  · exact pl_kind hc
  · rw [ho] at hr; cases hr
  · rw [ho] at hr; cases hr
  · rw [hc] at h; cases h

/-- What is calm looks at one region at most. -/
theorem calm_kind {pair : Bool} (ho : calmO o = true) {r : CV × Hp} (h : exec P (comp P o ty) E H wq = some r) : (kindI E (comp P o ty) pair).rd = true := by
  by_cases hq : loudS o = false
  · rw [quiet_kind hq h]; rfl
  rcases comp_form P o ty with hc | ⟨x, hc, hr, -⟩ | ⟨n, x, hc, hr⟩ | hc | ⟨f, xs, hc, -, hr⟩ | ⟨x, s, hc, -, hr⟩ | hc
  · rw [hc] at h ⊢
    simp only [kindI]
    cases o with
    | lookup t x k ok =>
      simp only [exec, evOp] at h
      simp only [kindO]
      generalize evO E x = cx at h ⊢
      cases cx <;> first | rfl | (exfalso; unfold evLookup at h; split at h <;> first | cases h | (rename_i h1; cases h1))
    | slice t x lo hi mx => simp only [kindO]; split <;> rfl
    | call c =>
      obtain ⟨cal, xs, ts⟩ := c
      simp only [calmO] at ho
      split at ho
      · rfl
      · rfl
      · rename_i hb2
        simp only [kindO, hb2]; split <;> rfl
      · cases ho
    | load t x => simp only [comp] at hc; split at hc <;> cases hc
    | _ => first | exact absurd rfl hq | cases ho
  · rw [hc]
    simp only [kindI]
    have := hr E
    split <;> first | rfl | exact this
  · rw [hc] at h ⊢
    simp only [kindI]
    simp only [exec] at h
    generalize evX E x = cx at h ⊢
    cases cx <;> first | rfl | cases h
  · rw [pl_kind hc]; rfl
  · rw [ho] at hr; cases hr
  · rw [ho] at hr; cases hr
  · rw [hc] at h; cases h
end
end Go.Proofs.YtindppnanjcoaaaGreatDoor.Ev
end
section
namespace Go.Proofs.YtindppnanjcoaaaGreatDoor.Ev
open Go
open Ab (OpRuns)

theorem opRuns_mono {P : Program} {o : Oper} {r : Operand → Value} {w : World} {K K' : Value → World → Prop} (h : OpRuns P o r w K) (hk : ∀ v w', K v w' → K' v w') : OpRuns P o r w K' := by
  unfold OpRuns at *
  generalize (execOp r o).run P w = res at *
  cases res with
  | ok n w' => cases n <;> first | exact hk _ _ h | exact h.elim | (intro cs; obtain ⟨e, w'', fr, ⟨v, h1, h2⟩, h3⟩ := h cs; exact ⟨e, w'', fr, ⟨v, h1, hk _ _ h2⟩, h3⟩)
  | halt x w' => exact h.elim
theorem opRuns_ex {P : Program} {o : Oper} {r : Operand → Value} {w : World} {K : Value → World → Prop} (h : OpRuns P o r w K) : ∃ v w', K v w' := by
  unfold OpRuns at *
  generalize (execOp r o).run P w = res at *
  cases res with
  | ok n w' => cases n <;> first | exact ⟨_, _, h⟩ | exact h.elim | (obtain ⟨e, w'', fr, ⟨v, h1, h2⟩, h3⟩ := h []; exact ⟨v, w'', h2⟩)
  | halt x w' => exact h.elim

section
variable {C : Cx} {rn : Rn} {rid : Nat} {j ja jb : JD} {E : Env} {H H' H1 H2 : Hp} {v va vb : CV} {k ka kb : Kind}

theorem hide_same (r : Nat) (H : Hp) : (⟨(setF AO 4 r).s (H.get r) ((setF AO 4 r).s .free H.h), H.n, H.fl⟩ : Hp) = H := by
  rw [set_set, Hp.get_eq, set_get]

theorem stpH_rd {o : Op} {ty : TypeId} (hj : j.j.i = comp C.P o ty) (h : stpH C rn rid j (kindI E j.j.i j.pair) E H = some (v, H')) (hk : (kindI E j.j.i j.pair).rd = true) :
    H' = H ∧ (Rd H H2 (kindI E j.j.i j.pair) → stpH C rn rid j (kindI E j.j.i j.pair) E H2 = some (v, H2)) := by
  unfold stpH at h ⊢
  split at h
  · rename_i f xs hf
    rw [hf] at hk
    simp only [kindI] at hk
    cases hp : j.pair <;> rw [hp] at hk <;> cases hk
  · rename_i hne
    rw [hj] at h hk
    obtain ⟨h1, h2⟩ := rd_exec (H2 := H2) (wq2 := bif j.rv then some rid else none) hk h
    refine ⟨h1, fun hr => ?_⟩
    rw [hj] at hr ⊢
    exact h2 hr

theorem stpW_rd {o : Op} {ty : TypeId} (hj : j.j.i = comp C.P o ty) (h : stpW C rn rid j (kindI E j.j.i j.pair) E H = some (v, H')) (hk : (kindI E j.j.i j.pair).rd = true) :
    H' = H ∧ ((kindI E j.j.i j.pair = .n ∨ H2 = H ∨ (j.hid = false ∧ Rd H H2 (kindI E j.j.i j.pair))) → stpW C rn rid j (kindI E j.j.i j.pair) E H2 = some (v, H2)) := by
  unfold stpW at h ⊢
  cases hh : j.hid with
  | false =>
    rw [hh] at h
    simp only [cond_false] at h ⊢
    obtain ⟨h1, h2⟩ := stpH_rd (H2 := H2) hj h hk
    refine ⟨h1, ?_⟩
    rintro (hr | hr | ⟨-, hr⟩)
    · exact h2 (by rw [hr]; trivial)
    · exact h2 (by rw [hr]; exact Rd.refl hk)
    · exact h2 hr
  | true =>
    rw [hh] at h
    simp only [cond_true] at h ⊢
    split at h
    · rename_i v' H3 h3
      obtain ⟨h1, h2⟩ := stpH_rd (H2 := ⟨(setF AO 4 rid).s .free H2.h, H2.n, H2.fl⟩) hj h3 hk
      subst h1
      cases h
      refine ⟨hide_same _ _, fun hr => ?_⟩
      rw [h2 ?_]
      · simp only [hide_same]
      · rcases hr with hr | hr | ⟨hr, -⟩
        · rw [hr]; trivial
        · rw [hr]; exact Rd.refl hk
        · cases hr
    · cases h

theorem stpV_rd {o : Op} {ty : TypeId} (hj : j.j.i = comp C.P o ty) (h : stpV C rn rid j E H = some (k, v, H')) (hk : k.rd = true) :
    H' = H ∧ ((k = .n ∨ H2 = H ∨ (j.hid = false ∧ Rd H H2 k)) → stpV C rn rid j E H2 = some (k, v, H2)) := by
  unfold stpV at h ⊢
  cases hw : want E j.j.g with
  | true =>
    rw [hw] at h
    simp only [cond_true] at h ⊢
    split at h
    · rename_i v' H3 h3
      cases h
      obtain ⟨h1, h2⟩ := stpW_rd (H2 := H2) hj h3 hk
      exact ⟨h1, fun hr => by rw [h2 hr]⟩
    · cases h
  | false =>
    rw [hw] at h
    simp only [cond_false] at h ⊢
    cases hy : yes E j.j.g with
    | false => rw [hy] at h; cases h
    | true => rw [hy] at h; cases h; exact ⟨rfl, fun _ => rfl⟩

/-- What is not told by its kind alone is carried out. -/
theorem stpV_want (h : stpV C rn rid j E H = some (k, v, H')) (hk : k.rd = false) : want E j.j.g = true ∧ k = kindI E j.j.i j.pair ∧ stpW C rn rid j k E H = some (v, H') := by
  unfold stpV at h
  cases hw : want E j.j.g with
  | true =>
    rw [hw] at h
    simp only [cond_true] at h
    split at h
    · rename_i v' H3 h3; cases h; exact ⟨rfl, rfl, h3⟩
    · cases h
  | false =>
    rw [hw] at h
    simp only [cond_false] at h
    cases hy : yes E j.j.g with
    | false => rw [hy] at h; cases h
    | true => rw [hy] at h; cases h; cases hk
theorem stpV_of (hw : want E j.j.g = true) (hk : k = kindI E j.j.i j.pair) (h : stpW C rn rid j k E H = some (v, H')) : stpV C rn rid j E H = some (k, v, H') := by
  subst hk
  simp only [stpV, hw, cond_true, h]

theorem stpV_w {o : Op} {ty : TypeId} (hj : j.j.i = comp C.P o ty) (hh : j.hid = false) {id : Nat} (h : stpV C rn rid j E H = some (.w id, v, H')) : ∃ x, H' = ⟨(setF AO 4 id).s x H.h, H.n, H.fl⟩ := by
  obtain ⟨-, h1, h2⟩ := stpV_want h rfl
  simp only [stpW, hh, cond_false] at h2
  unfold stpH at h2
  split at h2
  · rename_i f xs hf
    rw [hf] at h1
    simp only [kindI] at h1
    cases hp : j.pair <;> rw [hp] at h1 <;> cases h1
  · rw [hj] at h1 h2
    exact wr_exec h1.symm h2

/-- An operation whose place is kept. -/
theorem stpV_rv {o : Op} {ty : TypeId} (hj : j.j.i = comp C.P o ty) (ho : allocS o = true) (hv : j.rv = true) (hh : j.hid = false) (h : stpV C rn rid j E H = some (k, v, H')) (hk : k.rd = false) :
    ∃ x, H.get rid = .res ∧ H.fl ≤ rid ∧ H' = ⟨(setF AO 4 rid).s x H.h, H.n, H.fl⟩ ∧ ∀ H2 : Hp, H2.get rid = .res → H2.fl ≤ rid → stpV C rn rid j E H2 = some (k, v, ⟨(setF AO 4 rid).s x H2.h, H2.n, H2.fl⟩) := by
  obtain ⟨h0, h1, h2⟩ := stpV_want h hk
  have hcl : ∀ f xs, comp C.P o ty ≠ .cl f xs := fun f xs hc => by
    cases o <;> first | (cases ho; done) | (cases hc; done)
  have hs : ∀ H2, stpW C rn rid j k E H2 = exec C.P (comp C.P o ty) E H2 (some rid) := fun H2 => by
    unfold stpW
    rw [hh]
    simp only [cond_false]
    unfold stpH
    split
    · rename_i f xs hf; rw [hj] at hf; exact absurd hf (hcl f xs)
    · rw [hj, hv]; rfl
  rw [hs] at h2
  obtain ⟨x, K, hx⟩ := put_form ho h2
  rw [hx] at h2
  obtain ⟨h3, h4, h5, h6⟩ := put_some h2
  exact ⟨x, h3, h4, h6, fun H2 h7 h8 => stpV_of h0 h1 (by rw [hs, hx, put_of h7 h8, h5])⟩

theorem alloc_kind {o : Op} {ty : TypeId} (hj : j.j.i = comp C.P o ty) (ho : allocS o = true) (h : stpV C rn rid j E H = some (k, v, H')) : k = .n ∨ k.rd = false := by
  by_cases hk : k.rd = true
  · left
    unfold stpV at h
    cases hw : want E j.j.g with
    | true =>
      rw [hw] at h
      simp only [cond_true] at h
      split at h
      · cases h
        exfalso
        rw [hj] at hk
        cases o <;> first | (cases ho; done) | (cases hk; done)
      · cases h
    | false =>
      rw [hw] at h
      simp only [cond_false] at h
      cases hy : yes E j.j.g with
      | false => rw [hy] at h; cases h
      | true => rw [hy] at h; cases h; rfl
  · right; simpa using hk

/-- An operation that the kept place is hidden from. -/
theorem stpV_hid (hh : j.hid = true) (h : stpV C rn rid j E H = some (k, v, H')) : k = .n ∨ ∃ Hh : Hp, H' = ⟨(setF AO 4 rid).s (H.get rid) Hh.h, Hh.n, Hh.fl⟩ ∧
    ∀ H2 : Hp, (setF AO 4 rid).s .free H2.h = (setF AO 4 rid).s .free H.h → H2.n = H.n → H2.fl = H.fl → stpV C rn rid j E H2 = some (k, v, ⟨(setF AO 4 rid).s (H2.get rid) Hh.h, Hh.n, Hh.fl⟩) := by
  unfold stpV at h
  cases hw : want E j.j.g with
  | true =>
    rw [hw] at h
    simp only [cond_true] at h
    split at h
    · rename_i v' H3 h3
      cases h
      right
      simp only [stpW, hh, cond_true] at h3
      split at h3
      · rename_i v2 Hh h4
        cases h3
        refine ⟨Hh, rfl, fun H2 e1 e2 e3 => stpV_of hw rfl ?_⟩
        simp only [stpW, hh, cond_true, e1, e2, e3, h4]
      · cases h3
    · cases h
  | false =>
    rw [hw] at h
    simp only [cond_false] at h
    cases hy : yes E j.j.g with
    | false => rw [hy] at h; cases h
    | true => rw [hy] at h; cases h; exact .inl rfl

/-- Two operations that may change places. -/
inductive PairOK (C : Cx) (n0 : Nat) (ja jb : JD) (ka kb : Kind) : Prop
  | na (h : ka = .n)
  | nb (h : kb = .n)
  | rd (ha : ka.rd = true) (hb : kb.rd = true)
  | cm (ha : ja.hid = false) (ha2 : ja.rv = false) (hb : jb.hid = false) (hb2 : jb.rv = false) (h : compat n0 ka kb = true)
  | ra (ha : ja.rv = true) (hh : ja.hid = false) (o : Op) (ty : TypeId) (hj : ja.j.i = comp C.P o ty) (ho : allocS o = true) (hb : jb.hid = true)
  | rb (ha : jb.rv = true) (hh : jb.hid = false) (o : Op) (ty : TypeId) (hj : jb.j.i = comp C.P o ty) (ho : allocS o = true) (hb : ja.hid = true)

theorem set_ne {i b n f n' f' : Nat} {x : AO} {h : Tr AO 4} (hb : Nat.beq i b = false) (h1 : i < 4096) (h2 : b < 4096) : (⟨(setF AO 4 b).s x h, n, f⟩ : Hp).get i = (⟨h, n', f'⟩ : Hp).get i :=
  Hp.get_set_ne _ _ _ _ _ _ h1 h2 (fun hc => by rw [hc, Nat.beq_refl] at hb; cases hb)

theorem compat_cases {n0 : Nat} (h : compat n0 ka kb = true) : ka = .n ∨ kb = .n ∨ (ka.rd = true ∧ kb.rd = true) ∨
    (∃ a b, ka = .r a ∧ kb = .w b ∧ Nat.beq a b = false ∧ a < 4096 ∧ b < 4096) ∨ (∃ a, ka = .r a ∧ kb = .x ∧ a < n0) ∨
    (∃ a b, ka = .w a ∧ kb = .r b ∧ Nat.beq b a = false ∧ a < 4096 ∧ b < 4096) ∨ (∃ b, ka = .x ∧ kb = .r b ∧ b < n0) := by
  cases ka with
  | n => exact .inl rfl
  | r a =>
    cases kb with
    | n => exact .inr (.inl rfl)
    | r b => exact .inr (.inr (.inl ⟨rfl, rfl⟩))
    | w b =>
      simp only [compat, Bool.and_eq_true, Bool.not_eq_true', Nat.blt_eq] at h
      exact .inr (.inr (.inr (.inl ⟨a, b, rfl, rfl, h.1.1, h.1.2, h.2⟩)))
    | x =>
      simp only [compat, Nat.blt_eq] at h
      exact .inr (.inr (.inr (.inr (.inl ⟨a, rfl, rfl, h⟩))))
    | b => cases h
  | w a =>
    cases kb with
    | n => exact .inr (.inl rfl)
    | r b =>
      simp only [compat, Bool.and_eq_true, Bool.not_eq_true', Nat.blt_eq] at h
      refine .inr (.inr (.inr (.inr (.inr (.inl ⟨a, b, rfl, rfl, ?_, h.1.2, h.2⟩)))))
      rw [nbeq] at h ⊢
      have := h.1.1
      simp only [decide_eq_false_iff_not] at this ⊢
      exact fun hc => this hc.symm
    | w b => cases h
    | x => cases h
    | b => cases h
  | x =>
    cases kb with
    | n => exact .inr (.inl rfl)
    | r b =>
      simp only [compat, Nat.blt_eq] at h
      exact .inr (.inr (.inr (.inr (.inr (.inr ⟨b, rfl, rfl, h⟩)))))
    | w b => cases h
    | x => cases h
    | b => cases h
  | b =>
    cases kb with
    | n => exact .inr (.inl rfl)
    | r b => cases h
    | w b => cases h
    | x => cases h
    | b => cases h

theorem swapH {n0 : Nat} {oa ob : Op} {ta tb : TypeId} (ha : ja.j.i = comp C.P oa ta) (hb : jb.j.i = comp C.P ob tb) (hp : PairOK C n0 ja jb ka kb)
    (h1 : stpV C rn rid ja E H = some (ka, va, H1)) (h2 : stpV C rn rid jb E H1 = some (kb, vb, H2)) (hfa : H1.fl = H.fl) (hfb : H2.fl = H1.fl)
    (hxa : ja.hid = false → ja.rv = false → ka = .x → ∀ i, i < n0 → H1.get i = H.get i) (hxb : jb.hid = false → jb.rv = false → kb = .x → ∀ i, i < n0 → H2.get i = H1.get i) :
    ∃ H3, stpV C rn rid jb E H = some (kb, vb, H3) ∧ stpV C rn rid ja E H3 = some (ka, va, H2) := by
  -- the first one leaves the heap as it is
  have first : ka.rd = true → (ka = .n ∨ H2 = H1 ∨ (ja.hid = false ∧ Rd H1 H2 ka)) → ∃ H3, stpV C rn rid jb E H = some (kb, vb, H3) ∧ stpV C rn rid ja E H3 = some (ka, va, H2) := by
    intro hk hr
    obtain ⟨e1, e2⟩ := stpV_rd (H2 := H2) ha h1 hk
    subst e1
    exact ⟨H2, h2, e2 hr⟩
  have second : kb.rd = true → (kb = .n ∨ H = H1 ∨ (jb.hid = false ∧ Rd H1 H kb)) → ∃ H3, stpV C rn rid jb E H = some (kb, vb, H3) ∧ stpV C rn rid ja E H3 = some (ka, va, H2) := by
    intro hk hr
    obtain ⟨e1, e2⟩ := stpV_rd (H2 := H) hb h2 hk
    subst e1
    exact ⟨H, e2 hr, h1⟩
  have hnb : kb.rd = true → H2 = H1 := fun hk => (stpV_rd (H2 := H2) hb h2 hk).1
  have hbd : ka.rd = true → kb.rd = true → ∃ H3, stpV C rn rid jb E H = some (kb, vb, H3) ∧ stpV C rn rid ja E H3 = some (ka, va, H2) := fun h3 h4 => first h3 (.inr (.inl (hnb h4)))
  cases hp with
  | na h => exact first (by rw [h]; rfl) (.inl h)
  | nb h => exact second (by rw [h]; rfl) (.inl h)
  | rd h3 h4 => exact hbd h3 h4
  | cm k1 k3 k2 k4 h =>
    rcases compat_cases h with h | h | ⟨h3, h4⟩ | ⟨a, b, rfl, rfl, h3, h4, h5⟩ | ⟨a, rfl, rfl, h3⟩ | ⟨a, b, rfl, rfl, h3, h4, h5⟩ | ⟨b, rfl, rfl, h3⟩
    · exact first (by rw [h]; rfl) (.inl h)
    · exact second (by rw [h]; rfl) (.inl h)
    · exact hbd h3 h4
    · refine first rfl (.inr (.inr ⟨k1, ?_⟩))
      obtain ⟨x, rfl⟩ := stpV_w hb k2 h2
      exact set_ne h3 h4 h5
    · exact first rfl (.inr (.inr ⟨k1, hxb k2 k4 rfl a h3⟩))
    · refine second rfl (.inr (.inr ⟨k2, ?_⟩))
      obtain ⟨x, rfl⟩ := stpV_w ha k1 h1
      exact (set_ne h3 h5 h4).symm
    · exact second rfl (.inr (.inr ⟨k2, (hxa k1 k3 rfl b h3).symm⟩))
  | ra k1 k2 o ty k3 k4 k5 =>
    rcases alloc_kind k3 k4 h1 with hk | hk
    · exact first (by rw [hk]; rfl) (.inl hk)
    · obtain ⟨x, e1, e2, rfl, e4⟩ := stpV_rv k3 k4 k1 k2 h1 hk
      rcases stpV_hid k5 h2 with hk2 | ⟨Hh, rfl, e5⟩
      · exact second (by rw [hk2]; rfl) (.inl hk2)
      · refine ⟨_, e5 H (by simp only [set_set]) rfl rfl, ?_⟩
        rw [e4 _ (by rw [Hp.get_set_same]; exact e1) (by simp only at hfb ⊢; omega)]
        simp only [set_set, Hp.get_set_same]
  | rb k1 k2 o ty k3 k4 k5 =>
    rcases alloc_kind k3 k4 h2 with hk | hk
    · exact second (by rw [hk]; rfl) (.inl hk)
    · obtain ⟨x, e1, e2, rfl, e4⟩ := stpV_rv k3 k4 k1 k2 h2 hk
      rcases stpV_hid k5 h1 with hk2 | ⟨Hh, rfl, e5⟩
      · exact first (by rw [hk2]; rfl) (.inl hk2)
      · rw [Hp.get_set_same] at e1
        refine ⟨_, e4 H e1 (by simp only at hfa e2; omega), ?_⟩
        rw [e5 ⟨(setF AO 4 rid).s x H.h, H.n, H.fl⟩ (by simp only [set_set]) rfl rfl]
        simp only [set_set, Hp.get_set_same]
end
end Go.Proofs.YtindppnanjcoaaaGreatDoor.Ev
end
section
namespace Go.Proofs.YtindppnanjcoaaaGreatDoor.Ev
open Go
open Ab (OpRuns)

section
variable {C : Cx} {rn : Rn} {rid n i : Nat} {ops : Array Oper} {o : Oper} {E E' : Env} {H H' : Hp} {v : CV} {k : Kind}

/-- An operation of a region, made ready. -/
noncomputable def jdOf (C : Cx) (n : Nat) (ops : Array Oper) (i : Nat) (o : Oper) : JD :=
  ⟨compJ C.P n ops o, inP (loudP ops) i, hidS ops (rvOf ops) i, (match rvOf ops with | some r => Nat.beq r i | none => false)⟩

theorem jd_ok (h : stpV C rn rid (jdOf C n ops i o) E H = some (k, v, H')) : dstOk n o.dst = true ∧ (jdOf C n ops i o).j.i = comp C.P o.op o.type ∧ (jdOf C n ops i o).j.d = o.dst.map (setF CV 3) ∧
    match o.guard with
    | none => (jdOf C n ops i o).j.g = none
    | some (j, wt) => ∃ t, (ops[j]?).bind (·.dst) = some t ∧ t < 512 ∧ (jdOf C n ops i o).j.g = some (getF CV 3 t, wt) := by
  have hbad : ∀ {j : JD}, j.j = ⟨none, .bad, none⟩ → stpV C rn rid j E H ≠ some (k, v, H') := by
    rintro ⟨j, pair, hid, rv⟩ hj hs
    simp only at hj
    subst hj
    have hH : ∀ (kk : Kind) (K : Hp), stpH C rn rid ⟨⟨none, .bad, none⟩, pair, hid, rv⟩ kk E K = none := fun _ _ => rfl
    have : stpW C rn rid ⟨⟨none, .bad, none⟩, pair, hid, rv⟩ (kindI E .bad pair) E H = none := by
      unfold stpW
      cases hid <;> simp only [cond_true, cond_false, hH]
    simp only [stpV, want, cond_true, this] at hs
    cases hs
  have hc : dstOk n o.dst = true := by
    cases hd : dstOk n o.dst with
    | true => rfl
    | false => exact absurd h (hbad (by simp only [jdOf, compJ, hd, cond_false]))
  refine ⟨hc, ?_⟩
  unfold jdOf compJ at h ⊢
  simp only [hc, cond_true] at h ⊢
  cases hg : o.guard with
  | none => simp
  | some p =>
    obtain ⟨j, wt⟩ := p
    simp only [hg] at h ⊢
    split at h
    · rename_i t ht
      simp only [ht]
      cases hlt : Nat.blt t 512 with
      | false => rw [hlt] at h; exact absurd h (hbad rfl)
      | true =>
        simp only [cond_true, true_and, Option.some.injEq]
        exact ⟨t, rfl, by simpa [Nat.blt_eq] using hlt, rfl⟩
    · exact absurd h (hbad rfl)

/-- One operation against the model. -/
theorem stpH_ok (hrn : RnOK C.P rn) {j : JD} {o : Op} {ty : TypeId} (hj : j.j.i = comp C.P o ty) (h : stpH C rn rid j k E H = some (v, H')) (hr : j.rv = true → rid < H.n) : OK1 C.P o ty (evO E) H v H' := by
  unfold stpH at h
  split at h
  · rename_i f xs hf
    rw [hj] at hf
    obtain ⟨g, ys, ts, rfl, rfl, rfl⟩ := comp_cl hf
    split at h
    · split at h
      · rename_i v' H3 h3
        cases h
        intro σ w r pos after guard dst hw hx
        refine opRuns_mono (callV_ok hrn h3 σ w r pos after guard dst (hw.floor hw.fl (Nat.le_refl _)) hx) ?_
        rintro rv w' ⟨σ', k1, k2, k3⟩
        obtain ⟨e1, e2⟩ := hw.lower k1 k2
        exact ⟨σ', e1, e2, k3⟩
      · cases h
    · exact callV_ok hrn h
  · rw [hj] at h
    exact exec_ok h (fun id hid => by
      cases hv : j.rv with
      | true => rw [hv] at hid; cases hid; exact hr hv
      | false => rw [hv] at hid; cases hid)

theorem stpW_ok (hrn : RnOK C.P rn) {j : JD} {o : Op} {ty : TypeId} (hj : j.j.i = comp C.P o ty) (h : stpW C rn rid j k E H = some (v, H')) (hr : j.rv = true ∨ j.hid = true → rid < H.n ∧ H.fl ≤ rid) : OK1 C.P o ty (evO E) H v H' := by
  unfold stpW at h
  cases hh : j.hid with
  | false => rw [hh] at h; exact stpH_ok hrn hj h (fun hv => (hr (.inl hv)).1)
  | true =>
    rw [hh] at h
    simp only [cond_true] at h
    obtain ⟨r1, r2⟩ := hr (.inr hh)
    split at h
    · rename_i v' H3 h3
      cases h
      intro σ w r pos after guard dst hw hx
      refine opRuns_mono (stpH_ok hrn hj h3 (fun _ => r1) σ w r pos after guard dst (hw.hide r1) hx) ?_
      rintro rv w' ⟨σ', k1, k2, k3⟩
      obtain ⟨e1, e2⟩ := hw.unhide r1 r2 k1 k2
      exact ⟨σ', e1, e2, k3⟩
    · cases h

theorem guard_ok {σ : Sg} {a : Act} {w : World} (hs : Sim n σ E H a w) {j t : Nat} {wt : Bool} (hg : o.guard = some (j, wt)) (ht : (ops[j]?).bind (·.dst) = some t) (hlt : t < 512) (hy : want E (some (getF CV 3 t, wt)) = true ∨ yes E (some (getF CV 3 t, wt)) = true) :
    Region.wanted o (yielded ops a.tmps) = want E (some (getF CV 3 t, wt)) := by
  have hr := hs.2.2.2 t hlt
  have hyb : ∀ b, a.tmps.getD t undef = .bool b → yielded ops a.tmps j = some b := by
    intro b hb
    have hts : t < a.tmps.size := by
      rcases Nat.lt_or_ge t a.tmps.size with h | h
      · exact h
      · simp [Array.getD, Nat.not_lt.2 h, undef] at hb
    have : a.tmps[t]? = some (.bool b) := by
      simp [Array.getD, hts] at hb; simp [hts, hb]
    simp [yielded, ht, this]
  have hy2 : ∀ x, a.tmps.getD t undef = .tuple x → yielded ops a.tmps j = none := by
    intro x hx
    simp only [yielded, ht, Option.bind_some]
    rcases Nat.lt_or_ge t a.tmps.size with h | h
    · have : a.tmps[t]? = some (.tuple x) := by
        simp [Array.getD, h] at hx; simp [h, hx]
      simp [this]
    · simp [h]
  simp only [want, yes] at hy ⊢
  generalize (getF CV 3 t).g E = cg at hr hy ⊢
  cases cg with
  | b q =>
    have hyq := hyb q hr
    simp only [Region.wanted, hg, hyq]
    cases wt <;> cases q <;> rfl
  | v x =>
    cases x with
    | tuple xs => simp [Region.wanted, hg, hy2 xs hr]
    | _ => rcases hy with hy | hy <;> cases hy
  | _ => rcases hy with hy | hy <;> cases hy

/-- One operation of a region whose order is drawn. -/
theorem stpV_ok (hrn : RnOK C.P rn) (h : stpV C rn rid (jdOf C n ops i o) E H = some (k, v, H')) (hr : (jdOf C n ops i o).rv = true ∨ (jdOf C n ops i o).hid = true → rid < H.n ∧ H.fl ≤ rid) {σ : Sg} {a : Act} {w : World} (hs : Sim n σ E H a w) :
    (Region.wanted o (yielded ops a.tmps) = true → OpRuns C.P o a.eval w fun rv w' => ∃ σ', Sim n σ' (putE E (jdOf C n ops i o).j.d v) H' (a.put o.dst rv) w' ∧ Evo σ H w σ' H' w') ∧
    (Region.wanted o (yielded ops a.tmps) = false → Sim n σ (putE E (jdOf C n ops i o).j.d v) H' (a.put o.dst undef) w ∧ H' = H) := by
  obtain ⟨hd, hc, he, hg⟩ := jd_ok h
  have hdst : ∀ d, o.dst = some d → d < n ∧ n ≤ 512 := by
    intro d hod
    rw [hod] at hd
    simp only [dstOk, Bool.and_eq_true, Nat.blt_eq, Nat.ble_eq] at hd
    exact hd
  rw [he]
  have hwant : Region.wanted o (yielded ops a.tmps) = want E (jdOf C n ops i o).j.g := by
    cases hgd : o.guard with
    | none => rw [hgd] at hg; simp only at hg; rw [hg]; simp [Region.wanted, hgd, want]
    | some p =>
      obtain ⟨j, wt⟩ := p
      rw [hgd] at hg
      obtain ⟨t, h1, h2, h3⟩ := hg
      rw [h3]
      refine guard_ok hs hgd h1 h2 ?_
      rw [← h3]
      unfold stpV at h
      cases hw : want E (jdOf C n ops i o).j.g with
      | true => exact .inl rfl
      | false =>
        rw [hw] at h
        simp only [cond_false] at h
        cases hy : yes E (jdOf C n ops i o).j.g with
        | true => exact .inr rfl
        | false => rw [hy] at h; cases h
  unfold stpV at h
  rw [hwant]
  cases hw : want E (jdOf C n ops i o).j.g with
  | true =>
    rw [hw] at h
    simp only [cond_true] at h
    refine ⟨fun _ => ?_, fun hf => by cases hf⟩
    split at h
    · rename_i v' H3 h3
      cases h
      obtain ⟨dst, op, ty, pos, after, guard⟩ := o
      refine opRuns_mono (stpW_ok hrn hc h3 hr σ w a.eval pos after guard dst hs.2.2.1 (fun x _ => evO_rv hs.2.2.2 x)) ?_
      rintro rv w' ⟨σ', k1, k2, k3⟩
      exact ⟨σ', hs.put hdst k1 k2 k3, k2⟩
    · cases h
  | false =>
    rw [hw] at h
    simp only [cond_false] at h
    refine ⟨fun hf => (by cases hf), fun _ => ?_⟩
    cases hy : yes E (jdOf C n ops i o).j.g with
    | false => rw [hy] at h; cases h
    | true =>
      rw [hy] at h; cases h
      exact ⟨hs.put hdst hs.2.2.1 (.refl _ _ _) rfl, rfl⟩

theorem stpV_con (hrn : RnOK C.P rn) (h : stpV C rn rid (jdOf C n ops i o) E H = some (k, v, H')) (hr : (jdOf C n ops i o).rv = true ∨ (jdOf C n ops i o).hid = true → rid < H.n ∧ H.fl ≤ rid) {σ : Sg} {a : Act} {w : World} (hs : Sim n σ E H a w) :
    ∃ σ' a' w', Sim n σ' (putE E (jdOf C n ops i o).j.d v) H' a' w' ∧ Evo σ H w σ' H' w' := by
  obtain ⟨h1, h2⟩ := stpV_ok hrn h hr hs
  cases hw : Region.wanted o (yielded ops a.tmps) with
  | true =>
    obtain ⟨rv, w', σ', k1, k2⟩ := opRuns_ex (h1 hw)
    exact ⟨σ', _, w', k1, k2⟩
  | false =>
    obtain ⟨k1, rfl⟩ := h2 hw
    exact ⟨σ, _, w, k1, .refl _ _ _⟩

/-- What makes regions changes none that stands. -/
theorem stpV_x (hrn : RnOK C.P rn) (h : stpV C rn rid (jdOf C n ops i o) E H = some (.x, v, H')) (hh : (jdOf C n ops i o).hid = false) (hv : (jdOf C n ops i o).rv = false) {σ : Sg} {a : Act} {w : World} (hs : Sim n σ E H a w) {id : Nat} (hi : id < H.n) : H'.get id = H.get id := by
  obtain ⟨hd, hc, he, hg⟩ := jd_ok h
  obtain ⟨-, h1, h2⟩ := stpV_want h rfl
  simp only [stpW, hh, cond_false] at h2
  have hw := hs.2.2.1
  rcases x_exec (E := E) (pair := (jdOf C n ops i o).pair) (by rw [← hc]; exact h1.symm) with ⟨f, xs, hcl⟩ | hal
  · simp only [stpH, hc, hcl] at h2
    split at h2
    · rename_i v' H3 h3
      cases h2
      obtain ⟨g, ys, ts, ho, rfl, rfl⟩ := comp_cl hcl
      obtain ⟨rv, w', σ', k1, k2, k3⟩ := opRuns_ex (callV_ok (ty := o.type) (ts := ts) hrn h3 σ w a.eval "" #[] none none (hw.floor hw.fl (Nat.le_refl _)) (fun x _ => evO_rv hs.2.2.2 x))
      exact k2.low id hi
    · cases h2
  · have hcl : ∀ f xs, comp C.P o.op o.type ≠ .cl f xs := fun f xs hcc => by
      obtain ⟨dst, op, ty, pos, after, guard⟩ := o
      cases op <;> first | (cases hal; done) | (cases hcc; done)
    unfold stpH at h2
    split at h2
    · rename_i f xs hf; rw [hc] at hf; exact absurd hf (hcl f xs)
    · rw [hc, hv] at h2
      obtain ⟨x, K, hx⟩ := put_form hal h2
      rw [hx] at h2
      exact put_get h2 hi

/- What stands in other slots. -/
def AgS (ops : Array Oper) (o : Oper) (E E' : Env) : Prop := ∀ t, t ∈ slots ops o → t < 512 → (getF CV 3 t).g E = (getF CV 3 t).g E'

theorem ag_op (h : AgS ops o E E') : ∀ x, x ∈ o.op.operands → evO E x = evO E' x := by
  intro x hx
  cases x with
  | tmp t =>
    unfold evO
    simp only [compX]
    cases hlt : Nat.blt t 512 with
    | false => simp only [cond_false]; rfl
    | true =>
      simp only [cond_true, evX_t]
      exact h t (List.mem_append_left _ (List.mem_filterMap.2 ⟨.tmp t, by simpa using hx, rfl⟩)) (by simpa [Nat.blt_eq] using hlt)
  | _ => rfl

theorem stpV_congr' {j : JD} (hw : want E j.j.g = want E' j.j.g) (hy : yes E j.j.g = yes E' j.j.g) (hk : kindI E j.j.i j.pair = kindI E' j.j.i j.pair) (hx : ∀ H wq, exec C.P j.j.i E H wq = exec C.P j.j.i E' H wq) (hv : ∀ f xs H, j.j.i = .cl f xs → callV rn E f xs H = callV rn E' f xs H) :
    stpV C rn rid j E H = stpV C rn rid j E' H := by
  have hH : ∀ kk K, stpH C rn rid j kk E K = stpH C rn rid j kk E' K := by
    intro kk K
    unfold stpH
    split
    · rename_i f xs hf; simp only [hv f xs _ hf]
    · exact hx _ _
  simp only [stpV, stpW, hw, hy, hk, hH]

theorem stpV_congr (h : AgS ops o E E') (hs : stpV C rn rid (jdOf C n ops i o) E H = some (k, v, H')) : stpV C rn rid (jdOf C n ops i o) E' H = some (k, v, H') := by
  obtain ⟨hd, hc, he, hg⟩ := jd_ok hs
  rw [← hs]
  have hx := ag_op h
  have hgd : want E' (jdOf C n ops i o).j.g = want E (jdOf C n ops i o).j.g ∧ yes E' (jdOf C n ops i o).j.g = yes E (jdOf C n ops i o).j.g := by
    cases hgd : o.guard with
    | none => rw [hgd] at hg; simp only at hg; rw [hg]; exact ⟨rfl, rfl⟩
    | some p =>
      obtain ⟨j, wt⟩ := p
      rw [hgd] at hg
      obtain ⟨t, h1, h2, h3⟩ := hg
      have : (getF CV 3 t).g E = (getF CV 3 t).g E' := h t (List.mem_append_right _ (by rw [hgd]; simp [h1])) h2
      rw [h3]
      simp only [want, yes, this, and_self]
  refine stpV_congr' hgd.1 hgd.2 ?_ (fun H wq => ?_) (fun f xs H hf => ?_)
  · rw [hc]; exact (kindI_congr hx).symm
  · rw [hc]; exact (exec_congr hx).symm
  · rw [hc] at hf
    obtain ⟨g, ys, ts, ho, rfl, rfl⟩ := comp_cl hf
    rw [ho] at hx
    exact (callV_congr hx).symm
end
end Go.Proofs.YtindppnanjcoaaaGreatDoor.Ev
end
