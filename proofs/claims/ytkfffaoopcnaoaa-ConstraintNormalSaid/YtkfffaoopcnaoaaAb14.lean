/- Ways that meet and loops, the entries of the heap numbered anew where they meet. Conditions: none. -/
import Derived.Test.YtkfffaoopcnaoaaAb13
namespace Go.Proofs.Ytkfffaoopcnaoaa.Ab
open Go

/-- Entry i of the new heap is entry S[i] of the old one: what an old value is under the new numbers, perhaps known less of. -/
inductive LeR (S : List Nat) : V → V → Prop
  | any {v : V} : LeR S v .any
  | d {v : V} {x : D} : v.asD = some x → LeR S v (.d x)
  | ptr {i id off : Nat} : S[i]? = some id → LeR S (.ptr id off) (.ptr i off)
  | mp {i id : Nat} : S[i]? = some id → LeR S (.mp id) (.mp i)
  | tk {i id : Nat} {l : List D} : S[i]? = some id → LeR S (.tk id l) (.tk i l)
  | hs {i id off len len' s : Nat} : S[i]? = some id → len = len' → LeR S (.hs id off len s) (.hs i off len' s)
  | ex {l : List D} : LeR S (.ex l) (.ex l)
  | nilEx : LeR S .nil (.ex [])
  | nil : LeR S .nil .nil
  | vp {c : List D} {off : Nat} : LeR S (.vp c off) (.vp c off)
  | fn0 {f : Go.Fn} : LeR S (.fn f []) (.fn f [])
  | fn1 {f : Go.Fn} {v u : V} : LeR S v u → LeR S (.fn f [v]) (.fn f [u])
  | fn2 {f : Go.Fn} {v u v' u' : V} : LeR S v u → LeR S v' u' → LeR S (.fn f [v, v']) (.fn f [u, u'])
  | fn3 {f : Go.Fn} {v u v' u' v2 u2 : V} : LeR S v u → LeR S v' u' → LeR S v2 u2 → LeR S (.fn f [v, v', v2]) (.fn f [u, u', u2])

def G.ren (g : G) (S : List Nat) : G := { g with σ := fun i => (S[i]?).bind g.σ, τ := fun i => (S[i]?).bind g.τ, υ := fun i b => ∃ j, S[i]? = some j ∧ g.υ j b }

theorem Rep.fnOf {g g' : G} {w : World} {f : Go.Fn} {l m : List V} {r : Value} (hl : l.length = m.length) (h : ∀ (i : Nat) v u, l[i]? = some v → m[i]? = some u → ∀ r, Rep g w v r → Rep g' w u r) (hr : Rep g w (.fn f l) r) : Rep g' w (.fn f m) r := by
  cases hr with
  | fn hs hc =>
    refine .fn (by omega) (fun i u r hu hr => ?_)
    have hi : i < l.length := by rw [hl]; exact (List.getElem?_eq_some_iff.1 hu).1
    exact h i _ u (List.getElem?_eq_getElem hi) hu r (hc i _ r (List.getElem?_eq_getElem hi) hr)

theorem LeR.rep {g : G} {w : World} {S : List Nat} {v u : V} (h : LeR S v u) : ∀ {r : Value}, Rep g w v r → Rep (g.ren S) w u r := by
  induction h with
  | any => intro r _; exact .any
  | d hx => intro r hr; exact .d (hr.asD hx)
  | ptr hi =>
    intro r hr
    cases hr with
    | ptr hb => exact .ptr (by simp [G.ren, hi, hb])
  | mp hi =>
    intro r hr
    cases hr with
    | mp hb => exact .mp (by simp [G.ren, hi, hb])
  | tk hi =>
    intro r hr
    cases hr with
    | tk hd ht hle heq => exact .tk hd (by simp [G.ren, hi]; exact ht) hle heq
  | hs hi hl =>
    intro r hr
    subst hl
    cases hr with
    | hs hb hc => exact .hs (by simp [G.ren, hi]; exact hb) hc
  | ex =>
    intro r hr
    cases hr with
    | ex hd => exact .ex hd
  | nilEx =>
    intro r hr
    have := hr.nilEx
    cases this with
    | ex hd => exact .ex hd
  | nil =>
    intro r hr
    cases hr
    exact .nil
  | vp =>
    intro r hr
    cases hr with
    | vp h1 h2 => exact .vp h1 h2
  | fn0 => intro r hr; exact Rep.fnOf (g' := g.ren S) rfl (fun i v u hv => by simp at hv) hr
  | fn1 _ h1 =>
    intro r hr
    refine Rep.fnOf (g' := g.ren S) ?_ (fun i v u hv hu r hr => ?_) hr; rfl
    match i, hv, hu with
    | 0, hv, hu => simp at hv hu; subst hv; subst hu; exact h1 hr
  | fn2 _ _ h1 h2 =>
    intro r hr
    refine Rep.fnOf (g' := g.ren S) ?_ (fun i v u hv hu r hr => ?_) hr; rfl
    match i, hv, hu with
    | 0, hv, hu => simp at hv hu; subst hv; subst hu; exact h1 hr
    | 1, hv, hu => simp at hv hu; subst hv; subst hu; exact h2 hr
  | fn3 _ _ _ h1 h2 h3 =>
    intro r hr
    refine Rep.fnOf (g' := g.ren S) ?_ (fun i v u hv hu r hr => ?_) hr; rfl
    match i, hv, hu with
    | 0, hv, hu => simp at hv hu; subst hv; subst hu; exact h1 hr
    | 1, hv, hu => simp at hv hu; subst hv; subst hu; exact h2 hr
    | 2, hv, hu => simp at hv hu; subst hv; subst hu; exact h3 hr

inductive LeRC (S : List Nat) : List V → List V → Prop
  | nil : LeRC S [] []
  | cons {v u : V} {c d : List V} : LeR S v u → LeRC S c d → LeRC S (v :: c) (u :: d)
  | data {l : List D} : LeRC S (l.map .d) (l.map .d)
theorem LeRC.get {S : List Nat} {c d : List V} (h : LeRC S c d) : c.length = d.length ∧ ∀ (i : Nat) u, d[i]? = some u → ∃ v, c[i]? = some v ∧ LeR S v u := by
  induction h with
  | nil => simp
  | cons hv _ ih =>
    refine ⟨by simp [ih.1], fun i u hu => ?_⟩
    cases i with
    | zero => simp only [List.getElem?_cons_zero, Option.some.injEq] at hu; subst hu; exact ⟨_, rfl, hv⟩
    | succ i => exact ih.2 i u (by simpa using hu)
  | data =>
    refine ⟨rfl, fun i u hu => ⟨u, hu, ?_⟩⟩
    simp only [List.getElem?_map, Option.map_eq_some_iff] at hu
    obtain ⟨x, _, rfl⟩ := hu
    exact .d rfl
/-- What is known of an object, the entries numbered anew. -/
def ObR (S : List Nat) (x y : OB) : Prop := ∀ {g : G} {w : World} {i j b : Nat}, S[i]? = some j → x.φ g w j b → y.φ (g.ren S) w i b
inductive LeRH (S : List Nat) (H : List HE) : List Nat → List HE → Prop
  | nil : LeRH S H [] []
  | dead {i : Nat} {T : List Nat} {K : List HE} : LeRH S H T K → LeRH S H (i :: T) (.dead :: K)
  | row {i : Nat} {T : List Nat} {K : List HE} {c d : List V} : H[i]? = some (.row c) → LeRC S c d → LeRH S H T K → LeRH S H (i :: T) (.row d :: K)
  | tok {i n s : Nat} {e : TypeId} {T : List Nat} {K : List HE} : H[i]? = some (.tok n e s) → LeRH S H T K → LeRH S H (i :: T) (.tok n e s :: K)
  | lst {i s : Nat} {l : List D} {e : TypeId} {T : List Nat} {K : List HE} : H[i]? = some (.lst l e s) → LeRH S H T K → LeRH S H (i :: T) (.lst l e s :: K)
  | ob {i : Nat} {x y : OB} {T : List Nat} {K : List HE} : H[i]? = some (.ob x) → ObR S x y → LeRH S H T K → LeRH S H (i :: T) (.ob y :: K)
theorem LeRH.get {S : List Nat} {H K : List HE} {T : List Nat} (h : LeRH S H T K) : T.length = K.length ∧ ∀ (i : Nat) e, K[i]? = some e → ∃ j, T[i]? = some j ∧
    (e = .dead ∨ (∃ c d, H[j]? = some (.row c) ∧ e = .row d ∧ LeRC S c d) ∨ (∃ n t s, H[j]? = some (.tok n t s) ∧ e = .tok n t s) ∨ (∃ l t s, H[j]? = some (.lst l t s) ∧ e = .lst l t s) ∨ (∃ x y, H[j]? = some (.ob x) ∧ e = .ob y ∧ ObR S x y)) := by
  induction h with
  | nil => simp
  | @dead j _ _ _ ih =>
    refine ⟨by simp [ih.1], fun i u hu => ?_⟩
    cases i with
    | zero => simp only [List.getElem?_cons_zero, Option.some.injEq] at hu; subst hu; exact ⟨j, rfl, .inl rfl⟩
    | succ i => exact ih.2 i u (by simpa using hu)
  | @row j _ _ c d h1 h2 _ ih =>
    refine ⟨by simp [ih.1], fun i u hu => ?_⟩
    cases i with
    | zero => simp only [List.getElem?_cons_zero, Option.some.injEq] at hu; subst hu; exact ⟨j, rfl, .inr (.inl ⟨c, d, h1, rfl, h2⟩)⟩
    | succ i => exact ih.2 i u (by simpa using hu)
  | @tok j n s e _ _ h1 _ ih =>
    refine ⟨by simp [ih.1], fun i u hu => ?_⟩
    cases i with
    | zero => simp only [List.getElem?_cons_zero, Option.some.injEq] at hu; subst hu; exact ⟨j, rfl, .inr (.inr (.inl ⟨n, e, s, h1, rfl⟩))⟩
    | succ i => exact ih.2 i u (by simpa using hu)
  | @lst j s l e _ _ h1 _ ih =>
    refine ⟨by simp [ih.1], fun i u hu => ?_⟩
    cases i with
    | zero => simp only [List.getElem?_cons_zero, Option.some.injEq] at hu; subst hu; exact ⟨j, rfl, .inr (.inr (.inr (.inl ⟨l, e, s, h1, rfl⟩)))⟩
    | succ i => exact ih.2 i u (by simpa using hu)
  | @ob j x y _ _ h1 h2 _ ih =>
    refine ⟨by simp [ih.1], fun i u hu => ?_⟩
    cases i with
    | zero => simp only [List.getElem?_cons_zero, Option.some.injEq] at hu; subst hu; exact ⟨j, rfl, .inr (.inr (.inr (.inr ⟨x, y, h1, rfl, h2⟩)))⟩
    | succ i => exact ih.2 i u (by simpa using hu)

theorem WOK.ren {g : G} {w : World} {S : List Nat} {H K : List HE} (hw : WOK g w H) (h : LeRH S H S K) (hd : distinct S = true) : WOK (g.ren S) w K := by
  obtain ⟨hl, hg⟩ := h.get
  have hblk : ∀ (i : Nat) e b, K[i]? = some e → (g.ren S).blk i e b → ∃ j e0, S[i]? = some j ∧ H[j]? = some e0 ∧ g.blk j e0 b := by
    intro i e b he hb
    obtain ⟨j, hj, h1⟩ := hg i e he
    rcases h1 with rfl | ⟨c, d, h1, rfl, _⟩ | ⟨n, t, s, h1, rfl⟩ | ⟨n, t, s, h1, rfl⟩ | ⟨x, y, h1, rfl, _⟩
    · simp [G.blk] at hb
    · exact ⟨j, _, hj, h1, by simpa [G.blk, G.ren, hj] using hb⟩
    · exact ⟨j, _, hj, h1, by simpa [G.blk, G.ren, hj] using hb⟩
    · exact ⟨j, _, hj, h1, by simpa [G.blk, G.ren, hj] using hb⟩
    · exact ⟨j, _, hj, h1, by simpa [G.blk, G.ren, hj] using hb⟩
  refine ⟨hw.pr, hw.xs, ?_, ?_, ?_, ?_, ?_, ?_, ?_, hw.kc⟩
  · intro i e b he hb
    obtain ⟨j, e0, _, h0, h1⟩ := hblk i e b he hb
    exact hw.blk j e0 b h0 h1
  · intro i i' e e' b he he' hb hb'
    obtain ⟨j, e0, h00, h0, h1⟩ := hblk i e b he hb
    obtain ⟨j', e1, h22, h2, h3⟩ := hblk i' e' b he' hb'
    have := hw.sep j j' e0 e1 b h0 h2 h1 h3
    subst this
    exact distinct_inj hd h00 h22
  · intro i d hd
    obtain ⟨j, hj, h1⟩ := hg i _ hd
    rcases h1 with h1 | ⟨c, d', h1, h2, h3⟩ | ⟨n, t, s, _, h2⟩ | ⟨n, t, s, _, h2⟩ | ⟨_, _, _, h2, _⟩
    rotate_left 4
    · cases h2
    · cases h1
    · injection h2 with h2; subst h2
      obtain ⟨b, arr, et, e1, e2, e3, e4, e5⟩ := hw.row j c h1
      obtain ⟨k1, k2⟩ := h3.get
      refine ⟨b, arr, et, by simp [G.ren, hj, e1], e2, by omega, fun k x v hx hv => ?_, e5⟩
      obtain ⟨y, hy, hle⟩ := k2 k x hx
      exact hle.rep (e4 k y v hy hv)
    · cases h2
    · cases h2
  · intro i n e s hd
    obtain ⟨j, hj, h1⟩ := hg i _ hd
    rcases h1 with h1 | ⟨c, d', _, h2, _⟩ | ⟨n', t, s', h1, h2⟩ | ⟨n', t, s', h1, h2⟩ | ⟨_, _, _, h2, _⟩
    rotate_left 4
    · cases h2
    · cases h1
    · cases h2
    · injection h2 with h2 h3 h4; subst h2; subst h3; subst h4
      obtain ⟨a, cap, k1, k2, k3, k4⟩ := hw.tok j n e s h1
      exact ⟨a, cap, by simp [G.ren, hj, k1], k2, k3, k4⟩
    · cases h2
  · intro i l e s hd
    obtain ⟨j, hj, h1⟩ := hg i _ hd
    rcases h1 with h1 | ⟨c, d', _, h2, _⟩ | ⟨n', t, s', h1, h2⟩ | ⟨n', t, s', h1, h2⟩ | ⟨_, _, _, h2, _⟩
    rotate_left 4
    · cases h2
    · cases h1
    · cases h2
    · cases h2
    · injection h2 with h2 h3 h4; subst h2; subst h3; subst h4
      obtain ⟨a, cap, k1, k2, k3, k4⟩ := hw.lst j l e s h1
      refine ⟨a, cap, by simp [G.ren, hj, k1], k2, k3, fun hlt => ?_⟩
      obtain ⟨b, arr, q1, q0, q2⟩ := k4 hlt
      exact ⟨b, arr, q1, by simp [G.ren, hj, q0], q2⟩
  · intro i x hd
    obtain ⟨j, hj, h1⟩ := hg i _ hd
    rcases h1 with h1 | ⟨c, d', _, h2, _⟩ | ⟨n', t, s', h1, h2⟩ | ⟨n', t, s', h1, h2⟩ | ⟨y, z, h1, h2, h3⟩
    · cases h1
    · cases h2
    · cases h2
    · cases h2
    · injection h2 with h2; subst h2
      obtain ⟨b, q1, q2, q3, q4⟩ := hw.ob j y h1
      exact ⟨b, by simp [G.ren, hj, q1], h3 hj q2, q3, fun b' o hu hp => by
        obtain ⟨j', k1, k2⟩ := hu
        rw [hj] at k1; injection k1 with k1; subst k1
        exact q4 b' o k2 hp⟩
  · intro i hi
    have : S[i]? = none := by
      rcases hi with hi | hi
      · obtain ⟨j, hj, h1⟩ := hg i _ hi
        rcases h1 with h1 | ⟨c, d', _, h2, _⟩ | ⟨n', t, s', h1, h2⟩ | ⟨n', t, s', h1, h2⟩ | ⟨_, _, _, h2, _⟩
        · cases h1
        · cases h2
        · cases h2
        · cases h2
        · cases h2
      · exact List.getElem?_eq_none (by omega)
    exact ⟨by simp [G.ren, this], by simp [G.ren, this], fun b hu => by obtain ⟨j, k1, _⟩ := hu; rw [this] at k1; cases k1⟩

/-- The first n numbers stay. -/
def idPre : Nat → List Nat → Bool
  | 0, _ => true
  | n + 1, S => (match S[n]? with | some j => Nat.beq j n | none => false) && idPre n S
theorem idPre_get : ∀ {n : Nat} {S : List Nat}, idPre n S = true → ∀ {i : Nat}, i < n → S[i]? = some i
  | n + 1, S, h, i, hi => by
    simp only [idPre, Bool.and_eq_true] at h
    by_cases hin : i = n
    · subst hin
      cases hs : S[i]? with
      | none => rw [hs] at h; simp at h
      | some j => rw [hs] at h; rw [Nat.eq_of_beq_eq_true h.1]
    · exact idPre_get h.2 (by omega)
def okV1 (S : List Nat) : V → Bool
  | .ptr id _ | .tk id _ | .hs id _ _ _ | .mp id => match S[id]? with | some j => Nat.beq j id | none => false
  | .d _ | .ex _ | .nil | .vp _ _ | .any => true
  | _ => false
def okV (S : List Nat) : V → Bool
  | .fn _ [] => true
  | .fn _ [v] => okV1 S v
  | .fn _ [v, u] => okV1 S v && okV1 S u
  | .fn _ [v, u, x] => okV1 S v && (okV1 S u && okV1 S x)
  | v => okV1 S v
theorem okId {S : List Nat} {id : Nat} (h : (match S[id]? with | some j => Nat.beq j id | none => false) = true) : S[id]? = some id := by
  cases hs : S[id]? with
  | none => rw [hs] at h; simp at h
  | some j => rw [hs] at h; rw [Nat.eq_of_beq_eq_true h]
theorem okV1_le {S : List Nat} {v : V} (h : okV1 S v = true) : LeR S v v := by
  cases v <;> simp only [okV1, Bool.false_eq_true] at h
  case ptr => exact .ptr (okId h)
  case mp => exact .mp (okId h)
  case tk => exact .tk (okId h)
  case hs => exact .hs (okId h) rfl
  case d => exact .d rfl
  case ex => exact .ex
  case nil => exact .nil
  case vp => exact .vp
  case any => exact .any
theorem okV_le {S : List Nat} {v : V} (h : okV S v = true) : LeR S v v := by
  unfold okV at h
  split at h
  · exact .fn0
  · exact .fn1 (okV1_le h)
  · simp only [Bool.and_eq_true] at h
    exact .fn2 (okV1_le h.1) (okV1_le h.2)
  · simp only [Bool.and_eq_true] at h
    exact .fn3 (okV1_le h.1) (okV1_le h.2.1) (okV1_le h.2.2)
  · exact okV1_le h
def okK (S : List Nat) (E : Nat → V) : List Nat → Bool
  | [] => true
  | i :: r => okV S (E i) && okK S E r
theorem okK_mem {S : List Nat} {E : Nat → V} {i : Nat} : ∀ {k : List Nat}, okK S E k = true → inB k i = true → LeR S (E i) (E i)
  | [], _, h => by simp [inB] at h
  | a :: k, hk, h => by
    simp only [okK, Bool.and_eq_true] at hk
    by_cases ha : i = a
    · subst ha; exact okV_le hk.1
    · have : Nat.beq i a = false := by rw [← Bool.not_eq_true, Nat.beq_eq]; exact ha
      simp only [inB, this] at h
      exact okK_mem hk.2 h
def LeRL (S : List Nat) (E : Nat → V) : List (Nat × V) → Prop
  | [] => True
  | (i, u) :: r => LeR S (E i) u ∧ LeRL S E r
theorem LeRL.look {S : List Nat} {g : G} {w : World} {E : Nat → V} {i : Nat} {e : V} {r : Value} (hr : Rep g w (E i) r) (he : Rep (g.ren S) w e r) : ∀ {m : List (Nat × V)}, LeRL S E m → Rep (g.ren S) w (lookV m i e) r
  | [], _ => he
  | (j, u) :: m, h => by
    simp only [lookV]
    by_cases hj : i = j
    · subst hj
      simp only [Nat.beq_refl, cond_true]
      exact h.1.rep hr
    · have : Nat.beq i j = false := by rw [← Bool.not_eq_true, Nat.beq_eq]; exact hj
      simp only [this, cond_false]
      exact LeRL.look hr he h.2

/-- A state meets a head: which slots are kept, what others are, and what the heap is. -/
def Meets (n0 : Nat) (E : Nat → V) (keep : List Nat) (m : List (Nat × V)) (K : List HE) (s : St) : Prop :=
  ∃ S : List Nat, idPre n0 S = true ∧ distinct S = true ∧ okK S E keep = true ∧ LeRL S s.env m ∧ KeepL E s.env keep ∧ LeRH S s.H S K

theorem meets_sim {F : FC} {n0 : Nat} {E : Nat → V} {keep : List Nat} {m : List (Nat × V)} {K : List HE} {s : St} {a : Act} {w : World} (hg : ∀ id, n0 ≤ id → F.g0.σ id = none ∧ F.g0.τ id = none)
    (h : Sim F s a w) (hm : Meets n0 E keep m K s) : Sim F ⟨Ab.head keep E m, K⟩ a w := by
  obtain ⟨h1, h2, g, h3, h4, h5⟩ := h
  obtain ⟨S, k1, k2, k3, k4, k5, k6⟩ := hm
  refine ⟨h1, h2, g.ren S, h3.ren k6 k2, ?_, fun i => ?_⟩
  · refine ⟨h4.same, h4.size, h4.pr, h4.prn, h4.x, h4.keep, fun id b hb => ?_, fun id m a cap ht => ?_⟩
    · have hlt : id < n0 := by
        rcases Nat.lt_or_ge id n0 with h | h
        · exact h
        · rw [(hg id h).1] at hb; cases hb
      simp [G.ren, idPre_get k1 hlt, h4.σ id b hb]
    · have hlt : id < n0 := by
        rcases Nat.lt_or_ge id n0 with h | h
        · exact h
        · rw [(hg id h).2] at ht; cases ht
      simpa [G.ren, idPre_get k1 hlt] using h4.τ id m a cap ht
  · refine LeRL.look (h5 i) ?_ k4
    cases hi : inB keep i with
    | true =>
      simp only [cond_true]
      have := h5 i
      rw [k5.mem hi] at this
      exact (okK_mem k3 hi).rep this
    | false => exact .any

/-- Ways that meet. -/
theorem AW.cutM {F : FC} {Q : Exit → St → Prop} {α : Type} {x y : Code} {E : Nat → V} {H : List HE} (n0 : Nat) (I : α → Prop) (keep : List Nat) (m : α → List (Nat × V)) (K : α → List HE)
    (hg : ∀ id, n0 ≤ id → F.g0.σ id = none ∧ F.g0.τ id = none)
    (h1 : AW F x (thenQ (fun s => ∃ z, I z ∧ Meets n0 E keep (m z) (K z) s) Q) ⟨E, H⟩) (h2 : ∀ z, I z → AW F y Q ⟨head keep E (m z), K z⟩) : AW F (.seq x y) Q ⟨E, H⟩ :=
  AW.seq (h1.mono fun e s hq => by
    cases e with
    | normal =>
      obtain ⟨z, k1, k2⟩ := hq
      exact fun a w hs => h2 z k1 a w (meets_sim hg hs k2)
    | _ => exact hq)

/-- A loop, as the plain language has it. -/
theorem AW.loopM {F : FC} {Q : Exit → St → Prop} {σ τ : Type} {c : Code} {E : Nat → V} {H : List HE} (n0 : Nat) (keep : List Nat) (m : σ → List (Nat × V)) (K : σ → List HE) {f : σ → Option (σ ⊕ τ)} {n : Nat} {s0 : σ} {t : τ}
    (hit : iter n f s0 = some t) (hg : ∀ id, n0 ≤ id → F.g0.σ id = none ∧ F.g0.τ id = none) (h0 : Meets n0 E keep (m s0) (K s0) ⟨E, H⟩)
    (round : ∀ n' s, iter (n' + 1) f s = some t → AW F c (thenQ (fun st => ∃ s', iter n' f s' = some t ∧ Meets n0 E keep (m s') (K s') st) Q) ⟨head keep E (m s), K s⟩) : AW F (.loop c) Q ⟨E, H⟩ :=
  AW.loop (α := Nat × σ) (fun x => iter x.1 f x.2 = some t) (fun x => ⟨head keep E (m x.2), K x.2⟩) (fun x => x.1) (n, s0) hit (fun _ _ hs => meets_sim hg hs h0)
    (fun x hx => by
      obtain ⟨n, s⟩ := x
      cases n with
      | zero => exact (iter0 hx).elim
      | succ n =>
        refine (round n s hx).mono fun e st hq => ?_
        cases e with
        | normal =>
          obtain ⟨s', h1, h2⟩ := hq
          exact ⟨(n, s'), h1, Nat.lt_succ_self _, fun a w hs => meets_sim hg hs h2⟩
        | _ => exact hq)
/-- The same where the heap stays as it is. -/
theorem AW.loopN {F : FC} {Q : Exit → St → Prop} {σ τ : Type} {c : Code} {E : Nat → V} {H : List HE} (keep : List Nat) (m : σ → List (Nat × V)) {f : σ → Option (σ ⊕ τ)} {n : Nat} {s0 : σ} {t : τ}
    (hit : iter n f s0 = some t) (h0 : LeL E (m s0))
    (round : ∀ n' s, iter (n' + 1) f s = some t → AW F c (thenQ (fun st => ∃ s', iter n' f s' = some t ∧ LeL st.env (m s') ∧ KeepL E st.env keep ∧ st.H = H) Q) ⟨head keep E (m s), H⟩) : AW F (.loop c) Q ⟨E, H⟩ :=
  AW.loopE (α := Nat × σ) (fun x => iter x.1 f x.2 = some t) keep (fun x => m x.2) (fun x => x.1) (n, s0) hit h0
    (fun x hx => by
      obtain ⟨n, s⟩ := x
      cases n with
      | zero => exact (iter0 hx).elim
      | succ n =>
        refine (round n s hx).mono fun e st hq => ?_
        cases e with
        | normal =>
          obtain ⟨s', h1, h2, h3, h4⟩ := hq
          exact ⟨(n, s'), h1, Nat.lt_succ_self _, h2, h3, h4⟩
        | _ => exact hq)
end Go.Proofs.Ytkfffaoopcnaoaa.Ab
