/- What awake() comes to. Conditions: none. -/
import Derived.Test.YtindppnanjcoaaaGreatDoorE27
import Derived.Test.YtindppnanjcoaaaGreatDoorE28
import Derived.Test.YtindppnanjcoaaaGreatDoorE29
import Derived.Test.YtindppnanjcoaaaGreatDoorE31
import Derived.Test.YtindppnanjcoaaaGreatDoorSh
import Derived.KernelRfl
namespace Go.Proofs.YtindppnanjcoaaaGreatDoor.Ev
open Go
set_option maxRecDepth 100000

theorem names_ok : (Tryz.prog.funcs.all fun fn => !(fn.name == "runtime.NumGoroutine")) = true := by decide +kernel

theorem memN2 {a b f : Nat} (h : memN [a, b] f = true) : f = a ∨ f = b := by
  simp only [memN, List.any_cons, List.any_nil, Bool.or_false, Bool.or_eq_true, Nat.beq_eq] at h
  exact h.imp Eq.symm Eq.symm

theorem cok (C : Cx) (hP : C.P = Tryz.prog) (hv : C.ov = [191, 193]) : COK C := by
  obtain ⟨P, oc, qf, ov, ks, kt⟩ := C
  simp only at hP hv
  subst hP
  subst hv
  refine ⟨fun f fn hf => ?_, fun f hf => ?_, rfl⟩
  · obtain ⟨hl, rfl⟩ := Array.getElem?_eq_some_iff.1 hf
    have := (Array.all_eq_true.1 names_ok) f hl
    simpa using this
  · rcases memN2 hf with rfl | rfl
    · exact ⟨114, 4, 166, _, run_callFunc_extern Tryz.func191 (by kernel_rfl) (by kernel_rfl) (by kernel_rfl) (by kernel_rfl), rfl, rfl⟩
    · exact ⟨33, 4, 3, _, run_callFunc_extern Tryz.func193 (by kernel_rfl) (by kernel_rfl) (by kernel_rfl) (by kernel_rfl), rfl, rfl⟩

theorem tab_ent : ∀ e, e ∈ tab → ent e = true := by
  have h : tab.all ent = true := by
    have : tab = tab.take 3 ++ tab.drop 3 := rfl
    rw [this, List.all_append, ent_0, ent_1]; rfl
  exact List.all_eq_true.1 h

theorem tabOK0 : TabOK Tryz.prog tab := by
  intro e he
  have h := tab_ent e he
  unfold ent at h
  simp only [Bool.and_eq_true] at h
  obtain ⟨⟨h1, -⟩, h2⟩ := h
  refine ⟨h1, fun σ w vals hw hr => ?_⟩
  split at h2
  · rename_i v H' hv
    have hC : COK C0 := cok C0 rfl rfl
    have hT : TabOK C0.P C0.kt := fun e he => by cases he
    have := callW_ok hC (run_ok hC (call_ok hC hT 60)) hv hw hr
    obtain rfl := same_eq h2
    exact RunF.mono this fun rv w' ⟨σ', a, b, c⟩ => ⟨σ', H', a, b, c⟩
  · cases h2

/-- The lines are joined as the library's contract says. -/
theorem join_ok {σ : Sg} {w : World} {vals : Array Value} (hw : WOK σ ⟨(stdK [jrow]).h, (stdK [jrow]).n, (stdK [jrow]).n⟩ w) (hr : RVs σ jent.2.1 vals.toList) :
    RunF Tryz.prog 14 vals w fun rv w' => ∃ σ' H', WOK σ' H' w' ∧ Evo σ ⟨(stdK [jrow]).h, (stdK [jrow]).n, (stdK [jrow]).n⟩ w σ' H' w' ∧ RV σ' jval rv := by
  obtain ⟨y1, r1, e1, ⟨b, p, c, cap, q, hs, rfl, -, hlen, -, -, hq⟩, y2, r2, e2, h2, e3⟩ := hr
  have hvals : vals = #[.slice (some ⟨b, q, none⟩) 2 cap, .string ⟨#[44, 32]⟩] := by
    apply Array.toList_inj.1
    rw [e1, e2, e3, show y2 = _ from h2]
  subst hvals
  have hq' : q = p := by have := hq (by omega); omega
  subst hq'
  have hent : Ent σ w 0 (.k jrow) := by
    have := hw.ent 0 (by rw [(stdK_n _).1]; decide)
    rwa [show Hp.get ⟨(stdK [jrow]).h, (stdK [jrow]).n, (stdK [jrow]).n⟩ 0 = AO.k jrow from stdK_get [jrow] 0 jrow (by decide) rfl] at this
  obtain ⟨b', p', c', arr, et, fr, f1, f2, f3, f4, f5⟩ := hent
  rw [hs] at f1; cases f1
  obtain ⟨z1, t1, g1, rfl, z2, t2, rfl, rfl, rfl⟩ := f5
  have g0 := congrArg (·[0]?) g1
  have g2 := congrArg (·[1]?) g1
  simp [jrow] at g0 g2
  have hb : b < w.heap.size := (Array.getElem?_eq_some_iff.1 f2).1
  have key := Tryz.strings_Join b q cap [⟨#[116, 105, 116, 108, 101, 32, 97, 103, 114, 101, 101, 115, 32, 50, 48, 47, 49]⟩, ⟨#[97, 117, 116, 104, 111, 114, 32, 97, 103, 114, 101, 101, 115, 32, 49, 50, 47, 49]⟩] ⟨#[44, 32]⟩ w (fun j x hj => by
    match j, hj with
    | 0, hj => cases hj; simp [World.cell?, f2, g0]
    | 1, hj => cases hj; simp [World.cell?, f2, g2]
    | j + 2, hj => simp at hj) hb (by decide) hlen (by decide +kernel)
  unfold RunF
  rw [run_enter (P := Tryz.prog) (cok C0 rfl rfl).nm Tryz.func14 rfl]
  refine Calls.mono key ?_
  rintro e w' ⟨rfl, hw'⟩
  refine ⟨_, rfl, σ, _, ⟨hw.nn, hw.le, hw.fl, fun id hi => (hw.ent id hi).mono (fun _ _ h => h) (fun hr => by have := hw.ent id hi; rw [hr] at this; exact this) (fun z hz hl => ?_), hw.sep⟩,
    ⟨⟨hw'.os, hw'.tape, hw'.output⟩, hw'.size, fun _ _ h => h, fun _ _ h => ⟨rfl, h⟩, fun _ _ => rfl, Nat.le_refl _, rfl, fun _ _ => rfl, fun b hb _ => hw'.block b hb, fun id x h1 h2 h3 h4 _ => ⟨id, x, h1, h2, h3, h4, rfl⟩, fun id x h1 h2 h3 h4 _ => ⟨id, x, h1, h2, h3, h4, rfl⟩⟩, ?_⟩
  · obtain ⟨y, a1, a2⟩ := (hw.ent id hi).blk hl
    rw [hz] at a1; cases a1
    exact hw'.block _ a2
  · show (_ : Value) = _
    kernel_rfl
theorem tabOK : TabOK Tryz.prog (jent :: tab) := by
  intro e he
  rcases List.mem_cons.1 he with rfl | he
  · exact ⟨rfl, fun σ w vals hw hr => join_ok hw hr⟩
  · exact tabOK0 e he

theorem awake_fn : Ab.Fn Tryz.prog 4 [] (.bool true) := by
  intro g w vals hw hs ha
  have hC : COK C1 := cok C1 rfl rfl
  have h0 : WOK (fun _ => none) noHp w := ⟨fun _ _ => rfl, by simp [noHp], Nat.le_refl _, fun id hi => by simp [noHp] at hi, fun id _ _ _ h1 => by simp [noHp] at h1⟩
  have hv0 : vals = #[] := Array.eq_empty_of_size_eq_zero (by simpa using hs)
  subst hv0
  have h := awake_read
  split at h
  · rename_i H' hcall
    have hr := call_ok hC tabOK 60 4 [] noHp (.b true) H' hcall (fun _ => none) w #[] h0 rfl
    unfold RunF at hr
    rw [run_enter (P := C1.P) hC.nm Tryz.func4 rfl] at hr
    refine Calls.mono hr ?_
    rintro e w' ⟨v, rfl, σ', k1, k2, k3⟩
    have hheap : ∀ b, b < w.heap.size → w'.heap[b]? = w.heap[b]? := fun b hb => k2.frame b hb fun id x h1 => by simp [noHp] at h1
    have hv : v = .bool true := k3
    subst hv
    have hev : Ab.Evo g w g w' := {
      same := k2.same
      size := k2.size
      pr := fun b o hp => ⟨hp, by simp only [World.cell?, hheap b (hw.pr b o hp)]⟩
      prn := fun _ _ h => .inl h
      x := fun _ h => .inl h
      keep := fun b hb _ => hheap b hb
      σ := fun _ _ h => h
      τ := fun _ m a cap h => ⟨m, a, cap, h, .inr ⟨rfl, rfl, rfl⟩⟩ }
    refine ⟨.bool true, .d (.bool true), g, [], rfl, ?_, hev, .d (.bool true), rfl⟩
    exact ⟨fun b o hp => Nat.lt_of_lt_of_le (hw.pr b o hp) k2.size, fun b hb => Nat.lt_of_lt_of_le (hw.xs b hb) k2.size, fun id e b h => by simp at h, fun id id' e e' b h => by simp at h, fun id c h => by simp at h, fun id n e s h => by simp at h, fun id l e s h => by simp at h, fun id x h => by simp at h, hw.free, hw.kcE hev⟩
  · cases h
end Go.Proofs.YtindppnanjcoaaaGreatDoor.Ev
