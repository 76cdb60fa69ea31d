/- What awake() comes to. Conditions: none. -/
import Derived.Test.YtlbiooppadlolaaGreatDoorE27
import Derived.Test.YtlbiooppadlolaaGreatDoorE28
import Derived.Test.YtlbiooppadlolaaGreatDoorE29
import Derived.Test.YtlbiooppadlolaaGreatDoorE30
import Derived.Test.YtlbiooppadlolaaGreatDoorE31
import Derived.KernelRfl
namespace Go.Proofs.YtlbiooppadlolaaGreatDoor.Ev
open Go
set_option maxRecDepth 100000

theorem names_ok : (Tryz.prog.funcs.all fun fn => !(fn.name == "runtime.NumGoroutine")) = true := by decide +kernel

theorem memN2 {a b f : Nat} (h : memN [a, b] f = true) : f = a ∨ f = b := by
  simp only [memN, List.any_cons, List.any_nil, Bool.or_false, Bool.or_eq_true, Nat.beq_eq] at h
  exact h.imp Eq.symm Eq.symm

theorem cok (C : Cx) (hP : C.P = Tryz.prog) (hv : C.ov = [192, 194]) : COK C := by
  obtain ⟨P, oc, qf, ov, ks, kt⟩ := C
  simp only at hP hv
  subst hP
  subst hv
  refine ⟨fun f fn hf => ?_, fun f hf => ?_, rfl⟩
  · obtain ⟨hl, rfl⟩ := Array.getElem?_eq_some_iff.1 hf
    have := (Array.all_eq_true.1 names_ok) f hl
    simpa using this
  · rcases memN2 hf with rfl | rfl
    · exact ⟨112, 4, 175, _, run_callFunc_extern Tryz.func192 (by kernel_rfl) (by kernel_rfl) (by kernel_rfl) (by kernel_rfl), rfl, rfl⟩
    · exact ⟨25, 4, 3, _, run_callFunc_extern Tryz.func194 (by kernel_rfl) (by kernel_rfl) (by kernel_rfl) (by kernel_rfl), rfl, rfl⟩

theorem tab_ent : ∀ e, e ∈ tab → ent e = true := by
  have h : tab.all ent = true := by
    have : tab = ((tab.drop 0).take 6 ++ (tab.drop 6).take 2) ++ (tab.drop 8).take 2 := rfl
    rw [this, List.all_append, List.all_append, ent_0, ent_1, ent_2]; rfl
  exact List.all_eq_true.1 h

theorem tabOK : TabOK Tryz.prog tab := by
  intro e he
  have h := tab_ent e he
  unfold ent at h
  simp only [Bool.and_eq_true] at h
  obtain ⟨⟨h1, -⟩, h2⟩ := h
  refine ⟨h1, fun σ w vals hw hr => ?_⟩
  split at h2
  · rename_i v H' hv
    have hC : COK C0 := cok C0 rfl rfl
    have hT : TabOK C0.P C0.kt := fun e he => by cases he
    have := callW_ok hC (run_ok hC (call_ok hC hT 60)) hv hw hr
    obtain rfl := same_eq h2
    exact RunF.mono this fun rv w' ⟨σ', a, b, c⟩ => ⟨σ', H', a, b, c⟩
  · cases h2

theorem awake_fn : Ab.Fn Tryz.prog 4 [] (.bool true) := by
  intro g w vals hw hs ha
  have hC : COK C1 := cok C1 rfl rfl
  have h0 : WOK (fun _ => none) noHp w := ⟨fun _ _ => rfl, by simp [noHp], Nat.le_refl _, fun id hi => by simp [noHp] at hi, fun id _ _ _ h1 => by simp [noHp] at h1⟩
  have hv0 : vals = #[] := Array.eq_empty_of_size_eq_zero (by simpa using hs)
  subst hv0
  have h := awake_read
  split at h
  · rename_i H' hcall
    have hr := call_ok hC tabOK 60 4 [] noHp (.b true) H' hcall (fun _ => none) w #[] h0 rfl
    unfold RunF at hr
    rw [run_enter (P := C1.P) hC.nm Tryz.func4 rfl] at hr
    refine Calls.mono hr ?_
    rintro e w' ⟨v, rfl, σ', k1, k2, k3⟩
    have hheap : ∀ b, b < w.heap.size → w'.heap[b]? = w.heap[b]? := fun b hb => k2.frame b hb fun id x h1 => by simp [noHp] at h1
    have hv : v = .bool true := k3
    subst hv
    have hev : Ab.Evo g w g w' := {
      same := k2.same
      size := k2.size
      pr := fun b o hp => ⟨hp, by simp only [World.cell?, hheap b (hw.pr b o hp)]⟩
      prn := fun _ _ h => .inl h
      x := fun _ h => .inl h
      keep := fun b hb _ => hheap b hb
      σ := fun _ _ h => h
      τ := fun _ m a cap h => ⟨m, a, cap, h, .inr ⟨rfl, rfl, rfl⟩⟩ }
    refine ⟨.bool true, .d (.bool true), g, [], rfl, ?_, hev, .d (.bool true), rfl⟩
    exact ⟨fun b o hp => Nat.lt_of_lt_of_le (hw.pr b o hp) k2.size, fun b hb => Nat.lt_of_lt_of_le (hw.xs b hb) k2.size, fun id e b h => by simp at h, fun id id' e e' b h => by simp at h, fun id c h => by simp at h, fun id n e s h => by simp at h, fun id l e s h => by simp at h, fun id x h => by simp at h, hw.free, hw.kcE hev⟩
  · cases h
end Go.Proofs.YtlbiooppadlolaaGreatDoor.Ev
