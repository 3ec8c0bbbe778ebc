import Derived.Test.YtikganlbnhapcaaAvSpec
namespace Go.Proofs.Ytikganlbnhapcaa
open Go.RowKit
set_option linter.unusedVariables false
set_option linter.unusedSimpArgs false

/-! the rules of the plain walk -/
section
variable {P : Program} {Q : AEx → St → Prop} {s : St}
theorem aWp_seq {a b : Code} (h : aWp P a (AEx.seq (aWp P b Q) Q) s) : aWp P (.seq a b) Q s := h
theorem aWp_region {id : Nat} {ops : List Oper} (s' : St) (h : ∀ K : St → Prop, K s' → aRun P ops 0 ops s K) (hq : Q .normal (s'.bump ops.length)) : aWp P (.region id ops.toArray false) Q s := by
  show aRun P ops.toArray.toList 0 ops.toArray.toList s _
  exact h _ (by simpa using hq)
theorem aWp_regionK {id : Nat} {ops : List Oper} (h : ∀ K : St → Prop, (∀ s' : St, Q .normal (s'.bump ops.length) → K s') → aRun P ops 0 ops s K) : aWp P (.region id ops.toArray false) Q s := by
  show aRun P ops.toArray.toList 0 ops.toArray.toList s _
  exact h _ (fun s' hq => by simpa using hq)
theorem aWp_cond {c : Operand} {a b : Code} {t : Bool} (hc : (s.ev c).av = .bool t) (h1 : t = true → aWp P a Q s) (h2 : t = false → aWp P b Q s) : aWp P (.cond c a b) Q s := by
  simp only [aWp, hc]; exact ⟨h1, h2⟩
theorem aWp_true {c : Operand} {a b : Code} (hc : (s.ev c).av = .bool true) (h1 : aWp P a Q s) : aWp P (.cond c a b) Q s := aWp_cond hc (fun _ => h1) (fun h => by cases h)
theorem aWp_false {c : Operand} {a b : Code} (hc : (s.ev c).av = .bool false) (h1 : aWp P b Q s) : aWp P (.cond c a b) Q s := aWp_cond hc (fun h => by cases h) (fun _ => h1)
theorem aWp_ret (h : Q .ret s) : aWp P .ret Q s := h
theorem aWp_skip (h : Q .normal s) : aWp P .skip Q s := h
theorem aWp_block {id : Nat} {c : Code} (h : aWp P c (AEx.inBlock id Q) s) : aWp P (.block id c) Q s := h
theorem aWp_exit {id : Nat} (h : Q (.exit id) s) : aWp P (.exit id) Q s := h
theorem aWp_loop {c : Code} (I : Nat → St → Prop) (n : Nat) (h0 : I n s) (h : ∀ n s, I n s → aWp P c (AEx.seq (fun s' => ∃ m, m < n ∧ I m s') Q) s) : aWp P (.loop c) Q s := ⟨I, n, h0, h⟩
theorem seq_normal {K : St → Prop} (h : K s) : AEx.seq K Q .normal s := h
theorem seq_ret {K : St → Prop} (h : Q .ret s) : AEx.seq K Q .ret s := h
theorem seq_exit {K : St → Prop} {id : Nat} (h : Q (.exit id) s) : AEx.seq K Q (.exit id) s := h
theorem blk_normal {id : Nat} (h : Q .normal s) : AEx.inBlock id Q .normal s := h
theorem blk_ret {id : Nat} (h : Q .ret s) : AEx.inBlock id Q .ret s := h
theorem blk_hit {id : Nat} (h : Q .normal s) : AEx.inBlock id Q (.exit id) s := by simp [AEx.inBlock, h]
theorem blk_miss {id id' : Nat} (hne : (id' == id) = false) (h : Q (.exit id') s) : AEx.inBlock id Q (.exit id') s := by
  have : ¬ id' = id := by simpa using hne
  simp [AEx.inBlock, this, h]
theorem end_ret {R : St → Prop} (h : R s) : AEx.fin .ret = true ∧ R s := ⟨rfl, h⟩
theorem end_normal {R : St → Prop} (h : R s) : AEx.fin .normal = true ∧ R s := ⟨rfl, h⟩
end
section
variable {P : Program} {ops : List Oper} {i : Nat} {l : List Oper} {s s' : St} {K : St → Prop} {dst : Option Tmp} {op : Op} {ty : TypeId} {pos : String} {af : Array Edge} {j : Nat} {b want : Bool}
theorem aOp_det {γ : Nat} {o : Oper} (h : aDet P γ s o.dst o.op = some s') (hk : K s') : aOp P γ s o K := by
  unfold aOp
  split
  · rename_i f args ts ho
    rw [ho] at h
    simp [aDet] at h
  · rw [h]; exact hk
theorem run_nil (h : K s) : aRun P ops i [] s K := h
theorem run_det (h : aDet P (s.nx + i) s dst op = some s') (hk : aRun P ops (i + 1) l s' K) : aRun P ops i (⟨dst, op, ty, pos, af, none⟩ :: l) s K := by
  show aGuard P ops (s.nx + i) s _ _
  exact aOp_det (o := ⟨dst, op, ty, pos, af, none⟩) h hk
theorem run_gt (hy : yld ops s j = some want) (h : aDet P (s.nx + i) s dst op = some s') (hk : aRun P ops (i + 1) l s' K) : aRun P ops i (⟨dst, op, ty, pos, af, some (j, want)⟩ :: l) s K := by
  show aGuard P ops (s.nx + i) s _ _
  simp only [aGuard, hy, if_true]
  exact aOp_det (o := ⟨dst, op, ty, pos, af, some (j, want)⟩) h hk
theorem run_gf (hy : yld ops s j = some (!want)) (hk : aRun P ops (i + 1) l (s.put dst (.k .any)) K) : aRun P ops i (⟨dst, op, ty, pos, af, some (j, want)⟩ :: l) s K := by
  show aGuard P ops (s.nx + i) s _ _
  simp only [aGuard, hy]
  rw [if_neg (by cases want <;> simp)]
  exact hk
theorem run_call {f : FuncId} {args : Array Operand} {ts : Array TypeId} {ys : List AV} {r : RV} (h1 : aArgs P s (args.toList.map s.ev) ts.toList = some ys) (h2 : Spec P f ys r) (h3 : (args.toList.all fun x => s.isK (s.ev x)) = true ∨ r.noal = true) (h4 : s.res dst (s.nx + i) r = some s')
    (hk : aRun P ops (i + 1) l s' K) : aRun P ops i (⟨dst, .call ⟨.value (.func f), args, ts⟩, ty, pos, af, none⟩ :: l) s K := by
  show aGuard P ops (s.nx + i) s _ _
  exact ⟨ys, r, s', h1, h2, h3, h4, hk⟩
theorem run_gcall {f : FuncId} {args : Array Operand} {ts : Array TypeId} {ys : List AV} {r : RV} (hy : yld ops s j = some want) (h1 : aArgs P s (args.toList.map s.ev) ts.toList = some ys) (h2 : Spec P f ys r) (h3 : (args.toList.all fun x => s.isK (s.ev x)) = true ∨ r.noal = true) (h4 : s.res dst (s.nx + i) r = some s')
    (hk : aRun P ops (i + 1) l s' K) : aRun P ops i (⟨dst, .call ⟨.value (.func f), args, ts⟩, ty, pos, af, some (j, want)⟩ :: l) s K := by
  show aGuard P ops (s.nx + i) s _ _
  simp only [aGuard, hy, if_true]
  exact ⟨ys, r, s', h1, h2, h3, h4, hk⟩
/-- a guard that is not known: both ways -/
theorem run_by (b : Bool) (h1 : b = true → aRun P ops i l s K) (h2 : b = false → aRun P ops i l s K) : aRun P ops i l s K := by
  cases b
  · exact h2 rfl
  · exact h1 rfl
end
theorem w64 {x : Int} (h1 : -9223372036854775808 ≤ x) (h2 : x ≤ 9223372036854775807) : IntKind.i64.wrap x = x := IntWalk.i64_in _ ⟨h1, h2⟩
theorem w8 {x : Int} (h1 : 0 ≤ x) (h2 : x ≤ 255) : IntKind.u8.wrap x = x := by rw [IntKind.wrap_u8]; omega
theorem w32 {x : Int} (h1 : 0 ≤ x) (h2 : x ≤ 4294967295) : IntKind.u32.wrap x = x := by rw [IntKind.wrap_u32]; omega
theorem wu64 {x : Int} (h1 : 0 ≤ x) (h2 : x ≤ 18446744073709551615) : IntKind.u64.wrap x = x := by rw [IntKind.wrap_u64]; omega
theorem pick_bool (t x y : Bool) : pickSV t (.k (.bool x)) (.k (.bool y)) = .k (.bool (bif t then x else y)) := rfl
theorem pick_true (a b : SV) : pickSV true a b = a := by unfold pickSV; split <;> rfl
theorem pick_false (a b : SV) : pickSV false a b = b := by unfold pickSV; split <;> rfl
theorem bump_fr (s : St) (n : Nat) : (s.bump n).fr = s.fr := rfl
theorem bump_tb (s : St) (n : Nat) : (s.bump n).tb = s.tb := rfl

end Go.Proofs.Ytikganlbnhapcaa
