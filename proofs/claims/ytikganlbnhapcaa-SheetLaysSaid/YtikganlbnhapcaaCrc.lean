import Derived.Test.YtikganlbnhapcaaProg
import Derived.Test.YtikganlbnhapcaaBits
import Derived.Test.YtikganlbnhapcaaMem
import Derived.Below
import Derived.Deep.Draws
import Derived.OwnWalk
import Derived.Tactics
import Derived.WalkKit
import Derived.KernelRfl
import Derived.RowKit3
import Derived.Deep.LoopGhost
import Derived.Deep.QuietTactic
import Derived.BigQuiet
import Derived.WideLaws
import Derived.Deep.DeepCutAuto
import Derived.Deep.CutBlock
import Derived.Laws.Rows
import Derived.Outline
import Derived.Lib.Hide
namespace Go.Proofs.Ytikganlbnhapcaa
open Go.RowKit
set_option linter.unusedVariables false
set_option linter.unusedSimpArgs false

def crcStep (x : BitVec 32) : BitVec 32 := (x >>> 1) ^^^ ((x &&& 1#32) * 0xEDB88320#32)
def crcSteps : Nat → BitVec 32 → BitVec 32
  | 0, x => x
  | k + 1, x => crcSteps k (crcStep x)
def crcOne (x : BitVec 32) (c : BitVec 8) : BitVec 32 := crcSteps 8 (x ^^^ c.setWidth 32)
def crcMore (s : BitVec 32) (b : List (BitVec 8)) : BitVec 32 := ~~~ (b.foldl crcOne (~~~ s))

def crcOf (bss : List (List (BitVec 8))) : BitVec 32 := bss.foldl crcMore 0#32

theorem crcSteps_succ (k : Nat) (x : BitVec 32) : crcStep (crcSteps k x) = crcSteps (k + 1) x := by
  induction k generalizing x with
  | zero => rfl
  | succ k ih => exact ih (crcStep x)

attribute [local go_sem] bxor32 band32 sig32 bnot32 bdiv2_32 band32_1 bmul32_poly conv8_32

set_option maxHeartbeats 400000 in
theorem crc_one_calls (x : BitVec 32) (c : BitVec 8) (w : World) :
    Calls Try.prog 89 #[.int .u32 (n32 x), .int .u8 (n8 c)] w fun e w' => e = .returned (.int .u32 (n32 (crcOne x c))) ∧ w = w' := by
  go_enter Try.func89, Try.ntmps89
  go_wp2
  go_loop [0, 10] (fun v i => ∃ k : Nat, k ≤ 8 ∧ i = .int .i64 k ∧ v = .int .u32 (n32 (crcSteps k (x ^^^ c.setWidth 32)))) (fun _ i => 8 - (intOf i).toNat)
  case atStart => exact ⟨0, by omega, rfl, rfl⟩
  case round =>
    obtain ⟨k, hk, rfl, rfl⟩ := hrel
    by_cases hlt : k < 8
    · go_wp2
      go_round
      case rel => exact ⟨k + 1, by omega, by go_num, by rw [← crcSteps_succ]; rfl⟩
      case measure => simp [intOf]; omega
    · obtain rfl : k = 8 := by omega
      go_wp2
      go_ret
      exact ⟨rfl, rfl⟩

theorem fold_snoc {α β : Type} (f : β → α → β) (d : α) (s : β) (l : List α) (k : Nat) (h : k < l.length) :
    (l.take (k + 1)).foldl f s = f ((l.take k).foldl f s) (l.getD k d) := by
  rw [List.take_succ_eq_append_getElem h, List.foldl_append]
  simp [h]

set_option maxHeartbeats 400000 in
theorem crc_more_calls (s : BitVec 32) (bs : List (BitVec 8)) (v : Value) (w : World) (h : Rd w v (B8 bs)) :
    Calls Try.prog 84 #[.int .u32 (n32 s), v] w fun e w' => e = .returned (.int .u32 (n32 (crcMore s bs))) ∧ w = w' := by
  obtain ⟨a, cap, rfl, hcap, hmax, hr⟩ := h
  rw [B8_len] at hcap ⊢
  go_enter Try.func84, Try.ntmps84
  go_wp2
  go_loop [5, 12] (fun v i => ∃ k : Nat, k ≤ bs.length ∧ i = .int .i64 k ∧ v = .int .u32 (n32 ((bs.take k).foldl crcOne (~~~ s)))) (fun _ i => bs.length - (intOf i).toNat)
  case atStart => exact ⟨0, by omega, rfl, rfl⟩
  case round =>
    obtain ⟨k, hk, rfl, rfl⟩ := hrel
    by_cases hlt : k < bs.length
    · rcases hr with hr | ⟨b, off, rfl, hcell⟩
      · rw [B8_len] at hr; omega
      · have hc := hcell k (by rw [B8_len]; exact hlt)
        rw [B8_getD bs k hlt] at hc
        clear hcell
        go_wp2_with (go_at_call 89; refine (crc_one_calls _ _ _).mono ?_; rintro e w' ⟨rfl, rfl⟩)
        go_round
        case rel => exact ⟨k + 1, by omega, by go_num, by rw [fold_snoc _ 0 _ _ _ hlt]; simp [hlt]⟩
        case measure => simp [intOf]; omega
    · obtain rfl : k = bs.length := by omega
      go_wp2
      go_ret
      exact ⟨by simp [crcMore], rfl⟩

set_option maxHeartbeats 400000 in
theorem crc_of_calls (bss : List (List (BitVec 8))) (v : Value) (w : World) (h : RdL w v bss) :
    Calls Try.prog 64 #[v] w fun e w' => e = .returned (.int .u32 (n32 (crcOf bss))) ∧ w = w' := by
  obtain ⟨vs, hvs, ⟨a, cap, rfl, hcap, hmax, hr⟩, hin⟩ := h
  rw [hvs] at hcap hr ⊢
  go_enter Try.func64, Try.ntmps64
  go_wp2
  go_loop [3, 8] (fun v i => ∃ k : Nat, k ≤ bss.length ∧ i = .int .i64 k ∧ v = .int .u32 (n32 ((bss.take k).foldl crcMore 0#32))) (fun _ i => bss.length - (intOf i).toNat)
  case atStart => exact ⟨0, by omega, rfl, rfl⟩
  case round =>
    obtain ⟨k, hk, rfl, rfl⟩ := hrel
    by_cases hlt : k < bss.length
    · rcases hr with hr | ⟨b, off, rfl, hcell⟩
      · omega
      · have hc := hcell k hlt
        have hv := hin k hlt
        clear hcell hin
        generalize vs.getD k undef = u at hc hv
        go_wp2_with (go_at_call 84; refine (crc_more_calls _ _ _ _ hv).mono ?_; rintro e w' ⟨rfl, rfl⟩)
        go_round
        case rel => exact ⟨k + 1, by omega, by go_num, by rw [fold_snoc _ [] _ _ _ hlt]; simp [hlt]⟩
        case measure => simp [intOf]; omega
    · obtain rfl : k = bss.length := by omega
      go_wp2
      go_ret
      exact ⟨by simp [crcOf], rfl⟩
end Go.Proofs.Ytikganlbnhapcaa
