import Derived.Test.YtmlgpibjhegdeaaTkMod
namespace Go.Proofs.Ytmlgpibjhegdeaa
open Go.RowKit
set_option linter.unusedVariables false
set_option linter.unusedSimpArgs false
set_option maxRecDepth 20000
/-- the token with which bytes begin, and how many it has -/
def tkOne : List UInt8 → Option (TkV × Nat)
  | [] => none
  | b0 :: l => if b0.toNat < 128 then (if b0.toNat + 1 ≤ l.length then some (⟨true, l.take (b0.toNat + 1), 0, 0⟩, b0.toNat + 2) else none)
    else match l with
      | b1 :: b2 :: _ => if 1 + b1.toNat * 256 + b2.toNat ≤ 4096 then some (⟨true, [], (b0.toNat : Int) - 125, 1 + (b1.toNat : Int) * 256 + (b2.toNat : Int)⟩, 3) else none
      | _ => none
theorem tkOne_tok (l : List UInt8) : match tkOne l with
    | some (t, k) => clipTok (tokOne l).1 = t.av ∧ (tokOne l).2 = (k : Int) ∧ 0 < k ∧ k ≤ l.length
    | none => l = [] ∨ (tokOne l).2 = 0 := by
  unfold tkOne tokOne
  cases l with
  | nil => exact .inl rfl
  | cons b0 l =>
    simp only
    by_cases h1 : b0.toNat < 128
    · by_cases h2 : b0.toNat + 1 ≤ l.length
      · simp only [if_pos h1, if_pos h2, clipTok, TkV.av, List.length_cons]
        refine ⟨?_, by simp, by omega, by omega⟩
        rw [List.length_take, Nat.min_eq_left h2]
      · simp [h1, h2]
    · simp only [if_neg h1]
      have hb0 := b0.toNat_lt
      match l with
      | [] => exact .inr rfl
      | [_] => exact .inr rfl
      | b1 :: b2 :: l =>
        have hg : goodB 0 ((b0.toNat : Int) - 125) (1 + (b1.toNat : Int) * 256 + (b2.toNat : Int)) = decide (1 + b1.toNat * 256 + b2.toNat ≤ 4096) := by
          unfold goodB
          rw [if_pos rfl]
          by_cases h : 1 + b1.toNat * 256 + b2.toNat ≤ 4096
          · rw [decide_eq_true h]; exact decide_eq_true (by omega)
          · rw [decide_eq_false h]; exact decide_eq_false (by omega)
        by_cases h2 : 1 + b1.toNat * 256 + b2.toNat ≤ 4096
        · simp only [hg, if_pos h2, decide_eq_true h2, if_true, clipTok, TkV.av, List.length_cons]
          exact ⟨rfl, rfl, by omega, by omega⟩
        · simp only [hg, if_neg h2, decide_eq_false h2]; exact .inr rfl
def decT : Nat → List UInt8 → Option (List TkV)
  | 0, _ => some []
  | f + 1, l => if l = [] then some [] else match tkOne l with
    | none => none
    | some (t, k) => (decT f (l.drop k)).map (t :: ·)
theorem decF_T : ∀ (f : Nat) (l : List UInt8), decF f l = (decT f l).map (List.map TkV.av)
  | 0, l => rfl
  | f + 1, l => by
    simp only [decF, decT]
    by_cases h : l = []
    · simp [h]
    · rw [if_neg h, if_neg h]
      have q := tkOne_tok l
      cases ht : tkOne l with
      | none =>
        rw [ht] at q
        rw [if_pos (q.resolve_left h)]; rfl
      | some p =>
        obtain ⟨t, k⟩ := p
        rw [ht] at q
        obtain ⟨q1, q2, q3, q4⟩ := q
        rw [if_neg (by omega), q2, Int.toNat_natCast, decF_T f, q1]
        show _ = Option.map _ ((decT f (l.drop k)).map (t :: ·))
        cases decT f (l.drop k) <;> rfl
theorem decT_fuel : ∀ (f g : Nat) (l : List UInt8), l.length ≤ f → l.length ≤ g → decT f l = decT g l
  | 0, 0, l, _, _ => rfl
  | 0, g + 1, l, h, _ => by
    have : l = [] := List.length_eq_zero_iff.1 (by omega)
    subst this; simp [decT]
  | f + 1, 0, l, _, h => by
    have : l = [] := List.length_eq_zero_iff.1 (by omega)
    subst this; simp [decT]
  | f + 1, g + 1, l, h1, h2 => by
    simp only [decT]
    split
    · rfl
    · have q := tkOne_tok l
      split
      · rfl
      · rename_i t k ht
        rw [ht] at q
        obtain ⟨_, _, h3, h4⟩ := q
        rw [decT_fuel f g _ (by rw [List.length_drop]; omega) (by rw [List.length_drop]; omega)]
/-- the tokens of bytes -/
def decO (l : List UInt8) : Option (List TkV) := decT l.length l
theorem decO_nil : decO [] = some [] := rfl
theorem decO_none {l : List UInt8} (h : l ≠ []) (ht : tkOne l = none) : decO l = none := by
  cases l with
  | nil => exact absurd rfl h
  | cons b l => simp only [decO, List.length_cons, decT, if_neg h, ht]
theorem decO_some {l : List UInt8} {t : TkV} {k : Nat} (ht : tkOne l = some (t, k)) : decO l = (decO (l.drop k)).map (t :: ·) := by
  have q := tkOne_tok l
  rw [ht] at q
  obtain ⟨_, _, h3, h4⟩ := q
  cases l with
  | nil => cases ht
  | cons b l =>
    simp only [decO, List.length_cons, decT, ht]
    rw [if_neg (by simp), decT_fuel l.length _ _ (by rw [List.length_drop, List.length_cons]; omega) (Nat.le_refl _)]
theorem flatten_tk (ts : List TkV) : (ts.map TkV.av).flatten = tkCells ts := by
  induction ts with
  | nil => rfl
  | cons t ts ih => rw [List.map_cons, List.flatten_cons, ih]; rfl
theorem decR_T (l : List UInt8) : decR l = match decO l with
    | some ts => .tup [.sl true ts.length (tkCells ts), .int .i64 0]
    | none => .tup [.sl true 0 [], .int .i64 12] := by
  unfold decR decO
  rw [decF_T]
  cases decT l.length l with
  | none => rfl
  | some ts => simp only [Option.map_some, List.length_map, flatten_tk]
/-- as the reference has them -/
def TkV.un (t : TkV) : TkV := ⟨t.lit.isEmpty, t.lit, t.len, t.dist⟩
def rdecR (l : List UInt8) : AV := match decO l with
  | some ts => .tup [.sl false ts.length (tkCells (ts.map TkV.un)), .int .i64 0]
  | none => .tup [.sl true 0 [], .int .i64 12]
theorem byte_at {l : List UInt8} {i : Nat} {b : UInt8} (h : l[i]? = some b) : ldAgg (.int .u8) 1 (List.drop i (aOfBytes l)) = some (.int .u8 (b.toNat : Int)) := by
  have : (aOfBytes l)[i]? = some (.int .u8 (b.toNat : Int)) := by simp [aOfBytes, h]
  simp only [ldAgg]
  rw [List.head?_drop]; exact this
theorem cut_bytes (l : List UInt8) (a b : Nat) : List.drop a (List.take b (aOfBytes l)) = aOfBytes ((l.drop a).take (b - a)) := by
  simp only [aOfBytes, ← List.map_take, ← List.map_drop]
  rw [List.drop_take]
set_option maxHeartbeats 4000000 in
theorem rdec_spec (full : Bool) (l : List UInt8) (hb : l.length ≤ 65536) : Spec Try.prog 34 [.sl full l.length (aOfBytes l)] (.k (rdecR l)) := by
  refine spec_of (fun _ => false) (by kernel_rfl) Try.func34 rfl rfl (by simp [Try.ntmps34]) (by decide) ?_
  intro δ
  rw [init1]
  have hlen := aOfBytes_len l
  repeat (first | with_reducible (first | refine aWp_seq ?_ | refine seq_normal ?_ | refine seq_ret ?_ | refine seq_exit ?_ | refine blk_normal ?_ | refine blk_ret ?_ | refine blk_hit ?_ | refine blk_miss rfl ?_ | refine aWp_ret ?_ | refine aWp_skip ?_ | refine aWp_block ?_ | refine aWp_exit ?_ | refine end_ret ?_ | refine end_normal ?_) | ((refine rgA ?_); intro ν) | ((with_reducible apply cndT); exact rfl; (first | rfl | assumption)) | ((with_reducible apply cndF); exact rfl; (first | rfl | assumption)))
  refine aWp_loop (fun m s => ∃ F T ν i x acc, m = l.length - i ∧ i ≤ l.length ∧ acc.length ≤ i ∧ decO l = (decO (l.drop i)).map (acc ++ ·) ∧ s = ⟨F, T, ν, ⟨fun _ => false, δ, false⟩⟩ ∧
    F 0 = .k (.sl full l.length (aOfBytes l)) ∧ F 5 = .k (.int .i64 (i : Nat)) ∧ F 4 = x ∧ AccO 63 [8, 48, 71] T x acc.length (tkCells (acc.map TkV.un))) l.length ⟨_, _, _, 0, _, [], rfl, Nat.zero_le _, Nat.le_refl _, by simp, rfl, rfl, rfl, rfl, .ow (by simp) rfl rfl rfl⟩ ?_
  rintro m s ⟨F, T, ν, i, x, acc, rfl, hi, hai, hdec, rfl, h0, h5, h4, d, g, hd, rfl, hT⟩
  have hcl := tkCells_len (acc.map TkV.un)
  rw [List.length_map] at hcl
  rw [has3 h0 h5 h4, upd_self hT]
  repeat with_reducible (first | refine aWp_seq ?_ | refine seq_normal ?_ | refine seq_ret ?_ | refine seq_exit ?_ | refine blk_normal ?_ | refine blk_ret ?_ | refine blk_hit ?_ | refine blk_miss rfl ?_ | refine aWp_ret ?_ | refine aWp_skip ?_ | refine aWp_block ?_ | refine aWp_exit ?_ | refine end_ret ?_ | refine end_normal ?_)
  by_cases hlt : i < l.length
  · obtain ⟨b0, hb0⟩ : ∃ b, l[i]? = some b := ⟨l[i], by simp [hlt]⟩
    have hld := byte_at hb0
    have hb0' := b0.toNat_lt
    have hdr : l.drop i = b0 :: l.drop (i + 1) := by
      rw [List.drop_eq_getElem_cons hlt]; congr 1
      rw [List.getElem?_eq_getElem hlt] at hb0; injection hb0
    have mk : ∀ (C : Nat → SV) (T' : Nat → Option (Nat × Ent)) (ν' : Nat) (d g n : Nat) (cs : List AV) (t : TkV) (k : Nat), tkOne (l.drop i) = some (t, k) → d ∈ [8, 48, 71] → C 0 = .k (.sl full l.length (aOfBytes l)) → C 5 = .k (.int .i64 ((i : Int) + k)) → C 4 = .ow d g n 63 cs → T' d = some (g, .tag) → cs = tkCells (acc.map TkV.un) ++ t.un.av → n = acc.length + 1 →
        ∃ m, m < l.length - i ∧ ∃ F T ν i x acc, m = l.length - i ∧ i ≤ l.length ∧ acc.length ≤ i ∧ decO l = (decO (l.drop i)).map (acc ++ ·) ∧ (⟨C, T', ν', ⟨fun _ => false, δ, false⟩⟩ : St) = ⟨F, T, ν, ⟨fun _ => false, δ, false⟩⟩ ∧
          F 0 = .k (.sl full l.length (aOfBytes l)) ∧ F 5 = .k (.int .i64 (i : Nat)) ∧ F 4 = x ∧ AccO 63 [8, 48, 71] T x acc.length (tkCells (acc.map TkV.un)) := by
      intro C T' ν' d g n cs t k htk hd c0 c5 c4 hT hc hn
      have q := tkOne_tok (l.drop i)
      rw [htk] at q
      obtain ⟨_, _, h3, h4⟩ := q
      rw [List.length_drop] at h4
      refine ⟨l.length - (i + k), by omega, _, _, _, i + k, _, acc ++ [t], rfl, by omega, by simp; omega, ?_, rfl, c0, by rw [c5]; rfl, c4, .ow hd hT (by simp [hn]) ?_⟩
      · rw [hdec, decO_some htk, List.drop_drop]
        cases decO (l.drop (i + k)) <;> simp
      · rw [hc, List.map_append, tkCells_append]; simp [tkCells]
    have fail : tkOne (l.drop i) = none → rdecR l = .tup [.sl true 0 [], .int .i64 12] := fun h => by
      rw [rdecR, hdec, decO_none (by rw [hdr]; simp) h]; rfl
    by_cases h1 : b0.toNat < 128
    · by_cases h2 : i + b0.toNat + 2 ≤ l.length
      · have htk : tkOne (l.drop i) = some (⟨true, (l.drop (i + 1)).take (b0.toNat + 1), 0, 0⟩, b0.toNat + 2) := by
          rw [hdr]
          show (if b0.toNat < 128 then (if _ then _ else _) else _) = _
          rw [if_pos h1, if_pos (by rw [List.length_drop]; omega)]
        have hnn : ((i : Int) + (b0.toNat : Int) + 2).toNat = i + b0.toNat + 2 := by omega
        have hnm : ((i : Int) + 1).toNat = i + 1 := by omega
        have hcut : List.drop (i + 1) (List.take (i + b0.toNat + 2) (aOfBytes l)) = aOfBytes ((l.drop (i + 1)).take (b0.toNat + 1)) := by
          rw [cut_bytes]; congr 2; omega
        have hcl2 : ((l.drop (i + 1)).take (b0.toNat + 1)).length = b0.toNat + 1 := by rw [List.length_take, List.length_drop]; omega
        have hne : ((l.drop (i + 1)).take (b0.toNat + 1)).isEmpty = false := by
          cases h : (l.drop (i + 1)).take (b0.toNat + 1) with
          | nil => rw [h] at hcl2; simp at hcl2
          | cons => rfl
        simp only [List.mem_cons, List.not_mem_nil, or_false] at hd
        rcases hd with rfl | rfl | rfl
        iterate 3
          · repeat (first | with_reducible (first | refine aWp_seq ?_ | refine seq_normal ?_ | refine seq_ret ?_ | refine seq_exit ?_ | refine blk_normal ?_ | refine blk_ret ?_ | refine blk_hit ?_ | refine blk_miss rfl ?_ | refine aWp_ret ?_ | refine aWp_skip ?_ | refine aWp_block ?_ | refine aWp_exit ?_ | refine end_ret ?_ | refine end_normal ?_) | ((refine rgA ?_); intro ν) | ((with_reducible apply cndT); exact rfl; (first | rfl | assumption)) | ((with_reducible apply cndF); exact rfl; (first | rfl | assumption)))
            refine mk _ _ _ _ _ _ _ _ _ htk ?_ rfl ?_ rfl rfl ?_ rfl
            · decide
            · congr 2
            simp only [hnn, hnm, hcut, TkV.av, TkV.un, hcl2, hne]
            congr 3
            omega
      · have htk : tkOne (l.drop i) = none := by
          rw [hdr]
          show (if b0.toNat < 128 then (if _ then _ else _) else _) = _
          rw [if_pos h1, if_neg (by rw [List.length_drop]; omega)]
        simp only [List.mem_cons, List.not_mem_nil, or_false] at hd
        repeat (first | with_reducible (first | refine aWp_seq ?_ | refine seq_normal ?_ | refine seq_ret ?_ | refine seq_exit ?_ | refine blk_normal ?_ | refine blk_ret ?_ | refine blk_hit ?_ | refine blk_miss rfl ?_ | refine aWp_ret ?_ | refine aWp_skip ?_ | refine aWp_block ?_ | refine aWp_exit ?_ | refine end_ret ?_ | refine end_normal ?_) | ((refine rgA ?_); intro ν) | ((with_reducible apply cndT); exact rfl; (first | rfl | assumption)) | ((with_reducible apply cndF); exact rfl; (first | rfl | assumption)))
        (first | with_reducible refine end_r ?_ | with_reducible refine end_n ?_); refine en2 ?_
        exact fail htk
    · by_cases h3 : i + 3 ≤ l.length
      · obtain ⟨b1, hb1⟩ : ∃ b, l[i + 1]? = some b := ⟨l[i + 1], by simp⟩
        obtain ⟨b2, hb2⟩ : ∃ b, l[i + 2]? = some b := ⟨l[i + 2], by simp⟩
        have hn1 : ((i : Int) + 1).toNat = i + 1 := by omega
        have hn2 : ((i : Int) + 2).toNat = i + 2 := by omega
        have hld1 : ldAgg (.int .u8) 1 (List.drop ((i : Int) + 1).toNat (aOfBytes l)) = some (.int .u8 (b1.toNat : Int)) := by rw [hn1]; exact byte_at hb1
        have hld2 : ldAgg (.int .u8) 1 (List.drop ((i : Int) + 2).toNat (aOfBytes l)) = some (.int .u8 (b2.toNat : Int)) := by rw [hn2]; exact byte_at hb2
        have hb1' := b1.toNat_lt
        have hb2' := b2.toNat_lt
        have hdr2 : l.drop i = b0 :: b1 :: b2 :: l.drop (i + 3) := by
          rw [hdr]; congr 1
          rw [List.drop_eq_getElem_cons (by omega)]; congr 1
          · rw [List.getElem?_eq_getElem (by omega)] at hb1; injection hb1
          rw [List.drop_eq_getElem_cons (by omega)]; congr 1
          · rw [List.getElem?_eq_getElem (by omega)] at hb2; injection hb2
        by_cases h4 : 1 + b1.toNat * 256 + b2.toNat ≤ 4096
        · have htk : tkOne (l.drop i) = some (⟨true, [], (b0.toNat : Int) - 125, 1 + (b1.toNat : Int) * 256 + (b2.toNat : Int)⟩, 3) := by
            rw [hdr2]; simp only [tkOne, if_neg h1, if_pos h4]
          simp only [List.mem_cons, List.not_mem_nil, or_false] at hd
          rcases hd with rfl | rfl | rfl
          iterate 3
            · repeat (first | with_reducible (first | refine aWp_seq ?_ | refine seq_normal ?_ | refine seq_ret ?_ | refine seq_exit ?_ | refine blk_normal ?_ | refine blk_ret ?_ | refine blk_hit ?_ | refine blk_miss rfl ?_ | refine aWp_ret ?_ | refine aWp_skip ?_ | refine aWp_block ?_ | refine aWp_exit ?_ | refine end_ret ?_ | refine end_normal ?_) | ((refine rgA ?_); intro ν) | ((with_reducible apply cndT); exact rfl; (first | rfl | assumption)) | ((with_reducible apply cndF); exact rfl; (first | rfl | assumption)))
              refine rgxA [] ?_
              intro ν
              repeat (first | with_reducible (first | refine aWp_seq ?_ | refine seq_normal ?_ | refine seq_ret ?_ | refine seq_exit ?_ | refine blk_normal ?_ | refine blk_ret ?_ | refine blk_hit ?_ | refine blk_miss rfl ?_ | refine aWp_ret ?_ | refine aWp_skip ?_ | refine aWp_block ?_ | refine aWp_exit ?_ | refine end_ret ?_ | refine end_normal ?_) | ((refine rgA ?_); intro ν) | ((with_reducible apply cndT); exact rfl; (first | rfl | assumption)) | ((with_reducible apply cndF); exact rfl; (first | rfl | assumption)))
              refine mk _ _ _ _ _ _ _ _ _ htk ?_ rfl ?_ rfl rfl ?_ rfl
              · decide
              · congr 2
              simp only [TkV.av, TkV.un]
              congr 4
              · simp; omega
        · have htk : tkOne (l.drop i) = none := by
            rw [hdr2]; simp only [tkOne, if_neg h1, if_neg h4]
          repeat (first | with_reducible (first | refine aWp_seq ?_ | refine seq_normal ?_ | refine seq_ret ?_ | refine seq_exit ?_ | refine blk_normal ?_ | refine blk_ret ?_ | refine blk_hit ?_ | refine blk_miss rfl ?_ | refine aWp_ret ?_ | refine aWp_skip ?_ | refine aWp_block ?_ | refine aWp_exit ?_ | refine end_ret ?_ | refine end_normal ?_) | ((refine rgA ?_); intro ν) | ((with_reducible apply cndT); exact rfl; (first | rfl | assumption)) | ((with_reducible apply cndF); exact rfl; (first | rfl | assumption)))
          refine rgxA [] ?_
          intro ν
          repeat (first | with_reducible (first | refine aWp_seq ?_ | refine seq_normal ?_ | refine seq_ret ?_ | refine seq_exit ?_ | refine blk_normal ?_ | refine blk_ret ?_ | refine blk_hit ?_ | refine blk_miss rfl ?_ | refine aWp_ret ?_ | refine aWp_skip ?_ | refine aWp_block ?_ | refine aWp_exit ?_ | refine end_ret ?_ | refine end_normal ?_) | ((refine rgA ?_); intro ν) | ((with_reducible apply cndT); exact rfl; (first | rfl | assumption)) | ((with_reducible apply cndF); exact rfl; (first | rfl | assumption)))
          (first | with_reducible refine end_r ?_ | with_reducible refine end_n ?_); refine en2 ?_
          exact fail htk
      · have htk : tkOne (l.drop i) = none := by
          rw [hdr]
          unfold tkOne
          simp only [if_neg h1]
          match hm : l.drop (i + 1) with
          | [] => rfl
          | [_] => rfl
          | _ :: _ :: q =>
            have := congrArg List.length hm
            simp only [List.length_drop, List.length_cons] at this
            omega
        repeat (first | with_reducible (first | refine aWp_seq ?_ | refine seq_normal ?_ | refine seq_ret ?_ | refine seq_exit ?_ | refine blk_normal ?_ | refine blk_ret ?_ | refine blk_hit ?_ | refine blk_miss rfl ?_ | refine aWp_ret ?_ | refine aWp_skip ?_ | refine aWp_block ?_ | refine aWp_exit ?_ | refine end_ret ?_ | refine end_normal ?_) | ((refine rgA ?_); intro ν) | ((with_reducible apply cndT); exact rfl; (first | rfl | assumption)) | ((with_reducible apply cndF); exact rfl; (first | rfl | assumption)))
        (first | with_reducible refine end_r ?_ | with_reducible refine end_n ?_); refine en2 ?_
        exact fail htk
  · have hie : i = l.length := by omega
    subst hie
    repeat (first | with_reducible (first | refine aWp_seq ?_ | refine seq_normal ?_ | refine seq_ret ?_ | refine seq_exit ?_ | refine blk_normal ?_ | refine blk_ret ?_ | refine blk_hit ?_ | refine blk_miss rfl ?_ | refine aWp_ret ?_ | refine aWp_skip ?_ | refine aWp_block ?_ | refine aWp_exit ?_ | refine end_ret ?_ | refine end_normal ?_) | ((refine rgA ?_); intro ν) | ((with_reducible apply cndT); exact rfl; (first | rfl | assumption)) | ((with_reducible apply cndF); exact rfl; (first | rfl | assumption)))
    (first | with_reducible refine end_r ?_ | with_reducible refine end_n ?_); refine en2 ?_
    rw [rdecR, hdec]; simp [decO_nil]
end Go.Proofs.Ytmlgpibjhegdeaa
