import Derived.Test.YtikganlbnhapcaaAvVal4
namespace Go.Proofs.Ytikganlbnhapcaa
open Go.RowKit
set_option linter.unusedVariables false
set_option linter.unusedSimpArgs false

section
variable {P : Program} {w0 : Base} {w : World} {K0 : Anc} {G : Gh} {us : Nat → Prop} {s : St} {a : Act}
theorem aBuild_sound (h : Real P w0 K0 G us s a w) {t : TypeId} {parts : Array (Nat × Operand)} {y : SV} (ha : aBuild P s t parts.toList = some y) :
    ∃ r, (Instr.build t (parts.map fun (i, x) => (i, a.eval x))).run P w = .ok r w ∧ SRep G y r := by
  unfold aBuild at ha
  split at ha
  · rename_i hok
    obtain ⟨i, z, d, hi, hz, hzs, hz1, hsz, _, hzr, hu⟩ := ti_ok hok
    have hp := parts_rep h parts.toList
    split at ha
    · rename_i fs hun
      rw [un_eq, hu] at hun
      obtain ⟨f, hd, hfs, hall⟩ := tu_st hun
      injection hd with hd; subst hd
      simp only [Option.map_eq_some_iff] at ha
      obtain ⟨cs, hf, rfl⟩ := ha
      rw [hzr] at hf
      obtain ⟨vs, g1, g2⟩ := aFill_sound _ _ _ _ _ z.cells (CellsR.zero (K := G.K) z.cells hz1) hp.1 hp.2 hf
      refine ⟨.agg vs, run_build w t _ vs ?_, .k _ _ (.agg _ _ g2.1 g2.2.1 g2.2.2)⟩
      unfold Program.built
      simp only [hi, hu, hz, fields_ok hall, map_parts]
      rw [← g1]
      congr 1
      funext j
      rw [hfs]; simp
    · rename_i n e hun
      rw [un_eq, hu] at hun
      have hd := tu_arr hun
      injection hd with hd; subst hd
      split at ha
      · rename_i hok2
        obtain ⟨ie, ze, de, hie, _, _, _, hsze, _⟩ := ti_ok hok2
        simp only [Option.map_eq_some_iff] at ha
        obtain ⟨cs, hf, rfl⟩ := ha
        rw [hzr] at hf
        obtain ⟨vs, g1, g2⟩ := aFill_sound _ _ _ _ _ z.cells (CellsR.zero (K := G.K) z.cells hz1) hp.1 hp.2 hf
        refine ⟨.agg vs, run_build w t _ vs ?_, .k _ _ (.agg _ _ g2.1 g2.2.1 g2.2.2)⟩
        unfold Program.built
        simp only [hi, hu, hz, hie, map_parts]
        rw [← g1, hsze]
      · cases ha
    · cases ha
  · cases ha
theorem aByte_rep {K : Kd} {x : AV} {v : Value} {b : UInt8} (hk : KRep K x v) (hb : aByte x = some b) : ∃ n : Int, v = .int .u8 n ∧ b = UInt8.ofNat n.toNat := by
  unfold aByte at hb
  split at hb
  · rename_i n
    injection hb with hb
    cases hk with | int => exact ⟨n, rfl, hb.symm⟩
  · cases hb
theorem aBytes_rep {K : Kd} : ∀ {cs : List AV} {vs : List Value} {l : List UInt8}, vs.length = cs.length → (∀ (i : Nat) (x : AV) (v : Value), cs[i]? = some x → vs[i]? = some v → KRep K x v) → aBytes cs = some l →
    ∃ ns : List Int, vs = ns.map (Value.int .u8) ∧ l = ns.map fun n => UInt8.ofNat n.toNat
  | [], [], l, _, _, ha => by simp only [aBytes, Option.some.injEq] at ha; subst ha; exact ⟨[], rfl, rfl⟩
  | [], _ :: _, _, hl, _, _ => by simp at hl
  | _ :: _, [], _, hl, _, _ => by simp at hl
  | x :: cs, v :: vs, l, hl, hr, ha => by
    simp only [aBytes] at ha
    split at ha
    · rename_i b l' hb hl'
      injection ha with ha; subst ha
      obtain ⟨n, rfl, rfl⟩ := aByte_rep (hr 0 x v rfl rfl) hb
      obtain ⟨ns, rfl, rfl⟩ := aBytes_rep (by simpa using hl) (fun i x v h1 h2 => hr (i + 1) x v (by simpa using h1) (by simpa using h2)) hl'
      exact ⟨n :: ns, rfl, rfl⟩
    · cases ha
theorem push_all (ns : List Int) : ns.foldl (fun r n => r.push (UInt8.ofNat n.toNat)) ByteArray.empty = ⟨(ns.map fun n => UInt8.ofNat n.toNat).toArray⟩ := by
  have gen : ∀ (ns : List Int) (r : ByteArray), ns.foldl (fun r n => r.push (UInt8.ofNat n.toNat)) r = ⟨r.data ++ (ns.map fun n => UInt8.ofNat n.toNat).toArray⟩ := by
    intro ns
    induction ns with
    | nil => intro r; simp
    | cons n ns ih =>
      intro r
      rw [List.foldl_cons, ih]
      congr 1
      show r.data.push _ ++ _ = _
      simp
  rw [gen]
  congr 1
  show #[] ++ _ = _
  simp
theorem aConv_sound (h : Real P w0 K0 G us s a w) {t u : TypeId} {x y : SV} {v : Value} (hx : SRep G x v) (ha : aConv P s t u x = some y) : ∃ r, (convert t u v).run P w = .ok r w ∧ SRep G y r := by
  unfold aConv at ha
  split at ha
  · rename_i hok
    obtain ⟨i, z, d, hi, hz, hzs, hz1, hsz, _, hzr, hu⟩ := ti_ok hok
    split at ha
    · rename_i e hun1 hun2
      have ht := tu_sl hun1
      have hd2 := tu_str hun2
      split at ha
      · rename_i hune
        have he := tu_int hune
        simp only [Option.map_eq_some_iff, Option.bind_eq_some_iff] at ha
        obtain ⟨l, ⟨⟨n, cs⟩, hc, hb⟩, rfl⟩ := ha
        obtain ⟨ad, cap, rfl, hl, hmem⟩ := h.cont hc hx
        rw [Nat.mul_one] at hl
        have hconv : (convert t u (.slice ad n cap)).run P w = (Conv.bytesToString (.slice ad n cap)).run P w := by
          cases ad <;> simp [convert, run_underlying ht, run_underlying hd2, run_underlying he]
        rw [hconv]
        simp only at hb hl
        rcases hmem with hnil | ⟨b, o, rfl, hcr⟩
        · have hnil' : cs = [] := hnil
          subst hnil'
          simp at hl; subst hl
          simp only [aBytes, Option.some.injEq] at hb; subst hb
          cases ad with
          | none => exact ⟨_, rfl, .k _ _ (.str _)⟩
          | some p =>
            have hl0 : (loadCells p 0).run P w = .ok (([] : List Int).map (Value.int .u8)).toArray w := rfl
            exact ⟨_, run_bytesToString w p 0 cap [] hl0, .k _ _ (.str _)⟩
        · obtain ⟨vs, k1, k2, k3, k4⟩ := hcr.vals
          obtain ⟨ns, rfl, rfl⟩ := aBytes_rep k1 k4 hb
          have hrun := run_loadCells_list (P := P) w ⟨b, o, none⟩ _ k2
          rw [k1, hl] at hrun
          refine ⟨_, run_bytesToString w ⟨b, o, none⟩ n cap ns hrun, ?_⟩
          rw [push_all]
          exact .k _ _ (.str _)
      · cases ha
    · rename_i k hns hun2
      have hd2 := tu_int hun2
      split at ha
      · rename_i k' n hxa
        injection ha with ha; subst ha
        have hk := hx.av
        rw [hxa] at hk
        cases hk with
        | int => exact ⟨_, by simp [convert, run_underlying hu, run_underlying hd2, Conv.intToInt], .k _ _ (.int _ _)⟩
      · cases ha
    · cases ha
  · cases ha
theorem lenSV_sound {t : TypeId} {G : Gh} {x : SV} {v : Value} {n : Nat} (ty : TypeId) (hx : SRep G x v) (hn : lenSV (tiOf P t).un x = some n) : (Builtin.len_ #[t] ty #[v]).run P w = .ok (.int .i64 n) w := by
  unfold lenSV at hn
  split at hn
  · rename_i e full n' cs hun
    injection hn with hn; subst hn
    cases hx with
    | k x v hk =>
      have ht := tu_sl hun
      cases hk <;> simp [Builtin.len_, run_underlying ht, goInt]
  · rename_i e d g n' e' cs hun
    injection hn with hn; subst hn
    have ht := tu_sl hun
    cases hx with
    | ow d g n'' e cells r hr he hn hl hx hk =>
      have : ∃ ad cap, r.v = .slice ad n' cap := by
        generalize r.v = q at hk
        cases hk <;> exact ⟨_, _, rfl⟩
      obtain ⟨ad, cap, e⟩ := this
      rw [e]
      simp [Builtin.len_, run_underlying ht, goInt]
  · rename_i e d g off n' cap hun
    injection hn with hn; subst hn
    have ht := tu_sl hun
    cases hx with
    | os => simp [Builtin.len_, run_underlying ht, goInt]
  · rename_i b hun
    injection hn with hn; subst hn
    have ht := tu_str hun
    cases hx with
    | k x v hk => cases hk with | str => simp [Builtin.len_, run_underlying ht, goInt]
  · rename_i n' e hun
    injection hn with hn; subst hn
    have ht := tu_arr hun
    simp [Builtin.len_, run_underlying ht, goInt]
  · cases hn
theorem pickSV_sound {G : Gh} {t : Bool} {x y : SV} {u v : Value} (hx : SRep G x u) (hy : SRep G y v) : SRep G (pickSV t x y) (if t then u else v) := by
  unfold pickSV
  split
  · rename_i p q
    cases hx with
    | k _ _ hk => cases hk with
      | bool => cases hy with
        | k _ _ hk' => cases hk' with
          | bool => cases t <;> exact .k _ _ (.bool _)
  · cases t
    · exact hy
    · exact hx
theorem aUn_sound {K : Kd} {op : UnOp} {x y : AV} {v : Value} (hx : KRep K x v) (ha : aUn op x = some y) : ∃ r, (Op.unary op v).run P w = .ok r w ∧ KRep K y r := by
  unfold aUn at ha
  split at ha
  · injection ha with ha; subst ha
    cases hx with | bool => exact ⟨_, rfl, .bool _⟩
  · injection ha with ha; subst ha
    cases hx with | int => exact ⟨_, rfl, .int _ _⟩
  · injection ha with ha; subst ha
    cases hx with | int => exact ⟨_, rfl, .int _ _⟩
  · cases ha
theorem aInt_sound {K : Kd} {op : BinOp} {k k' : IntKind} {x y : Int} {r : AV} (t : TypeId) (ha : aInt op k k' x y = some r) : ∃ v, (binOp op t (.int k x) (.int k' y)).run P w = .ok v w ∧ KRep K r v := by
  unfold aInt at ha
  split at ha
  · split at ha
    · rename_i h0
      injection ha with ha; subst ha
      exact ⟨_, by simp [binOp, Op.shift, Int.not_lt.2 h0], .int _ _⟩
    · cases ha
  · split at ha
    · rename_i h0
      injection ha with ha; subst ha
      exact ⟨_, by simp [binOp, Op.shift, Int.not_lt.2 h0], .int _ _⟩
    · cases ha
  · rename_i n1 n2
    split at ha
    · rename_i e
      subst e
      split at ha
      all_goals first
        | cases ha; done
        | (injection ha with ha; subst ha; refine ⟨_, ?_, .int _ _⟩; simp [binOp, Op.intArith]; done)
        | (injection ha with ha; subst ha; refine ⟨_, ?_, .int _ _⟩; simp [binOp]; rfl)
        | (split at ha
           · cases ha
           · rename_i h0; injection ha with ha; subst ha; refine ⟨_, ?_, .int _ _⟩; simp [binOp, Op.intDiv, h0])
        | (injection ha with ha; subst ha; refine ⟨_, ?_, .bool _⟩; simp [binOp, Op.intCmp]; done)
        | (injection ha with ha; subst ha; refine ⟨_, ?_, .bool _⟩; simp [binOp, Op.intCmp]; rfl)
    · cases ha
end

end Go.Proofs.Ytikganlbnhapcaa
