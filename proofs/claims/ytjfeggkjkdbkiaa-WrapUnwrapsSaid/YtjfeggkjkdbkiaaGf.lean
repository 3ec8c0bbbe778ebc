namespace Go.Proofs.Ytjfeggkjkdbkiaa
set_option linter.unusedVariables false

/-! the field of 256 elements -/
def xtime (a : BitVec 8) : BitVec 8 := (a <<< 1) ^^^ ((a >>> 7) * 27#8)
def gmulAux : Nat → BitVec 8 → BitVec 8 → BitVec 8 → BitVec 8
  | 0, out, _, _ => out
  | n + 1, out, a, b => gmulAux n (if b.getLsbD 0 then out ^^^ a else out) (xtime a) (b >>> 1)
def gmul (a b : BitVec 8) : BitVec 8 := gmulAux 8 0#8 a b

theorem xtime_eq : ∀ a : BitVec 8, xtime a = (a <<< 1) ^^^ (if a.getLsbD 7 then 27#8 else 0#8) := by decide +kernel
theorem x4 (a b c d : BitVec 8) : (a ^^^ b) ^^^ (c ^^^ d) = (a ^^^ c) ^^^ (b ^^^ d) := by ac_rfl
theorem xtime_xor (a b : BitVec 8) : xtime (a ^^^ b) = xtime a ^^^ xtime b := by
  rw [xtime_eq, xtime_eq, xtime_eq, BitVec.getLsbD_xor, BitVec.shiftLeft_xor_distrib, x4]
  congr 1
  cases a.getLsbD 7 <;> cases b.getLsbD 7 <;> decide
theorem xtime_zero : xtime 0#8 = 0#8 := by decide

theorem gmulAux_xor_right (n : Nat) (o p a b c : BitVec 8) : gmulAux n (o ^^^ p) a (b ^^^ c) = gmulAux n o a b ^^^ gmulAux n p a c := by
  induction n generalizing o p a b c with
  | zero => rfl
  | succ n ih =>
    simp only [gmulAux]
    rw [BitVec.ushiftRight_xor_distrib, ← ih, BitVec.getLsbD_xor]
    congr 1
    cases b.getLsbD 0 <;> cases c.getLsbD 0 <;> simp
    · ac_rfl
    · ac_rfl
    · rw [x4, BitVec.xor_self, BitVec.xor_zero]
theorem gmul_xor_right (a b c : BitVec 8) : gmul a (b ^^^ c) = gmul a b ^^^ gmul a c := gmulAux_xor_right 8 0#8 0#8 a b c
theorem gmulAux_xor_left (n : Nat) (o p a c b : BitVec 8) : gmulAux n (o ^^^ p) (a ^^^ c) b = gmulAux n o a b ^^^ gmulAux n p c b := by
  induction n generalizing o p a b c with
  | zero => rfl
  | succ n ih =>
    simp only [gmulAux]
    rw [xtime_xor, ← ih]
    congr 1
    cases b.getLsbD 0
    · rfl
    · exact x4 _ _ _ _
theorem gmul_xor_left (a b c : BitVec 8) : gmul (a ^^^ b) c = gmul a c ^^^ gmul b c := gmulAux_xor_left 8 0#8 0#8 a b c
theorem gmulAux_xtime (n : Nat) (o a b : BitVec 8) : gmulAux n (xtime o) (xtime a) b = xtime (gmulAux n o a b) := by
  induction n generalizing o a b with
  | zero => rfl
  | succ n ih =>
    simp only [gmulAux]
    rw [← ih]
    congr 1
    cases b.getLsbD 0
    · rfl
    · exact (xtime_xor _ _).symm
theorem gmul_xtime_left (a b : BitVec 8) : gmul (xtime a) b = xtime (gmul a b) := by
  have := gmulAux_xtime 8 0#8 a b
  rwa [xtime_zero] at this

/-- an additive function is known by what it does to eight bytes -/
theorem split8 : ∀ x : BitVec 8, x = (x &&& 1#8) ^^^ (x &&& 2#8) ^^^ (x &&& 4#8) ^^^ (x &&& 8#8) ^^^ (x &&& 16#8) ^^^ (x &&& 32#8) ^^^ (x &&& 64#8) ^^^ (x &&& 128#8) := by decide +kernel
theorem andbit : ∀ x : BitVec 8, ∀ i : Fin 8, x &&& (1#8 <<< i.val) = 0#8 ∨ x &&& (1#8 <<< i.val) = 1#8 <<< i.val := by decide +kernel
theorem additive_zero {f : BitVec 8 → BitVec 8} (hf : ∀ x y, f (x ^^^ y) = f x ^^^ f y) : f 0#8 = 0#8 := by
  have := hf 0#8 0#8
  rw [BitVec.xor_zero] at this
  have h2 := congrArg (f 0#8 ^^^ ·) this
  simp only [BitVec.xor_self] at h2
  rw [BitVec.xor_zero] at h2
  exact h2.symm
theorem additive_ext {f g : BitVec 8 → BitVec 8} (hf : ∀ x y, f (x ^^^ y) = f x ^^^ f y) (hg : ∀ x y, g (x ^^^ y) = g x ^^^ g y)
    (h : ∀ i : Fin 8, f (1#8 <<< i.val) = g (1#8 <<< i.val)) (x : BitVec 8) : f x = g x := by
  have f0 := additive_zero hf
  have g0 := additive_zero hg
  have hb : ∀ i : Fin 8, f (x &&& (1#8 <<< i.val)) = g (x &&& (1#8 <<< i.val)) := fun i => by
    rcases andbit x i with e | e <;> rw [e]
    · rw [f0, g0]
    · exact h i
  rw [split8 x]
  simp only [hf, hg]
  have e0 := hb 0; have e1 := hb 1; have e2 := hb 2; have e3 := hb 3; have e4 := hb 4; have e5 := hb 5; have e6 := hb 6; have e7 := hb 7
  have k0 : (1#8 <<< (0 : Fin 8).val) = 1#8 := by decide
  have k1 : (1#8 <<< (1 : Fin 8).val) = 2#8 := by decide
  have k2 : (1#8 <<< (2 : Fin 8).val) = 4#8 := by decide
  have k3 : (1#8 <<< (3 : Fin 8).val) = 8#8 := by decide
  have k4 : (1#8 <<< (4 : Fin 8).val) = 16#8 := by decide
  have k5 : (1#8 <<< (5 : Fin 8).val) = 32#8 := by decide
  have k6 : (1#8 <<< (6 : Fin 8).val) = 64#8 := by decide
  have k7 : (1#8 <<< (7 : Fin 8).val) = 128#8 := by decide
  rw [k0] at e0; rw [k1] at e1; rw [k2] at e2; rw [k3] at e3; rw [k4] at e4; rw [k5] at e5; rw [k6] at e6; rw [k7] at e7
  rw [e0, e1, e2, e3, e4, e5, e6, e7]

theorem gmul_basis : ∀ i : Fin 8, ∀ j : Fin 8, gmul (1#8 <<< i.val) (1#8 <<< j.val) = gmul (1#8 <<< j.val) (1#8 <<< i.val) := by decide +kernel
theorem gmul_comm (a b : BitVec 8) : gmul a b = gmul b a := by
  refine additive_ext (f := fun a => gmul a b) (g := fun a => gmul b a) (fun x y => gmul_xor_left x y b) (fun x y => gmul_xor_right b x y) (fun i => ?_) a
  exact additive_ext (f := fun b => gmul (1#8 <<< i.val) b) (g := fun b => gmul b (1#8 <<< i.val)) (fun x y => gmul_xor_right _ x y) (fun x y => gmul_xor_left x y _) (fun j => gmul_basis i j) b
theorem gmul_xtime_right (a b : BitVec 8) : gmul a (xtime b) = xtime (gmul a b) := by rw [gmul_comm, gmul_xtime_left, gmul_comm]
theorem gmul_one (a : BitVec 8) : gmul a 1#8 = a := by revert a; decide +kernel
theorem gmul_zero (a : BitVec 8) : gmul a 0#8 = 0#8 := additive_zero (f := gmul a) (gmul_xor_right a)
theorem gmulAux_assoc (n : Nat) (a o b c : BitVec 8) : gmul a (gmulAux n o b c) = gmulAux n (gmul a o) (gmul a b) c := by
  induction n generalizing o b c with
  | zero => rfl
  | succ n ih =>
    simp only [gmulAux]
    rw [ih, gmul_xtime_right]
    congr 1
    cases c.getLsbD 0
    · rfl
    · exact gmul_xor_right _ _ _
theorem gmul_assoc (a b c : BitVec 8) : gmul a (gmul b c) = gmul (gmul a b) c := by
  have := gmulAux_assoc 8 a 0#8 b c
  rwa [gmul_zero] at this

/-! the inverse and the tables -/
def ginvAux : Nat → BitVec 8 → BitVec 8 → BitVec 8
  | 0, out, _ => out
  | n + 1, out, a => ginvAux n (gmul out (gmul a a)) (gmul a a)
def ginv (a : BitVec 8) : BitVec 8 := ginvAux 7 1#8 a
def rotl8 (c : BitVec 8) (n : Nat) : BitVec 8 := (c <<< n) ||| (c >>> (8 - n))
def sboxOf (c : BitVec 8) : BitVec 8 := c ^^^ 99#8 ^^^ rotl8 c 1 ^^^ rotl8 c 2 ^^^ rotl8 c 3 ^^^ rotl8 c 4
def sTab : List Nat := [99, 124, 119, 123, 242, 107, 111, 197, 48, 1, 103, 43, 254, 215, 171, 118, 202, 130, 201, 125, 250, 89, 71, 240, 173, 212, 162, 175, 156, 164, 114, 192, 183, 253, 147, 38, 54, 63, 247, 204, 52, 165, 229, 241, 113, 216, 49, 21, 4, 199, 35, 195, 24, 150, 5, 154, 7, 18, 128, 226, 235, 39, 178, 117, 9, 131, 44, 26, 27, 110, 90, 160, 82, 59, 214, 179, 41, 227, 47, 132, 83, 209, 0, 237, 32, 252, 177, 91, 106, 203, 190, 57, 74, 76, 88, 207, 208, 239, 170, 251, 67, 77, 51, 133, 69, 249, 2, 127, 80, 60, 159, 168, 81, 163, 64, 143, 146, 157, 56, 245, 188, 182, 218, 33, 16, 255, 243, 210, 205, 12, 19, 236, 95, 151, 68, 23, 196, 167, 126, 61, 100, 93, 25, 115, 96, 129, 79, 220, 34, 42, 144, 136, 70, 238, 184, 20, 222, 94, 11, 219, 224, 50, 58, 10, 73, 6, 36, 92, 194, 211, 172, 98, 145, 149, 228, 121, 231, 200, 55, 109, 141, 213, 78, 169, 108, 86, 244, 234, 101, 122, 174, 8, 186, 120, 37, 46, 28, 166, 180, 198, 232, 221, 116, 31, 75, 189, 139, 138, 112, 62, 181, 102, 72, 3, 246, 14, 97, 53, 87, 185, 134, 193, 29, 158, 225, 248, 152, 17, 105, 217, 142, 148, 155, 30, 135, 233, 206, 85, 40, 223, 140, 161, 137, 13, 191, 230, 66, 104, 65, 153, 45, 15, 176, 84, 187, 22]
def iTab : List Nat := [82, 9, 106, 213, 48, 54, 165, 56, 191, 64, 163, 158, 129, 243, 215, 251, 124, 227, 57, 130, 155, 47, 255, 135, 52, 142, 67, 68, 196, 222, 233, 203, 84, 123, 148, 50, 166, 194, 35, 61, 238, 76, 149, 11, 66, 250, 195, 78, 8, 46, 161, 102, 40, 217, 36, 178, 118, 91, 162, 73, 109, 139, 209, 37, 114, 248, 246, 100, 134, 104, 152, 22, 212, 164, 92, 204, 93, 101, 182, 146, 108, 112, 72, 80, 253, 237, 185, 218, 94, 21, 70, 87, 167, 141, 157, 132, 144, 216, 171, 0, 140, 188, 211, 10, 247, 228, 88, 5, 184, 179, 69, 6, 208, 44, 30, 143, 202, 63, 15, 2, 193, 175, 189, 3, 1, 19, 138, 107, 58, 145, 17, 65, 79, 103, 220, 234, 151, 242, 207, 206, 240, 180, 230, 115, 150, 172, 116, 34, 231, 173, 53, 133, 226, 249, 55, 232, 28, 117, 223, 110, 71, 241, 26, 113, 29, 41, 197, 137, 111, 183, 98, 14, 170, 24, 190, 27, 252, 86, 62, 75, 198, 210, 121, 32, 154, 219, 192, 254, 120, 205, 90, 244, 31, 221, 168, 51, 136, 7, 199, 49, 177, 18, 16, 89, 39, 128, 236, 95, 96, 81, 127, 169, 25, 181, 74, 13, 45, 229, 122, 159, 147, 201, 156, 239, 160, 224, 59, 77, 174, 42, 245, 176, 200, 235, 187, 60, 131, 83, 153, 97, 23, 43, 4, 126, 186, 119, 214, 38, 225, 105, 20, 99, 85, 33, 12, 125]
def sbox (a : BitVec 8) : BitVec 8 := BitVec.ofNat 8 (sTab.getD a.toNat 0)
def ibox (a : BitVec 8) : BitVec 8 := BitVec.ofNat 8 (iTab.getD a.toNat 0)
theorem sbox_is : ∀ a : BitVec 8, sboxOf (ginv a) = sbox a := by decide +kernel
theorem ibox_sbox : ∀ a : BitVec 8, ibox (sbox a) = a := by decide +kernel
theorem sbox_ibox : ∀ a : BitVec 8, sbox (ibox a) = a := by decide +kernel
theorem ginv_mul : ∀ a : BitVec 8, gmul a (ginv a) = if a = 0#8 then 0#8 else 1#8 := by decide +kernel
theorem sbox_ne : ∀ a : BitVec 8, sbox a ≠ a := by decide +kernel

/-! the reference's product -/
def rprodAux (a b : BitVec 8) : Nat → BitVec 16
  | 0 => 0#16
  | i + 1 => if b.getLsbD i then rprodAux a b i ^^^ (a.setWidth 16 <<< i) else rprodAux a b i
def rredAux : Nat → BitVec 16 → BitVec 16
  | 0, n => n
  | i + 1, n => rredAux i (if n.getLsbD (i + 8) then n ^^^ (283#16 <<< i) else n)
def rmul (a b : BitVec 8) : BitVec 8 := (rredAux 7 (rprodAux a b 8)).setWidth 8
theorem x4_16 (a b c d : BitVec 16) : (a ^^^ b) ^^^ (c ^^^ d) = (a ^^^ c) ^^^ (b ^^^ d) := by ac_rfl
theorem rprodAux_xor (a b c : BitVec 8) (i : Nat) : rprodAux a (b ^^^ c) i = rprodAux a b i ^^^ rprodAux a c i := by
  induction i with
  | zero => simp [rprodAux]
  | succ i ih =>
    simp only [rprodAux]
    rw [BitVec.getLsbD_xor, ih]
    cases b.getLsbD i <;> cases c.getLsbD i <;> simp
    · ac_rfl
    · ac_rfl
    · rw [x4_16, BitVec.xor_self, BitVec.xor_zero]
theorem rredAux_xor (i : Nat) (m n : BitVec 16) : rredAux i (m ^^^ n) = rredAux i m ^^^ rredAux i n := by
  induction i generalizing m n with
  | zero => rfl
  | succ i ih =>
    simp only [rredAux]
    rw [← ih, BitVec.getLsbD_xor]
    congr 1
    cases m.getLsbD (i + 8) <;> cases n.getLsbD (i + 8) <;> simp
    · ac_rfl
    · ac_rfl
    · rw [x4_16, BitVec.xor_self, BitVec.xor_zero]
theorem rmul_xor (a b c : BitVec 8) : rmul a (b ^^^ c) = rmul a b ^^^ rmul a c := by
  unfold rmul
  rw [rprodAux_xor, rredAux_xor]
  apply BitVec.eq_of_getLsbD_eq
  intro i hi
  simp
theorem rmul_basis : ∀ a : BitVec 8, ∀ i : Fin 8, rmul a (1#8 <<< i.val) = gmul a (1#8 <<< i.val) := by decide +kernel
theorem rmul_eq (a b : BitVec 8) : rmul a b = gmul a b :=
  additive_ext (f := rmul a) (g := gmul a) (rmul_xor a) (gmul_xor_right a) (rmul_basis a) b

end Go.Proofs.Ytjfeggkjkdbkiaa
