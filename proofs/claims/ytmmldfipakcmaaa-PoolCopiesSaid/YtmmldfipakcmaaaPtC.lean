/- One operation's evaluation is sound against the model. No condition. -/
import Derived.Test.YtmmldfipakcmaaaPtB
set_option linter.unusedVariables false
namespace Go.Pt
open Go

variable {P : Program} {n : Nat} {e : Env} {a : Act} {o : Oper} {w : World}

theorem run_typeInfo' {t : TypeId} {i : TypeInfo} (h : P.info? t = some i) (w : World) : (typeInfo t).run P w = .ok i w := by
  simp [typeInfo, h]

theorem run_sizeOf' {t : TypeId} (h : (P.info? t).isSome = true) (w : World) : (sizeOf t).run P w = .ok (sizeT P t) w := by
  cases hi : P.info? t with
  | none => simp [hi] at h
  | some i => simp [sizeOf, sizeT, run_typeInfo' hi, hi]

theorem run_zeroValue' {t : TypeId} {z : Value} (h : (P.info? t).bind (·.zero) = some z) (w : World) : (zeroValue t).run P w = .ok z w := by
  cases hi : P.info? t with
  | none => simp [hi] at h
  | some i =>
    simp [hi] at h
    simp [zeroValue, run_typeInfo' hi, h]

theorem info_of_underlying {t : TypeId} {d : TypeDesc} (h : P.underlying t = some d) : (P.info? t).isSome = true := by
  unfold Program.underlying at h
  cases hi : P.info? t with
  | none => simp [hi] at h
  | some i => rfl

theorem info_of_size {t : TypeId} {k : Nat} (h : Nat.beq (sizeT P t) (k + 1) = true) : (P.info? t).isSome = true := by
  cases hi : P.info? t with
  | none => simp [sizeT, hi] at h
  | some i => rfl

theorem beq_kind {j k : IntKind} (h : (j == k) = true) : j = k := by simpa using h

theorem run_isAgg {t : TypeId} (h : (P.underlying t).isSome = true) (w : World) : (isAgg t).run P w = .ok (isAggT P t) w := by
  cases hd : P.underlying t with
  | none => simp [hd] at h
  | some d => cases d <;> simp [isAgg, isAggT, run_underlying hd, hd]

theorem isAggT_some {t : TypeId} (h : isAggT P t = true) : (P.underlying t).isSome = true := by
  unfold isAggT at h
  split at h <;> simp_all

/-! ### '==' -/
def eqb (neg : Bool) : BinOp := if neg then .neq else .eql

theorem isNilConst_const {y : Operand} (h : isNilConst y = true) : ∃ u, y = .const u := by
  unfold isNilConst at h
  split at h <;> first | exact ⟨_, rfl⟩ | cases h

theorem binOp_of_equal {t : TypeId} {v u : Value} {r : Bool} (neg : Bool) (hr : (Op.equalIn 10000 t v u).run P w = .ok r w)
    (h1 : ∀ k i, v ≠ .int k i) (h2 : ∀ s, v ≠ .string s) (h3 : ∀ k i, v ≠ .float k i) (h4 : ∀ k i j, v ≠ .complex k i j) :
    (binOp (eqb neg) t v u).run P w = .ok (.bool (if neg then !r else r)) w := by
  have he : (Op.equal t v u).run P w = .ok r w := hr
  cases neg <;> cases v <;> simp only [eqb, if_true, if_false, Bool.false_eq_true] <;>
    first
      | exact absurd rfl (h1 _ _)
      | exact absurd rfl (h2 _)
      | exact absurd rfl (h3 _ _)
      | exact absurd rfl (h4 _ _ _)
      | (simp only [binOp]; simp [he])

theorem eqGuard_const_right {t : TypeId} {x : Operand} {c u v : Value} {op : BinOp} (hv : ∀ cs, v ≠ .agg cs) : eqGuard op t x (.const c) u v = pure () := by
  cases op <;> cases u <;> cases v <;> first
    | rfl
    | exact absurd rfl (hv _)
    | (cases x <;> rfl)

theorem eqGuard_const_left {t : TypeId} {y : Operand} {c u v : Value} {op : BinOp} (hv : ∀ cs, v ≠ .agg cs) : eqGuard op t (.const c) y u v = pure () := by
  cases op <;> cases u <;> cases v <;> first
    | rfl
    | exact absurd rfl (hv _)

theorem eqIn_ptr {t d : Nat} (D : Nat) (hd : P.underlying t = some (.pointer d)) (p : Option Addr) (w : World) :
    (Op.equalIn (D + 1) t (.pointer p) (.pointer none)).run P w = .ok p.isNone w ∧ (Op.equalIn (D + 1) t (.pointer none) (.pointer p)).run P w = .ok p.isNone w := by
  cases p <;> constructor <;> simp [Op.equalIn, run_underlying hd]
theorem eqIn_slice {t d : Nat} (D : Nat) (hd : P.underlying t = some (.slice d)) (p : Option Addr) (i j k l : Nat) (w : World) :
    (Op.equalIn (D + 1) t (.slice p i j) (.slice none k l)).run P w = .ok p.isNone w ∧ (Op.equalIn (D + 1) t (.slice none k l) (.slice p i j)).run P w = .ok p.isNone w := by
  cases p <;> constructor <;> simp [Op.equalIn, run_underlying hd]
theorem eqIn_map {t d1 d2 : Nat} (D : Nat) (hd : P.underlying t = some (.map d1 d2)) (p : Option Nat) (w : World) :
    (Op.equalIn (D + 1) t (.map p) (.map none)).run P w = .ok p.isNone w ∧ (Op.equalIn (D + 1) t (.map none) (.map p)).run P w = .ok p.isNone w := by
  cases p <;> constructor <;> simp [Op.equalIn, run_underlying hd]
theorem eqIn_iface {t : Nat} {ms} (D : Nat) (hd : P.underlying t = some (.interface ms)) (v : Value) (hv : isIface v = true) (w : World) :
    (Op.equalIn (D + 1) t v .nilIface).run P w = .ok (isNilI v) w ∧ (Op.equalIn (D + 1) t .nilIface v).run P w = .ok (isNilI v) w := by
  cases v <;> simp [isIface] at hv <;> constructor <;> simp [Op.equalIn, run_underlying hd, isNilI]
theorem eqIn_fn {t : Nat} {d1 d2 d3} (D : Nat) (hd : P.underlying t = some (.func d1 d2 d3)) (v : Value) (hv : isFn v = true) (w : World) :
    (Op.equalIn (D + 1) t v .nilFunc).run P w = .ok (isNilF v) w ∧ (Op.equalIn (D + 1) t .nilFunc v).run P w = .ok (isNilF v) w := by
  cases v <;> simp [isFn] at hv <;> constructor <;> simp [Op.equalIn, run_underlying hd, isNilF]

theorem nilEq_run {t : TypeId} {v u : Value} {K : Bool → Prop} (h : nilEq (std P) P t v u K) :
    ∃ r, K r ∧ (∀ cs, v ≠ .agg cs) ∧ (∀ cs, u ≠ .agg cs) ∧ ∀ (w : World) (neg : Bool), (binOp (eqb neg) t v u).run P w = .ok (.bool (if neg then !r else r)) w ∧ (binOp (eqb neg) t u v).run P w = .ok (.bool (if neg then !r else r)) w := by
  unfold nilEq at h
  split at h
  · rename_i d hd
    split at h
    · rename_i p
      exact ⟨_, h, by simp, by simp, fun w neg => ⟨binOp_of_equal neg (eqIn_ptr 9999 hd p w).1 (by simp) (by simp) (by simp) (by simp), binOp_of_equal neg (eqIn_ptr 9999 hd p w).2 (by simp) (by simp) (by simp) (by simp)⟩⟩
    · exact h.elim
  · rename_i d hd
    split at h
    · rename_i p i j k l
      exact ⟨_, h, by simp, by simp, fun w neg => ⟨binOp_of_equal neg (eqIn_slice 9999 hd p i j k l w).1 (by simp) (by simp) (by simp) (by simp), binOp_of_equal neg (eqIn_slice 9999 hd p i j k l w).2 (by simp) (by simp) (by simp) (by simp)⟩⟩
    · exact h.elim
  · rename_i d1 d2 hd
    split at h
    · rename_i p
      exact ⟨_, h, by simp, by simp, fun w neg => ⟨binOp_of_equal neg (eqIn_map 9999 hd p w).1 (by simp) (by simp) (by simp) (by simp), binOp_of_equal neg (eqIn_map 9999 hd p w).2 (by simp) (by simp) (by simp) (by simp)⟩⟩
    · exact h.elim
  · rename_i ms hd
    split at h
    · obtain ⟨hi, hk⟩ := h
      refine ⟨_, hk, ?_, by simp, fun w neg => ⟨binOp_of_equal neg (eqIn_iface 9999 hd v hi w).1 ?_ ?_ ?_ ?_, binOp_of_equal neg (eqIn_iface 9999 hd v hi w).2 (by simp) (by simp) (by simp) (by simp)⟩⟩ <;>
        (intros; intro hv; subst hv; simp [isIface] at hi)
    · exact h.elim
  · rename_i d1 d2 d3 hd
    split at h
    · obtain ⟨hi, hk⟩ := h
      refine ⟨_, hk, ?_, by simp, fun w neg => ⟨binOp_of_equal neg (eqIn_fn 9999 hd v hi w).1 ?_ ?_ ?_ ?_, binOp_of_equal neg (eqIn_fn 9999 hd v hi w).2 (by simp) (by simp) (by simp) (by simp)⟩⟩ <;>
        (intros; intro hv; subst hv; simp [isFn] at hi)
    · exact h.elim
  · exact h.elim

theorem eqOp_run {t : TypeId} {x y : Operand} {K : Bool → Prop} (h : eqOp (std P) P t x y e K) (hr : Rel n e a) :
    ∃ r, K r ∧ ∀ (w : World) (neg : Bool), (do eqGuard (eqb neg) t x y (a.eval x) (a.eval y); binOp (eqb neg) t (a.eval x) (a.eval y) : Sem Value).run P w = .ok (.bool (if neg then !r else r)) w := by
  unfold eqOp at h
  split at h
  · rename_i va vb hx hy
    rw [hr.ev hx, hr.ev hy]
    cases hny : isNilConst y with
    | true =>
      simp only [hny, cond_true] at h
      obtain ⟨r, hk, n1, n2, hrun⟩ := nilEq_run h
      obtain ⟨c, rfl⟩ := isNilConst_const hny
      exact ⟨r, hk, fun w neg => by rw [eqGuard_const_right n2]; exact (hrun w neg).1⟩
    | false =>
      simp only [hny, cond_false] at h
      cases hnx : isNilConst x with
      | true =>
        simp only [hnx, cond_true] at h
        obtain ⟨r, hk, n1, n2, hrun⟩ := nilEq_run h
        obtain ⟨c, rfl⟩ := isNilConst_const hnx
        exact ⟨r, hk, fun w neg => by rw [eqGuard_const_left n1]; exact (hrun w neg).2⟩
      | false =>
        simp only [hnx, cond_false] at h
        split at h
        · rename_i k p j q
          cases hkj : k == j with
          | true =>
            simp only [hkj, cond_true] at h
            obtain rfl := beq_kind hkj
            refine ⟨_, h, fun w neg => ?_⟩
            cases neg <;> simp [eqb, eqGuard_at_int, binOp_eql, binOp_neq, bne]
          | false => simp only [hkj, cond_false] at h
        · rename_i p q
          split at h
          · rename_i hd
            refine ⟨_, h, fun w neg => ?_⟩
            cases neg <;> simp [eqb, eqGuard_at_bool, run_eql_bool w t p q hd, run_neq_bool w t p q hd]
          · exact h.elim
        · rename_i p q
          refine ⟨_, h, fun w neg => ?_⟩
          cases neg <;> simp [eqb, eqGuard_at_string, binOp, Op.stringOp]
        · exact h.elim
  · exact h.elim

end Go.Pt
