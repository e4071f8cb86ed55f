/- '==' of whole structs and arrays, evaluated. No condition. -/
import Derived.Test.YtmmldfipakcmaaaPtI
import Derived.ChangeKeysEq
set_option linter.unusedVariables false
namespace Go.Pt
open Go

def prt (P : Program) (t : TypeId) (cs : Array Value) (off : Nat) : Option Value :=
  bif okT P t then bif isAggT P t then some (.agg (cs.extract off (off + sizeT P t))) else cs[off]? else none

theorem prt_run {P : Program} {t : TypeId} {cs : Array Value} {off : Nat} {v : Value} (h : prt P t cs off = some v) (w : World) : (part t cs off).run P w = .ok v w := by
  unfold prt at h
  cases ho : okT P t with
  | false => rw [ho] at h; cases h
  | true =>
    rw [ho] at h
    rw [run_part (by simp [ho])]
    cases ha : isAggT P t with
    | true => rw [ha] at h; simp at h; simp [h]
    | false => rw [ha] at h; simp at h; simp [h]

def eqFs (P : Program) (f : TypeId → Value → Value → Option Bool) (xs ys : Array Value) : List Field → Option Bool
  | [] => some true
  | x :: fs =>
    if x.name ≠ "_" then
      match prt P x.type xs x.offset, prt P x.type ys x.offset with
      | some a, some b => match f x.type a b, eqFs P f xs ys fs with
        | some r, some q => some (bif r then q else false)
        | _, _ => none
      | _, _ => none
    else eqFs P f xs ys fs

def eqIs (P : Program) (f : TypeId → Value → Value → Option Bool) (e : TypeId) (n : Nat) (xs ys : Array Value) : List Nat → Option Bool
  | [] => some true
  | i :: is =>
    match prt P e xs (i * n), prt P e ys (i * n) with
    | some a, some b => match f e a b, eqIs P f e n xs ys is with
      | some r, some q => some (bif r then q else false)
      | _, _ => none
    | _, _ => none

def eqV (P : Program) : Nat → TypeId → Value → Value → Option Bool
  | 0, _, _, _ => none
  | d + 1, t, x, y =>
    match P.underlying t, x, y with
    | some .bool, .bool a, .bool b => some (a == b)
    | some (.int _), .int k a, .int k' b => bif k == k' then some (a == b) else none
    | some .string, .string a, .string b => some (a.toList == b.toList)
    | some (.struct _), .agg xs, .agg ys => bif P.stoodInHeld t then none else eqFs P (eqV P d) xs ys (P.fieldsOf t).toList
    | some (.array n e), .agg xs, .agg ys => bif okT P e then eqIs P (eqV P d) e (P.cellsOf e) xs ys (List.range n) else none
    | _, _, _ => none

theorem eqFs_run {P : Program} {d : Nat} {f : TypeId → Value → Value → Option Bool} (hf : ∀ t x y r, f t x y = some r → ∀ w, (Op.equalIn d t x y).run P w = .ok r w) {xs ys : Array Value} :
    ∀ {fs : List Field} {r : Bool}, eqFs P f xs ys fs = some r → ∀ w, (Op.eqFields d xs ys fs).run P w = .ok r w
  | [], r, h, w => by simp [eqFs] at h; subst h; rfl
  | x :: fs, r, h, w => by
    simp only [eqFs] at h
    simp only [Op.eqFields]
    split at h
    · rename_i hn
      rw [if_pos hn]
      split at h
      · rename_i a b ha hb
        split at h
        · rename_i r1 q h1 h2
          cases h
          simp only [Sem.run_bind, prt_run ha, prt_run hb, Result.andThen_ok, hf _ _ _ _ h1]
          cases r1 with
          | false => simp
          | true => simpa using eqFs_run hf h2 w
        · cases h
      · cases h
    · rename_i hn
      rw [if_neg hn]
      exact eqFs_run hf h w

theorem eqIs_run {P : Program} {d : Nat} {f : TypeId → Value → Value → Option Bool} (hf : ∀ t x y r, f t x y = some r → ∀ w, (Op.equalIn d t x y).run P w = .ok r w) {e n : Nat} {xs ys : Array Value} :
    ∀ {is : List Nat} {r : Bool}, eqIs P f e n xs ys is = some r → ∀ w, (Op.eqItems d e n xs ys is).run P w = .ok r w
  | [], r, h, w => by simp [eqIs] at h; subst h; rfl
  | i :: is, r, h, w => by
    simp only [eqIs] at h
    simp only [Op.eqItems]
    split at h
    · rename_i a b ha hb
      split at h
      · rename_i r1 q h1 h2
        cases h
        simp only [Sem.run_bind, prt_run ha, prt_run hb, Result.andThen_ok, hf _ _ _ _ h1]
        cases r1 with
        | false => simp
        | true => simpa using eqIs_run hf h2 w
      · cases h
    · cases h

theorem eqV_run {P : Program} : ∀ (d : Nat) (t : TypeId) (x y : Value) (r : Bool), eqV P d t x y = some r → ∀ k w, (Op.equalIn (d + k) t x y).run P w = .ok r w
  | 0, _, _, _, _, h, _, _ => by cases h
  | d + 1, t, x, y, r, h, k, w => by
    rw [show d + 1 + k = (d + k) + 1 by omega]
    simp only [eqV] at h
    split at h
    · rename_i hu; cases h; exact run_equalIn_bool' w _ _ _ _ hu
    · rename_i q k1 a k2 b hu
      cases hkk : k1 == k2 with
      | false => rw [hkk] at h; cases h
      | true =>
        rw [hkk] at h
        cases h
        have := eq_of_beq hkk
        subst this
        exact run_equalIn_int w _ _ _ _ _ _ hu
    · rename_i hu; cases h; exact run_equalIn_string w _ _ _ _ hu
    · rename_i hu
      cases hs : P.stoodInHeld t with
      | true => rw [hs] at h; cases h
      | false =>
        rw [hs] at h
        rw [run_equalIn_struct w (d + k) t _ _ (by rw [hu]; unfold Program.fieldsOf; rw [hu]) hs]
        exact eqFs_run (fun t x y r h w => eqV_run d t x y r h k w) h w
    · rename_i n e xs ys hu
      cases ho : okT P e with
      | false => rw [ho] at h; cases h
      | true =>
        rw [ho] at h
        obtain ⟨i, hi⟩ := Option.isSome_iff_exists.1 (okT_info (P := P) (t := e) (by simp [ho])).1
        rw [run_equalIn_array w (d + k) xs ys hu hi]
        exact eqIs_run (fun t x y r h w => eqV_run d t x y r h k w) h w
    · cases h

/-- '==' of two whole values: r is what the evaluator gives. -/
theorem eql_of {P : Program} {t : TypeId} {x y : Operand} {cs ds : Array Value} {w : World} {K : Bool → Prop} (d : Nat) (hd : d ≤ 10000) (r : Bool) (h : eqV P d t (.agg cs) (.agg ds) = some r)
    (hg : P.eqGuardType P.depth t = false) (k : K r) :
    runQ [Ty1.one Cell.bool] (fun w' => (do eqGuard .eql t x y (.agg cs) (.agg ds); binOp .eql t (.agg cs) (.agg ds) : Sem Value).run P w') w K := by
  have hr := eqV_run d t _ _ r h (10000 - d) w
  rw [show d + (10000 - d) = 10000 by omega] at hr
  have hb : (binOp .eql t (.agg cs) (.agg ds)).run P w = .ok (.bool r) w := binOp_of_equal (P := P) false hr (by simp) (by simp) (by simp) (by simp)
  refine ⟨r, ?_, k⟩
  show ((do eqGuard .eql t x y (.agg cs) (.agg ds); binOp .eql t (.agg cs) (.agg ds) : Sem Value).run P w) = Result.ok (Value.bool r) w
  simp [eqGuard, hg, hb]

end Go.Pt
