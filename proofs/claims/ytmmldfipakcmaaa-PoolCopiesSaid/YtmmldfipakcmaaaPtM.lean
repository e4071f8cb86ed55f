/- Rules for methods called through an interface. Conditions: those that stand in each line. -/
import Derived.Test.YtmmldfipakcmaaaPtI
set_option linter.unusedVariables false
namespace Go.Pt
open Go

variable {P : Program} {w : World}

/-- A type's own method: its function, and whether it takes the pointer. -/
def methodOf (P : Program) (t : TypeId) (name : String) : Option (FuncId × Bool) :=
  match (P.info? t).bind fun i => i.methods.find? (·.name == name) with
  | some m => bif m.path.isEmpty then m.func else none
  | none => none

theorem run_method {t : TypeId} {v : Value} {name : String} {f : FuncId} {p : Bool} (h : methodOf P t name = some (f, p)) (fuel : Nat) :
    ∃ wr, (Go.method (fuel + 1) t v name).run P w = (do let r ← receiverAt t (.val v) p (some wr); pure (f, r) : Sem (FuncId × Value)).run P w := by
  unfold methodOf at h
  cases hi : P.info? t with
  | none => rw [hi] at h; cases h
  | some i =>
    rw [hi] at h
    simp only [Option.bind_some] at h
    cases hm : i.methods.find? (·.name == name) with
    | none => rw [hm] at h; cases h
    | some m =>
      rw [hm] at h
      dsimp only at h
      cases hp : m.path.isEmpty with
      | false => rw [hp] at h; cases h
      | true =>
        rw [hp] at h
        change m.func = some (f, p) at h
        have hpe := Array.isEmpty_iff.1 hp
        refine ⟨(name.splitOn ".").getLastD name, ?_⟩
        simp [Go.method, typeInfo, run_program, hi, hm, hpe, h, follow]

theorem enter_ptr {t e : TypeId} {name : String} {f : FuncId} {q : Value} {args : Array Value} (h : methodOf P t name = some (f, true)) (hu : P.underlying t = some (.pointer e)) (hb : bodyless P f = false) :
    (callMethod (.iface t q) name args).run P w = .ok (.enter f (#[q] ++ args)) w := by
  obtain ⟨wr, hr⟩ := run_method (w := w) (v := q) h (P.types.size + Made.depth - 1)
  have hm0 : 0 < Made.depth := by decide
  have hd : P.types.size + Made.depth - 1 + 1 = P.types.size + Made.depth := by omega
  rw [hd] at hr
  have h2 : (do let r ← receiverAt t (.val q) true (some wr); pure (f, r) : Sem (FuncId × Value)).run P w = .ok (f, q) w := by
    simp [receiverAt, run_underlying hu, Place.get]
  rw [h2] at hr
  simp [callMethod, run_program, hr, callFunc_run hb]

theorem enter_val {t e : TypeId} {name : String} {f : FuncId} {a : Addr} {v : Value} {args : Array Value} (h : methodOf P t name = some (f, false)) (hu : P.underlying t = some (.pointer e)) (hb : bodyless P f = false)
    (he : (P.underlying e).isSome = true) (hag : isAggT P e = false) (hc : w.cell? a = some v) :
    (callMethod (.iface t (.pointer (some a))) name args).run P w = .ok (.enter f (#[v] ++ args)) w := by
  obtain ⟨wr, hr⟩ := run_method (w := w) (v := .pointer (some a)) h (P.types.size + Made.depth - 1)
  have hm0 : 0 < Made.depth := by decide
  have hd : P.types.size + Made.depth - 1 + 1 = P.types.size + Made.depth := by omega
  rw [hd] at hr
  have h2 : (do let r ← receiverAt t (.val (.pointer (some a))) false (some wr); pure (f, r) : Sem (FuncId × Value)).run P w = .ok (f, v) w := by
    have hs : Builtin.ssaWrapNilChk_ #[t] t #[.pointer (some a), strVal "", strVal wr] = pure (.pointer (some a)) := rfl
    simp [receiverAt, run_underlying hu, Place.get, hs, asAddr, loadVar, run_isAgg he, hag, hc]
  rw [h2] at hr
  simp [callMethod, run_program, hr, callFunc_run hb]

theorem inv_ptr {t e : TypeId} {name : String} {f : FuncId} {q : Value} {args : List Value} {ts : List Ty1} {K : ElR ts → World → Prop} (h : methodOf P t name = some (f, true)) (hu : P.underlying t = some (.pointer e)) (hb : bodyless P f = false)
    (k : call P f (q :: args) ts w K) : inv P (.iface t q) name args ts w K :=
  ⟨f, q :: args, by rw [enter_ptr h hu hb]; simp, k⟩

theorem inv_val {t e : TypeId} {name : String} {f : FuncId} {a : Addr} {v : Value} {args : List Value} {ts : List Ty1} {K : ElR ts → World → Prop} (h : methodOf P t name = some (f, false)) (hu : P.underlying t = some (.pointer e)) (hb : bodyless P f = false)
    (he : (P.underlying e).isSome = true) (hag : isAggT P e = false) (hc : w.cell? a = some v) (k : call P f (v :: args) ts w K) : inv P (.iface t (.pointer (some a))) name args ts w K :=
  ⟨f, v :: args, by rw [enter_val h hu hb he hag hc]; simp, k⟩

end Go.Pt
