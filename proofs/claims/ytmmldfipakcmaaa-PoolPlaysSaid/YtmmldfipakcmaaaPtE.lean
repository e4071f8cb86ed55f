/- Operations that turn the world: sound against the model. No condition. -/
import Derived.Test.YtmmldfipakcmaaaPtD
set_option linter.unusedVariables false
namespace Go.Pt
open Go

variable {P : Program} {n : Nat} {e : Env} {a : Act} {o : Oper} {w : World}

theorem run_storeCells {ad : Addr} : ∀ (vs : List Value) (i : Nat) (w : World) (K : World → Prop), stC ad i vs w K →
    ∃ w', (storeCells ad vs i).run P w = .ok () w' ∧ K w'
  | [], i, w, K, h => ⟨w, by simp [storeCells], h⟩
  | v :: vs, i, w, K, h => by
    obtain ⟨⟨h1, ⟨u, hu⟩, h3⟩, h4⟩ := h
    obtain ⟨w', hr, hk⟩ := run_storeCells vs (i + 1) _ K h4
    refine ⟨w', ?_, hk⟩
    unfold storeCells
    simp only [Sem.run_bind, run_store P w (ad.add i) v .plain h1, hu, h3, Bool.false_eq_true, if_false, Result.andThen_ok, hr]

/-- What an operation of the world is asked. -/
theorem upon_of_value {K : Value → World → Prop} {Q : Exit → Act → World → Prop} {s : Sem Value} {v : Value} {w w' : World} (hs : (execOp a.eval o) = (do pure (Next.value (← s)))) (hr : s.run P w = .ok v w') (hk : K v w') :
    o.wp P a w (fun a' w' => ∃ v, a' = a.put o.dst v ∧ K v w') Q := by
  unfold Oper.wp
  rw [hs, run_lift hr]
  exact ⟨v, rfl, hk⟩

theorem upon_of_unit {K : Value → World → Prop} {Q : Exit → Act → World → Prop} {s : Sem Unit} {w w' : World} (hs : (execOp a.eval o) = (do s; pure Next.skip)) (hr : s.run P w = .ok () w') (hk : K undef w') :
    o.wp P a w (fun a' w' => ∃ v, a' = a.put o.dst v ∧ K v w') Q := by
  unfold Oper.wp
  rw [hs]
  simp only [Sem.run_bind, hr, Result.andThen_ok, Sem.run_pure]
  exact ⟨undef, rfl, hk⟩

theorem upon_of_enter {K : Value → World → Prop} {Q : Exit → Act → World → Prop} {ts : List Ty1} {f : FuncId} {vs : List Value} {w : World}
    (hr : (execOp a.eval o).run P w = .ok (.enter f vs.toArray) w) (hk : call P f vs ts w (fun y w' => K (resVal ts y) w')) :
    o.wp P a w (fun a' w' => ∃ v, a' = a.put o.dst v ∧ K v w') Q := by
  unfold Oper.wp
  rw [hr]
  refine Calls.mono hk ?_
  rintro e w' ⟨x, rfl, hx⟩
  exact ⟨_, rfl, hx⟩

theorem callFunc_run {f : FuncId} (h : bodyless P f = false) (args : Array Value) (w : World) : (callFunc f args).run P w = .ok (.enter f args) w := by
  unfold bodyless at h
  unfold callFunc
  cases hf : P.funcs[f]? with
  | none => simp [hf] at h
  | some fn =>
    simp only [hf, Bool.or_eq_false_iff] at h
    simp only [Sem.run_bind, run_program, Result.andThen_ok, hf]
    rw [if_neg (by simp [h.2]), if_neg (by simp [h.1])]
    rfl

theorem info_some_of_zero {t : TypeId} {z : Value} (h : (P.info? t).bind (·.zero) = some z) : (P.info? t).isSome = true := by
  cases hi : P.info? t with
  | none => simp [hi] at h
  | some i => rfl

set_option maxHeartbeats 1000000 in
theorem eff_sound {K : Value → World → Prop} (Q : Exit → Act → World → Prop) (h : effOp (std P) P o e w K) (hr : Rel n e a) :
    o.wp P a w (fun a' w' => ∃ v, a' = a.put o.dst v ∧ K v w') Q := by
  obtain ⟨dst, op, type, pos, after, guard⟩ := o
  cases op
  case store t x y =>
    simp only [effOp] at h
    split at h
    · rename_i ad v hx hy
      cases hs : okT P t && Nat.beq (sizeT P t) v.cells.size with
      | false => simp only [hs, cond_false] at h
      | true =>
        simp only [hs, cond_true] at h
        simp only [Bool.and_eq_true] at hs
        have hs' := Nat.eq_of_beq_eq_true hs.2
        obtain ⟨w', hrun, hk⟩ := run_storeCells (P := P) _ 0 w _ h
        refine upon_of_unit (s := Instr.storeAt t (a.eval x) (a.eval y)) rfl ?_ hk
        rw [hr.ev hx, hr.ev hy]
        have : (sizeOf t).run P w = .ok (sizeT P t) w := run_sizeOf' (okT_info (by simp [hs.1])).1 w
        simp [Instr.storeAt, Instr.sureAddr, storeVar, this, hs', hrun]
    · exact h.elim
  case alloc t =>
    simp only [effOp] at h
    split at h
    · rename_i z hz
      refine upon_of_value (s := Instr.alloc t true (.tuple #[])) rfl ?_ h
      simp [Instr.alloc, run_zeroValue' hz, newVar, newRow]
    · exact h.elim
  case box t x =>
    simp only [effOp] at h
    split at h
    · rename_i v hx
      refine upon_of_value (s := Instr.box t (a.eval x)) rfl ?_ h
      rw [hr.ev hx]
      simp [Instr.box, newVar, newRow]
    · exact h.elim
  case buildSlice t len parts =>
    simp only [effOp] at h
    split at h
    · rename_i el ht
      split at h
      · rename_i z vs hz hv
        cases hb : Nat.blt (2 ^ 24) (len * sizeT P el) with
        | true => simp only [hb, cond_true] at h
        | false =>
          simp only [hb, cond_false] at h
          split at h
          · rename_i cells hc
            have hlt : ¬ len * sizeT P el > 2 ^ 24 := by
              intro hgt
              have : Nat.blt (2 ^ 24) (len * sizeT P el) = true := Nat.ble_eq_true_of_le hgt
              rw [this] at hb; cases hb
            refine upon_of_value (s := Instr.buildSlice t len (parts.map fun (i, x) => (i, a.eval x))) rfl ?_ h
            rw [evParts_arr hr hv]
            simp only [Instr.buildSlice, Sem.run_bind, run_underlying ht, Result.andThen_ok, run_sizeOf' (info_some_of_zero hz)]
            rw [if_neg hlt]
            unfold fillL at hc
            cases h0 : Nat.beq (len * sizeT P el) 0 with
            | true =>
              rw [if_pos (Nat.eq_of_beq_eq_true h0)]
              simp only [h0, cond_true] at hc
              simp only [pure_bind]
              rw [show (#[] : Array Value) = ([] : List Value).toArray from rfl, hc]
              simp [newRow]
            | false =>
              have : len * sizeT P el ≠ 0 := fun hq => by rw [hq] at h0; cases h0
              rw [if_neg this]
              simp only [h0, cond_false] at hc
              simp only [Sem.run_bind, run_zeroValue' hz, Result.andThen_ok, Sem.run_pure]
              have hc' : Instr.fill (fun i => some (i * sizeT P el, sizeT P el)) (Array.map (fun x => z.cells[x % z.cells.size]!) (Array.range (len * sizeT P el))) vs = some cells := by simpa using hc
              rw [hc']
              simp [newRow]
          · exact h.elim
      · exact h.elim
    · exact h.elim
  case makeSlice t l c =>
    simp only [effOp] at h
    split at h
    · rename_i el ht
      split at h
      · rename_i i k1 nn k2 mm hi hl hc
        split at h
        · rename_i z hz
          obtain ⟨⟨b0, b1, b2, b3⟩, hk⟩ := h
          refine upon_of_value (s := Instr.makeSlice t (a.eval l) (a.eval c)) rfl ?_ hk
          rw [hr.ev hl, hr.ev hc]
          have e1 : IntKind.i64.wrap nn = nn := by rw [IntWalk.i64_in]; omega
          have e2 : IntKind.i64.wrap mm = mm := by rw [IntWalk.i64_in]; omega
          have hz' : (P.info? el).bind (·.zero) = some z := by simp [hi, hz]
          have g1 : ¬ (mm < 0) := by omega
          have g2 : ¬ ((i.bytes : Int) * mm > 2 ^ 48) := by omega
          have g3 : ¬ (nn < 0) := by omega
          have g4 : ¬ (nn > mm) := by omega
          simp only [Instr.makeSlice, Sem.run_bind, run_underlying ht, Result.andThen_ok, asInt, asIntOf, Sem.run_pure, run_typeInfo' hi, e1, e2]
          rw [if_neg (by simp only [Bool.or_eq_true, decide_eq_true_eq, g1, g2, g3, g4, or_self, not_false_eq_true])]
          simp only [Sem.run_bind, run_askRoom, Result.andThen_ok, run_sizeOf' (info_some_of_zero hz')]
          have hsz : sizeT P el = i.size := by simp [sizeT, hi]
          rw [hsz]
          by_cases h0 : mm.toNat * i.size = 0
          · rw [if_pos h0, if_pos h0]
            simp [newRow, mkCells, h0]
          · rw [if_neg h0, if_neg h0]
            simp [run_zeroValue' hz', newRow, mkCells]
        · exact h.elim
      · exact h.elim
    · exact h.elim
  case makeMap t r =>
    simp only [effOp] at h
    split at h
    · rename_i k el ht
      split at h
      · rename_i v hv
        refine upon_of_value (s := Instr.makeMap t (r.map a.eval)) rfl ?_ h
        rcases oneInt_ev hr hv with ⟨rfl, _⟩ | ⟨y, k, i, rfl, rfl, hy⟩
        · simp [Instr.makeMap]
        · simp [Instr.makeMap, hy, run_underlying ht, asInt, asIntOf]
      · exact h.elim
    · exact h.elim
  case mapUpdate t m k x =>
    simp only [effOp] at h
    split at h
    · rename_i vm vk vx hm hk hx
      obtain ⟨w', hrun, hK⟩ := h
      exact upon_of_unit (s := Instr.mapUpdate t (a.eval m) (a.eval k) (a.eval x)) rfl (by rw [hr.ev hm, hr.ev hk, hr.ev hx]; exact hrun) hK
    · exact h.elim
  case insert t m k x =>
    simp only [effOp] at h
    split at h
    · rename_i vm vk vx hm hk hx
      obtain ⟨w', hrun, hK⟩ := h
      exact upon_of_unit (s := Instr.mapUpdate t (a.eval m) (a.eval k) (a.eval x)) rfl (by rw [hr.ev hm, hr.ev hk, hr.ev hx]; exact hrun) hK
    · exact h.elim
  case range t x =>
    simp only [effOp] at h
    split at h
    · rename_i v hx
      obtain ⟨y, w', hrun, hK⟩ := h
      exact upon_of_value (s := Instr.range t (a.eval x)) rfl (by rw [hr.ev hx]; exact hrun) hK
    · exact h.elim
  case next it s =>
    simp only [effOp] at h
    split at h
    · rename_i v hx
      obtain ⟨y, w', hrun, hK⟩ := h
      exact upon_of_value (s := Instr.next (a.eval it) s type) rfl (by rw [hr.ev hx]; exact hrun) hK
    · exact h.elim
  case entry it =>
    simp only [effOp] at h
    split at h
    · rename_i v hx
      obtain ⟨y, w', hrun, hK⟩ := h
      exact upon_of_value (s := Instr.entry (a.eval it)) rfl (by rw [hr.ev hx]; exact hrun) hK
    · exact h.elim
  case convert s d x =>
    simp only [effOp] at h
    split at h
    · rename_i v hx
      obtain ⟨y, w', hrun, hK⟩ := h
      exact upon_of_value (s := convert s d (a.eval x)) rfl (by rw [hr.ev hx]; exact hrun) hK
    · exact h.elim
  case call c =>
    obtain ⟨callee, args, argTypes⟩ := c
    cases callee with
    | builtin b =>
      simp only [effOp] at h
      split at h
      · rename_i vs hv
        have hres : ∀ w, (resolve a.eval ⟨.builtin b, args, argTypes⟩ type).run P w = .ok { target := .builtin b argTypes type (args.map fun | .const _ => true | _ => false), args := vs.toArray } w := fun w => by
          simp [resolve, hr.evArr hv]
          intro x _; cases x <;> rfl
        cases b <;> simp only at h <;> try exact h.elim
        case append =>
          obtain ⟨y, w', hrun, hK⟩ := h
          have hrun' : (Builtin.append_ argTypes type vs.toArray).run P w = .ok (.slice y.a y.len y.cap) w' := hrun
          have : (execOp a.eval ⟨dst, .call ⟨.builtin .append, args, argTypes⟩, type, pos, after, guard⟩).run P w = .ok (.value (.slice y.a y.len y.cap)) w' := by
            simp [execOp, hres, invoke, builtin, hrun']
          unfold Oper.wp; rw [this]; exact ⟨_, rfl, hK⟩
        case clear =>
          obtain ⟨y, w', hrun, hK⟩ := h
          have hrun' : (Builtin.clear_ argTypes type vs.toArray).run P w = .ok (.tuple #[]) w' := hrun
          have : (execOp a.eval ⟨dst, .call ⟨.builtin .clear, args, argTypes⟩, type, pos, after, guard⟩).run P w = .ok (.value (.tuple #[])) w' := by
            simp [execOp, hres, invoke, builtin, hrun']
          unfold Oper.wp; rw [this]; exact ⟨_, rfl, hK⟩
        case copy =>
          obtain ⟨y, w', hrun, hK⟩ := h
          have hrun' : (Builtin.copy_ argTypes type vs.toArray).run P w = .ok (.int .i64 y) w' := hrun
          have : (execOp a.eval ⟨dst, .call ⟨.builtin .copy, args, argTypes⟩, type, pos, after, guard⟩).run P w = .ok (.value (.int .i64 y)) w' := by
            simp [execOp, hres, invoke, builtin, hrun']
          unfold Oper.wp; rw [this]; exact ⟨_, rfl, hK⟩
        case delete =>
          obtain ⟨y, w', hrun, hK⟩ := h
          have hrun' : (Builtin.delete_ argTypes type vs.toArray).run P w = .ok (.tuple #[]) w' := hrun
          have : (execOp a.eval ⟨dst, .call ⟨.builtin .delete, args, argTypes⟩, type, pos, after, guard⟩).run P w = .ok (.value (.tuple #[])) w' := by
            simp [execOp, hres, invoke, builtin, hrun']
          unfold Oper.wp; rw [this]; exact ⟨_, rfl, hK⟩
      · exact h.elim
    | value f =>
      have key : (∀ g, f ≠ .func g) → ∀ v vs, e.ev f = some v → e.evs args.toList = some vs → (std P).callV v vs (tysOf P type) w (fun y w' => K (resVal _ y) w') →
          Oper.wp P ⟨dst, .call ⟨.value f, args, argTypes⟩, type, pos, after, guard⟩ a w (fun a' w' => ∃ v, a' = a.put dst v ∧ K v w') Q := by
        intro hf v vs hv hvs hcall
        obtain ⟨g, us, hrun, hk⟩ := hcall
        refine upon_of_enter (o := ⟨dst, .call ⟨.value f, args, argTypes⟩, type, pos, after, guard⟩) ?_ hk
        simp only [execOp, resolve, hr.evArr hvs, hr.ev hv]
        exact hrun
      cases f with
      | func g =>
        simp only [effOp] at h
        cases hb : bodyless P g with
        | true => simp only [hb, cond_true] at h
        | false =>
          simp only [hb, cond_false] at h
          split at h
          · rename_i vs hv
            refine upon_of_enter ?_ h
            simp only [execOp, resolve, hr.evArr hv, Act.eval, Deferred.ofValue]
            simp [invoke, callFunc_run hb]
          · exact h.elim
      | tmp t =>
        simp only [effOp] at h
        split at h
        · rename_i v vs hv hvs; exact key (by simp) v vs hv hvs h
        · exact h.elim
      | const t =>
        simp only [effOp] at h
        split at h
        · rename_i v vs hv hvs; exact key (by simp) v vs hv hvs h
        · exact h.elim
      | global t =>
        simp only [effOp] at h
        split at h
        · rename_i v vs hv hvs; exact key (by simp) v vs hv hvs h
        · exact h.elim
    | invoke x name =>
      simp only [effOp] at h
      split at h
      · rename_i v vs hv hvs
        obtain ⟨g, us, hrun, hk⟩ := h
        refine upon_of_enter ?_ hk
        simp only [execOp, resolve, hr.evArr hvs, hr.ev hv]
        simp [invoke]
        simpa using hrun
      · exact h.elim
  all_goals exact h.elim

end Go.Pt
