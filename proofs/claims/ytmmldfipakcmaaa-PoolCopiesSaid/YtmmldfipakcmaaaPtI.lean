/- More rules: unrolled loops; '==' of whole structs and arrays. No condition. -/
import Derived.Test.YtmmldfipakcmaaaPtH
set_option linter.unusedVariables false
namespace Go.Pt
open Go

theorem loop_step {S : Type} {B : (S → World → Prop) → S → World → Prop} {s : S} {w : World} (h : ∀ X : S → World → Prop, (∀ s w, loop S B s w → X s w) → B X s w) : loop S B s w := by
  intro J hJ
  exact hJ s w (h J fun s' w' hl => hl J hJ)

theorem loop_norm {S : Type} {B : (S → World → Prop) → S → World → Prop} {s : S} {w : World} (s' : S) (hs : s = s') (h : ∀ X : S → World → Prop, (∀ s w, loop S B s w → X s w) → B X s' w) : loop S B s w := by
  subst hs; exact loop_step h

theorem cond_true {b : Bool} {A B : Prop} (h : b = true) (k : A) : cond b A B := by rw [h]; exact k
theorem cond_false {b : Bool} {A B : Prop} (h : b = false) (k : B) : cond b A B := by rw [h]; exact k

theorem idx_lit {b o len cap : Nat} {i : Int} {size : Nat} {K : Addr → Prop} (h0 : 0 ≤ i) (h1 : i < (len : Int)) (k : K ⟨b, o + i.toNat * size, none⟩) : idx ⟨some ⟨b, o, none⟩, len, cap⟩ i size K :=
  idx_of rfl ⟨h0, h1⟩ k

theorem pair_eq {α β : Type} {a a' : α} {b b' : β} (h : a = a') (k : b = b') : (a, b) = (a', b') := by rw [h, k]

theorem idxA_of {c : Cell} {n : Nat} {cs : List Value} {i : Int} {K : c.El → Prop} (x : c.El) (h0 : 0 ≤ i) (h1 : i < (n : Int)) (hx : cs[i.toNat]? = some (c.mk x)) (k : K x) : idxA c n cs i K := ⟨x, ⟨h0, h1, hx⟩, k⟩

theorem held_one {H : World → Prop} {w : World} {K : Prop} (h : H w) (k : K) : held [H] w K := ⟨h, k⟩
theorem held_two {H H' : World → Prop} {w : World} {K : Prop} (h : H w) (h' : H' w) (k : K) : held [H, H'] w K := ⟨⟨h, h'⟩, k⟩
theorem held_three {H H' H'' : World → Prop} {w : World} {K : Prop} (h : H w) (h' : H' w) (h'' : H'' w) (k : K) : held [H, H', H''] w K := ⟨⟨h, h', h''⟩, k⟩

section
variable {S : List Nat} {w0 w : World} {L : List (Nat × Obj)}
theorem Own.cell {b off : Nat} {cs : Array Value} {T : TypeId} {fr : Nat × Nat} {v : Value} (h : Own S w0 w L) (i : Nat) (hi : L[i]? = some (b, .cells cs T fr)) (hx : cs[off]? = some v) : w.cell? ⟨b, off, none⟩ = some v := by
  rw [cell_of_blk (h.at hi)]; exact hx
theorem Own.cells {b off : Nat} {cs : Array Value} {T : TypeId} {fr : Nat × Nat} {vs : List Value} (h : Own S w0 w L) (i : Nat) (hi : L[i]? = some (b, .cells cs T fr)) (hx : (cs.toList.drop off).take vs.length = vs) : cellsAt w ⟨b, off, none⟩ 0 vs :=
  cellsAt_blk (h.at hi) _ off 0 hx
end

theorem eql_self {P : Program} {t : TypeId} {x y : Operand} {cs : Array Value} {w : World} {K : Bool → Prop} (m : Nat) (hm : m ≤ 10000) (hk : P.keyTypeAt m t = true)
    (hwide : (match P.underlying t with | some (.array _ _) | some (.struct _) => true | _ => false) = true) (hg : P.eqGuardType P.depth t = false) (hl : (keyOf P t (.agg cs)).isSome = true) (k : K true) :
    runQ [Ty1.one Cell.bool] (fun w' => (do eqGuard .eql t x y (.agg cs) (.agg cs); binOp .eql t (.agg cs) (.agg cs) : Sem Value).run P w') w K := by
  obtain ⟨l, hl⟩ := Option.isSome_iff_exists.1 hl
  obtain ⟨r, hr, hi⟩ := run_equal_deep w hm hk hwide hl hl
  have hrt : r = true := hi.2 rfl
  subst hrt
  have hb : (binOp .eql t (.agg cs) (.agg cs)).run P w = .ok (.bool true) w := binOp_of_equal (P := P) false hr (by simp) (by simp) (by simp) (by simp)
  refine ⟨true, ?_, k⟩
  show ((do eqGuard .eql t x y (.agg cs) (.agg cs); binOp .eql t (.agg cs) (.agg cs) : Sem Value).run P w) = Result.ok (Value.bool true) w
  simp [eqGuard, hg, hb]

end Go.Pt
