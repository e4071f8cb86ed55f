/- Texts RsG, RsH, PmD, PmE, FormsQ, RsI, RsJ, PrO, LpC, RsK, RsL, RsM, RsN, RsO, RsP, RsQ, DkE, FormsX: contracts of the program's functions, one behind the other. Conditions: those that stand in each line. -/
import Derived.Test.YtmbcedengdoamaaGreatDoorCOpens4
import Derived.Test.YtmbcedengdoamaaGreatDoorCOpens3
import Derived.Test.YtmbcedengdoamaaGreatDoorCOpens1
import Derived.Test.YtmbcedengdoamaaGreatDoorProg
import Derived.KernelRfl
section
set_option linter.unusedVariables false
set_option linter.unusedSimpArgs false
namespace Go.Proofs.YtmbcedengdoamaaGreatDoor
open Go Go.Pt
attribute [local irreducible] ld ldA ldV fld fldA newZ st new idx idxS idxA slc slcS slcP mkS chk nn call callV inv run runQ runU join loop held ext rng undefer s2a IntKind.wrap
def encBlkS (b : Blk) : List Value := [.string (strOf b.1)]
def encWtS (x : Int × Blk) : List Value := [.int .i64 x.1, .string (strOf x.2.1)]
theorem qcx : ∀ x, (encBlkS x).length = 1 := fun _ => rfl
theorem qgh : ∀ x, (encWtS x).length = 2 := fun _ => rfl
theorem qk2 : ∀ x, ∀ u ∈ encBlkS x, u.oneCell' = true := fun x u hu => by simp only [encBlkS, List.mem_singleton] at hu; subst hu; rfl
theorem qml : ∀ x, ∀ u ∈ encWtS x, u.oneCell' = true := fun x u hu => by
 simp only [encWtS, List.mem_cons, List.not_mem_nil, or_false] at hu
 rcases hu with rfl | rfl <;> rfl
abbrev RDv := Sl × Sl × Int × Bool × Int
structure RD (S : List Nat) (w : World) (d : RDv) (D : DiskM) : Prop where
 safe : Rds encBlkS 1 S w d.1 D.safe
 waits : Rds encWtS 2 S w d.2.1 D.waits
 fuse : d.2.2.1 = D.fuse
 down : d.2.2.2.1 = D.down
 writes : d.2.2.2.2 = D.writes
theorem RD.frame {S S' : List Nat} {w w' : World} {d : RDv} {D : DiskM} (h : RD S w d D) (f : Fr S w w') (hS : ∀ b ∈ S', b ∈ S \/ w.heap.size <= b) : RD S' w' d D := ⟨h.safe.frame f hS, h.waits.frame f hS, h.fuse, h.down, h.writes⟩
theorem RD.frame0 {S : List Nat} {w w' : World} {d : RDv} {D : DiskM} (h : RD S w d D) (f : Fr [] w w') : RD S w' d D := ⟨h.safe.frame0 f, h.waits.frame0 f, h.fuse, h.down, h.writes⟩
abbrev RDT : TypeId := 55
abbrev dC : List Cell := [Cell.slice, Cell.slice, Cell.int .i64, Cell.bool, Cell.int .i64]
def rdC (d : RDv) : Array Value := #[.slice d.1.a d.1.len d.1.cap, .slice d.2.1.a d.2.1.len d.2.1.cap, .int .i64 d.2.2.1, .bool d.2.2.2.1, .int .i64 d.2.2.2.2]
theorem Own.ldD {S : List Nat} {w0 w : World} {L : List (Nat × Obj)} {r : Nat} {d : RDv} {K : RDv -> Prop} (h : Own S w0 w L) (i : Nat) (hi : L[i]? = some (r, .cells (rdC d) RDT (0, 0))) (k : K d) : ldA dC ⟨r, 0, none⟩ w K :=
 Own.ldA (cl := dC) h i hi d rfl k
def zD : RDv := (⟨none, 0, 0⟩, ⟨none, 0, 0⟩, 0, false, 0)
theorem qiU (D : DiskM) : (actM D).1.safe = D.safe /\ (actM D).1.waits = D.waits /\ (actM D).1.writes = D.writes /\ (D.down = false -> (actM D).1.down = (actM D).2) := by
 unfold actM
 split
 ·exact ⟨rfl, rfl, rfl, fun _ => rfl⟩
 ·split
  ·exact ⟨rfl, rfl, rfl, fun h => h⟩
  ·exact ⟨rfl, rfl, rfl, fun h => h⟩
theorem qdZ {S : List Nat} {w0 w : World} {L : List (Nat × Obj)} {r1 r3 : Nat} {d d0 : RDv} {K : RDv -> World -> Prop} (h : Own S w0 w L) (i j : Nat) (hi : L[i]? = some (r1, .cells (rdC d) RDT (0, 0))) (hj : L[j]? = some (r3, .cells (rdC d0) RDT (0, 0))) (k : ∀ w', Fr S w0 w' -> Fr [r3] w w' -> K d w') :
  ldA dC ⟨r1, 0, none⟩ w fun t => st ⟨r3, 0, none⟩ (HL.mk dC t) w fun w' => ldA dC ⟨r3, 0, none⟩ w' fun t' => K t' w' := by
 refine Own.ldD h i hi ?_
 refine Own.st' h j hj (rdC d) rfl rfl (Nat.le_of_ble_eq_true rfl) fun w' h' f' => ?_
 have hjl := (List.getElem?_eq_some_iff.1 hj).1
 exact Own.ldD h' j (by rw [List.getElem?_set_self hjl]) (k w' h'.fr f')
theorem qpH {S : List Nat} {w : World} {d : RDv} {D : DiskM} {K : RDv -> World -> Prop} (h : RD S w d D) (hS : ∀ b ∈ S, b < w.heap.size) (hf : D.fuse <= 1000000000) (hk : ∀ d' w', RD S w' d' (actM D).1 -> Fr [] w w' -> K d' w') :
  call Tryz.prog 76 [.agg (rdC d)] [.agg dC] w K := by
 obtain ⟨d0, d1, d2, d3, d4⟩ := d
 have hfu : d2 = D.fuse := h.fuse
 have hdn : d3 = D.down := h.down
 refine qgf (d0 := d0) (d1 := d1) (d2 := d2) (d3 := d3) (d4 := d4) ?_
 unfold qbF
 refine Own.new' (Own.start [] w) fun r1 w1 e1 f1 ho => ?_
 refine Own.new' ho fun r3 w2 e2 f2 ho => ?_
 refine qae (fun _ w' => Own [] w w' [(r3, .cells (rdC zD) RDT (0, 0)), (r1, .cells (rdC (d0, d1, d2, if D.fuse = 0 then true else d3, d4)) RDT (0, 0))]) ?_ ?_
 ·refine Own.ld (c := .int .i64) ho 1 rfl d2 rfl ?_
  refine qaa (fun hc => ?_) (fun hc => ?_)
  ·have hz : D.fuse = 0 := by rw [<- hfu]; simpa using hc
   refine Own.st' ho 1 rfl (rdC (d0, d1, d2, true, d4)) rfl rfl (Nat.le_of_ble_eq_true rfl) fun w3 ho3 f3 => ?_
   rw [if_pos hz]; exact ho3
  ·have hz : ¬ D.fuse = 0 := by rw [<- hfu]; simpa using hc
   rw [if_neg hz]; exact ho
 rintro _ w3 ho
 refine qae (fun _ w' => Own [] w w' [(r3, .cells (rdC zD) RDT (0, 0)), (r1, .cells (rdC (d0, d1, (actM D).1.fuse, (actM D).1.down, d4)) RDT (0, 0))]) ?_ ?_
 ·refine Own.ld (c := .int .i64) ho 1 rfl d2 rfl ?_
  refine qaa (fun hc => ?_) (fun hc => ?_)
  ·have hz : D.fuse > 0 := by rw [<- hfu]; exact of_decide_eq_true hc
   refine Own.ld (c := .int .i64) ho 1 rfl d2 rfl ?_
   rw [wi' (d2 - 1) (by omega)]
   refine Own.st' ho 1 rfl (rdC (d0, d1, (actM D).1.fuse, (actM D).1.down, d4)) ?_ rfl (Nat.le_of_ble_eq_true rfl) fun w4 ho4 f4 => ho4
   rw [actM, if_neg (by omega), if_pos hz, if_neg (by omega), hfu, hdn]
   rfl
  ·have hz : ¬ D.fuse > 0 := by rw [<- hfu]; exact of_decide_eq_false hc
   have e : (d0, d1, (actM D).1.fuse, (actM D).1.down, d4) = (d0, d1, d2, if D.fuse = 0 then true else d3, d4) := by
    unfold actM
    by_cases h0 : D.fuse = 0
    ·rw [if_pos h0, if_pos h0, hfu]
    ·rw [if_neg h0, if_neg h0, if_neg hz, hfu, hdn]
   rw [e]; exact ho
 rintro _ w4 ho
 have hfa := qiU D
 have hlt := fun b hb => hS b hb
 refine qdZ ho 1 0 rfl rfl fun w5 f5 _ => ?_
 exact hk _ w5 ⟨by rw [hfa.1]; exact h.safe.frame0 f5, by rw [hfa.2.1]; exact h.waits.frame0 f5, rfl, rfl, by rw [hfa.2.2.1]; exact h.writes⟩ f5
theorem qhr {S : List Nat} {w : World} {d : RDv} {D : DiskM} {n : Int} {K : ByteArray × Int -> World -> Prop} (h : RD S w d D) (hD : D.Ok) (hk : ∀ w', Fr [] w w' -> K (strOf (readV D n).1, (readV D n).2) w') :
  call Tryz.prog 77 [.agg (rdC d), .int .i64 n] [.one .str, .one (.int .i64)] w K := by
 obtain ⟨d0, d1, d2, d3, d4⟩ := d
 have hdn : d3 = D.down := h.down
 have hl0 := h.safe.1
 have hl1 := h.waits.1
 simp only at hl0 hl1
 have hw6 := hD.waits
 refine qf3 (d0 := d0) (d1 := d1) (d2 := d2) (d3 := d3) (d4 := d4) ?_
 unfold qby
 refine Own.new' (Own.start [] w) fun r1 w1 e1 f1 ho => ?_
 refine Own.ld (c := .bool) ho 0 rfl d3 rfl ?_
 refine qaa (fun hc => ?_) (fun hc => ?_)
 ·have hd : D.down = true := by rw [<- hdn]; exact hc
  have := hk w1 f1
  rw [readV, if_pos hd] at this
  exact this
 have hd : ¬ D.down = true := by rw [<- hdn, hc]; decide
 refine qae (fun b w' => b = decide (n < 0 \/ n >= D.safe.length) /\ w' = w1) ?_ ?_
 ·refine qaa (fun hc => ⟨by rw [decide_eq_true (Or.inl (of_decide_eq_true hc))], rfl⟩) (fun hc => ?_)
  have h1 := of_decide_eq_false hc
  refine Own.ld (c := .slice) ho 0 rfl d0 rfl ⟨?_, rfl⟩
  rw [hl0]
  by_cases h2 : n >= D.safe.length <;> simp [h1, h2]
 rintro b w2 ⟨rfl, rfl⟩
 refine qaa (fun hc => ?_) (fun hc => ?_)
 ·have h1 := of_decide_eq_true hc
  have := hk w2 f1
  rw [readV, if_neg hd, if_pos h1] at this
  exact this
 have h1 := of_decide_eq_false hc
 have hn0 : 0 <= n /\ n < D.safe.length := by omega
 obtain ⟨m, rfl⟩ : ∃ m : Nat, n = m := ⟨n.toNat, by omega⟩
 have hml : m < D.safe.length := by omega
 have hs2 := h.safe.frame0 f1
 have hw2 := h.waits.frame0 f1
 refine Own.ld (c := .slice) ho 0 rfl d0 rfl ?_
 refine Rds.get (c := .str) (y := strOf D.safe[m].1) hs2 m rfl (List.getElem?_eq_getElem hml) rfl ?_
 have hrv : readV D m = (match lastW (m : Int) D.waits with | some b => (b.1, 0) | none => ((D.safe[m]).1, 0)) := by
  rw [readV, if_neg hd, if_neg h1, Int.toNat_natCast, List.getD_eq_getElem?_getD, List.getElem?_eq_getElem hml]
  rfl
 refine qaf (fun x w' => w' = w2 /\ ∃ i : Nat, x.2 = i /\ i <= D.waits.length /\ x.1 = strOf (match lastW (m : Int) (D.waits.take i) with | some b => b.1 | none => (D.safe[m]).1)) (fun x _ => ((D.waits.length : Int) - x.2).toNat) ⟨rfl, 0, rfl, by omega, rfl⟩ ?_
 rintro ⟨x1, x2⟩ w3 ⟨rfl, i, hx2, hi, hx1⟩ X hX
 simp only at hx1 hx2
 subst hx1 hx2
 dsimp only
 refine Own.ld (c := .slice) ho 0 rfl d1 rfl ?_
 rw [hl1]
 refine qaa (fun hc => ?_) (fun hc => ?_)
 ·have hil : i < D.waits.length := by have := of_decide_eq_true hc; omega
  have hstep := qgC (m : Int) (D.waits.take i) D.waits[i]
  rw [<- List.take_succ_eq_append_getElem hil] at hstep
  refine qae (fun x w' => x = strOf (match lastW (m : Int) (D.waits.take (i + 1)) with | some b => b.1 | none => (D.safe[m]).1) /\ w' = w3) ?_ ?_
  ·refine Own.ld (c := .slice) ho 0 rfl d1 rfl ?_
   obtain ⟨hn2, bb, oo, ha, _, cs, T, fr, hbk, hcs⟩ := hw2.at i (List.getElem?_eq_getElem hil)
   have hc0 : cs[oo + i * 2]? = some (.int .i64 D.waits[i].1) := by
    have := congrArg (·[0]?) hcs
    simpa [encWtS] using this
   have hc1 : cs[oo + i * 2 + 1]? = some (.string (strOf D.waits[i].2.1)) := by
    have := congrArg (·[1]?) hcs
    simpa [encWtS] using this
   refine qbj ha ⟨by omega, by omega⟩ ?_
   rw [Int.toNat_natCast]
   refine qag (c := .int .i64) hbk D.waits[i].1 hc0 ?_
   refine qaa (fun hc2 => ?_) (fun hc2 => ?_)
   ·have he : D.waits[i].1 = (m : Int) := by simpa using hc2
    refine Own.ld (c := .slice) ho 0 rfl d1 rfl ?_
    refine qbj ha ⟨by omega, by omega⟩ ?_
    rw [Int.toNat_natCast]
    refine qag (c := .str) hbk (strOf D.waits[i].2.1) hc1 ⟨?_, rfl⟩
    rw [hstep, if_pos he]
   ·have he : ¬ D.waits[i].1 = (m : Int) := by simpa using hc2
    exact ⟨by rw [hstep, if_neg he], rfl⟩
  rintro x w4 ⟨rfl, rfl⟩
  rw [wi' _ (by omega)]
  exact hX _ _ ⟨rfl, i + 1, by simp, by omega, rfl⟩ (by dsimp only; omega)
 ·have : i = D.waits.length := by have := of_decide_eq_false hc; omega
  subst this
  rw [List.take_length]
  have := hk w3 f1
  rw [hrv] at this
  cases hlw : lastW (m : Int) D.waits with
  | none => rw [hlw] at this; exact this
  | some b => rw [hlw] at this; exact this
theorem qtu : ∃ i, Tryz.prog.info? 150 = some i /\ i.zero = some (.agg #[.int .i64 0, .string ⟨#[]⟩]) /\ i.size = 2 /\ i.bytes = 24 := qeX (by kernel_rfl)
theorem qdt {S : List Nat} {w : World} {d : RDv} {D : DiskM} {n : Int} {l : List Int} {K : RDv × Int -> World -> Prop} (h : RD S w d D) (hD : D.Ok) (hS : ∀ b ∈ S, b < w.heap.size) (hwr : D.writes < 1000000000) (hwt : D.waits.length < 1000000)
  (hk : ∀ d' w', RD S w' d' (writeM D n l).1 -> Fr [] w w' -> K (d', (writeM D n l).2) w') :
  call Tryz.prog 29 [.agg (rdC d), .int .i64 n, .string (strOf l)] [.agg dC, .one (.int .i64)] w K := by
 obtain ⟨d0, d1, d2, d3, d4⟩ := d
 have hdn : d3 = D.down := h.down
 have hl0 := h.safe.1
 have hl1 := h.waits.1
 have hwrt : d4 = D.writes := h.writes
 simp only at hl0 hl1
 refine qfG (d0 := d0) (d1 := d1) (d2 := d2) (d3 := d3) (d4 := d4) ?_
 unfold qbn
 refine Own.new' (Own.start [] w) fun r1 w1 e1 f1 ho => ?_
 refine Own.new' ho fun r3 w2 e2 f2 ho => ?_
 have f02 := ho.fr
 refine Own.ld (c := .bool) ho 1 rfl d3 rfl ?_
 have same : ∀ {e : Int} {w' : World}, writeM D n l = (D, e) -> Fr [] w w' -> K ((d0, d1, d2, d3, d4), e) w' := by
  intro e w' he hf
  have := hk (d0, d1, d2, d3, d4) w' (by rw [he]; exact h.frame0 hf) hf
  rw [he] at this
  exact this
 refine qaa (fun hc => ?_) (fun hc => ?_)
 ·exact qdZ (d := (d0, d1, d2, d3, d4)) (d0 := zD) (K := fun t w => K (t, 7) w) ho 1 0 rfl rfl fun w3 f3 _ => same (by rw [writeM, if_pos (by rw [<- hdn]; exact hc)]) f3
 have hd : ¬ D.down = true := by rw [<- hdn, hc]; decide
 have hdf : D.down = false := by rw [<- hdn]; exact hc
 refine qae (fun b w' => b = decide (n < 0 \/ n >= D.safe.length) /\ w' = w2) ?_ ?_
 ·refine qaa (fun hc => ⟨by rw [decide_eq_true (Or.inl (of_decide_eq_true hc))], rfl⟩) (fun hc => ?_)
  have h1 := of_decide_eq_false hc
  refine Own.ld (c := .slice) ho 1 rfl d0 rfl ⟨?_, rfl⟩
  rw [hl0]
  by_cases h2 : n >= D.safe.length <;> simp [h1, h2]
 rintro b w3 ⟨rfl, rfl⟩
 refine qaa (fun hc => ?_) (fun hc => ?_)
 ·exact qdZ (d := (d0, d1, d2, d3, d4)) (d0 := zD) (K := fun t w => K (t, 4) w) ho 1 0 rfl rfl fun w4 f4 _ => same (by rw [writeM, if_neg hd, if_pos (of_decide_eq_true hc)]) f4
 have h1 := of_decide_eq_false hc
 rw [qai]
 refine qaa (fun hc => ?_) (fun hc => ?_)
 ·have hne : ¬ l.length = 512 := fun e => by rw [e] at hc; simp at hc
  exact qdZ (d := (d0, d1, d2, d3, d4)) (d0 := zD) (K := fun t w => K (t, 1) w) ho 1 0 rfl rfl fun w4 f4 _ => same (by rw [writeM, if_neg hd, if_neg h1, dif_neg hne]) f4
 have h512 : l.length = 512 := by
  have : ((l.length : Int) == 512) = true := by simpa using hc
  have := eq_of_beq this
  omega
 have hwm : writeM D n l = ((actM (addW D n ⟨l, h512⟩)).1, if (actM (addW D n ⟨l, h512⟩)).2 then 7 else 0) := by rw [writeM, if_neg hd, if_neg h1, dif_pos h512]
 rw [hwm] at hk
 obtain ⟨i2, hi2, hz2, hsz2, hby2⟩ := qtu
 refine Own.new' ho fun r4 w4 e4 f4 ho4 => ?_
 refine Own.ld (c := .slice) ho4 2 rfl d1 rfl ?_
 have hwait4 : Rds encWtS 2 [] w4 d1 D.waits := (h.waits.weak (fun b hb => by cases hb)).frame0 ho4.fr
 refine Buf.appSrc (s := ⟨some ⟨r4, 0, none⟩, 0, 0⟩) (l := []) (ys := D.waits) (B := [r4]) (e := 150) (Buf.empty (ho4.at (i := 0) rfl)) qgh (by kernel_rfl) hi2 hz2 hsz2 rfl (qhW (e' := 150) hwait4 qgh qml (by kernel_rfl)) hl1 (by rw [hby2]; simp; omega) (by simp; omega) fun s5 B5 w5 b5 f5 n5 _ => ?_
 rw [List.nil_append] at b5
 have ho4' := ho4.sub (L' := [(r3, .cells (rdC zD) RDT (0, 0)), (r1, .cells (rdC (d0, d1, d2, d3, d4)) RDT (0, 0))]) (List.Sublist.cons _ (List.Sublist.refl _))
 have hr4 : r4 ≠ r3 /\ r4 ≠ r1 := by
  have := ho4.nodup
  simp only [List.map_cons, List.map_nil, List.nodup_cons, List.mem_cons, List.not_mem_nil, or_false, not_or] at this
  exact this.1
 have ho5 := ho4'.frame f5 (fun b hb => by simp at hb; subst hb; exact .inr (by have := f02.size; omega)) (fun p hp hb => by
  simp only [List.mem_cons, List.not_mem_nil, or_false] at hp hb
  rcases hp with rfl | rfl
  ·exact hr4.1 hb.symm
  ·exact hr4.2 hb.symm)
 have nB5 : ∀ b ∈ B5, w.heap.size <= b /\ b ≠ r3 /\ b ≠ r1 := fun b hb => by
  rcases n5 b hb with h | h
  ·simp at h; subst h; exact ⟨by have := f02.size; omega, hr4⟩
  ·have l3 := qac (ho4'.at (i := 0) rfl)
   have l1 := qac (ho4'.at (i := 1) rfl)
   have := f02.size
   have := f4.size
   exact ⟨by omega, by omega, by omega⟩
 refine Own.new' ho5 fun r6 w6 e6 f6 ho6 => ?_
 refine Buf.appSrc (s := s5) (l := D.waits) (ys := [(n, ⟨l, h512⟩)]) (B := B5) (e := 150) (b5.frame0 f6) qgh (by kernel_rfl) hi2 hz2 hsz2 rfl (.ofSlice _ (e' := 150) (by kernel_rfl) _ 1 1 _ (by simp [encWtS]) (fun j u hj => ?_) (fun u hu => ?_)) rfl (by rw [hby2]; omega) (by omega) fun s7 B7 w7 b7 f7 n7 _ => ?_
 ·rw [Addr.add_mk, qaj (ho6.at (i := 0) rfl), Nat.zero_add]
  have hj' : (encWtS (n, ⟨l, h512⟩))[j]? = some u := by simpa using hj
  rw [List.getElem?_toArray]
  exact hj'
 ·have : u ∈ encWtS (n, ⟨l, h512⟩) := by simpa using hu
  exact qml _ u this
 have ho6' := ho6.sub (L' := [(r3, .cells (rdC zD) RDT (0, 0)), (r1, .cells (rdC (d0, d1, d2, d3, d4)) RDT (0, 0))]) (List.Sublist.cons _ (List.Sublist.refl _))
 have ho7 := ho6'.frame f7 (fun b hb => .inr (nB5 b hb).1) (fun p hp hb => by
  have := nB5 _ hb
  simp only [List.mem_cons, List.not_mem_nil, or_false] at hp
  rcases hp with rfl | rfl
  ·exact this.2.1 rfl
  ·exact this.2.2 rfl)
 refine Own.st' ho7 1 rfl (rdC (d0, s7, d2, d3, d4)) rfl rfl (Nat.le_of_ble_eq_true rfl) fun w8 ho8 f8 => ?_
 refine Own.ld (c := .int .i64) ho8 1 rfl d4 rfl ?_
 have hw0 := hD.writes
 rw [wi' (d4 + 1) (by omega)]
 refine Own.st' ho8 1 rfl (rdC (d0, s7, d2, d3, d4 + 1)) rfl rfl (Nat.le_of_ble_eq_true rfl) fun w9 ho9 f9 => ?_
 refine Own.ldD ho9 1 rfl ?_
 have hr1w : w.heap.size <= r1 /\ w.heap.size <= r3 := by have := f1.size; omega
 have hB7 : ∀ b ∈ B7, b ≠ r1 /\ b ≠ r3 /\ w.heap.size <= b := fun b hb => by
  rcases n7 b hb with h | h
  ·exact ⟨(nB5 b h).2.2, (nB5 b h).2.1, (nB5 b h).1⟩
  ·have l1 := qac (ho6'.at (i := 1) rfl)
   have l3 := qac (ho6'.at (i := 0) rfl)
   have := ho6'.fr.size
   exact ⟨by omega, by omega, by omega⟩
 have b9 := (b7.frame f8 (fun b hb => by simpa using (hB7 b hb).1)).frame f9 (fun b hb => by simpa using (hB7 b hb).1)
 have hnew : ∀ b ∈ r1 :: r3 :: S, b ∈ S \/ w.heap.size <= b := fun b hb => by
  simp only [List.mem_cons] at hb
  rcases hb with rfl | rfl | hb
  ·exact .inr hr1w.1
  ·exact .inr hr1w.2
  ·exact .inl hb
 have hrd9 : RD (r1 :: r3 :: S) w9 (d0, s7, d2, d3, d4 + 1) (addW D n ⟨l, h512⟩) :=
  ⟨h.safe.frame (ho9.fr.mono fun b hb => by cases hb) hnew, b9.rds qgh (fun b hb hm => by
   have := hB7 b hb
   simp only [List.mem_cons] at hm
   rcases hm with e | e | hm
   ·exact this.1 e
   ·exact this.2.1 e
   ·have := hS b hm; omega), h.fuse, h.down, by show d4 + 1 = D.writes + 1; rw [hwrt]⟩
 have hfz := hD.fuse
 have hlt9 : ∀ b ∈ r1 :: r3 :: S, b < w9.heap.size := fun b hb => by
  simp only [List.mem_cons] at hb
  rcases hb with rfl | rfl | hb
  ·exact qac (ho9.at (i := 1) rfl)
  ·exact qac (ho9.at (i := 0) rfl)
  ·exact Nat.lt_of_lt_of_le (hS b hb) ho9.fr.size
 refine qpH hrd9 hlt9 (by show D.fuse <= _; omega) fun d' w10 h10 f10 => ?_
 have ho10 := ho9.frame0 f10
 have hfa := qiU (addW D n ⟨l, h512⟩)
 obtain ⟨a0, a1, a2, a3, a4⟩ := d'
 refine Own.st' ho10 1 rfl (rdC (a0, a1, a2, a3, a4)) rfl rfl (Nat.le_of_ble_eq_true rfl) fun w11 ho11 f11 => ?_
 have ha3 : a3 = (actM (addW D n ⟨l, h512⟩)).2 := by
  have : a3 = (actM (addW D n ⟨l, h512⟩)).1.down := h10.down
  rw [this]; exact hfa.2.2.2 hdf
 refine Own.ld (c := .bool) ho11 1 rfl a3 rfl ?_
 have h11 := h10.frame (S' := r1 :: r3 :: S) (f11.mono fun b hb _ => by simp at hb; subst hb; simp) (fun b hb => .inl hb)
 have fin : ∀ {w12 : World}, Fr [r3] w11 w12 -> RD S w12 (a0, a1, a2, a3, a4) (actM (addW D n ⟨l, h512⟩)).1 := fun g =>
  h11.frame (g.mono fun b hb _ => by simp at hb; subst hb; simp) (fun b hb => .inl (by simp [hb]))
 refine qaa (fun hc => ?_) (fun hc => ?_)
 ·refine qdZ (d := (a0, a1, a2, a3, a4)) (d0 := zD) (K := fun t w => K (t, 7) w) ho11 1 0 rfl rfl fun w12 f12 g12 => ?_
  have := hk _ w12 (fin g12) f12
  have h2 : (actM (addW D n ⟨l, h512⟩)).2 = true := by rw [<- ha3]; exact hc
  rw [h2] at this
  exact this
 ·refine qdZ (d := (a0, a1, a2, a3, a4)) (d0 := zD) (K := fun t w => K (t, 0) w) ho11 1 0 rfl rfl fun w12 f12 g12 => ?_
  have := hk _ w12 (fin g12) f12
  have h2 : (actM (addW D n ⟨l, h512⟩)).2 = false := by rw [<- ha3]; exact hc
  rw [h2] at this
  exact this
theorem qpC {S : List Nat} {w : World} {s : Sl} {l : List (Int × Blk)} (h : Rds encWtS 2 S w s l) (i : Nat) (hi : i < l.length) {x : Int} {K : Addr -> Prop} (hx : x = i) (kk : ∀ b o cs T fr, w.heap[b]? = some (.cells cs T fr) -> cs[o]? = some (.int .i64 l[i].1) -> cs[o + 1]? = some (.string (strOf l[i].2.1)) -> K ⟨b, o, none⟩) : idx s x 2 K := by
 subst hx
 obtain ⟨hn2, bb, oo, ha, _, cs, T, fr, hbk, hcs⟩ := h.at i (List.getElem?_eq_getElem hi)
 have hc0 : cs[oo + i * 2]? = some (.int .i64 l[i].1) := by
  have := congrArg (·[0]?) hcs
  simpa [encWtS] using this
 have hc1 : cs[oo + i * 2 + 1]? = some (.string (strOf l[i].2.1)) := by
  have := congrArg (·[1]?) hcs
  simpa [encWtS] using this
 refine qbj ha ⟨by omega, by omega⟩ ?_
 rw [Int.toNat_natCast]
 exact kk bb _ cs T fr hbk hc0 hc1
theorem qsu : ∃ i, Tryz.prog.info? 9 = some i /\ i.zero = some (.string ⟨#[]⟩) /\ i.size = 1 /\ i.bytes = 16 := qeX (by kernel_rfl)
theorem qq1 {S : List Nat} {w : World} {s : Sl} {l : List Blk} {r : Nat} {T : TypeId} {K : Sl -> World -> Prop} (h : Rds encBlkS 1 [] w s l) (hr : w.heap[r]? = some (.cells #[] T (0, 0))) (hl : l.length <= 100000)
  (kk : ∀ s' B w', Buf encBlkS 1 w' s' l B -> Fr [r] w w' -> (∀ b ∈ B, b = r \/ w.heap.size <= b) -> K s' w') :
  Pt.run [Ty1.one Cell.slice] ((Builtin.append_ #[48, 48] 48 #[.slice (some ⟨r, 0, none⟩) 0 0, .slice s.a s.len s.cap]).run Tryz.prog w) K := by
 obtain ⟨i, hi, hz, hsz, hby⟩ := qsu
 have hlen := h.1
 refine Buf.appSrc (s := ⟨some ⟨r, 0, none⟩, 0, 0⟩) (l := []) (ys := l) (B := [r]) (e := 9) (Buf.empty hr) qcx (by kernel_rfl) hi hz hsz rfl (qhW (e' := 9) h qcx qk2 (by kernel_rfl)) hlen (by rw [hby]; simp; omega) (by simp; omega) fun s' B' w' b' f' n' _ => ?_
 rw [List.nil_append] at b'
 exact kk s' B' w' b' f' fun b hb => by
  rcases n' b hb with h | h
  ·simp at h; exact .inl h
  ·exact .inr h
theorem qtp {α : Type} {enc : α -> List Value} {w : World} {s : Sl} {l : List α} {B : List Nat} {i : Nat} {x : α} {v : Value} {y : Int} {K : World -> Prop} (h : Buf enc 1 w s l B) (hl : i < l.length) (hy : y = i) (henc : ∀ x, (enc x).length = 1) (hx : enc x = [v]) (hone : v.oneCell' = true)
  (kk : ∀ w', Buf enc 1 w' s (l.set i x) B -> Fr B w w' -> K w') : idx s y 1 fun a => st a [v] w K := by
 subst hy
 rcases h with ⟨rfl, rfl, _⟩ | ⟨b, o, cs, T, rfl, rfl, ha, hb, h1, h2, h3, h4⟩
 ·simp at hl
 ·refine qbj ha ⟨by omega, by omega⟩ ?_
  rw [Int.toNat_natCast, Nat.mul_one, Nat.zero_add]
  rw [List.drop_zero, Nat.mul_one] at h4
  have hlen : (l.flatMap enc).length = l.length := by rw [qbs henc, Nat.mul_one]
  have hsz : i + [v].length <= cs.size := by simp; omega
  refine qcU hb (splice cs i [v]) rfl (by simp [hone]) hsz fun w' hb' f' => ?_
  refine kk w' (.inr ⟨b, 0, _, T, rfl, rfl, ha, hb', by rw [List.length_set]; exact h1, h2, by rw [qbQ]; exact h3, ?_⟩) f'
  rw [List.drop_zero, Nat.mul_one, List.length_set]
  have hsp := qhI henc l i x hl
  rw [Nat.mul_one, hx] at hsp
  have hcs : cs = ((l.flatMap enc) ++ cs.toList.drop l.length).toArray := by
   apply Array.ext'
   show cs.toList = l.flatMap enc ++ cs.toList.drop l.length
   rw [<- h4, List.take_append_drop]
  have h5 : (splice cs i [v]).toList.take l.length = (splice (l.flatMap enc).toArray i [v]).toList := by
   rw [qau _ _ _ (by simp; omega), qau _ _ _ (by simp [hlen]; omega)]
   have hc2 : cs.toList = l.flatMap enc ++ cs.toList.drop l.length := by rw [<- h4, List.take_append_drop]
   rw [hc2]
   generalize cs.toList.drop l.length = R
   show (((l.flatMap enc ++ R).take i ++ [v] ++ (l.flatMap enc ++ R).drop (i + [v].length)).take l.length) = (l.flatMap enc).take i ++ [v] ++ (l.flatMap enc).drop (i + [v].length)
   have e1 : (l.flatMap enc ++ R).take i = (l.flatMap enc).take i := List.take_append_of_le_length (by omega)
   have e2 : (l.flatMap enc ++ R).drop (i + [v].length) = (l.flatMap enc).drop (i + [v].length) ++ R := List.drop_append_of_le_length (by rw [hlen]; show i + 1 <= _; omega)
   rw [e1, e2, <- List.append_assoc]
   have e3 : ((l.flatMap enc).take i ++ [v] ++ (l.flatMap enc).drop (i + [v].length)).length = l.length := by simp [hlen]; omega
   rw [List.take_append_of_le_length (by omega), List.take_of_length_le (by omega)]
  rw [h5, hsp]
theorem qjZ {S : List Nat} {w : World} {d : RDv} {D : DiskM} {K : RDv × Int -> World -> Prop} (h : RD S w d D) (hD : D.Ok) (hS : ∀ b ∈ S, b < w.heap.size)
  (hk : ∀ d' w', RD S w' d' (syncM D).1 -> Fr [] w w' -> K (d', (syncM D).2) w') :
  call Tryz.prog 106 [.agg (rdC d)] [.agg dC, .one (.int .i64)] w K := by
 obtain ⟨d0, d1, d2, d3, d4⟩ := d
 have hdn : d3 = D.down := h.down
 have hfz := hD.fuse
 have hwt := hD.waits
 have hsf := hD.safe
 refine qfK (d0 := d0) (d1 := d1) (d2 := d2) (d3 := d3) (d4 := d4) ?_
 unfold qbA
 refine Own.new' (Own.start [] w) fun r1 w1 e1 f1 ho => ?_
 refine Own.new' ho fun r3 w2 e2 f2 ho => ?_
 have f02 := ho.fr
 have hnod := ho.nodup
 simp only [List.map_cons, List.map_nil, List.nodup_cons, List.mem_cons, List.not_mem_nil, or_false, not_or, List.nodup_nil, and_true] at hnod
 have hr1w : w.heap.size <= r1 /\ w.heap.size <= r3 := by have := f1.size; omega
 refine Own.ld (c := .bool) ho 1 rfl d3 rfl ?_
 refine qaa (fun hc => ?_) (fun hc => ?_)
 ·refine qdZ (d := (d0, d1, d2, d3, d4)) (d0 := zD) (K := fun t w => K (t, 7) w) ho 1 0 rfl rfl fun w3 f3 _ => ?_
  have he : syncM D = (D, 7) := by rw [syncM, if_pos (by rw [<- hdn]; exact hc)]
  have := hk (d0, d1, d2, d3, d4) w3 (by rw [he]; exact h.frame0 f3) f3
  rw [he] at this
  exact this
 have hd : ¬ D.down = true := by rw [<- hdn, hc]; decide
 have hdf : D.down = false := by rw [<- hdn]; exact hc
 refine Own.ldD (d := (d0, d1, d2, d3, d4)) ho 1 rfl ?_
 have hnew : ∀ b ∈ r1 :: r3 :: S, b ∈ S \/ w.heap.size <= b := fun b hb => by
  simp only [List.mem_cons] at hb
  rcases hb with rfl | rfl | hb
  ·exact .inr hr1w.1
  ·exact .inr hr1w.2
  ·exact .inl hb
 have h2 : RD (r1 :: r3 :: S) w2 (d0, d1, d2, d3, d4) D := h.frame (f02.mono fun b hb => by cases hb) hnew
 have hlt2 : ∀ b ∈ r1 :: r3 :: S, b < w2.heap.size := fun b hb => by
  simp only [List.mem_cons] at hb
  rcases hb with rfl | rfl | hb
  ·exact qac (ho.at (i := 1) rfl)
  ·exact qac (ho.at (i := 0) rfl)
  ·exact Nat.lt_of_lt_of_le (hS b hb) f02.size
 refine qpH h2 hlt2 (by omega) fun d' w3 h3 f3 => ?_
 have ho3 := ho.frame0 f3
 have hfa := qiU D
 obtain ⟨a0, a1, a2, a3, a4⟩ := d'
 refine Own.st' ho3 1 rfl (rdC (a0, a1, a2, a3, a4)) rfl rfl (Nat.le_of_ble_eq_true rfl) fun w4 ho4 f4 => ?_
 have ha3 : a3 = (actM D).2 := by
  have : a3 = (actM D).1.down := h3.down
  rw [this]; exact hfa.2.2.2 hdf
 have h4 := h3.frame (S' := r1 :: r3 :: S) (f4.mono fun b hb _ => by simp at hb; subst hb; simp) (fun b hb => .inl hb)
 refine Own.ld (c := .bool) ho4 1 rfl a3 rfl ?_
 refine qaa (fun hc2 => ?_) (fun hc2 => ?_)
 ·refine qdZ (d := (a0, a1, a2, a3, a4)) (d0 := zD) (K := fun t w => K (t, 7) w) ho4 1 0 rfl rfl fun w5 f5 g5 => ?_
  have he : syncM D = ((actM D).1, 7) := by rw [syncM, if_neg hd, if_pos (by rw [<- ha3]; exact hc2)]
  have := hk (a0, a1, a2, a3, a4) w5 (by rw [he]; exact h4.frame (g5.mono fun b hb _ => by simp at hb; subst hb; simp) (fun b hb => .inl (by simp [hb]))) f5
  rw [he] at this
  exact this
 have he : syncM D = ({ (actM D).1 with safe := D.waits.foldl laySafe D.safe, waits := [] }, 0) := by rw [syncM, if_neg hd, if_neg (by rw [<- ha3, hc2]; decide)]
 rw [he] at hk
 have hs4 : Rds encBlkS 1 (r1 :: r3 :: S) w4 a0 D.safe := by have := h4.safe; rw [hfa.1] at this; exact this
 have hw4 : Rds encWtS 2 (r1 :: r3 :: S) w4 a1 D.waits := by have := h4.waits; rw [hfa.2.1] at this; exact this
 have hwl : a1.len = D.waits.length := hw4.1
 refine Own.new' ho4 fun r5 w5 e5 f5 ho5 => ?_
 refine Own.ld (c := .slice) ho5 2 rfl a0 rfl ?_
 refine qq1 (S := []) ((hs4.weak (fun b hb => by cases hb)).frame0 f5) (ho5.at (i := 0) rfl) (by omega) fun s6 B6 w6 b6 f6 n6 => ?_
 have ho5' := ho5.sub (L' := [(r3, .cells (rdC zD) RDT (0, 0)), (r1, .cells (rdC (a0, a1, a2, a3, a4)) RDT (0, 0))]) (List.Sublist.cons _ (List.Sublist.refl _))
 have l3 := qac (ho4.at (i := 0) rfl)
 have l1 := qac (ho4.at (i := 1) rfl)
 have h5w : w.heap.size <= r5 := by have := ho4.fr.size; omega
 have ho6 := ho5'.frame f6 (fun b hb => by simp at hb; subst hb; exact .inr h5w) (fun p hp hb => by
  simp only [List.mem_cons, List.not_mem_nil, or_false] at hp hb
  rcases hp with rfl | rfl <;> (dsimp only at hb; omega))
 have nB6 : ∀ b ∈ B6, w.heap.size <= b /\ b ≠ r1 /\ b ≠ r3 /\ w4.heap.size <= b := fun b hb => by
  have : w4.heap.size <= b := by
   rcases n6 b hb with h | h
   ·omega
   ·have := f5.size; omega
  have := ho4.fr.size
  exact ⟨by omega, by omega, by omega, by omega⟩
 refine Own.st' ho6 1 rfl (rdC (s6, a1, a2, a3, a4)) rfl rfl (Nat.le_of_ble_eq_true rfl) fun w7 ho7 f7 => ?_
 have b7 := b6.frame f7 (fun b hb => by simpa using (nB6 b hb).2.1)
 refine qaf (fun x w' => ∃ i : Nat, x = i /\ i <= D.waits.length /\ Own [] w w' [(r3, .cells (rdC zD) RDT (0, 0)), (r1, .cells (rdC (s6, a1, a2, a3, a4)) RDT (0, 0))] /\ Buf encBlkS 1 w' s6 ((D.waits.take i).foldl laySafe D.safe) B6 /\ Fr (r1 :: B6) w4 w') (fun x _ => ((D.waits.length : Int) - x).toNat) ⟨0, rfl, by omega, ho7, b7, ?_⟩ ?_
 ·refine ((f5.mono fun b hb => by cases hb).trans' f6 fun b hb => ?_).trans' (f7.mono (T := r1 :: B6) fun b hb _ => by simp at hb; subst hb; simp) fun b hb => .inl hb
  simp at hb; subst hb; exact .inr (by omega)
 rintro x w8 ⟨i, rfl, hi, ho8, b8, f8⟩ X hX
 have hw8 : Rds encWtS 2 [] w8 a1 D.waits := by
  have : Rds encWtS 2 (r1 :: B6) w4 a1 D.waits := hw4.frame (Fr.refl _ _) (fun b hb => by
   simp only [List.mem_cons] at hb
   rcases hb with rfl | hb
   ·exact .inl (by simp)
   ·exact .inr (nB6 b hb).2.2.2)
  exact (this.frame f8 (fun b hb => .inl hb)).weak (fun b hb => by cases hb)
 refine Own.ld (c := .slice) ho8 1 rfl a1 rfl ?_
 rw [hwl]
 refine qaa (fun hc3 => ?_) (fun hc3 => ?_)
 ·have hil : i < D.waits.length := by have := of_decide_eq_true hc3; omega
  have ho8d := ho8.drew
  have hw8d := hw8.frame0 (Fr.refl [] w8).drew
  have hat := hD.at_ _ (List.getElem_mem hil)
  refine Own.ld (c := .slice) ho8d 1 rfl s6 rfl ?_
  refine Own.ld (c := .slice) ho8d 1 rfl a1 rfl ?_
  refine qpC hw8d i hil rfl fun b o cs T fr hb hc0 hc1 => ?_
  refine qag (c := .int .i64) hb D.waits[i].1 hc0 ?_
  refine Own.ld (c := .slice) ho8d 1 rfl a1 rfl ?_
  refine qpC hw8d i hil rfl fun b' o' cs' T' fr' hb' hc0' hc1' => ?_
  refine qag (c := .str) hb' (strOf D.waits[i].2.1) hc1' ?_
  have hsl := qcz (D.waits.take i) D.safe
  refine qtp (x := D.waits[i].2) (i := D.waits[i].1.toNat) (b8.frame0 (Fr.refl [] w8).drew) (by omega) (by omega) qcx rfl rfl fun w9 b9 f9 => ?_
  rw [wi' _ (by omega)]
  refine hX _ _ ⟨i + 1, by simp, by omega, ho8d.frame f9 (fun b hb => .inr (nB6 b hb).1) (fun p hp hb => ?_), ?_, f8.drew.trans (f9.mono fun b hb _ => List.mem_cons_of_mem _ hb)⟩ (by omega)
  ·have := nB6 _ hb
   simp only [List.mem_cons, List.not_mem_nil, or_false] at hp
   rcases hp with rfl | rfl
   ·exact this.2.2.1 rfl
   ·exact this.2.1 rfl
  ·rw [List.take_succ_eq_append_getElem hil, List.foldl_append]
   exact b9
 ·have hie : i = D.waits.length := by have := of_decide_eq_false hc3; omega
  subst hie
  rw [List.take_length] at b8
  refine Own.st' ho8 1 rfl (rdC (s6, ⟨none, 0, 0⟩, a2, a3, a4)) rfl rfl (Nat.le_of_ble_eq_true rfl) fun w9 ho9 f9 => ?_
  refine qdZ (d := (s6, ⟨none, 0, 0⟩, a2, a3, a4)) (d0 := zD) (K := fun t w => K (t, 0) w) ho9 1 0 rfl rfl fun w10 f10 g10 => ?_
  have b10 := (b8.frame f9 (fun b hb => by simpa using (nB6 b hb).2.1)).frame g10 (fun b hb => by simpa using (nB6 b hb).2.2.1)
  exact hk _ w10 ⟨b10.rds qcx (fun b hb hm => by have := hS b hm; have := nB6 b hb; omega), .nil _ _ _ _, h4.fuse, h4.down, h4.writes⟩ f10
end Go.Proofs.YtmbcedengdoamaaGreatDoor
end
section
set_option linter.unusedVariables false
set_option linter.unusedSimpArgs false
namespace Go.Proofs.YtmbcedengdoamaaGreatDoor
open Go Go.Pt
attribute [local irreducible] ld ldA ldV fld fldA newZ st new idx idxS idxA slc slcS slcP mkS chk nn call callV inv run runQ runU join loop held ext rng undefer s2a nxt ent IntKind.wrap
theorem qqc {M : PgM} {pages named : List Int} (h : planM M = some (pages, named)) :
  ∃ k, k = needP (M.free.length + (M.deferred ++ M.lists).length) /\ k <= M.free.length /\ pages = M.free.take k /\ named = insAll ((M.deferred ++ M.lists) ++ M.free.drop k) := by
 unfold planM at h
 split at h
 ·cases h
 rename_i hroom
 have hpn := Option.some.inj h
 exact ⟨_, rfl, by omega, (congrArg Prod.fst hpn).symm, (congrArg Prod.snd hpn).symm⟩
theorem PgM.Wf.planNodup {M : PgM} (h : M.Wf) (k : Nat) : (M.free.take k ++ ((M.deferred ++ M.lists) ++ M.free.drop k)).Nodup := by
 have hp : (M.free ++ (M.deferred ++ (M.lists ++ M.fresh.map (·.1)))).Perm ((M.free.take k ++ ((M.deferred ++ M.lists) ++ M.free.drop k)) ++ M.fresh.map (·.1)) := by
  conv => lhs; lhs; rw [<- List.take_append_drop k M.free]
  rw [<- List.append_assoc M.deferred]
  have : (M.free.drop k ++ ((M.deferred ++ M.lists) ++ M.fresh.map (·.1))).Perm (((M.deferred ++ M.lists) ++ M.free.drop k) ++ M.fresh.map (·.1)) := by
   rw [<- List.append_assoc]
   exact List.perm_append_comm.append_right _
  rw [List.append_assoc, List.append_assoc (M.free.take k)]
  exact this.append_left _
 exact (hp.nodup_iff.1 h.nodup).sublist (List.sublist_append_left _ _)
theorem qfj {M : PgM} {pages named : List Int} (hW : M.Wf) (h : planM M = some (pages, named)) : ListOk (M.sup.2.getD 0 0) named pages := by
 obtain ⟨k, hk, hkl, rfl, rfl⟩ := qqc h
 have hnd := hW.planNodup k
 rw [List.nodup_append] at hnd
 have hr : ∀ x ∈ (M.deferred ++ M.lists) ++ M.free.drop k, 2 <= x /\ x < M.sup.2.getD 0 0 := fun x hx => hW.range x (by
  simp only [List.mem_append] at hx ⊢
  rcases hx with (hx | hx) | hx
  ·exact .inr (.inl hx)
  ·exact .inr (.inr (.inl hx))
  ·exact .inl (List.mem_of_mem_drop hx))
 refine ⟨qdS _, fun x hx => hr x (qiK.1 hx), fun x hx => hW.range x (List.mem_append_left _ (List.mem_of_mem_take hx)), hnd.1, fun x hx hm => hnd.2.2 x hx x (qiK.1 hm) rfl, ?_⟩
 have h1 := (qkI hnd.2.1).length_eq
 have h2 := qit (n := M.free.length + (M.deferred ++ M.lists).length)
 rw [<- hk] at h2
 rw [h1, List.length_append, List.length_drop, List.length_take, Nat.min_eq_left hkl]
 omega
theorem qp7 (fresh : List (Int × Int × List Int)) : (freshW fresh).map (·.1) = insAll (fresh.map (·.1)) := by
 rw [freshW, List.map_map]
 exact List.map_id _
theorem qfo {β : Type} : ∀ {l : List (Int × β)} {e : Int × β}, (l.map (·.1)).Nodup -> e ∈ l -> ∃ i, look e.1 l = some (i, e.2)
 | p :: r, e, hn, he => by
  rw [List.map_cons, List.nodup_cons] at hn
  simp only [look]
  rcases List.mem_cons.1 he with rfl | he
  ·exact ⟨0, by rw [if_pos rfl]⟩
  ·have hne : e.1 ≠ p.1 := fun h => hn.1 (h ▸ List.mem_map_of_mem he)
   obtain ⟨i, hi⟩ := qfo hn.2 he
   exact ⟨i + 1, by rw [if_neg hne, hi]; rfl⟩
structure Flushed (D D' : DiskM) (M : PgM) (pages named : List Int) (next : Sup) : Prop where
 down : D'.down = false
 waits : D'.waits = []
 listed : Listed D' named pages
 super : view D' (next.1 % 2) = sealV (next.1 % 2) 1 (superB next.1 next.2)
 fresh : ∀ e ∈ M.fresh, view D' e.1 = sealV e.1 e.2.1 e.2.2
 rest : ∀ m, 0 <= m -> m ∉ M.fresh.map (·.1) -> m ∉ pages -> m ≠ next.1 % 2 -> view D' m = view D m
theorem PgM.Wf.keysNodup {M : PgM} (h : M.Wf) : (M.fresh.map (·.1)).Nodup := h.nodup.sublist (((List.sublist_append_right _ _).trans (List.sublist_append_right _ _)).trans (List.sublist_append_right _ _))
theorem PgM.Wf.keys {M : PgM} (h : M.Wf) : ∀ x ∈ M.fresh.map (·.1), 2 <= x /\ x < M.sup.2.getD 0 0 := fun x hx => h.range x (List.mem_append_right _ (List.mem_append_right _ (List.mem_append_right _ hx)))
theorem Quiet.flushed {D : DiskM} {M : PgM} {pages named : List Int} {next : Sup} (h : Quiet D) (hW : M.Wf) (hb : M.sup.2.getD 0 0 = D.size) (h8 : 8 <= D.size) (hplan : planM M = some (pages, named)) (hs : SupOk next) :
  (flushM D M.fresh pages named next).2 = 0 /\ Quiet (flushM D M.fresh pages named next).1 /\ (flushM D M.fresh pages named next).1.size = D.size := by
 have hkn : ((freshW M.fresh).map (·.1)).Nodup := by rw [qp7]; exact qgx (qdS _)
 obtain ⟨D1, e1, q1, s1, _⟩ := h.writes (l := freshW M.fresh) (fun x hx => by
  obtain ⟨n, hn, rfl⟩ := List.mem_map.1 hx
  have hn := qiK.1 hn
  have hk := hW.keys n hn
  refine ⟨by dsimp only; omega, qdm ?_⟩
  obtain ⟨e, he, rfl⟩ := List.mem_map.1 hn
  obtain ⟨i, hi⟩ := qfo hW.keysNodup he
  rw [leafOf, hi]
  exact (hW.body e he).2.1) hkn
 have hlk := qfj hW hplan
 rw [hb, <- s1] at hlk
 obtain ⟨D2, e2, q2, s2, _⟩ := q1.spread hlk
 obtain ⟨D3, e3, q3, s3, _⟩ := q2.sealOk hs (by omega)
 have : flushM D M.fresh pages named next = (D3, 0) := by rw [flushM, e1, andThen_ok, e2, andThen_ok, e3]
 rw [this]
 exact ⟨rfl, q3, by show D3.size = D.size; omega⟩
def PgM.all (M : PgM) : List Int := M.free ++ (M.deferred ++ (M.lists ++ M.fresh.map (·.1)))
theorem qlj {s : Sup} {pages numbers : List Int} {t : Int} {ov : Bool} (h : ListOk (s.2.getD 0 0) numbers pages) (h4 : s.2.getD 0 0 <= 4096) (hu : ∀ x ∈ s.2, U32 x) : (begunM s pages numbers t ov numbers).Wf where
 n4 := h4
 u32 := hu
 roots := fun x hx => hu x (List.mem_of_mem_drop hx)
 namedS := h.rises
 named := h.nums
 freeS := h.rises
 defS := .nil
 nodup := by
  show (numbers ++ ([] ++ (pages ++ []))).Nodup
  rw [List.nil_append, List.append_nil, List.nodup_append]
  exact ⟨qgx h.rises, h.nodup, fun x hx y hy e => h.apart y hy (e ▸ hx)⟩
 range := fun x hx => by
  have hx : x ∈ numbers ++ ([] ++ (pages ++ [])) := hx
  rw [List.nil_append, List.append_nil, List.mem_append] at hx
  rcases hx with hx | hx
  ·exact h.nums x hx
  ·exact h.pgs x hx
 body := fun e he => by cases he
theorem qsN : overM.Wf := by
 have hz : ∀ x ∈ supZero.2, U32 x := fun x hx => by
  have := List.eq_of_mem_replicate (show x ∈ List.replicate 27 (0 : Int) from hx)
  subst this
  exact ⟨by decide, by decide⟩
 exact qlj (s := supZero) (pages := []) (numbers := []) ⟨.nil, (fun x hx => by cases hx), (fun x hx => by cases hx), .nil, (fun x hx => by cases hx), by decide⟩ (by decide) hz
theorem qoJ {β : Type} {n : Int} {v : β} {l : List (Int × β)} (h : n ∉ l.map (·.1)) : setL n v l = l ++ [(n, v)] := by
 rw [setL, qdk.2 h]
theorem qne {β : Type} {n : Int} {v : β} {l : List (Int × β)} (h : n ∈ l.map (·.1)) : (setL n v l).map (·.1) = l.map (·.1) := by
 unfold setL
 cases hl : look n l with
 | none => exact absurd h (qdk.1 hl)
 | some q =>
  dsimp only
  rw [List.map_set]
  apply List.ext_getElem?
  intro j
  rw [List.getElem?_set]
  by_cases hj : q.1 = j
  ·subst hj
   have h1 := (qaJ hl).1
   obtain ⟨hlt, he⟩ := List.getElem?_eq_some_iff.1 h1
   simp [hlt, he]
  ·rw [if_neg hj]
theorem qq6 {β : Type} {n : Int} {l : List (Int × β)} (h : n ∈ l.map (·.1)) : (l.map (·.1)).Perm (n :: (delL n l).map (·.1)) := by
 unfold delL
 cases hl : look n l with
 | none => exact absurd h (qdk.1 hl)
 | some q =>
  dsimp only
  have h1 := (qaJ hl).1
  obtain ⟨hlt, he⟩ := List.getElem?_eq_some_iff.1 h1
  rw [qbO]
  have hk : (l.map (·.1))[q.1]'(by simpa using hlt) = n := by simp [he]
  have hlt' : q.1 < (l.map (·.1)).length := by simpa using hlt
  have h2 : l.map (·.1) = (l.map (·.1)).take q.1 ++ n :: (l.map (·.1)).drop (q.1 + 1) := by
   rw [<- hk, <- List.drop_eq_getElem_cons hlt', List.take_append_drop]
  rw [List.eraseIdx_eq_take_drop_succ]
  conv => lhs; rw [h2]
  exact List.perm_middle
theorem qsd {M : PgM} {n : Int} : usedV M n = true ↔ (2 <= n /\ n < M.sup.2.getD 0 0) /\ n ∉ M.all := by
 unfold usedV PgM.all
 simp only [Bool.and_eq_true, Bool.not_eq_true', Bool.or_eq_false_iff, decide_eq_false_iff_not, Option.isNone_iff_eq_none, qdk, List.mem_append, not_or]
 constructor
 ·rintro ⟨⟨⟨⟨⟨h1, h2⟩, h3⟩, h4⟩, h5⟩, h6⟩
  exact ⟨⟨by omega, by omega⟩, h4, h5, h3, h6⟩
 ·rintro ⟨⟨h1, h2⟩, h3, h4, h5, h6⟩
  exact ⟨⟨⟨⟨⟨by omega, by omega⟩, h5⟩, h3⟩, h4⟩, h6⟩
theorem qrB {M : PgM} {n : Int} {r : List Int} {v : Int × List Int} (hf : M.free = n :: r) (hW : M.Wf) : (r ++ (M.deferred ++ (M.lists ++ (setL n v M.fresh).map (·.1)))).Perm M.all := by
 have hnk : n ∉ M.fresh.map (·.1) := fun hm => by
  have hn := hW.nodup
  rw [hf, List.cons_append, List.nodup_cons] at hn
  exact hn.1 (List.mem_append_right _ (List.mem_append_right _ (List.mem_append_right _ hm)))
 rw [qoJ hnk, List.map_append, PgM.all, hf]
 show (r ++ (M.deferred ++ (M.lists ++ (M.fresh.map (·.1) ++ [n])))).Perm (n :: (r ++ (M.deferred ++ (M.lists ++ M.fresh.map (·.1)))))
 rw [<- List.append_assoc M.lists, <- List.append_assoc M.deferred, <- List.append_assoc r]
 exact List.perm_append_singleton n _
theorem qih {M M' : PgM} (hW : M.Wf) (hs : M'.sup = M.sup) (hn : M'.named = M.named) (hr : ∀ x ∈ M'.roots, U32 x) (hp : M'.all.Perm M.all) (hf : M'.free.Pairwise (· < ·)) (hd : M'.deferred.Pairwise (· < ·)) (hb : ∀ e ∈ M'.fresh, (0 <= e.2.1 /\ e.2.1 < 256) /\ e.2.2.length <= 500 /\ IsB e.2.2) : M'.Wf where
 n4 := by rw [hs]; exact hW.n4
 u32 := by rw [hs]; exact hW.u32
 roots := hr
 namedS := by rw [hn]; exact hW.namedS
 named := by rw [hn, hs]; exact hW.named
 freeS := hf
 defS := hd
 nodup := hp.nodup_iff.2 hW.nodup
 range := fun x hx => by rw [hs]; exact hW.range x (hp.mem_iff.1 hx)
 body := hb
theorem qpF {M : PgM} {kind : Int} {body : List Int} (hW : M.Wf) (hk : 0 <= kind /\ kind < 256) (hB : IsB body) : (makeV M kind body).2.Wf /\ (makeV M kind body).2.all.Perm M.all := by
 unfold makeV
 split
 ·exact ⟨hW, .refl _⟩
 split
 ·exact ⟨hW, .refl _⟩
 rename_i h5
 split
 ·exact ⟨hW, .refl _⟩
 ·rename_i n r hf
  have hp := qrB (v := (kind, body)) hf hW
  refine ⟨qih hW rfl rfl hW.roots hp ?_ hW.defS fun e he => ?_, hp⟩
  ·have := hW.freeS
   rw [hf, List.pairwise_cons] at this
   exact this.2
  ·rcases qis he with h | h
   ·exact hW.body e h
   ·rw [h]; exact ⟨hk, by show body.length <= 500; omega, hB⟩
theorem qtd {M : PgM} {n kind : Int} {body : List Int} (hW : M.Wf) (hk : 0 <= kind /\ kind < 256) (hB : IsB body) : (putV M n kind body).2.Wf /\ (putV M n kind body).2.all.Perm M.all := by
 unfold putV
 split
 ·exact ⟨hW, .refl _⟩
 split
 ·exact ⟨hW, .refl _⟩
 rename_i q hq
 split
 ·exact ⟨hW, .refl _⟩
 ·rename_i h5
  have hm : n ∈ M.fresh.map (·.1) := List.mem_map.2 ⟨_, (qaJ hq).2, rfl⟩
  have hp : ({ M with fresh := setL n (kind, body) M.fresh } : PgM).all = M.all := by
   show M.free ++ (M.deferred ++ (M.lists ++ (setL n (kind, body) M.fresh).map (·.1))) = _
   rw [qne hm]; rfl
  refine ⟨qih hW rfl rfl hW.roots (by rw [hp]) hW.freeS hW.defS fun e he => ?_, by rw [hp]⟩
  rcases qis he with h | h
  ·exact hW.body e h
  ·rw [h]; exact ⟨hk, by show body.length <= 500; omega, hB⟩
theorem qsP {M : PgM} {n : Int} (hW : M.Wf) : (dropV M n).2.Wf := by
 unfold dropV
 split
 ·exact hW
 split
 ·rename_i q hq
  have hm : n ∈ M.fresh.map (·.1) := List.mem_map.2 ⟨_, (qaJ hq).2, rfl⟩
  have hn := hW.nodup
  have hnf : n ∉ M.free := fun h => by
   rw [List.nodup_append] at hn
   exact hn.2.2 n h n (List.mem_append_right _ (List.mem_append_right _ hm)) rfl
  have hp : ({ M with fresh := delL n M.fresh, free := ins n M.free } : PgM).all.Perm M.all := by
   show (ins n M.free ++ (M.deferred ++ (M.lists ++ (delL n M.fresh).map (·.1)))).Perm (M.free ++ (M.deferred ++ (M.lists ++ M.fresh.map (·.1))))
   refine ((qgL hnf).append_right _).trans ?_
   have h1 := qq6 hm
   have h2 : (M.deferred ++ (M.lists ++ M.fresh.map (·.1))).Perm (n :: (M.deferred ++ (M.lists ++ (delL n M.fresh).map (·.1)))) := by
    refine ((h1.append_left M.lists).append_left M.deferred).trans ?_
    rw [<- List.append_assoc, <- List.append_assoc]
    exact List.perm_middle
   exact (List.perm_middle.symm.trans (h2.symm.append_left M.free))
  exact qih hW rfl rfl hW.roots hp (qep hW.freeS) hW.defS fun e he => hW.body e (qnQ he)
 ·rename_i hq
  split
  ·rename_i hu
   have hu := qsd.1 hu
   have hnd : n ∉ M.deferred := fun h => hu.2 (List.mem_append_right _ (List.mem_append_left _ h))
   have hp : ({ M with deferred := ins n M.deferred } : PgM).all.Perm (n :: M.all) := by
    show (M.free ++ (ins n M.deferred ++ (M.lists ++ M.fresh.map (·.1)))).Perm (n :: (M.free ++ (M.deferred ++ (M.lists ++ M.fresh.map (·.1)))))
    exact (((qgL hnd).append_right _).append_left M.free).trans List.perm_middle
   refine { n4 := hW.n4, u32 := hW.u32, roots := hW.roots, namedS := hW.namedS, named := hW.named, freeS := hW.freeS, defS := qep hW.defS, nodup := hp.nodup_iff.2 (List.nodup_cons.2 ⟨hu.2, hW.nodup⟩), range := fun x hx => ?_, body := hW.body }
   rcases List.mem_cons.1 (hp.mem_iff.1 hx) with rfl | h
   ·exact hu.1
   ·exact hW.range x h
  ·exact hW
theorem qsF {M : PgM} {pages named : List Int} {s : Sup} {t : Int} {ov : Bool} (hW : M.Wf) (h : planM M = some (pages, named)) (hs : s.2.getD 0 0 = M.sup.2.getD 0 0) (hu : ∀ x ∈ s.2, U32 x) : (begunM s pages named t ov named).Wf :=
 qlj (by rw [hs]; exact qfj hW h) (by rw [hs]; exact hW.n4) hu
theorem qki {M : PgM} {pages named : List Int} (hW : M.Wf) (h : planM M = some (pages, named)) : ∀ x ∈ (nextS M pages named).2, U32 x := by
 have hlk := qfj hW h
 have h4 := hW.n4
 intro x hx
 simp only [nextS, List.mem_append, List.mem_cons, List.not_mem_nil, or_false] at hx
 rcases hx with (rfl | rfl | rfl) | hx
 ·exact qgF hW.u32 0
 ·cases pages with
  | nil => exact ⟨by decide, by decide⟩
  | cons a r =>
   have := hlk.pgs a (by simp)
   show 0 <= a /\ a < 4294967296
   omega
 ·exact qa3 _
 ·exact hW.roots x hx
theorem qrQ {M : PgM} {pages named : List Int} (hW : M.Wf) (h : planM M = some (pages, named)) (hr : M.roots.length = 24) (hq : 0 <= M.sup.1 /\ M.sup.1 < 4611686018427387903) : SupOk (nextS M pages named) /\ (nextS M pages named).1 = M.sup.1 + 1 := by
 have e : IntKind.wrap .u64 (M.sup.1 + 1) = M.sup.1 + 1 := qeu _ (by omega)
 refine ⟨⟨?_, ?_, qki hW h⟩, e⟩
 ·show 0 <= IntKind.wrap .u64 (M.sup.1 + 1) /\ IntKind.wrap .u64 (M.sup.1 + 1) < _
  rw [e]; omega
 ·show ([M.sup.2.getD 0 0, pages.headD 0, IntKind.wrap .u32 (named.length : Int)] ++ M.roots).length = 27
  rw [List.length_append, hr]; rfl
theorem qrI {D : DiskM} {M : PgM} (hW : M.Wf) : (commitM D M).1.2.Wf := by
 unfold commitM
 split
 ·exact hW
 split
 ·exact hW
 split
 ·exact hW
 ·rename_i x hx
  obtain ⟨pages, named⟩ := x
  split
  ·exact qsN
  ·exact qsF hW hx rfl (qki hW hx)
end Go.Proofs.YtmbcedengdoamaaGreatDoor
end
section
set_option linter.unusedVariables false
set_option maxRecDepth 100000
namespace Go.Proofs.YtmbcedengdoamaaGreatDoor
open Go Go.Pt
@[reducible] def qtz : List Cell := [Cell.int IntKind.u32, Cell.int IntKind.u32, Cell.int IntKind.u32]
@[reducible] def qak : List Cell := [Cell.slice, Cell.slice, Cell.int IntKind.i64, Cell.bool, Cell.int IntKind.i64]
@[reducible] def qp2 : List Cell := [Cell.int IntKind.u32, Cell.int IntKind.u8, Cell.str]
def qbh (p : List Value) (K : ((List Value)) -> World -> Prop) (w : World) : Prop := new (Obj.cells (List.toArray p) 63) w <| fun r_1 w_2 => newZ Tryz.prog 63 w_2 <| fun r_3 w_4 => ld (.int .i64) ⟨r_1, 35, none⟩ w_4 <| fun (x_5 : Int) => st ⟨r_1, 35, none⟩ ([.int .i64 (IntKind.wrap .i64 (x_5 + 1))]) w_4 <| fun w_6 => ld .slice ⟨r_1, 34, none⟩ w_6 <| fun (s_7 : Sl) => ldV 24 (⟨(Addr.add ⟨r_1, 0, none⟩ 5).block, (Addr.add ⟨r_1, 0, none⟩ 5).off + 4, none⟩) w_6 <| fun (vs_8 : List Value) => runQ [.raw] (fun w_9 => (Instr.build 61 (#[(0, .slice s_7.a s_7.len s_7.cap), (3, .agg (List.toArray vs_8))])).run Tryz.prog w_9) w_6 <| fun (vs_10 : List Value) => chk (List.length vs_10 = 27) <| st ⟨r_1, 37, none⟩ vs_10 w_6 <| fun w_11 => ldV 64 ⟨r_1, 0, none⟩ w_11 <| fun (vs_12 : List Value) => chk (List.length vs_12 = 64) <| st ⟨r_3, 0, none⟩ vs_12 w_11 <| fun w_13 => ldV 64 ⟨r_3, 0, none⟩ w_13 <| fun (vs_14 : List Value) => K vs_14 w_13
def qcw : List Ann := [.n, .n, .n, .n]
theorem qe1 {p : List Value} {w : World} {K : ((List Value)) -> World -> Prop} (hF : qbh p K w) : call Tryz.prog 81 [.agg p.toArray] [.raw] w K := qab (an := qcw) Tryz.func81 (by kernel_rfl) ((show fnPt (std Tryz.prog) Tryz.prog Tryz.f81 qcw [.raw] [.agg p.toArray] K w = qbh p K w by kernel_rfl).mpr hF)
def qbf (p : List Value) (n : Int) (K : Int -> World -> Prop) (w : World) : Prop := new (Obj.cells (List.toArray p) 63) w <| fun r_1 w_2 => loop (Int) (fun X_3 (x_4 : Int) w_5 => ld .slice (⟨(Addr.add ⟨r_1, 0, none⟩ 37).block, (Addr.add ⟨r_1, 0, none⟩ 37).off + 2, none⟩) w_5 <| fun (s_6 : Sl) => cond (decide (x_4 < (↑s_6.len : Int))) (ld .slice (⟨(Addr.add ⟨r_1, 0, none⟩ 37).block, (Addr.add ⟨r_1, 0, none⟩ 37).off + 2, none⟩) w_5 <| fun (s_7 : Sl) => idx s_7 x_4 3 <| fun a_8 => ld (.int .u32) a_8 w_5 <| fun (x_9 : Int) => cond (x_9 == n) (K x_4 w_5) (X_3 (IntKind.wrap .i64 (x_4 + 1)) w_5)) (K (-1) w_5)) 0 w_2
def qcv : List Ann := [.n, .n, .n, .l [(5, .one (.int .i64))], .n, .n, .n, .n, .n, .n]
theorem qeW {p : List Value} {n : Int} {w : World} {K : Int -> World -> Prop} (hF : qbf p n K w) : call Tryz.prog 96 [.agg p.toArray, .int .u32 n] [.one (.int .i64)] w K := qab (an := qcv) Tryz.func96 (by kernel_rfl) ((show fnPt (std Tryz.prog) Tryz.prog Tryz.f96 qcv [.one (.int .i64)] [.agg p.toArray, .int .u32 n] K w = qbf p n K w by kernel_rfl).mpr hF)
def qbo (p : List Value) (n : Int) (K : Bool -> World -> Prop) (w : World) : Prop := new (Obj.cells (List.toArray p) 63) w <| fun r_1 w_2 => cond (decide (n >= 2)) (ld (.int .u32) (⟨(Addr.add ⟨r_1, 0, none⟩ 5).block, (Addr.add ⟨r_1, 0, none⟩ 5).off + 1, none⟩) w_2 <| fun (x_3 : Int) => cond (decide (n < x_3)) (ld .slice ⟨r_1, 33, none⟩ w_2 <| fun (s_4 : Sl) => call Tryz.prog 14 ([.slice s_4.a s_4.len s_4.cap, .int .u32 n]) ([.one .bool]) w_2 <| fun (b_5 : Bool) w_6 => cond (!b_5) (ld .slice ⟨r_1, 37, none⟩ w_6 <| fun (s_7 : Sl) => call Tryz.prog 14 ([.slice s_7.a s_7.len s_7.cap, .int .u32 n]) ([.one .bool]) w_6 <| fun (b_8 : Bool) w_9 => cond (!b_8) (ld .slice (⟨(Addr.add ⟨r_1, 0, none⟩ 37).block, (Addr.add ⟨r_1, 0, none⟩ 37).off + 1, none⟩) w_9 <| fun (s_10 : Sl) => call Tryz.prog 14 ([.slice s_10.a s_10.len s_10.cap, .int .u32 n]) ([.one .bool]) w_9 <| fun (b_11 : Bool) w_12 => cond (!b_11) (ldV 64 ⟨r_1, 0, none⟩ w_12 <| fun (vs_13 : List Value) => call Tryz.prog 96 ([.agg (List.toArray vs_13), .int .u32 n]) ([.one (.int .i64)]) w_12 <| fun (x_14 : Int) w_15 => K (decide (x_14 < 0)) w_15) (K false w_12)) (K false w_9)) (K false w_6)) (K false w_2)) (K false w_2)
def qcR : List Ann := [.n, .n]
theorem qfF {p : List Value} {n : Int} {w : World} {K : Bool -> World -> Prop} (hF : qbo p n K w) : call Tryz.prog 97 [.agg p.toArray, .int .u32 n] [.one .bool] w K := qab (an := qcR) Tryz.func97 (by kernel_rfl) ((show fnPt (std Tryz.prog) Tryz.prog Tryz.f97 qcR [.one .bool] [.agg p.toArray, .int .u32 n] K w = qbo p n K w by kernel_rfl).mpr hF)
def qa2 (p : List Value) (t : Int) (r0 : Int) (r1 : Int) (r2 : Int) (K : ((List Value) × Int) -> World -> Prop) (w : World) : Prop := new (Obj.cells (List.toArray p) 63) w <| fun r_1 w_2 => new (Obj.cells #[.int .u32 r0, .int .u32 r1, .int .u32 r2] 42) w_2 <| fun r_3 w_4 => newZ Tryz.prog 63 w_4 <| fun r_5 w_6 => ld .bool ⟨r_1, 36, none⟩ w_6 <| fun (b_7 : Bool) => cond b_7 (ldV 64 ⟨r_1, 0, none⟩ w_6 <| fun (vs_8 : List Value) => chk (List.length vs_8 = 64) <| st ⟨r_5, 0, none⟩ vs_8 w_6 <| fun w_9 => ldV 64 ⟨r_5, 0, none⟩ w_9 <| fun (vs_10 : List Value) => K ((vs_10, 7)) w_9) (join (Bool) (fun X_11 => cond (decide (t < 0)) (X_11 true w_6) (X_11 (decide (t > 7)) w_6)) <| fun (b_12 : Bool) w_13 => cond b_12 (ldV 64 ⟨r_1, 0, none⟩ w_13 <| fun (vs_14 : List Value) => chk (List.length vs_14 = 64) <| st ⟨r_5, 0, none⟩ vs_14 w_13 <| fun w_15 => ldV 64 ⟨r_5, 0, none⟩ w_15 <| fun (vs_16 : List Value) => K ((vs_16, 4)) w_15) (ldA (qtz) ⟨r_3, 0, none⟩ w_13 <| fun (t_17 : Int × Int × Int) => chk (0 <= t /\ t < (↑8 : Int)) <| st (Addr.add ⟨(Addr.add ⟨r_1, 0, none⟩ 37).block, (Addr.add ⟨r_1, 0, none⟩ 37).off + 3, none⟩ (Int.toNat t * 3)) (HL.mk qtz t_17) w_13 <| fun w_18 => ldV 64 ⟨r_1, 0, none⟩ w_18 <| fun (vs_19 : List Value) => chk (List.length vs_19 = 64) <| st ⟨r_5, 0, none⟩ vs_19 w_18 <| fun w_20 => ldV 64 ⟨r_5, 0, none⟩ w_20 <| fun (vs_21 : List Value) => K ((vs_21, 0)) w_20))
def qcb : List Ann := [.n, .n, .n, .n, .n, .j [(16, .one .bool)], .n, .n, .n]
theorem qeo {p : List Value} {t : Int} {r0 : Int} {r1 : Int} {r2 : Int} {w : World} {K : ((List Value) × Int) -> World -> Prop} (hF : qa2 p t r0 r1 r2 K w) : call Tryz.prog 54 [.agg p.toArray, .int .i64 t, .agg #[.int .u32 r0, .int .u32 r1, .int .u32 r2]] [.raw, .one (.int .i64)] w K := qab (an := qcb) Tryz.func54 (by kernel_rfl) ((show fnPt (std Tryz.prog) Tryz.prog Tryz.f54 qcb [.raw, .one (.int .i64)] [.agg p.toArray, .int .i64 t, .agg #[.int .u32 r0, .int .u32 r1, .int .u32 r2]] K w = qa2 p t r0 r1 r2 K w by kernel_rfl).mpr hF)
def qbl (p : List Value) (n : Int) (K : (Int × ByteArray × Int) -> World -> Prop) (w : World) : Prop := new (Obj.cells (List.toArray p) 63) w <| fun r_1 w_2 => ld .bool ⟨r_1, 36, none⟩ w_2 <| fun (b_3 : Bool) => cond b_3 (K ((0, { data := #[] }, 7)) w_2) (ldV 64 ⟨r_1, 0, none⟩ w_2 <| fun (vs_4 : List Value) => call Tryz.prog 96 ([.agg (List.toArray vs_4), .int .u32 n]) ([.one (.int .i64)]) w_2 <| fun (x_5 : Int) w_6 => cond (decide (x_5 >= 0)) (ld .slice (⟨(Addr.add ⟨r_1, 0, none⟩ 37).block, (Addr.add ⟨r_1, 0, none⟩ 37).off + 2, none⟩) (World.drew w_6) <| fun (s_7 : Sl) => idx s_7 x_5 3 <| fun a_8 => ld (.int .u8) ⟨a_8.block, a_8.off + 1, none⟩ (World.drew w_6) <| fun (x_9 : Int) => ld .slice (⟨(Addr.add ⟨r_1, 0, none⟩ 37).block, (Addr.add ⟨r_1, 0, none⟩ 37).off + 2, none⟩) (World.drew w_6) <| fun (s_10 : Sl) => idx s_10 x_5 3 <| fun a_11 => ld .str ⟨a_11.block, a_11.off + 2, none⟩ (World.drew w_6) <| fun (x_12 : ByteArray) => K ((x_9, x_12, 0)) (World.drew w_6)) (ldV 64 ⟨r_1, 0, none⟩ w_6 <| fun (vs_13 : List Value) => call Tryz.prog 97 ([.agg (List.toArray vs_13), .int .u32 n]) ([.one .bool]) w_6 <| fun (b_14 : Bool) w_15 => cond (!b_14) (K ((0, { data := #[] }, 10)) w_15) (ldA (qak) ⟨r_1, 0, none⟩ w_15 <| fun (t_16 : Sl × Sl × Int × Bool × Int) => call Tryz.prog 77 ([.agg (List.toArray (HL.mk qak t_16)), .int .i64 (IntKind.wrap .i64 n)]) ([.one .str, .one (.int .i64)]) w_15 <| fun (t_17 : ByteArray × Int) w_18 => cond (!t_17.snd == 0) (K ((0, { data := #[] }, t_17.snd)) w_18) (call Tryz.prog 79 ([.int .u32 n, .string t_17.fst]) ([.one (.int .u8), .one .str, .one (.int .i64)]) w_18 <| fun (t_19 : Int × ByteArray × Int) w_20 => K t_19 w_20))))
def qcT : List Ann := [.n, .n, .n, .n, .n, .n, .n, .n, .o [[0, 1, 2, 3, 4, 5, 6, 7, 8, 9, 10, 11, 12, 13, 14, 15, 16]], .n, .n, .n, .n, .n, .n, .n, .n]
theorem qfD {p : List Value} {n : Int} {w : World} {K : (Int × ByteArray × Int) -> World -> Prop} (hF : qbl p n K w) : call Tryz.prog 52 [.agg p.toArray, .int .u32 n] [.one (.int .u8), .one .str, .one (.int .i64)] w K := qab (an := qcT) Tryz.func52 (by kernel_rfl) ((show fnPt (std Tryz.prog) Tryz.prog Tryz.f52 qcT [.one (.int .u8), .one .str, .one (.int .i64)] [.agg p.toArray, .int .u32 n] K w = qbl p n K w by kernel_rfl).mpr hF)
def qbr (p : List Value) (kind : Int) (body : ByteArray) (K : ((List Value) × Int × Int) -> World -> Prop) (w : World) : Prop := new (Obj.cells (List.toArray p) 63) w <| fun r_1 w_2 => newZ Tryz.prog 63 w_2 <| fun r_3 w_4 => ld .bool ⟨r_1, 36, none⟩ w_4 <| fun (b_5 : Bool) => cond b_5 (ldV 64 ⟨r_1, 0, none⟩ w_4 <| fun (vs_6 : List Value) => chk (List.length vs_6 = 64) <| st ⟨r_3, 0, none⟩ vs_6 w_4 <| fun w_7 => ldV 64 ⟨r_3, 0, none⟩ w_7 <| fun (vs_8 : List Value) => K ((vs_8, 0, 7)) w_7) (cond (decide ((↑(ByteArray.size body) : Int) > 500)) (ldV 64 ⟨r_1, 0, none⟩ w_4 <| fun (vs_9 : List Value) => chk (List.length vs_9 = 64) <| st ⟨r_3, 0, none⟩ vs_9 w_4 <| fun w_10 => ldV 64 ⟨r_3, 0, none⟩ w_10 <| fun (vs_11 : List Value) => K ((vs_11, 0, 3)) w_10) (ld .slice ⟨r_1, 37, none⟩ w_4 <| fun (s_12 : Sl) => cond ((↑s_12.len : Int) == 0) (ldV 64 ⟨r_1, 0, none⟩ w_4 <| fun (vs_13 : List Value) => chk (List.length vs_13 = 64) <| st ⟨r_3, 0, none⟩ vs_13 w_4 <| fun w_14 => ldV 64 ⟨r_3, 0, none⟩ w_14 <| fun (vs_15 : List Value) => K ((vs_15, 0, 6)) w_14) (ld .slice ⟨r_1, 37, none⟩ w_4 <| fun (s_16 : Sl) => idx s_16 0 1 <| fun a_17 => ld (.int .u32) a_17 w_4 <| fun (x_18 : Int) => ld .slice ⟨r_1, 37, none⟩ w_4 <| fun (s_19 : Sl) => slc s_19 (some 1) none none 1 <| fun (s_20 : Sl) => st ⟨r_1, 37, none⟩ ([.slice s_20.a s_20.len s_20.cap]) w_4 <| fun w_21 => new (Obj.cells #[] 165) w_21 <| fun r_22 w_23 => loop (Sl × Bool × Int) (fun X_24 (t_25 : Sl × Bool × Int) w_26 => ld .slice (⟨(Addr.add ⟨r_1, 0, none⟩ 37).block, (Addr.add ⟨r_1, 0, none⟩ 37).off + 2, none⟩) w_26 <| fun (s_27 : Sl) => cond (decide (t_25.snd.snd < (↑s_27.len : Int))) (join (Sl × Bool) (fun X_28 => join (Bool) (fun X_29 => cond (!t_25.snd.fst) (ld .slice (⟨(Addr.add ⟨r_1, 0, none⟩ 37).block, (Addr.add ⟨r_1, 0, none⟩ 37).off + 2, none⟩) w_26 <| fun (s_30 : Sl) => idx s_30 t_25.snd.snd 3 <| fun a_31 => ld (.int .u32) a_31 w_26 <| fun (x_32 : Int) => X_29 (decide (x_32 > x_18)) w_26) (X_29 false w_26)) <| fun (b_33 : Bool) w_34 => cond b_33 (new (Obj.cells #[.int .u32 x_18, .int .u8 kind, .string body] 165) w_34 <| fun r_35 w_36 => run [.one .slice] ((Builtin.append_ (#[59, 59]) 59 (#[.slice t_25.fst.a t_25.fst.len t_25.fst.cap, .slice (some ⟨r_35, 0, none⟩) 1 1])).run Tryz.prog w_36) <| fun (s_37 : Sl) w_38 => X_28 ((s_37, true)) w_38) (X_28 ((t_25.fst, t_25.snd.fst)) w_34)) <| fun (t_39 : Sl × Bool) w_40 => ld .slice (⟨(Addr.add ⟨r_1, 0, none⟩ 37).block, (Addr.add ⟨r_1, 0, none⟩ 37).off + 2, none⟩) w_40 <| fun (s_41 : Sl) => idx s_41 t_25.snd.snd 3 <| fun a_42 => ldA (qp2) a_42 w_40 <| fun (t_43 : Int × Int × ByteArray) => new (Obj.cells (List.toArray (HL.mk qp2 t_43)) 165) w_40 <| fun r_44 w_45 => run [.one .slice] ((Builtin.append_ (#[59, 59]) 59 (#[.slice t_39.fst.a t_39.fst.len t_39.fst.cap, .slice (some ⟨r_44, 0, none⟩) 1 1])).run Tryz.prog w_45) <| fun (s_46 : Sl) w_47 => X_24 ((s_46, t_39.snd, IntKind.wrap .i64 (t_25.snd.snd + 1))) w_47) (join (Sl) (fun X_48 => cond (!t_25.snd.fst) (new (Obj.cells #[.int .u32 x_18, .int .u8 kind, .string body] 165) w_26 <| fun r_49 w_50 => run [.one .slice] ((Builtin.append_ (#[59, 59]) 59 (#[.slice t_25.fst.a t_25.fst.len t_25.fst.cap, .slice (some ⟨r_49, 0, none⟩) 1 1])).run Tryz.prog w_50) <| fun (s_51 : Sl) w_52 => X_48 s_51 w_52) (X_48 t_25.fst w_26)) <| fun (s_53 : Sl) w_54 => st (⟨(Addr.add ⟨r_1, 0, none⟩ 37).block, (Addr.add ⟨r_1, 0, none⟩ 37).off + 2, none⟩) ([.slice s_53.a s_53.len s_53.cap]) w_54 <| fun w_55 => ldV 64 ⟨r_1, 0, none⟩ w_55 <| fun (vs_56 : List Value) => chk (List.length vs_56 = 64) <| st ⟨r_3, 0, none⟩ vs_56 w_55 <| fun w_57 => ldV 64 ⟨r_3, 0, none⟩ w_57 <| fun (vs_58 : List Value) => K ((vs_58, x_18, 0)) w_57)) (({ a := some ⟨r_22, 0, none⟩, len := 0, cap := 0 }, false, 0)) w_23)))
def qcS : List Ann := [.n, .n, .n, .n, .n, .n, .n, .n, .n, .n, .n, .n, .n, .n, .n, .n, .l [(10, .one .slice), (11, .one .bool), (12, .one (.int .i64))], .n, .n, .n, .j [(10, .one .slice), (11, .one .bool)], .j [(58, .one .bool)], .n, .j [(10, .one .slice)], .n, .n, .n]
theorem qfr {p : List Value} {kind : Int} {body : ByteArray} {w : World} {K : ((List Value) × Int × Int) -> World -> Prop} (hF : qbr p kind body K w) : call Tryz.prog 48 [.agg p.toArray, .int .u8 kind, .string body] [.raw, .one (.int .u32), .one (.int .i64)] w K := qab (an := qcS) Tryz.func48 (by kernel_rfl) ((show fnPt (std Tryz.prog) Tryz.prog Tryz.f48 qcS [.raw, .one (.int .u32), .one (.int .i64)] [.agg p.toArray, .int .u8 kind, .string body] K w = qbr p kind body K w by kernel_rfl).mpr hF)
def qbC (p : List Value) (n : Int) (kind : Int) (body : ByteArray) (K : ((List Value) × Int) -> World -> Prop) (w : World) : Prop := new (Obj.cells (List.toArray p) 63) w <| fun r_1 w_2 => newZ Tryz.prog 63 w_2 <| fun r_3 w_4 => ld .bool ⟨r_1, 36, none⟩ w_4 <| fun (b_5 : Bool) => cond b_5 (ldV 64 ⟨r_1, 0, none⟩ w_4 <| fun (vs_6 : List Value) => chk (List.length vs_6 = 64) <| st ⟨r_3, 0, none⟩ vs_6 w_4 <| fun w_7 => ldV 64 ⟨r_3, 0, none⟩ w_7 <| fun (vs_8 : List Value) => K ((vs_8, 7)) w_7) (ldV 64 ⟨r_1, 0, none⟩ w_4 <| fun (vs_9 : List Value) => call Tryz.prog 96 ([.agg (List.toArray vs_9), .int .u32 n]) ([.one (.int .i64)]) w_4 <| fun (x_10 : Int) w_11 => cond (decide (x_10 < 0)) (ldV 64 ⟨r_1, 0, none⟩ w_11 <| fun (vs_12 : List Value) => chk (List.length vs_12 = 64) <| st ⟨r_3, 0, none⟩ vs_12 w_11 <| fun w_13 => ldV 64 ⟨r_3, 0, none⟩ w_13 <| fun (vs_14 : List Value) => K ((vs_14, 10)) w_13) (cond (decide ((↑(ByteArray.size body) : Int) > 500)) (ldV 64 ⟨r_1, 0, none⟩ w_11 <| fun (vs_15 : List Value) => chk (List.length vs_15 = 64) <| st ⟨r_3, 0, none⟩ vs_15 w_11 <| fun w_16 => ldV 64 ⟨r_3, 0, none⟩ w_16 <| fun (vs_17 : List Value) => K ((vs_17, 3)) w_16) (new (Obj.cells #[] 165) w_11 <| fun r_18 w_19 => ld .slice (⟨(Addr.add ⟨r_1, 0, none⟩ 37).block, (Addr.add ⟨r_1, 0, none⟩ 37).off + 2, none⟩) w_19 <| fun (s_20 : Sl) => run [.one .slice] ((Builtin.append_ (#[59, 59]) 59 (#[.slice (some ⟨r_18, 0, none⟩) 0 0, .slice s_20.a s_20.len s_20.cap])).run Tryz.prog w_19) <| fun (s_21 : Sl) w_22 => st (⟨(Addr.add ⟨r_1, 0, none⟩ 37).block, (Addr.add ⟨r_1, 0, none⟩ 37).off + 2, none⟩) ([.slice s_21.a s_21.len s_21.cap]) w_22 <| fun w_23 => ld .slice (⟨(Addr.add ⟨r_1, 0, none⟩ 37).block, (Addr.add ⟨r_1, 0, none⟩ 37).off + 2, none⟩) w_23 <| fun (s_24 : Sl) => idx s_24 x_10 3 <| fun a_25 => st a_25 ([.int .u32 n, .int .u8 kind, .string body]) w_23 <| fun w_26 => ldV 64 ⟨r_1, 0, none⟩ w_26 <| fun (vs_27 : List Value) => chk (List.length vs_27 = 64) <| st ⟨r_3, 0, none⟩ vs_27 w_26 <| fun w_28 => ldV 64 ⟨r_3, 0, none⟩ w_28 <| fun (vs_29 : List Value) => K ((vs_29, 0)) w_28)))
def qdf : List Ann := [.n, .n, .n, .n, .n, .n, .n, .n, .n, .n, .n, .n, .n, .n]
theorem qf2 {p : List Value} {n : Int} {kind : Int} {body : ByteArray} {w : World} {K : ((List Value) × Int) -> World -> Prop} (hF : qbC p n kind body K w) : call Tryz.prog 50 [.agg p.toArray, .int .u32 n, .int .u8 kind, .string body] [.raw, .one (.int .i64)] w K := qab (an := qdf) Tryz.func50 (by kernel_rfl) ((show fnPt (std Tryz.prog) Tryz.prog Tryz.f50 qdf [.raw, .one (.int .i64)] [.agg p.toArray, .int .u32 n, .int .u8 kind, .string body] K w = qbC p n kind body K w by kernel_rfl).mpr hF)
def qbq (p : List Value) (n : Int) (K : ((List Value) × Int) -> World -> Prop) (w : World) : Prop := new (Obj.cells (List.toArray p) 63) w <| fun r_1 w_2 => newZ Tryz.prog 63 w_2 <| fun r_3 w_4 => ld .bool ⟨r_1, 36, none⟩ w_4 <| fun (b_5 : Bool) => cond b_5 (ldV 64 ⟨r_1, 0, none⟩ w_4 <| fun (vs_6 : List Value) => chk (List.length vs_6 = 64) <| st ⟨r_3, 0, none⟩ vs_6 w_4 <| fun w_7 => ldV 64 ⟨r_3, 0, none⟩ w_7 <| fun (vs_8 : List Value) => K ((vs_8, 7)) w_7) (ldV 64 ⟨r_1, 0, none⟩ w_4 <| fun (vs_9 : List Value) => call Tryz.prog 96 ([.agg (List.toArray vs_9), .int .u32 n]) ([.one (.int .i64)]) w_4 <| fun (x_10 : Int) w_11 => cond (decide (x_10 >= 0)) (new (Obj.cells #[] 165) w_11 <| fun r_12 w_13 => ld .slice (⟨(Addr.add ⟨r_1, 0, none⟩ 37).block, (Addr.add ⟨r_1, 0, none⟩ 37).off + 2, none⟩) w_13 <| fun (s_14 : Sl) => slc s_14 none (some x_10) none 3 <| fun (s_15 : Sl) => run [.one .slice] ((Builtin.append_ (#[59, 59]) 59 (#[.slice (some ⟨r_12, 0, none⟩) 0 0, .slice s_15.a s_15.len s_15.cap])).run Tryz.prog w_13) <| fun (s_16 : Sl) w_17 => ld .slice (⟨(Addr.add ⟨r_1, 0, none⟩ 37).block, (Addr.add ⟨r_1, 0, none⟩ 37).off + 2, none⟩) w_17 <| fun (s_18 : Sl) => slc s_18 (some (IntKind.wrap .i64 (x_10 + 1))) none none 3 <| fun (s_19 : Sl) => run [.one .slice] ((Builtin.append_ (#[59, 59]) 59 (#[.slice s_16.a s_16.len s_16.cap, .slice s_19.a s_19.len s_19.cap])).run Tryz.prog w_17) <| fun (s_20 : Sl) w_21 => st (⟨(Addr.add ⟨r_1, 0, none⟩ 37).block, (Addr.add ⟨r_1, 0, none⟩ 37).off + 2, none⟩) ([.slice s_20.a s_20.len s_20.cap]) w_21 <| fun w_22 => ld .slice ⟨r_1, 37, none⟩ w_22 <| fun (s_23 : Sl) => call Tryz.prog 15 ([.slice s_23.a s_23.len s_23.cap, .int .u32 n]) ([.one .slice]) w_22 <| fun (s_24 : Sl) w_25 => st ⟨r_1, 37, none⟩ ([.slice s_24.a s_24.len s_24.cap]) w_25 <| fun w_26 => ldV 64 ⟨r_1, 0, none⟩ w_26 <| fun (vs_27 : List Value) => chk (List.length vs_27 = 64) <| st ⟨r_3, 0, none⟩ vs_27 w_26 <| fun w_28 => ldV 64 ⟨r_3, 0, none⟩ w_28 <| fun (vs_29 : List Value) => K ((vs_29, 0)) w_28) (ldV 64 ⟨r_1, 0, none⟩ w_11 <| fun (vs_30 : List Value) => call Tryz.prog 97 ([.agg (List.toArray vs_30), .int .u32 n]) ([.one .bool]) w_11 <| fun (b_31 : Bool) w_32 => cond (!b_31) (ldV 64 ⟨r_1, 0, none⟩ w_32 <| fun (vs_33 : List Value) => chk (List.length vs_33 = 64) <| st ⟨r_3, 0, none⟩ vs_33 w_32 <| fun w_34 => ldV 64 ⟨r_3, 0, none⟩ w_34 <| fun (vs_35 : List Value) => K ((vs_35, 10)) w_34) (ld .slice (⟨(Addr.add ⟨r_1, 0, none⟩ 37).block, (Addr.add ⟨r_1, 0, none⟩ 37).off + 1, none⟩) w_32 <| fun (s_36 : Sl) => call Tryz.prog 15 ([.slice s_36.a s_36.len s_36.cap, .int .u32 n]) ([.one .slice]) w_32 <| fun (s_37 : Sl) w_38 => st (⟨(Addr.add ⟨r_1, 0, none⟩ 37).block, (Addr.add ⟨r_1, 0, none⟩ 37).off + 1, none⟩) ([.slice s_37.a s_37.len s_37.cap]) w_38 <| fun w_39 => ldV 64 ⟨r_1, 0, none⟩ w_39 <| fun (vs_40 : List Value) => chk (List.length vs_40 = 64) <| st ⟨r_3, 0, none⟩ vs_40 w_39 <| fun w_41 => ldV 64 ⟨r_3, 0, none⟩ w_41 <| fun (vs_42 : List Value) => K ((vs_42, 0)) w_41)))
def qcX : List Ann := [.n, .n, .n, .n, .n, .n, .n, .n, .n, .n, .n, .n, .n, .n, .n, .n]
theorem qfB {p : List Value} {n : Int} {w : World} {K : ((List Value) × Int) -> World -> Prop} (hF : qbq p n K w) : call Tryz.prog 51 [.agg p.toArray, .int .u32 n] [.raw, .one (.int .i64)] w K := qab (an := qcX) Tryz.func51 (by kernel_rfl) ((show fnPt (std Tryz.prog) Tryz.prog Tryz.f51 qcX [.raw, .one (.int .i64)] [.agg p.toArray, .int .u32 n] K w = qbq p n K w by kernel_rfl).mpr hF)
def qa9 (p : List Value) (K : ((List Value) × Int) -> World -> Prop) (w : World) : Prop := new (Obj.cells (List.toArray p) 63) w <| fun r_1 w_2 => newZ Tryz.prog 63 w_2 <| fun r_3 w_4 => ld .bool ⟨r_1, 36, none⟩ w_4 <| fun (b_5 : Bool) => cond b_5 (ldV 64 ⟨r_1, 0, none⟩ w_4 <| fun (vs_6 : List Value) => chk (List.length vs_6 = 64) <| st ⟨r_3, 0, none⟩ vs_6 w_4 <| fun w_7 => ldV 64 ⟨r_3, 0, none⟩ w_7 <| fun (vs_8 : List Value) => K ((vs_8, 7)) w_7) (join (Bool) (fun X_9 => ld .slice (⟨(Addr.add ⟨r_1, 0, none⟩ 37).block, (Addr.add ⟨r_1, 0, none⟩ 37).off + 2, none⟩) w_4 <| fun (s_10 : Sl) => cond ((↑s_10.len : Int) == 0) (ld .slice (⟨(Addr.add ⟨r_1, 0, none⟩ 37).block, (Addr.add ⟨r_1, 0, none⟩ 37).off + 1, none⟩) w_4 <| fun (s_11 : Sl) => cond ((↑s_11.len : Int) == 0) (ldV 24 (⟨(Addr.add ⟨r_1, 0, none⟩ 37).block, (Addr.add ⟨r_1, 0, none⟩ 37).off + 3, none⟩) w_4 <| fun (vs_12 : List Value) => ldV 24 (⟨(Addr.add ⟨r_1, 0, none⟩ 5).block, (Addr.add ⟨r_1, 0, none⟩ 5).off + 4, none⟩) w_4 <| fun (vs_13 : List Value) => runQ [.one .bool] (fun w_14 => (do eqGuard BinOp.eql 43 (Operand.tmp 34) (Operand.tmp 37) (.agg (List.toArray vs_12)) (.agg (List.toArray vs_13)); binOp BinOp.eql 43 (.agg (List.toArray vs_12)) (.agg (List.toArray vs_13))).run Tryz.prog w_14) w_4 <| fun (b_15 : Bool) => X_9 b_15 w_4) (X_9 false w_4)) (X_9 false w_4)) <| fun (b_16 : Bool) w_17 => cond b_16 (ldV 64 ⟨r_1, 0, none⟩ w_17 <| fun (vs_18 : List Value) => chk (List.length vs_18 = 64) <| st ⟨r_3, 0, none⟩ vs_18 w_17 <| fun w_19 => ldV 64 ⟨r_3, 0, none⟩ w_19 <| fun (vs_20 : List Value) => K ((vs_20, 0)) w_19) (ld .slice (⟨(Addr.add ⟨r_1, 0, none⟩ 37).block, (Addr.add ⟨r_1, 0, none⟩ 37).off + 1, none⟩) w_17 <| fun (s_21 : Sl) => loop (Sl × Int) (fun X_22 (t_23 : Sl × Int) w_24 => ld .slice ⟨r_1, 33, none⟩ w_24 <| fun (s_25 : Sl) => cond (decide (t_23.snd < (↑s_25.len : Int))) (ld .slice ⟨r_1, 33, none⟩ w_24 <| fun (s_26 : Sl) => idx s_26 t_23.snd 1 <| fun a_27 => ld (.int .u32) a_27 w_24 <| fun (x_28 : Int) => call Tryz.prog 15 ([.slice t_23.fst.a t_23.fst.len t_23.fst.cap, .int .u32 x_28]) ([.one .slice]) w_24 <| fun (s_29 : Sl) w_30 => X_22 ((s_29, IntKind.wrap .i64 (t_23.snd + 1))) w_30) (ld .slice ⟨r_1, 37, none⟩ w_24 <| fun (s_31 : Sl) => call Tryz.prog 107 ([.int .i64 (IntKind.wrap .i64 ((↑s_31.len : Int) + (↑t_23.fst.len : Int)))]) ([.one (.int .i64)]) w_24 <| fun (x_32 : Int) w_33 => ld .slice ⟨r_1, 37, none⟩ w_33 <| fun (s_34 : Sl) => cond (decide (x_32 > (↑s_34.len : Int))) (ldV 64 ⟨r_1, 0, none⟩ w_33 <| fun (vs_35 : List Value) => chk (List.length vs_35 = 64) <| st ⟨r_3, 0, none⟩ vs_35 w_33 <| fun w_36 => ldV 64 ⟨r_3, 0, none⟩ w_36 <| fun (vs_37 : List Value) => K ((vs_37, 6)) w_36) (ld .slice ⟨r_1, 37, none⟩ w_33 <| fun (s_38 : Sl) => slc s_38 none (some x_32) none 1 <| fun (s_39 : Sl) => loop (Sl × Int) (fun X_40 (t_41 : Sl × Int) w_42 => ld .slice ⟨r_1, 37, none⟩ w_42 <| fun (s_43 : Sl) => cond (decide (t_41.snd < (↑s_43.len : Int))) (ld .slice ⟨r_1, 37, none⟩ w_42 <| fun (s_44 : Sl) => idx s_44 t_41.snd 1 <| fun a_45 => ld (.int .u32) a_45 w_42 <| fun (x_46 : Int) => call Tryz.prog 15 ([.slice t_41.fst.a t_41.fst.len t_41.fst.cap, .int .u32 x_46]) ([.one .slice]) w_42 <| fun (s_47 : Sl) w_48 => X_40 ((s_47, IntKind.wrap .i64 (t_41.snd + 1))) w_48) (ld (.int .u64) ⟨r_1, 5, none⟩ w_42 <| fun (x_49 : Int) => ld (.int .u32) (⟨(Addr.add ⟨r_1, 0, none⟩ 5).block, (Addr.add ⟨r_1, 0, none⟩ 5).off + 1, none⟩) w_42 <| fun (x_50 : Int) => ldV 24 (⟨(Addr.add ⟨r_1, 0, none⟩ 37).block, (Addr.add ⟨r_1, 0, none⟩ 37).off + 3, none⟩) w_42 <| fun (vs_51 : List Value) => runQ [.raw] (fun w_52 => (Instr.build 58 (#[(0, .int .u64 (IntKind.wrap .u64 (x_49 + 1))), (1, .int .u32 x_50), (3, .int .u32 (IntKind.wrap .u32 (↑t_41.fst.len : Int))), (4, .agg (List.toArray vs_51))])).run Tryz.prog w_52) w_42 <| fun (vs_53 : List Value) => newZ Tryz.prog 58 w_42 <| fun r_54 w_55 => chk (List.length vs_53 = 28) <| st ⟨r_54, 0, none⟩ vs_53 w_55 <| fun w_56 => join (PUnit) (fun X_57 => cond (decide (x_32 > 0)) (idx s_39 0 1 <| fun a_58 => ld (.int .u32) a_58 w_56 <| fun (x_59 : Int) => st ⟨r_54, 2, none⟩ ([.int .u32 x_59]) w_56 <| fun w_60 => X_57 () w_60) (X_57 () w_56)) <| fun (x_61 : PUnit) w_62 => ldA (qak) ⟨r_1, 0, none⟩ w_62 <| fun (t_63 : Sl × Sl × Int × Bool × Int) => new (Obj.cells #[.slice none 0 0, .slice none 0 0, .int .i64 0, .bool false, .int .i64 0] 55) w_62 <| fun r_64 w_65 => st ⟨r_64, 0, none⟩ (HL.mk qak t_63) w_65 <| fun w_66 => loop (Int) (fun X_67 (x_68 : Int) w_69 => ld .slice (⟨(Addr.add ⟨r_1, 0, none⟩ 37).block, (Addr.add ⟨r_1, 0, none⟩ 37).off + 2, none⟩) w_69 <| fun (s_70 : Sl) => cond (decide (x_68 < (↑s_70.len : Int))) (ld .slice (⟨(Addr.add ⟨r_1, 0, none⟩ 37).block, (Addr.add ⟨r_1, 0, none⟩ 37).off + 2, none⟩) w_69 <| fun (s_71 : Sl) => idx s_71 x_68 3 <| fun a_72 => ldA (qp2) a_72 w_69 <| fun (t_73 : Int × Int × ByteArray) => new (Obj.cells #[.int .u32 0, .int .u8 0, .string { data := #[] }] 165) w_69 <| fun r_74 w_75 => st ⟨r_74, 0, none⟩ (HL.mk qp2 t_73) w_75 <| fun w_76 => ld (.int .u32) ⟨r_74, 0, none⟩ w_76 <| fun (x_77 : Int) => ld (.int .u8) ⟨r_74, 1, none⟩ w_76 <| fun (x_78 : Int) => ld .str ⟨r_74, 2, none⟩ w_76 <| fun (x_79 : ByteArray) => call Tryz.prog 110 ([.int .u32 x_77, .int .u8 x_78, .string x_79]) ([.one .str, .one (.int .i64)]) w_76 <| fun (t_80 : ByteArray × Int) w_81 => ldA (qak) ⟨r_64, 0, none⟩ w_81 <| fun (t_82 : Sl × Sl × Int × Bool × Int) => ld (.int .u32) ⟨r_74, 0, none⟩ w_81 <| fun (x_83 : Int) => call Tryz.prog 29 ([.agg (List.toArray (HL.mk qak t_82)), .int .i64 (IntKind.wrap .i64 x_83), .string t_80.fst]) ([.agg qak, .one (.int .i64)]) w_81 <| fun (t_84 : (Sl × Sl × Int × Bool × Int) × Int) w_85 => st ⟨r_64, 0, none⟩ (HL.mk qak t_84.fst) w_85 <| fun w_86 => cond (!t_84.snd == 0) (ldA (qak) ⟨r_64, 0, none⟩ w_86 <| fun (t_87 : Sl × Sl × Int × Bool × Int) => runQ [.raw] (fun w_88 => (Instr.build 63 (#[(0, .agg (List.toArray (HL.mk qak t_87))), (5, .bool true)])).run Tryz.prog w_88) w_86 <| fun (vs_89 : List Value) => chk (List.length vs_89 = 64) <| st ⟨r_3, 0, none⟩ vs_89 w_86 <| fun w_90 => ldV 64 ⟨r_3, 0, none⟩ w_90 <| fun (vs_91 : List Value) => K ((vs_91, t_84.snd)) w_90) (X_67 (IntKind.wrap .i64 (x_68 + 1)) w_86)) (ldA (qak) ⟨r_64, 0, none⟩ w_69 <| fun (t_92 : Sl × Sl × Int × Bool × Int) => call Tryz.prog 108 ([.agg (List.toArray (HL.mk qak t_92)), .slice t_41.fst.a t_41.fst.len t_41.fst.cap, .slice s_39.a s_39.len s_39.cap]) ([.agg qak, .one (.int .i64)]) w_69 <| fun (t_93 : (Sl × Sl × Int × Bool × Int) × Int) w_94 => st ⟨r_64, 0, none⟩ (HL.mk qak t_93.fst) w_94 <| fun w_95 => cond (!t_93.snd == 0) (ldA (qak) ⟨r_64, 0, none⟩ w_95 <| fun (t_96 : Sl × Sl × Int × Bool × Int) => runQ [.raw] (fun w_97 => (Instr.build 63 (#[(0, .agg (List.toArray (HL.mk qak t_96))), (5, .bool true)])).run Tryz.prog w_97) w_95 <| fun (vs_98 : List Value) => chk (List.length vs_98 = 64) <| st ⟨r_3, 0, none⟩ vs_98 w_95 <| fun w_99 => ldV 64 ⟨r_3, 0, none⟩ w_99 <| fun (vs_100 : List Value) => K ((vs_100, t_93.snd)) w_99) (ldA (qak) ⟨r_64, 0, none⟩ w_95 <| fun (t_101 : Sl × Sl × Int × Bool × Int) => ldV 28 ⟨r_54, 0, none⟩ w_95 <| fun (vs_102 : List Value) => call Tryz.prog 109 ([.agg (List.toArray (HL.mk qak t_101)), .agg (List.toArray vs_102)]) ([.agg qak, .one (.int .i64)]) w_95 <| fun (t_103 : (Sl × Sl × Int × Bool × Int) × Int) w_104 => st ⟨r_64, 0, none⟩ (HL.mk qak t_103.fst) w_104 <| fun w_105 => cond (!t_103.snd == 0) (ldA (qak) ⟨r_64, 0, none⟩ w_105 <| fun (t_106 : Sl × Sl × Int × Bool × Int) => runQ [.raw] (fun w_107 => (Instr.build 63 (#[(0, .agg (List.toArray (HL.mk qak t_106))), (5, .bool true)])).run Tryz.prog w_107) w_105 <| fun (vs_108 : List Value) => chk (List.length vs_108 = 64) <| st ⟨r_3, 0, none⟩ vs_108 w_105 <| fun w_109 => ldV 64 ⟨r_3, 0, none⟩ w_109 <| fun (vs_110 : List Value) => K ((vs_110, t_103.snd)) w_109) (ldA (qak) ⟨r_64, 0, none⟩ w_105 <| fun (t_111 : Sl × Sl × Int × Bool × Int) => ldV 28 ⟨r_54, 0, none⟩ w_105 <| fun (vs_112 : List Value) => ld (.int .i64) ⟨r_1, 35, none⟩ w_105 <| fun (x_113 : Int) => runQ [.raw] (fun w_114 => (Instr.build 63 (#[(0, .agg (List.toArray (HL.mk qak t_111))), (1, .agg (List.toArray vs_112)), (2, .slice s_39.a s_39.len s_39.cap), (3, .slice t_41.fst.a t_41.fst.len t_41.fst.cap), (4, .int .i64 x_113)])).run Tryz.prog w_114) w_105 <| fun (vs_115 : List Value) => call Tryz.prog 81 ([.agg (List.toArray vs_115)]) [.raw] w_105 <| fun (vs_116 : List Value) w_117 => chk (List.length vs_116 = 64) <| st ⟨r_3, 0, none⟩ vs_116 w_117 <| fun w_118 => ldV 64 ⟨r_3, 0, none⟩ w_118 <| fun (vs_119 : List Value) => K ((vs_119, 0)) w_118)))) 0 w_66)) ((t_23.fst, x_32)) w_33))) ((s_21, 0)) w_17))
def qcd : List Ann := [.n, .n, .n, .n, .n, .j [(39, .one .bool)], .n, .n, .n, .n, .l [(4, .one .slice), (5, .one (.int .i64))], .n, .n, .n, .n, .n, .n, .n, .n, .n, .n, .l [(4, .one .slice), (8, .one (.int .i64))], .n, .n, .n, .n, .j [], .n, .n, .n, .n, .l [(12, .one (.int .i64))], .n, .n, .n, .n, .n, .n, .n, .n, .n, .n, .n, .n, .n, .n, .n, .n, .n]
theorem qeG {p : List Value} {w : World} {K : ((List Value) × Int) -> World -> Prop} (hF : qa9 p K w) : call Tryz.prog 67 [.agg p.toArray] [.raw, .one (.int .i64)] w K := qab (an := qcd) Tryz.func67 (by kernel_rfl) ((show fnPt (std Tryz.prog) Tryz.prog Tryz.f67 qcd [.raw, .one (.int .i64)] [.agg p.toArray] K w = qa9 p K w by kernel_rfl).mpr hF)
def qca (d0 : Sl) (d1 : Sl) (d2 : Int) (d3 : Bool) (d4 : Int) (numbers : Sl) (pages : Sl) (K : ((Sl × Sl × Int × Bool × Int) × Int) -> World -> Prop) (w : World) : Prop := new (Obj.cells #[.slice d0.a d0.len d0.cap, .slice d1.a d1.len d1.cap, .int .i64 d2, .bool d3, .int .i64 d4] 55) w <| fun r_1 w_2 => new (Obj.cells #[.slice none 0 0, .slice none 0 0, .int .i64 0, .bool false, .int .i64 0] 55) w_2 <| fun r_3 w_4 => call Tryz.prog 133 ([.slice numbers.a numbers.len numbers.cap, .slice pages.a pages.len pages.cap]) ([.one .slice, .one (.int .i64)]) w_4 <| fun (t_5 : Sl × Int) w_6 => loop (Int) (fun X_7 (x_8 : Int) w_9 => cond (decide (x_8 < (↑t_5.fst.len : Int))) (idx pages x_8 1 <| fun a_10 => ld (.int .u32) a_10 (World.drew w_9) <| fun (x_11 : Int) => idx t_5.fst x_8 1 <| fun a_12 => ld .str a_12 (World.drew w_9) <| fun (x_13 : ByteArray) => call Tryz.prog 110 ([.int .u32 x_11, .int .u8 2, .string x_13]) ([.one .str, .one (.int .i64)]) (World.drew w_9) <| fun (t_14 : ByteArray × Int) w_15 => ldA (qak) ⟨r_1, 0, none⟩ (World.drew w_15) <| fun (t_16 : Sl × Sl × Int × Bool × Int) => idx pages x_8 1 <| fun a_17 => ld (.int .u32) a_17 (World.drew w_15) <| fun (x_18 : Int) => call Tryz.prog 29 ([.agg (List.toArray (HL.mk qak t_16)), .int .i64 (IntKind.wrap .i64 x_18), .string t_14.fst]) ([.agg qak, .one (.int .i64)]) (World.drew w_15) <| fun (t_19 : (Sl × Sl × Int × Bool × Int) × Int) w_20 => st ⟨r_1, 0, none⟩ (HL.mk qak t_19.fst) w_20 <| fun w_21 => cond (!t_19.snd == 0) (ldA (qak) ⟨r_1, 0, none⟩ w_21 <| fun (t_22 : Sl × Sl × Int × Bool × Int) => st ⟨r_3, 0, none⟩ (HL.mk qak t_22) w_21 <| fun w_23 => ldA (qak) ⟨r_3, 0, none⟩ w_23 <| fun (t_24 : Sl × Sl × Int × Bool × Int) => K ((t_24, t_19.snd)) w_23) (X_7 (IntKind.wrap .i64 (x_8 + 1)) w_21)) (ldA (qak) ⟨r_1, 0, none⟩ w_9 <| fun (t_25 : Sl × Sl × Int × Bool × Int) => call Tryz.prog 106 ([.agg (List.toArray (HL.mk qak t_25))]) ([.agg qak, .one (.int .i64)]) w_9 <| fun (t_26 : (Sl × Sl × Int × Bool × Int) × Int) w_27 => st ⟨r_3, 0, none⟩ (HL.mk qak t_26.fst) w_27 <| fun w_28 => ldA (qak) ⟨r_3, 0, none⟩ w_28 <| fun (t_29 : Sl × Sl × Int × Bool × Int) => K ((t_29, t_26.snd)) w_28)) 0 w_6
def qd1 : List Ann := [.n, .n, .n, .n, .n, .l [(11, .one (.int .i64))], .n, .n, .n, .n, .o [[0, 1, 2, 3, 4, 5, 6, 7, 8, 9, 10, 11, 12, 13]], .n, .o [[0, 1, 2, 3, 4, 5, 6, 7, 8, 9, 10, 11, 12]], .n, .n, .n]
theorem qg4 {d0 : Sl} {d1 : Sl} {d2 : Int} {d3 : Bool} {d4 : Int} {numbers : Sl} {pages : Sl} {w : World} {K : ((Sl × Sl × Int × Bool × Int) × Int) -> World -> Prop} (hF : qca d0 d1 d2 d3 d4 numbers pages K w) : call Tryz.prog 108 [.agg #[.slice d0.a d0.len d0.cap, .slice d1.a d1.len d1.cap, .int .i64 d2, .bool d3, .int .i64 d4], .slice numbers.a numbers.len numbers.cap, .slice pages.a pages.len pages.cap] [.agg [.slice, .slice, .int .i64, .bool, .int .i64], .one (.int .i64)] w K := qab (an := qd1) Tryz.func108 (by kernel_rfl) ((show fnPt (std Tryz.prog) Tryz.prog Tryz.f108 qd1 [.agg [.slice, .slice, .int .i64, .bool, .int .i64], .one (.int .i64)] [.agg #[.slice d0.a d0.len d0.cap, .slice d1.a d1.len d1.cap, .int .i64 d2, .bool d3, .int .i64 d4], .slice numbers.a numbers.len numbers.cap, .slice pages.a pages.len pages.cap] K w = qca d0 d1 d2 d3 d4 numbers pages K w by kernel_rfl).mpr hF)
def qcF (d0 : Sl) (d1 : Sl) (d2 : Int) (d3 : Bool) (d4 : Int) (s : List Value) (K : ((Sl × Sl × Int × Bool × Int) × Int) -> World -> Prop) (w : World) : Prop := new (Obj.cells #[.slice d0.a d0.len d0.cap, .slice d1.a d1.len d1.cap, .int .i64 d2, .bool d3, .int .i64 d4] 55) w <| fun r_1 w_2 => new (Obj.cells (List.toArray s) 58) w_2 <| fun r_3 w_4 => new (Obj.cells #[.slice none 0 0, .slice none 0 0, .int .i64 0, .bool false, .int .i64 0] 55) w_4 <| fun r_5 w_6 => ldA (qak) ⟨r_1, 0, none⟩ (World.drew w_6) <| fun (t_7 : Sl × Sl × Int × Bool × Int) => ld (.int .u64) ⟨r_3, 0, none⟩ (World.drew w_6) <| fun (x_8 : Int) => ldV 28 ⟨r_3, 0, none⟩ (World.drew w_6) <| fun (vs_9 : List Value) => call Tryz.prog 134 ([.agg (List.toArray vs_9)]) ([.one .str]) (World.drew w_6) <| fun (x_10 : ByteArray) w_11 => held [fun w_12 => World.cell? w_12 ⟨r_3, 0, none⟩ = some (.int .u64 x_8), fun w_13 => cellsAt w_13 ⟨r_1, 0, none⟩ 0 (HL.mk qak t_7)] w_11 <| call Tryz.prog 29 ([.agg (List.toArray (HL.mk qak t_7)), .int .i64 (IntKind.wrap .i64 (Int.tmod x_8 2)), .string x_10]) ([.agg qak, .one (.int .i64)]) w_11 <| fun (t_14 : (Sl × Sl × Int × Bool × Int) × Int) w_15 => st ⟨r_1, 0, none⟩ (HL.mk qak t_14.fst) w_15 <| fun w_16 => cond (!t_14.snd == 0) (ldA (qak) ⟨r_1, 0, none⟩ w_16 <| fun (t_17 : Sl × Sl × Int × Bool × Int) => st ⟨r_5, 0, none⟩ (HL.mk qak t_17) w_16 <| fun w_18 => ldA (qak) ⟨r_5, 0, none⟩ w_18 <| fun (t_19 : Sl × Sl × Int × Bool × Int) => K ((t_19, t_14.snd)) w_18) (ldA (qak) ⟨r_1, 0, none⟩ w_16 <| fun (t_20 : Sl × Sl × Int × Bool × Int) => call Tryz.prog 106 ([.agg (List.toArray (HL.mk qak t_20))]) ([.agg qak, .one (.int .i64)]) w_16 <| fun (t_21 : (Sl × Sl × Int × Bool × Int) × Int) w_22 => st ⟨r_5, 0, none⟩ (HL.mk qak t_21.fst) w_22 <| fun w_23 => ldA (qak) ⟨r_5, 0, none⟩ w_23 <| fun (t_24 : Sl × Sl × Int × Bool × Int) => K ((t_24, t_21.snd)) w_23)
def qeT : List Ann := [.n, .n, .o [[0, 1, 2, 3, 4, 5, 6, 7, 8, 9, 10, 11, 12]], .n, .n, .n, .n]
theorem qif {d0 : Sl} {d1 : Sl} {d2 : Int} {d3 : Bool} {d4 : Int} {s : List Value} {w : World} {K : ((Sl × Sl × Int × Bool × Int) × Int) -> World -> Prop} (hF : qcF d0 d1 d2 d3 d4 s K w) : call Tryz.prog 109 [.agg #[.slice d0.a d0.len d0.cap, .slice d1.a d1.len d1.cap, .int .i64 d2, .bool d3, .int .i64 d4], .agg s.toArray] [.agg [.slice, .slice, .int .i64, .bool, .int .i64], .one (.int .i64)] w K := qab (an := qeT) Tryz.func109 (by kernel_rfl) ((show fnPt (std Tryz.prog) Tryz.prog Tryz.f109 qeT [.agg [.slice, .slice, .int .i64, .bool, .int .i64], .one (.int .i64)] [.agg #[.slice d0.a d0.len d0.cap, .slice d1.a d1.len d1.cap, .int .i64 d2, .bool d3, .int .i64 d4], .agg s.toArray] K w = qcF d0 d1 d2 d3 d4 s K w by kernel_rfl).mpr hF)
def qb2 (d0 : Sl) (d1 : Sl) (d2 : Int) (d3 : Bool) (d4 : Int) (K : ((Sl × Sl × Int × Bool × Int) × Int) -> World -> Prop) (w : World) : Prop := new (Obj.cells #[.slice d0.a d0.len d0.cap, .slice d1.a d1.len d1.cap, .int .i64 d2, .bool d3, .int .i64 d4] 55) w <| fun r_1 w_2 => new (Obj.cells #[.slice none 0 0, .slice none 0 0, .int .i64 0, .bool false, .int .i64 0] 55) w_2 <| fun r_3 w_4 => mkS 5 ([.int .u8 0]) 1 1 512 512 w_4 <| fun (s_5 : Sl) w_6 => runQ [.one .str] (fun w_7 => (convert 22 9 (.slice s_5.a s_5.len s_5.cap)).run Tryz.prog w_7) w_6 <| fun (x_8 : ByteArray) => ldA (qak) ⟨r_1, 0, none⟩ w_6 <| fun (t_9 : Sl × Sl × Int × Bool × Int) => call Tryz.prog 29 ([.agg (List.toArray (HL.mk qak t_9)), .int .i64 0, .string x_8]) ([.agg qak, .one (.int .i64)]) w_6 <| fun (t_10 : (Sl × Sl × Int × Bool × Int) × Int) w_11 => st ⟨r_1, 0, none⟩ (HL.mk qak t_10.fst) w_11 <| fun w_12 => cond (!t_10.snd == 0) (ldA (qak) ⟨r_1, 0, none⟩ w_12 <| fun (t_13 : Sl × Sl × Int × Bool × Int) => st ⟨r_3, 0, none⟩ (HL.mk qak t_13) w_12 <| fun w_14 => ldA (qak) ⟨r_3, 0, none⟩ w_14 <| fun (t_15 : Sl × Sl × Int × Bool × Int) => K ((t_15, t_10.snd)) w_14) (ldA (qak) ⟨r_1, 0, none⟩ w_12 <| fun (t_16 : Sl × Sl × Int × Bool × Int) => call Tryz.prog 29 ([.agg (List.toArray (HL.mk qak t_16)), .int .i64 1, .string x_8]) ([.agg qak, .one (.int .i64)]) w_12 <| fun (t_17 : (Sl × Sl × Int × Bool × Int) × Int) w_18 => st ⟨r_1, 0, none⟩ (HL.mk qak t_17.fst) w_18 <| fun w_19 => cond (!t_17.snd == 0) (ldA (qak) ⟨r_1, 0, none⟩ w_19 <| fun (t_20 : Sl × Sl × Int × Bool × Int) => st ⟨r_3, 0, none⟩ (HL.mk qak t_20) w_19 <| fun w_21 => ldA (qak) ⟨r_3, 0, none⟩ w_21 <| fun (t_22 : Sl × Sl × Int × Bool × Int) => K ((t_22, t_17.snd)) w_21) (ldA (qak) ⟨r_1, 0, none⟩ w_19 <| fun (t_23 : Sl × Sl × Int × Bool × Int) => call Tryz.prog 106 ([.agg (List.toArray (HL.mk qak t_23))]) ([.agg qak, .one (.int .i64)]) w_19 <| fun (t_24 : (Sl × Sl × Int × Bool × Int) × Int) w_25 => st ⟨r_1, 0, none⟩ (HL.mk qak t_24.fst) w_25 <| fun w_26 => cond (!t_24.snd == 0) (ldA (qak) ⟨r_1, 0, none⟩ w_26 <| fun (t_27 : Sl × Sl × Int × Bool × Int) => st ⟨r_3, 0, none⟩ (HL.mk qak t_27) w_26 <| fun w_28 => ldA (qak) ⟨r_3, 0, none⟩ w_28 <| fun (t_29 : Sl × Sl × Int × Bool × Int) => K ((t_29, t_24.snd)) w_28) (new (Obj.cells #[] 29) w_26 <| fun r_30 w_31 => loop (Sl × Int) (fun X_32 (t_33 : Sl × Int) w_34 => ld .slice ⟨r_1, 0, none⟩ w_34 <| fun (s_35 : Sl) => cond (decide (t_33.snd < (↑s_35.len : Int))) (new (Obj.cells #[.int .u32 (IntKind.wrap .u32 t_33.snd)] 29) w_34 <| fun r_36 w_37 => run [.one .slice] ((Builtin.append_ (#[27, 27]) 27 (#[.slice t_33.fst.a t_33.fst.len t_33.fst.cap, .slice (some ⟨r_36, 0, none⟩) 1 1])).run Tryz.prog w_37) <| fun (s_38 : Sl) w_39 => X_32 ((s_38, IntKind.wrap .i64 (t_33.snd + 1))) w_39) (call Tryz.prog 107 ([.int .i64 (↑t_33.fst.len : Int)]) ([.one (.int .i64)]) w_34 <| fun (x_40 : Int) w_41 => ldA (qak) ⟨r_1, 0, none⟩ (World.drew w_41) <| fun (t_42 : Sl × Sl × Int × Bool × Int) => slc t_33.fst (some x_40) none none 1 <| fun (s_43 : Sl) => slc t_33.fst none (some x_40) none 1 <| fun (s_44 : Sl) => call Tryz.prog 108 ([.agg (List.toArray (HL.mk qak t_42)), .slice s_43.a s_43.len s_43.cap, .slice s_44.a s_44.len s_44.cap]) ([.agg qak, .one (.int .i64)]) (World.drew w_41) <| fun (t_45 : (Sl × Sl × Int × Bool × Int) × Int) w_46 => st ⟨r_1, 0, none⟩ (HL.mk qak t_45.fst) w_46 <| fun w_47 => cond (!t_45.snd == 0) (ldA (qak) ⟨r_1, 0, none⟩ w_47 <| fun (t_48 : Sl × Sl × Int × Bool × Int) => st ⟨r_3, 0, none⟩ (HL.mk qak t_48) w_47 <| fun w_49 => ldA (qak) ⟨r_3, 0, none⟩ w_49 <| fun (t_50 : Sl × Sl × Int × Bool × Int) => K ((t_50, t_45.snd)) w_49) (ldA (qak) ⟨r_1, 0, none⟩ w_47 <| fun (t_51 : Sl × Sl × Int × Bool × Int) => ld .slice ⟨r_1, 0, none⟩ w_47 <| fun (s_52 : Sl) => runQ [.raw] (fun w_53 => (Instr.build 58 (#[(0, .int .u64 1), (1, .int .u32 (IntKind.wrap .u32 (↑s_52.len : Int))), (2, .int .u32 2), (3, .int .u32 (IntKind.wrap .u32 (IntKind.wrap .i64 ((↑t_33.fst.len : Int) - x_40))))])).run Tryz.prog w_53) w_47 <| fun (vs_54 : List Value) => call Tryz.prog 109 ([.agg (List.toArray (HL.mk qak t_51)), .agg (List.toArray vs_54)]) ([.agg qak, .one (.int .i64)]) w_47 <| fun (t_55 : (Sl × Sl × Int × Bool × Int) × Int) w_56 => st ⟨r_3, 0, none⟩ (HL.mk qak t_55.fst) w_56 <| fun w_57 => ldA (qak) ⟨r_3, 0, none⟩ w_57 <| fun (t_58 : Sl × Sl × Int × Bool × Int) => K ((t_58, t_55.snd)) w_57))) (({ a := some ⟨r_30, 0, none⟩, len := 0, cap := 0 }, 2)) w_31)))
def qeb : List Ann := [.n, .n, .n, .n, .n, .n, .n, .n, .n, .n, .n, .n, .n, .n, .n, .n, .n, .l [(6, .one .slice), (7, .one (.int .i64))], .n, .n, .n, .n, .n, .o [[0, 1, 2, 3, 4, 5, 6, 7, 8, 9, 10, 11, 12]], .n, .n, .n, .n]
theorem qg3 {d0 : Sl} {d1 : Sl} {d2 : Int} {d3 : Bool} {d4 : Int} {w : World} {K : ((Sl × Sl × Int × Bool × Int) × Int) -> World -> Prop} (hF : qb2 d0 d1 d2 d3 d4 K w) : call Tryz.prog 66 [.agg #[.slice d0.a d0.len d0.cap, .slice d1.a d1.len d1.cap, .int .i64 d2, .bool d3, .int .i64 d4]] [.agg [.slice, .slice, .int .i64, .bool, .int .i64], .one (.int .i64)] w K := qab (an := qeb) Tryz.func66 (by kernel_rfl) ((show fnPt (std Tryz.prog) Tryz.prog Tryz.f66 qeb [.agg [.slice, .slice, .int .i64, .bool, .int .i64], .one (.int .i64)] [.agg #[.slice d0.a d0.len d0.cap, .slice d1.a d1.len d1.cap, .int .i64 d2, .bool d3, .int .i64 d4]] K w = qb2 d0 d1 d2 d3 d4 K w by kernel_rfl).mpr hF)
def qcN (d0 : Sl) (d1 : Sl) (d2 : Int) (d3 : Bool) (d4 : Int) (K : ((List Value) × Int) -> World -> Prop) (w : World) : Prop := new (Obj.cells #[.slice d0.a d0.len d0.cap, .slice d1.a d1.len d1.cap, .int .i64 d2, .bool d3, .int .i64 d4] 55) w <| fun r_1 w_2 => newZ Tryz.prog 63 w_2 <| fun r_3 w_4 => ldA (qak) ⟨r_1, 0, none⟩ w_4 <| fun (t_5 : Sl × Sl × Int × Bool × Int) => call Tryz.prog 77 ([.agg (List.toArray (HL.mk qak t_5)), .int .i64 0]) ([.one .str, .one (.int .i64)]) w_4 <| fun (t_6 : ByteArray × Int) w_7 => cond (!t_6.snd == 0) (runQ [.raw] (fun w_8 => (Instr.build 63 #[]).run Tryz.prog w_8) w_7 <| fun (vs_9 : List Value) => chk (List.length vs_9 = 64) <| st ⟨r_3, 0, none⟩ vs_9 w_7 <| fun w_10 => ldV 64 ⟨r_3, 0, none⟩ w_10 <| fun (vs_11 : List Value) => K ((vs_11, t_6.snd)) w_10) (ldA (qak) ⟨r_1, 0, none⟩ w_7 <| fun (t_12 : Sl × Sl × Int × Bool × Int) => call Tryz.prog 77 ([.agg (List.toArray (HL.mk qak t_12)), .int .i64 1]) ([.one .str, .one (.int .i64)]) w_7 <| fun (t_13 : ByteArray × Int) w_14 => call Tryz.prog 78 ([.string t_6.fst, .string t_13.fst]) ([.raw, .one (.int .i64)]) w_14 <| fun (t_15 : List Value × Int) w_16 => newZ Tryz.prog 58 w_16 <| fun r_17 w_18 => chk (List.length t_15.fst = 28) <| st ⟨r_17, 0, none⟩ t_15.fst w_18 <| fun w_19 => cond (!t_15.snd == 0) (runQ [.raw] (fun w_20 => (Instr.build 63 #[]).run Tryz.prog w_20) w_19 <| fun (vs_21 : List Value) => chk (List.length vs_21 = 64) <| st ⟨r_3, 0, none⟩ vs_21 w_19 <| fun w_22 => ldV 64 ⟨r_3, 0, none⟩ w_22 <| fun (vs_23 : List Value) => K ((vs_23, t_15.snd)) w_22) (ldA (qak) ⟨r_1, 0, none⟩ w_19 <| fun (t_24 : Sl × Sl × Int × Bool × Int) => ldV 28 ⟨r_17, 0, none⟩ w_19 <| fun (vs_25 : List Value) => runQ [.raw] (fun w_26 => (Instr.build 63 (#[(0, .agg (List.toArray (HL.mk qak t_24))), (1, .agg (List.toArray vs_25))])).run Tryz.prog w_26) w_19 <| fun (vs_27 : List Value) => newZ Tryz.prog 63 w_19 <| fun r_28 w_29 => chk (List.length vs_27 = 64) <| st ⟨r_28, 0, none⟩ vs_27 w_29 <| fun w_30 => ld (.int .u32) ⟨r_17, 1, none⟩ w_30 <| fun (x_31 : Int) => ld .slice ⟨r_1, 0, none⟩ w_30 <| fun (s_32 : Sl) => cond (!IntKind.wrap .i64 x_31 == (↑s_32.len : Int)) (runQ [.raw] (fun w_33 => (Instr.build 63 #[]).run Tryz.prog w_33) w_30 <| fun (vs_34 : List Value) => chk (List.length vs_34 = 64) <| st ⟨r_3, 0, none⟩ vs_34 w_30 <| fun w_35 => ldV 64 ⟨r_3, 0, none⟩ w_35 <| fun (vs_36 : List Value) => K ((vs_36, 2)) w_35) (ld (.int .u32) ⟨r_17, 2, none⟩ w_30 <| fun (x_37 : Int) => loop (Int) (fun X_38 (x_39 : Int) w_40 => cond (!x_39 == 0) (join (Bool) (fun X_41 => cond (decide (x_39 < 2)) (X_41 true w_40) (ld (.int .u32) ⟨r_17, 1, none⟩ w_40 <| fun (x_42 : Int) => cond (decide (x_39 >= x_42)) (X_41 true w_40) (ld .slice ⟨r_28, 33, none⟩ w_40 <| fun (s_43 : Sl) => call Tryz.prog 14 ([.slice s_43.a s_43.len s_43.cap, .int .u32 x_39]) ([.one .bool]) w_40 <| fun (b_44 : Bool) w_45 => X_41 b_44 w_45))) <| fun (b_46 : Bool) w_47 => cond b_46 (runQ [.raw] (fun w_48 => (Instr.build 63 #[]).run Tryz.prog w_48) w_47 <| fun (vs_49 : List Value) => chk (List.length vs_49 = 64) <| st ⟨r_3, 0, none⟩ vs_49 w_47 <| fun w_50 => ldV 64 ⟨r_3, 0, none⟩ w_50 <| fun (vs_51 : List Value) => K ((vs_51, 2)) w_50) (ldA (qak) ⟨r_1, 0, none⟩ w_47 <| fun (t_52 : Sl × Sl × Int × Bool × Int) => call Tryz.prog 77 ([.agg (List.toArray (HL.mk qak t_52)), .int .i64 (IntKind.wrap .i64 x_39)]) ([.one .str, .one (.int .i64)]) w_47 <| fun (t_53 : ByteArray × Int) w_54 => call Tryz.prog 79 ([.int .u32 x_39, .string t_53.fst]) ([.one (.int .u8), .one .str, .one (.int .i64)]) w_54 <| fun (t_55 : Int × ByteArray × Int) w_56 => call Tryz.prog 80 ([.string t_55.snd.fst]) ([.one (.int .u32), .one .slice, .one (.int .i64)]) w_56 <| fun (t_57 : Int × Sl × Int) w_58 => join (Bool) (fun X_59 => cond (!t_55.snd.snd == 0) (X_59 true w_58) (cond (!t_55.fst == 2) (X_59 true w_58) (X_59 (!t_57.snd.snd == 0) w_58))) <| fun (b_60 : Bool) w_61 => cond b_60 (runQ [.raw] (fun w_62 => (Instr.build 63 #[]).run Tryz.prog w_62) w_61 <| fun (vs_63 : List Value) => chk (List.length vs_63 = 64) <| st ⟨r_3, 0, none⟩ vs_63 w_61 <| fun w_64 => ldV 64 ⟨r_3, 0, none⟩ w_64 <| fun (vs_65 : List Value) => K ((vs_65, 2)) w_64) (ld .slice ⟨r_28, 33, none⟩ w_61 <| fun (s_66 : Sl) => new (Obj.cells #[.int .u32 x_39] 29) w_61 <| fun r_67 w_68 => run [.one .slice] ((Builtin.append_ (#[27, 27]) 27 (#[.slice s_66.a s_66.len s_66.cap, .slice (some ⟨r_67, 0, none⟩) 1 1])).run Tryz.prog w_68) <| fun (s_69 : Sl) w_70 => st ⟨r_28, 33, none⟩ ([.slice s_69.a s_69.len s_69.cap]) w_70 <| fun w_71 => ld .slice ⟨r_28, 34, none⟩ w_71 <| fun (s_72 : Sl) => run [.one .slice] ((Builtin.append_ (#[27, 27]) 27 (#[.slice s_72.a s_72.len s_72.cap, .slice t_57.snd.fst.a t_57.snd.fst.len t_57.snd.fst.cap])).run Tryz.prog w_71) <| fun (s_73 : Sl) w_74 => st ⟨r_28, 34, none⟩ ([.slice s_73.a s_73.len s_73.cap]) w_74 <| fun w_75 => X_38 t_57.fst w_75))) (loop (Int) (fun X_76 (x_77 : Int) w_78 => ld .slice ⟨r_28, 34, none⟩ w_78 <| fun (s_79 : Sl) => cond (decide (x_77 < (↑s_79.len : Int))) (join (Bool) (fun X_80 => ld .slice ⟨r_28, 34, none⟩ (World.drew w_78) <| fun (s_81 : Sl) => idx s_81 x_77 1 <| fun a_82 => ld (.int .u32) a_82 (World.drew w_78) <| fun (x_83 : Int) => ld (.int .u32) ⟨r_17, 1, none⟩ (World.drew w_78) <| fun (x_84 : Int) => cond (decide (x_83 >= x_84)) (X_80 true (World.drew w_78)) (cond (decide (x_77 > 0)) (ld .slice ⟨r_28, 34, none⟩ (World.drew w_78) <| fun (s_85 : Sl) => idx s_85 x_77 1 <| fun a_86 => ld (.int .u32) a_86 (World.drew w_78) <| fun (x_87 : Int) => ld .slice ⟨r_28, 34, none⟩ (World.drew w_78) <| fun (s_88 : Sl) => idx s_88 (IntKind.wrap .i64 (x_77 - 1)) 1 <| fun a_89 => ld (.int .u32) a_89 (World.drew w_78) <| fun (x_90 : Int) => cond (decide (x_87 <= x_90)) (X_80 true (World.drew w_78)) (ld .slice ⟨r_28, 33, none⟩ (World.drew w_78) <| fun (s_91 : Sl) => ld .slice ⟨r_28, 34, none⟩ (World.drew w_78) <| fun (s_92 : Sl) => idx s_92 x_77 1 <| fun a_93 => ld (.int .u32) a_93 (World.drew w_78) <| fun (x_94 : Int) => call Tryz.prog 14 ([.slice s_91.a s_91.len s_91.cap, .int .u32 x_94]) ([.one .bool]) (World.drew w_78) <| fun (b_95 : Bool) w_96 => X_80 b_95 w_96)) (ld .slice ⟨r_28, 33, none⟩ (World.drew w_78) <| fun (s_97 : Sl) => ld .slice ⟨r_28, 34, none⟩ (World.drew w_78) <| fun (s_98 : Sl) => idx s_98 x_77 1 <| fun a_99 => ld (.int .u32) a_99 (World.drew w_78) <| fun (x_100 : Int) => call Tryz.prog 14 ([.slice s_97.a s_97.len s_97.cap, .int .u32 x_100]) ([.one .bool]) (World.drew w_78) <| fun (b_101 : Bool) w_102 => X_80 b_101 w_102))) <| fun (b_103 : Bool) w_104 => cond b_103 (runQ [.raw] (fun w_105 => (Instr.build 63 #[]).run Tryz.prog w_105) w_104 <| fun (vs_106 : List Value) => chk (List.length vs_106 = 64) <| st ⟨r_3, 0, none⟩ vs_106 w_104 <| fun w_107 => ldV 64 ⟨r_3, 0, none⟩ w_107 <| fun (vs_108 : List Value) => K ((vs_108, 2)) w_107) (X_76 (IntKind.wrap .i64 (x_77 + 1)) w_104)) (ld .slice ⟨r_28, 34, none⟩ w_78 <| fun (s_109 : Sl) => ld (.int .u32) ⟨r_17, 3, none⟩ w_78 <| fun (x_110 : Int) => cond (!(↑s_109.len : Int) == IntKind.wrap .i64 x_110) (runQ [.raw] (fun w_111 => (Instr.build 63 #[]).run Tryz.prog w_111) w_78 <| fun (vs_112 : List Value) => chk (List.length vs_112 = 64) <| st ⟨r_3, 0, none⟩ vs_112 w_78 <| fun w_113 => ldV 64 ⟨r_3, 0, none⟩ w_113 <| fun (vs_114 : List Value) => K ((vs_114, 2)) w_113) (ldV 64 ⟨r_28, 0, none⟩ w_78 <| fun (vs_115 : List Value) => call Tryz.prog 81 ([.agg (List.toArray vs_115)]) [.raw] w_78 <| fun (vs_116 : List Value) w_117 => chk (List.length vs_116 = 64) <| st ⟨r_3, 0, none⟩ vs_116 w_117 <| fun w_118 => ldV 64 ⟨r_3, 0, none⟩ w_118 <| fun (vs_119 : List Value) => K ((vs_119, 0)) w_118))) 0 w_40)) x_37 w_30)))
def qeO : List Ann := [.n, .n, .n, .n, .n, .n, .n, .n, .n, .n, .n, .n, .n, .n, .n, .n, .l [(10, .one (.int .u32))], .n, .n, .n, .j [(72, .one .bool)], .n, .n, .n, .n, .n, .j [(103, .one .bool)], .n, .n, .n, .n, .n, .l [(19, .one (.int .i64))], .n, .n, .n, .j [(159, .one .bool)], .o [[0, 1, 2, 3, 4, 5, 6, 7, 8, 9, 10, 11, 12, 13, 14, 15, 16, 17, 18, 19, 20, 21, 22, 23, 24, 25, 26, 27, 28, 29, 30, 31, 32, 33, 34, 35]], .n, .n, .n, .n, .n]
theorem qh1 {d0 : Sl} {d1 : Sl} {d2 : Int} {d3 : Bool} {d4 : Int} {w : World} {K : ((List Value) × Int) -> World -> Prop} (hF : qcN d0 d1 d2 d3 d4 K w) : call Tryz.prog 30 [.agg #[.slice d0.a d0.len d0.cap, .slice d1.a d1.len d1.cap, .int .i64 d2, .bool d3, .int .i64 d4]] [.raw, .one (.int .i64)] w K := qab (an := qeO) Tryz.func30 (by kernel_rfl) ((show fnPt (std Tryz.prog) Tryz.prog Tryz.f30 qeO [.raw, .one (.int .i64)] [.agg #[.slice d0.a d0.len d0.cap, .slice d1.a d1.len d1.cap, .int .i64 d2, .bool d3, .int .i64 d4]] K w = qcN d0 d1 d2 d3 d4 K w by kernel_rfl).mpr hF)
end Go.Proofs.YtmbcedengdoamaaGreatDoor
end
section
set_option linter.unusedVariables false
set_option linter.unusedSimpArgs false
namespace Go.Proofs.YtmbcedengdoamaaGreatDoor
open Go Go.Pt
attribute [local irreducible] ld ldA ldV fld fldA newZ st new idx idxS idxA slc slcS slcP mkS chk nn call callV inv run runQ runU join loop held ext rng undefer s2a nxt ent IntKind.wrap
abbrev RPT : TypeId := 63
structure RV where
 d : RDv
 sup : Sup
 sl : Sl
 sn : Sl
 turn : Int
 over : Bool
 sf : Sl
 sd : Sl
 sfr : Sl
 roots : List Int
def slV (s : Sl) : Value := .slice s.a s.len s.cap
def rvA (x : RV) : List Value := (rdC x.d).toList
def rvB (x : RV) : List Value := [slV x.sl, slV x.sn, .int .i64 x.turn, .bool x.over]
def rvW (x : RV) : List Value := [slV x.sf, slV x.sd, slV x.sfr] ++ x.roots.map (Value.int .u32)
def refV (x : RV) : List Value := rvA x ++ supV x.sup.1 x.sup.2 ++ rvB x ++ rvW x
structure RV.Ok (x : RV) : Prop where
 sup : x.sup.2.length = 27
 roots : x.roots.length = 24
section
variable {x : RV}
theorem qiP (h : x.Ok) : (rvA x ++ supV x.sup.1 x.sup.2).length = 33 := by rw [List.length_append, qav h.sup]; rfl
theorem qgi (h : x.Ok) : (rvA x ++ supV x.sup.1 x.sup.2 ++ rvB x).length = 37 := by rw [List.length_append, qiP h]; rfl
theorem qax (h : x.Ok) : (refV x).length = 64 := by rw [refV, List.length_append, qgi h, rvW, List.length_append, List.length_map, h.roots]; rfl
theorem qtD (h : x.Ok) : ((refV x).toArray.toList.drop 0).take 5 = HL.mk dC x.d := rfl
theorem qq5 (h : x.Ok) (n : Nat) (hn : n < 27) : (refV x).toArray[n + 6]? = some (.int .u32 (x.sup.2.getD n 0)) := by
 rw [List.getElem?_toArray, refV, List.append_assoc, List.append_assoc, List.getElem?_append_right (by show 5 <= n + 6; omega)]
 show (supV x.sup.1 x.sup.2 ++ (rvB x ++ rvW x))[n + 6 - 5]? = _
 rw [show n + 6 - 5 = n + 1 by omega, List.getElem?_append_left (by rw [qav h.sup]; omega)]
 have := qcB (q := x.sup.1) (t := x.sup.2) n (by rw [h.sup]; omega)
 rw [List.getElem?_toArray] at this
 exact this
theorem qnK (h : x.Ok) : (refV x).toArray[5]? = some (.int .u64 x.sup.1) := rfl
theorem qp1 (h : x.Ok) (j : Nat) (hj : j < 4) : (refV x).toArray[33 + j]? = (rvB x)[j]? := by
 rw [List.getElem?_toArray, refV, List.append_assoc, List.getElem?_append_right (by rw [qiP h]; omega), qiP h, Nat.add_sub_cancel_left, List.getElem?_append_left (by exact hj)]
theorem qrM (h : x.Ok) (j : Nat) : (refV x).toArray[37 + j]? = (rvW x)[j]? := by
 rw [List.getElem?_toArray, refV, List.getElem?_append_right (by rw [qgi h]; omega), qgi h, Nat.add_sub_cancel_left]
theorem qgd (h : x.Ok) : (refV x).toArray[33]? = some (slV x.sl) := qp1 h 0 (by decide)
theorem qge (h : x.Ok) : (refV x).toArray[34]? = some (slV x.sn) := qp1 h 1 (by decide)
theorem qpK (h : x.Ok) : (refV x).toArray[35]? = some (.int .i64 x.turn) := qp1 h 2 (by decide)
theorem qgr (h : x.Ok) : (refV x).toArray[36]? = some (.bool x.over) := qp1 h 3 (by decide)
theorem qdR (h : x.Ok) : (refV x).toArray[37]? = some (slV x.sf) := qrM h 0
theorem qnH (h : x.Ok) : (refV x).toArray[38]? = some (slV x.sd) := qrM h 1
theorem qbM (h : x.Ok) : (refV x).toArray[39]? = some (slV x.sfr) := qrM h 2
theorem qoo (h : x.Ok) : ((refV x).toArray.toList.drop 40).take 24 = x.roots.map (Value.int .u32) := by
 have h40 : (rvA x ++ supV x.sup.1 x.sup.2 ++ rvB x ++ [slV x.sf, slV x.sd, slV x.sfr]).length = 40 := by rw [List.length_append, qgi h]; rfl
 show ((refV x).drop 40).take 24 = _
 have e : refV x = (rvA x ++ supV x.sup.1 x.sup.2 ++ rvB x ++ [slV x.sf, slV x.sd, slV x.sfr]) ++ x.roots.map (Value.int .u32) := by rw [refV, rvW, List.append_assoc _ [slV x.sf, slV x.sd, slV x.sfr]]
 rw [e, <- h40, List.drop_left, List.take_of_length_le (by rw [List.length_map, h.roots]; exact Nat.le_refl _)]
theorem qmY (h : x.Ok) : ((refV x).toArray.toList.drop 9).take 24 = (x.sup.2.drop 3).map (Value.int .u32) := by
 have hm : ((x.sup.2.drop 3).map (Value.int .u32)).length = 24 := by rw [List.length_map, List.length_drop, h.sup]
 have e : (refV x).drop 9 = (x.sup.2.drop 3).map (Value.int .u32) ++ (rvB x ++ rvW x) := by
  show List.drop 9 (rvA x ++ supV x.sup.1 x.sup.2 ++ rvB x ++ rvW x) = _
  rw [List.append_assoc, List.append_assoc]
  show List.drop 3 (x.sup.2.map (Value.int .u32) ++ (rvB x ++ rvW x)) = _
  rw [List.drop_append_of_le_length (by rw [List.length_map, h.sup]; decide), List.map_drop]
 show ((refV x).drop 9).take 24 = _
 rw [e, List.take_append_of_le_length (Nat.le_of_eq hm.symm), List.take_of_length_le (Nat.le_of_eq hm)]
theorem qsW (h : x.Ok) {sf sd sfr : Sl} {roots : List Int} (hr : roots.length = 24) : splice (refV x).toArray 37 ([slV sf, slV sd, slV sfr] ++ roots.map (Value.int .u32)) = (refV { x with sf := sf, sd := sd, sfr := sfr, roots := roots }).toArray := by
 have := qat (A := rvA x ++ supV x.sup.1 x.sup.2 ++ rvB x) (X := rvW x) (Y := [slV sf, slV sd, slV sfr] ++ roots.map (Value.int .u32)) (Z := []) (by simp [rvW, h.roots, hr])
 rw [qgi h, List.append_nil, List.append_nil] at this
 exact this
theorem qoa (h : x.Ok) {s : Sl} : splice (refV x).toArray 37 [slV s] = (refV { x with sf := s }).toArray := by
 have := qat (A := rvA x ++ supV x.sup.1 x.sup.2 ++ rvB x) (X := [slV x.sf]) (Y := [slV s]) (Z := [slV x.sd, slV x.sfr] ++ x.roots.map (Value.int .u32)) rfl
 rw [qgi h] at this
 have e1 : refV x = rvA x ++ supV x.sup.1 x.sup.2 ++ rvB x ++ [slV x.sf] ++ ([slV x.sd, slV x.sfr] ++ x.roots.map (Value.int .u32)) := by simp [refV, rvW]
 have e2 : refV { x with sf := s } = rvA x ++ supV x.sup.1 x.sup.2 ++ rvB x ++ [slV s] ++ ([slV x.sd, slV x.sfr] ++ x.roots.map (Value.int .u32)) := by simp [refV, rvW, rvA, rvB]
 rw [e1, e2]; exact this
theorem qrN (h : x.Ok) {s : Sl} : splice (refV x).toArray 38 [slV s] = (refV { x with sd := s }).toArray := by
 have := qat (A := rvA x ++ supV x.sup.1 x.sup.2 ++ rvB x ++ [slV x.sf]) (X := [slV x.sd]) (Y := [slV s]) (Z := [slV x.sfr] ++ x.roots.map (Value.int .u32)) rfl
 rw [List.length_append, qgi h] at this
 have e1 : refV x = rvA x ++ supV x.sup.1 x.sup.2 ++ rvB x ++ [slV x.sf] ++ [slV x.sd] ++ ([slV x.sfr] ++ x.roots.map (Value.int .u32)) := by simp [refV, rvW]
 have e2 : refV { x with sd := s } = rvA x ++ supV x.sup.1 x.sup.2 ++ rvB x ++ [slV x.sf] ++ [slV s] ++ ([slV x.sfr] ++ x.roots.map (Value.int .u32)) := by simp [refV, rvW, rvA, rvB]
 rw [e1, e2]; exact this
theorem qjT (h : x.Ok) {s : Sl} : splice (refV x).toArray 39 [slV s] = (refV { x with sfr := s }).toArray := by
 have := qat (A := rvA x ++ supV x.sup.1 x.sup.2 ++ rvB x ++ [slV x.sf, slV x.sd]) (X := [slV x.sfr]) (Y := [slV s]) (Z := x.roots.map (Value.int .u32)) rfl
 rw [List.length_append, qgi h] at this
 have e1 : refV x = rvA x ++ supV x.sup.1 x.sup.2 ++ rvB x ++ [slV x.sf, slV x.sd] ++ [slV x.sfr] ++ x.roots.map (Value.int .u32) := by simp [refV, rvW]
 have e2 : refV { x with sfr := s } = rvA x ++ supV x.sup.1 x.sup.2 ++ rvB x ++ [slV x.sf, slV x.sd] ++ [slV s] ++ x.roots.map (Value.int .u32) := by simp [refV, rvW, rvA, rvB]
 rw [e1, e2]; exact this
theorem qlR (h : x.Ok) {t : Int} : splice (refV x).toArray 35 [.int .i64 t] = (refV { x with turn := t }).toArray := by
 have := qat (A := rvA x ++ supV x.sup.1 x.sup.2 ++ [slV x.sl, slV x.sn]) (X := [.int .i64 x.turn]) (Y := [.int .i64 t]) (Z := [.bool x.over] ++ rvW x) rfl
 rw [List.length_append, qiP h] at this
 have e1 : refV x = rvA x ++ supV x.sup.1 x.sup.2 ++ [slV x.sl, slV x.sn] ++ [.int .i64 x.turn] ++ ([.bool x.over] ++ rvW x) := by simp [refV, rvB]
 have e2 : refV { x with turn := t } = rvA x ++ supV x.sup.1 x.sup.2 ++ [slV x.sl, slV x.sn] ++ [.int .i64 t] ++ ([.bool x.over] ++ rvW x) := by simp [refV, rvB, rvA, rvW]
 rw [e1, e2]; exact this
theorem qmI (h : x.Ok) {d : RDv} : splice (refV x).toArray 0 (HL.mk dC d) = (refV { x with d := d }).toArray := by
 have := qat (A := []) (X := rvA x) (Y := (rdC d).toList) (Z := supV x.sup.1 x.sup.2 ++ rvB x ++ rvW x) rfl
 have e1 : refV x = [] ++ rvA x ++ (supV x.sup.1 x.sup.2 ++ rvB x ++ rvW x) := by simp [refV]
 have e2 : refV { x with d := d } = [] ++ (rdC d).toList ++ (supV x.sup.1 x.sup.2 ++ rvB x ++ rvW x) := by simp [refV, rvA, rvB, rvW]
 rw [e1, e2]; exact this
theorem qlH : (refV x).all Value.oneCell' = true := by
 rw [refV, List.all_append, List.all_append, List.all_append, qe0, rvW, List.all_append, qmQ]
 rfl
end
def encPage (e : Int × Int × List Int) : List Value := [.int .u32 e.1, .int .u8 e.2.1, .string (strOf e.2.2)]
theorem qbS : ∀ e, (encPage e).length = 3 := fun _ => rfl
theorem qkX : ∀ x, ∀ u ∈ encPage x, u.oneCell' = true := fun x u hu => by
 simp only [encPage, List.mem_cons, List.not_mem_nil, or_false] at hu
 rcases hu with rfl | rfl | rfl <;> rfl
structure RP (S : List Nat) (w : World) (x : RV) (D : DiskM) (M : PgM) : Prop where
 disk : RD S w x.d D
 sup : x.sup = M.sup
 lists : Rd S w x.sl M.lists
 named : Rd S w x.sn M.named
 turn : x.turn = M.turn
 over : x.over = M.over
 free : Rd S w x.sf M.free
 deferred : Rd S w x.sd M.deferred
 fresh : Rds encPage 3 S w x.sfr M.fresh
 roots : x.roots = M.roots
 ok : x.Ok
theorem RP.frame {S S' : List Nat} {w w' : World} {x : RV} {D : DiskM} {M : PgM} (h : RP S w x D M) (f : Fr S w w') (hS : ∀ b ∈ S', b ∈ S \/ w.heap.size <= b) : RP S' w' x D M :=
 ⟨h.disk.frame f hS, h.sup, h.lists.frame f hS, h.named.frame f hS, h.turn, h.over, h.free.frame f hS, h.deferred.frame f hS, h.fresh.frame f hS, h.roots, h.ok⟩
theorem RP.frame0 {S : List Nat} {w w' : World} {x : RV} {D : DiskM} {M : PgM} (h : RP S w x D M) (f : Fr [] w w') : RP S w' x D M :=
 ⟨h.disk.frame0 f, h.sup, h.lists.frame0 f, h.named.frame0 f, h.turn, h.over, h.free.frame0 f, h.deferred.frame0 f, h.fresh.frame0 f, h.roots, h.ok⟩
def rvZ : RV := ⟨zD, supZero, ⟨none, 0, 0⟩, ⟨none, 0, 0⟩, 0, false, ⟨none, 0, 0⟩, ⟨none, 0, 0⟩, ⟨none, 0, 0⟩, zs 24⟩
theorem qap : rvZ.Ok := ⟨rfl, rfl⟩
theorem qbD : ((Tryz.prog.info? RPT).bind (·.zero)).map (fun z => z.cells.toList) = some (refV rvZ) := by kernel_rfl
section
variable {S : List Nat} {w0 w : World} {L : List (Nat × Obj)}
theorem Own.ldP {r : Nat} {x : RV} {K : List Value -> Prop} (h : Own S w0 w L) (i : Nat) (hi : L[i]? = some (r, .cells (refV x).toArray RPT (0, 0))) (hx : x.Ok) (k : K (refV x)) : ldV 64 ⟨r, 0, none⟩ w K :=
 qaw (h.at hi) (refV x) (qax hx) (by rw [List.drop_zero, List.take_of_length_le (Nat.le_of_eq (qax hx))]) k
theorem Own.stP {r : Nat} {x x0 : RV} {K : World -> Prop} (h : Own S w0 w L) (i : Nat) (hi : L[i]? = some (r, .cells (refV x0).toArray RPT (0, 0))) (h0 : x0.Ok) (hx : x.Ok) (k : ∀ w', Own S w0 w' (L.set i (r, .cells (refV x).toArray RPT (0, 0))) -> Fr [r] w w' -> K w') : chk ((refV x).length = 64) (st ⟨r, 0, none⟩ (refV x) w K) :=
 qan (qax hx) (Own.st' h i hi (refV x).toArray (qa5 (by rw [List.size_toArray, qax h0, qax hx])) qlH (by rw [List.size_toArray, qax h0, qax hx]; exact Nat.le_of_ble_eq_true rfl) k)
theorem qcn {r1 r3 : Nat} {x x0 : RV} {K : List Value -> World -> Prop} (h : Own S w0 w L) (i j : Nat) (hi : L[i]? = some (r1, .cells (refV x).toArray RPT (0, 0))) (hj : L[j]? = some (r3, .cells (refV x0).toArray RPT (0, 0))) (h0 : x0.Ok) (hx : x.Ok) (k : ∀ w', Fr S w0 w' -> Fr [r3] w w' -> K (refV x) w') :
  ldV 64 ⟨r1, 0, none⟩ w fun vs => chk (vs.length = 64) (st ⟨r3, 0, none⟩ vs w fun w' => ldV 64 ⟨r3, 0, none⟩ w' fun vs' => K vs' w') := by
 refine Own.ldP h i hi hx ?_
 refine Own.stP h j hj h0 hx fun w' h' f' => ?_
 have hjl := (List.getElem?_eq_some_iff.1 hj).1
 exact Own.ldP h' j (by rw [List.getElem?_set_self hjl]) hx (k w' h'.fr f')
end
section
theorem qtA : (Tryz.prog.info? 61).bind (·.zero) = some (.agg ([slV ⟨none, 0, 0⟩, slV ⟨none, 0, 0⟩, slV ⟨none, 0, 0⟩] ++ (zs 24).map (Value.int .u32)).toArray) := by kernel_rfl
theorem qpb {s : Sl} {roots : List Int} (hr : roots.length = 24) (w : World) :
  (Instr.build 61 #[(0, slV s), (3, .agg (roots.map (Value.int .u32)).toArray)]).run Tryz.prog w = .ok (.agg ([slV s, slV ⟨none, 0, 0⟩, slV ⟨none, 0, 0⟩] ++ roots.map (Value.int .u32)).toArray) w := by
 refine qba (parts := [(0, slV s), (3, .agg (roots.map (Value.int .u32)).toArray)]) (offs := #[(0, 1), (1, 1), (2, 1), (3, 24)]) qtA (by kernel_rfl) (fun w => by kernel_rfl) ?_ w
 have hs : (Value.agg (roots.map (Value.int .u32)).toArray).cells.size = 24 := by show (roots.map (Value.int .u32)).toArray.size = 24; simp [hr]
 rw [qam (o := 0) (s := 1) rfl rfl (Nat.le_of_ble_eq_true rfl), qam (o := 3) (s := 24) rfl hs (Nat.le_of_ble_eq_true rfl)]
 refine congrArg some ?_
 have := qat (A := [slV s, slV ⟨none, 0, 0⟩, slV ⟨none, 0, 0⟩]) (X := (zs 24).map (Value.int .u32)) (Z := []) (Y := roots.map (Value.int .u32)) (by simp [hr, qaC])
 refine Eq.trans ?_ (this.trans (by rw [List.append_nil]))
 rfl
section
variable {S : List Nat} {w : World} {x : RV} {D : DiskM} {M : PgM}
theorem RP.opened {w2 : World} {L : List (Nat × Obj)} (h : RP S w x D M) (ho : Own [] w w2 L) : RP (L.map (·.1) ++ S) w2 x D M :=
 h.frame (ho.fr.mono fun i hi => nomatch hi) fun b hb => by
  rcases List.mem_append.1 hb with hb | hb
  ·obtain ⟨p, hp, rfl⟩ := List.mem_map.1 hb
   rcases ho.own p hp with h | h
   ·cases h
   ·exact .inr h
  ·exact .inl hb
theorem RP.closed {B : List Nat} {r : Nat} {w' : World} (h : RP (B ++ S) w x D M) (hr : r ∈ B) (f : Fr [r] w w') : RP S w' x D M :=
 h.frame (f.mono fun i hi _ => by rw [List.mem_singleton.1 hi]; exact List.mem_append_left _ hr) fun b hb => .inl (List.mem_append_right _ hb)
theorem qnq {K : List Value -> World -> Prop} (h : RP S w x D M) (ht : 0 <= M.turn /\ M.turn <= 1000000000)
  (hk : ∀ x' w', RP S w' x' D (begunM M.sup M.lists M.named (M.turn + 1) M.over M.named) -> Fr [] w w' -> K (refV x') w') :
  call Tryz.prog 81 [.agg (refV x).toArray] [.raw] w K := by
 refine qe1 (p := refV x) ?_
 unfold qbh
 have hx := h.ok
 refine Own.new' (Own.start [] w) fun r1 w1 e1 f1 ho => ?_
 refine Own.newZ ho qbD fun r3 w2 e2 ho => ?_
 refine Own.ld (c := .int .i64) ho 1 rfl x.turn (qpK hx) ?_
 have htx := h.turn
 rw [wi' (x.turn + 1) (by omega)]
 refine Own.st' ho 1 rfl _ (qlR hx) rfl (by rw [List.size_toArray, qax hx]; exact Nat.le_of_ble_eq_true rfl) fun w3 ho3 f3 => ?_
 have hx3 : RV.Ok { x with turn := x.turn + 1 } := ⟨hx.sup, hx.roots⟩
 refine Own.ld (c := .slice) ho3 1 rfl x.sn (qge hx3) ?_
 have hsr : (x.sup.2.drop 3).length = 24 := by rw [List.length_drop, hx.sup]
 refine qaw (b := r1) (off := 9) (ho3.at (i := 1) rfl) ((x.sup.2.drop 3).map (Value.int .u32)) (by rw [List.length_map, hsr]) (qmY hx3) ?_
 refine qay (ts := [Ty1.raw]) ([slV x.sn, slV ⟨none, 0, 0⟩, slV ⟨none, 0, 0⟩] ++ (x.sup.2.drop 3).map (Value.int .u32)) (qpb hsr w3) ?_
 have hwl : ([slV x.sn, slV ⟨none, 0, 0⟩, slV ⟨none, 0, 0⟩] ++ (x.sup.2.drop 3).map (Value.int .u32)).length = 27 := by rw [List.length_append, List.length_map, hsr]; rfl
 refine qan hwl ?_
 refine Own.st' ho3 1 rfl _ (qsW hx3 hsr) (by rw [List.all_append, qmQ]; rfl) (by rw [List.size_toArray, qax hx3, hwl]; exact Nat.le_of_ble_eq_true rfl) fun w4 ho4 f4 => ?_
 refine qcn (x := ⟨x.d, x.sup, x.sl, x.sn, x.turn + 1, x.over, x.sn, ⟨none, 0, 0⟩, ⟨none, 0, 0⟩, x.sup.2.drop 3⟩) (x0 := rvZ) ho4 1 0 rfl rfl qap ⟨hx.sup, hsr⟩ fun w5 f5 g5 => ?_
 have h5 := h.frame0 f5
 refine hk _ w5 ⟨h5.disk, h5.sup, h5.lists, h5.named, by show x.turn + 1 = M.turn + 1; rw [htx], h5.over, h5.named, .nil _ _ _ _, .nil _ _ _ _, by show x.sup.2.drop 3 = M.sup.2.drop 3; rw [h.sup], ⟨hx.sup, hsr⟩⟩ f5
theorem qhh {n : Int} {K : Int -> World -> Prop} (h : RP S w x D M) (hl : M.fresh.length <= 100000) (hk : ∀ w', Fr [] w w' -> K (match look n M.fresh with | some q => (q.1 : Int) | none => -1) w') :
  call Tryz.prog 96 [.agg (refV x).toArray, .int .u32 n] [.one (.int .i64)] w K := by
 refine qeW (p := refV x) ?_
 unfold qbf
 have hx := h.ok
 refine Own.new' (Own.start [] w) fun r1 w1 e1 f1 ho => ?_
 have hf := h.fresh.frame0 f1
 have hfl := hf.1
 have lk : ∀ (l : List (Int × Int × List Int)) (i : Nat), (∀ j e, j < i -> l[j]? = some e -> e.1 ≠ n) -> look n l = (look n (l.drop i)).map fun q => (q.1 + i, q.2) := by
  intro l
  induction l with
  | nil => intro i _; simp [look]
  | cons a r ih =>
   intro i h
   match i with
   | 0 => simp
   | i + 1 =>
    have ha : ¬ n = a.1 := fun e => h 0 a (by omega) rfl e.symm
    rw [look, if_neg ha, List.drop_succ_cons, ih i (fun j e hj he => h (j + 1) e (by omega) (by simpa using he))]
    cases look n (r.drop i) with
    | none => rfl
    | some q => simp; omega
 refine qaf (fun y w' => w' = w1 /\ ∃ i : Nat, y = i /\ i <= M.fresh.length /\ ∀ j e, j < i -> M.fresh[j]? = some e -> e.1 ≠ n) (fun y _ => ((M.fresh.length : Int) - y).toNat) ⟨rfl, 0, rfl, by omega, fun j e hj => by omega⟩ ?_
 rintro y w2 ⟨rfl, i, rfl, hi, hno⟩ X hX
 refine Own.ld (c := .slice) ho 0 rfl x.sfr (qbM hx) ?_
 rw [hfl]
 refine qaa (fun hc => ?_) (fun hc => ?_)
 ·have hil : i < M.fresh.length := by have := of_decide_eq_true hc; omega
  refine Own.ld (c := .slice) ho 0 rfl x.sfr (qbM hx) ?_
  obtain ⟨hn2, bb, oo, ha, _, cs, T, fr, hbk, hcs⟩ := hf.at i (List.getElem?_eq_getElem hil)
  have c0 : cs[oo + i * 3]? = some (.int .u32 M.fresh[i].1) := by
   have := congrArg (·[0]?) hcs
   simpa [encPage] using this
  refine qbj ha ⟨by omega, by omega⟩ ?_
  rw [Int.toNat_natCast]
  refine qag (c := .int .u32) hbk M.fresh[i].1 c0 ?_
  refine qaa (fun hc2 => ?_) (fun hc2 => ?_)
  ·have he : M.fresh[i].1 = n := by simpa using hc2
   have := hk w2 f1
   rw [lk M.fresh i hno, List.drop_eq_getElem_cons hil, look, if_pos he.symm] at this
   simpa using this
  ·have he : ¬ M.fresh[i].1 = n := by simpa using hc2
   rw [wi' _ (by omega)]
   refine hX _ _ ⟨rfl, i + 1, by simp, by omega, fun j e hj hje => ?_⟩ (by omega)
   by_cases hji : j = i
   ·subst hji
    rw [List.getElem?_eq_getElem hil] at hje
    cases hje
    exact he
   ·exact hno j e (by omega) hje
 ·have hie : i = M.fresh.length := by have := of_decide_eq_false hc; omega
  subst hie
  have := hk w2 f1
  rw [lk M.fresh M.fresh.length hno, List.drop_length] at this
  exact this
theorem qov {n : Int} {K : Bool -> World -> Prop} (h : RP S w x D M) (hl1 : M.lists.length <= 100000) (hl2 : M.free.length <= 100000) (hl3 : M.deferred.length <= 100000) (hl : M.fresh.length <= 100000) (hk : ∀ w', Fr [] w w' -> K (usedV M n) w') :
  call Tryz.prog 97 [.agg (refV x).toArray, .int .u32 n] [.one .bool] w K := by
 refine qfF (p := refV x) ?_
 unfold qbo
 have hx := h.ok
 refine Own.new' (Own.start [] w) fun r1 w1 e1 f1 ho => ?_
 have h1 := h.frame0 f1
 have no : ∀ {w' : World}, Fr [] w w' -> usedV M n = false -> K false w' := fun f e => by have := hk _ f; rw [e] at this; exact this
 have hs0 : x.sup.2.getD 0 0 = M.sup.2.getD 0 0 := by rw [h.sup]
 refine qaa (fun hc => ?_) (fun hc => no f1 (by unfold usedV; rw [decide_eq_true (show n < 2 by have := of_decide_eq_false hc; omega)]; rfl))
 have c1 : ¬ n < 2 := by have := of_decide_eq_true hc; omega
 refine Own.ld (c := .int .u32) ho 0 rfl (x.sup.2.getD 0 0) (qq5 hx 0 (by decide)) ?_
 rw [hs0]
 refine qaa (fun hc => ?_) (fun hc => no f1 (by unfold usedV; rw [decide_eq_true (show n >= M.sup.2.getD 0 0 by have := of_decide_eq_false hc; omega)]; simp))
 have c2 : ¬ n >= M.sup.2.getD 0 0 := by have := of_decide_eq_true hc; omega
 refine Own.ld (c := .slice) ho 0 rfl x.sl (qgd hx) ?_
 refine qgp h1.lists (by omega) ?_
 refine qaa (fun hc => ?_) (fun hc => no f1 (by unfold usedV; rw [show decide (n ∈ M.lists) = true by simpa using hc]; simp))
 have c3 : decide (n ∈ M.lists) = false := by simpa using hc
 refine Own.ld (c := .slice) ho 0 rfl x.sf (qdR hx) ?_
 refine qgp h1.free (by omega) ?_
 refine qaa (fun hc => ?_) (fun hc => no f1 (by unfold usedV; rw [show decide (n ∈ M.free) = true by simpa using hc]; simp))
 have c4 : decide (n ∈ M.free) = false := by simpa using hc
 refine Own.ld (c := .slice) ho 0 rfl x.sd (qnH hx) ?_
 refine qgp h1.deferred (by omega) ?_
 refine qaa (fun hc => ?_) (fun hc => no f1 (by unfold usedV; rw [show decide (n ∈ M.deferred) = true by simpa using hc]; simp))
 have c5 : decide (n ∈ M.deferred) = false := by simpa using hc
 refine Own.ldP ho 0 rfl hx ?_
 refine qhh h1 hl fun w2 f2 => ?_
 have := hk w2 (f1.trans f2)
 have e : usedV M n = (look n M.fresh).isNone := by
  unfold usedV
  rw [decide_eq_false c1, decide_eq_false c2, c3, c4, c5]
  rfl
 rw [e] at this
 cases hlk : look n M.fresh with
 | none => rw [hlk] at this; exact this
 | some q =>
  rw [hlk] at this
  have hq : decide ((q.1 : Int) < 0) = false := by rw [decide_eq_false_iff_not]; omega
  show K (decide ((q.1 : Int) < 0)) w2
  rw [hq]; exact this
def setRootM (M : PgM) (t r0 r1 r2 : Int) : Int × PgM :=
 if M.over then (7, M) else if t < 0 \/ t > 7 then (4, M) else (0, { M with roots := M.roots.take (3 * t.toNat) ++ [r0, r1, r2] ++ M.roots.drop (3 * t.toNat + 3) })
theorem qqM (hx : x.Ok) {t : Nat} (ht : t < 8) {r0 r1 r2 : Int} : splice (refV x).toArray (40 + 3 * t) [.int .u32 r0, .int .u32 r1, .int .u32 r2] = (refV { x with roots := x.roots.take (3 * t) ++ [r0, r1, r2] ++ x.roots.drop (3 * t + 3) }).toArray := by
 have hr := hx.roots
 have hsp : x.roots = x.roots.take (3 * t) ++ (x.roots.drop (3 * t)).take 3 ++ x.roots.drop (3 * t + 3) := by
  rw [List.append_assoc, <- List.drop_drop, List.take_append_drop, List.take_append_drop]
 have := qat (A := rvA x ++ supV x.sup.1 x.sup.2 ++ rvB x ++ [slV x.sf, slV x.sd, slV x.sfr] ++ (x.roots.take (3 * t)).map (Value.int .u32)) (X := ((x.roots.drop (3 * t)).take 3).map (Value.int .u32)) (Y := [.int .u32 r0, .int .u32 r1, .int .u32 r2]) (Z := (x.roots.drop (3 * t + 3)).map (Value.int .u32)) (by rw [List.length_map, List.length_take, List.length_drop]; show min 3 _ = 3; omega)
 have hA : (rvA x ++ supV x.sup.1 x.sup.2 ++ rvB x ++ [slV x.sf, slV x.sd, slV x.sfr] ++ (x.roots.take (3 * t)).map (Value.int .u32)).length = 40 + 3 * t := by
  rw [List.length_append, List.length_append, qgi hx, List.length_map, List.length_take]
  show 37 + 3 + _ = _
  omega
 rw [hA] at this
 have e1 : refV x = rvA x ++ supV x.sup.1 x.sup.2 ++ rvB x ++ [slV x.sf, slV x.sd, slV x.sfr] ++ (x.roots.take (3 * t)).map (Value.int .u32) ++ ((x.roots.drop (3 * t)).take 3).map (Value.int .u32) ++ (x.roots.drop (3 * t + 3)).map (Value.int .u32) := by
  have hm : x.roots.map (Value.int .u32) = (x.roots.take (3 * t)).map (Value.int .u32) ++ ((x.roots.drop (3 * t)).take 3).map (Value.int .u32) ++ (x.roots.drop (3 * t + 3)).map (Value.int .u32) := by
   rw [<- List.map_append, <- List.map_append, <- hsp]
  rw [refV, rvW, hm]
  simp only [List.append_assoc]
 have e2 : refV { x with roots := x.roots.take (3 * t) ++ [r0, r1, r2] ++ x.roots.drop (3 * t + 3) } = rvA x ++ supV x.sup.1 x.sup.2 ++ rvB x ++ [slV x.sf, slV x.sd, slV x.sfr] ++ (x.roots.take (3 * t)).map (Value.int .u32) ++ [.int .u32 r0, .int .u32 r1, .int .u32 r2] ++ (x.roots.drop (3 * t + 3)).map (Value.int .u32) := by
  rw [refV, rvW]
  simp only [List.map_append, List.append_assoc, List.map_cons, List.map_nil]
  rfl
 rw [e1, e2]; exact this
theorem qkR {t r0 r1 r2 : Int} {K : List Value × Int -> World -> Prop} (h : RP S w x D M) (hk : ∀ x' w', RP S w' x' D (setRootM M t r0 r1 r2).2 -> Fr [] w w' -> K (refV x', (setRootM M t r0 r1 r2).1) w') :
  call Tryz.prog 54 [.agg (refV x).toArray, .int .i64 t, .agg #[.int .u32 r0, .int .u32 r1, .int .u32 r2]] [.raw, .one (.int .i64)] w K := by
 refine qeo (p := refV x) ?_
 unfold qa2
 have hx := h.ok
 refine Own.new' (Own.start [] w) fun b1 w1 e1 f1 ho => ?_
 refine Own.new' ho fun b2 w2 e2 f2 ho => ?_
 refine Own.newZ ho qbD fun b3 w3 e3 ho => ?_
 refine Own.ld (c := .bool) ho 2 rfl x.over (qgr hx) ?_
 have same : ∀ {e : Int} {w' : World}, setRootM M t r0 r1 r2 = (e, M) -> Fr [] w w' -> K (refV x, e) w' := fun he f => by
  have := hk x _ (by rw [he]; exact h.frame0 f) f
  rw [he] at this
  exact this
 refine qaa (fun hc => ?_) (fun hc => ?_)
 ·exact qcn (K := fun vs w => K (vs, 7) w) ho 2 0 rfl rfl qap hx fun w4 f4 _ => same (by rw [setRootM, if_pos (by rw [<- h.over]; exact hc)]) f4
 have ho0 : ¬ M.over = true := by rw [<- h.over, hc]; decide
 refine qae (fun b w' => b = decide (t < 0 \/ t > 7) /\ w' = w3) ?_ ?_
 ·refine qaa (fun hc => ⟨by rw [decide_eq_true (Or.inl (of_decide_eq_true hc))], rfl⟩) (fun hc => ?_)
  have := of_decide_eq_false hc
  exact ⟨by simp [this], rfl⟩
 rintro b w4 ⟨rfl, rfl⟩
 refine qaa (fun hc => ?_) (fun hc => ?_)
 ·exact qcn (K := fun vs w => K (vs, 4) w) ho 2 0 rfl rfl qap hx fun w5 f5 _ => same (by rw [setRootM, if_neg ho0, if_pos (of_decide_eq_true hc)]) f5
 have hr := of_decide_eq_false hc
 obtain ⟨n, rfl⟩ : ∃ n : Nat, t = n := ⟨t.toNat, by omega⟩
 have hn8 : n < 8 := by omega
 have hsm : setRootM M n r0 r1 r2 = (0, { M with roots := M.roots.take (3 * n) ++ [r0, r1, r2] ++ M.roots.drop (3 * n + 3) }) := by rw [setRootM, if_neg ho0, if_neg hr, Int.toNat_natCast]
 refine Own.ldA (cl := [Cell.int .u32, Cell.int .u32, Cell.int .u32]) ho 1 rfl (r0, r1, r2) rfl ?_
 refine qan (by omega) ?_
 simp only [Addr.add_mk, Int.toNat_natCast]
 refine Own.st' ho 2 rfl (refV { x with roots := x.roots.take (3 * n) ++ [r0, r1, r2] ++ x.roots.drop (3 * n + 3) }).toArray (by show splice _ (0 + 37 + 3 + n * 3) _ = _; rw [show 0 + 37 + 3 + n * 3 = 40 + 3 * n by omega]; exact qqM hx hn8) rfl (by rw [List.size_toArray, qax hx]; exact Nat.le_trans (show 0 + 37 + 3 + n * 3 + 3 <= 64 by omega) (Nat.le_refl 64)) fun w5 ho5 f5 => ?_
 have hx5 : RV.Ok { x with roots := x.roots.take (3 * n) ++ [r0, r1, r2] ++ x.roots.drop (3 * n + 3) } := ⟨hx.sup, by
  show (x.roots.take (3 * n) ++ [r0, r1, r2] ++ x.roots.drop (3 * n + 3)).length = 24
  have := hx.roots
  simp only [List.length_append, List.length_take, List.length_drop, List.length_cons, List.length_nil]
  omega⟩
 refine qcn (x := { x with roots := x.roots.take (3 * n) ++ [r0, r1, r2] ++ x.roots.drop (3 * n + 3) }) (x0 := rvZ) (K := fun vs w => K (vs, 0) w) ho5 2 0 rfl rfl qap hx5 fun w6 f6 _ => ?_
 have h6 := h.frame0 f6
 have := hk { x with roots := x.roots.take (3 * n) ++ [r0, r1, r2] ++ x.roots.drop (3 * n + 3) } w6 (by rw [hsm]; exact ⟨h6.disk, h6.sup, h6.lists, h6.named, h6.turn, h6.over, h6.free, h6.deferred, h6.fresh, by show x.roots.take (3 * n) ++ [r0, r1, r2] ++ x.roots.drop (3 * n + 3) = _; rw [h.roots], hx5⟩) f6
 rw [hsm] at this
 exact this
def pagerReadM (D : DiskM) (M : PgM) (n : Int) : Int × List Int × Int :=
 if M.over then (0, [], 7) else match look n M.fresh with
 | some q => (q.2.1, q.2.2, 0)
 | none => if usedV M n = false then (0, [], 10) else if (readV D n).2 ≠ 0 then (0, [], (readV D n).2) else openV n (readV D n).1
theorem qqX {n : Int} {K : Int × ByteArray × Int -> World -> Prop} (h : RP S w x D M) (hD : D.Ok) (hn : U32 n) (hl1 : M.lists.length <= 100000) (hl2 : M.free.length <= 100000) (hl3 : M.deferred.length <= 100000) (hl : M.fresh.length <= 100000)
  (hk : ∀ w', Fr [] w w' -> K ((pagerReadM D M n).1, strOf (pagerReadM D M n).2.1, (pagerReadM D M n).2.2) w') :
  call Tryz.prog 52 [.agg (refV x).toArray, .int .u32 n] [.one (.int .u8), .one .str, .one (.int .i64)] w K := by
 refine qfD (p := refV x) ?_
 unfold qbl
 have hx := h.ok
 refine Own.new' (Own.start [] w) fun b1 w1 e1 f1 ho => ?_
 have res : ∀ {a : Int} {l : List Int} {e : Int} {w' : World}, pagerReadM D M n = (a, l, e) -> Fr [] w w' -> K (a, strOf l, e) w' := fun he f => by
  have := hk _ f
  rw [he] at this
  exact this
 refine Own.ld (c := .bool) ho 0 rfl x.over (qgr hx) ?_
 refine qaa (fun hc => res (l := []) (by rw [pagerReadM, if_pos (by rw [<- h.over]; exact hc)]) f1) (fun hc => ?_)
 have ho0 : ¬ M.over = true := by rw [<- h.over, hc]; decide
 refine Own.ldP ho 0 rfl hx ?_
 have h1 := h.frame0 f1
 refine qhh h1 hl fun w2 f2 => ?_
 have ho2 := ho.frame0 f2
 have h2 := h1.frame0 f2
 cases hlk : look n M.fresh with
 | some q =>
  have hq0 : decide ((q.1 : Int) >= 0) = true := by rw [decide_eq_true_iff]; omega
  have hql := (qaJ hlk).1
  refine cond_true hq0 ?_
  have hod := ho2.drew
  have hf := h2.fresh.frame0 (Fr.refl [] w2).drew
  have hfl := hf.1
  have hqn : q.1 < M.fresh.length := (List.getElem?_eq_some_iff.1 hql).1
  refine Own.ld (c := .slice) hod 0 rfl x.sfr (qbM hx) ?_
  obtain ⟨hn2, bb, oo, ha, _, cs, T, fr, hbk, hcs⟩ := hf.at q.1 hql
  have c1 : cs[oo + q.1 * 3 + 1]? = some (.int .u8 q.2.1) := by
   have := congrArg (·[1]?) hcs
   simpa [encPage] using this
  have c2 : cs[oo + q.1 * 3 + 2]? = some (.string (strOf q.2.2)) := by
   have := congrArg (·[2]?) hcs
   simpa [encPage] using this
  refine qbj ha ⟨Int.natCast_nonneg _, by rw [hfl]; exact Int.ofNat_lt.2 hqn⟩ ?_
  rw [Int.toNat_natCast]
  refine qag (c := .int .u8) hbk q.2.1 c1 ?_
  refine Own.ld (c := .slice) hod 0 rfl x.sfr (qbM hx) ?_
  refine qbj ha ⟨Int.natCast_nonneg _, by rw [hfl]; exact Int.ofNat_lt.2 hqn⟩ ?_
  rw [Int.toNat_natCast]
  refine qag (c := .str) hbk (strOf q.2.2) c2 ?_
  exact res (by rw [pagerReadM, if_neg ho0, hlk]) (f1.trans f2).drew
 | none =>
  refine cond_false (by decide) ?_
  refine Own.ldP ho2 0 rfl hx ?_
  refine qov h2 hl1 hl2 hl3 hl fun w3 f3 => ?_
  have ho3 := ho2.frame0 f3
  have f03 := (f1.trans f2).trans f3
  refine qaa (fun hc => ?_) (fun hc => ?_)
  ·have hu : usedV M n = false := by simpa using hc
   exact res (l := []) (by rw [pagerReadM, if_neg ho0, hlk]; exact if_pos hu) f03
  have hu : ¬ usedV M n = false := by simpa using hc
  refine Own.ldA (cl := dC) ho3 0 rfl x.d (qtD hx) ?_
  rw [wi' n (by omega)]
  refine qhr (h.frame0 f03).disk hD fun w4 f4 => ?_
  refine qaa (fun hc => ?_) (fun hc => ?_)
  ·have he : (readV D n).2 ≠ 0 := by simpa using hc
   exact res (l := []) (by rw [pagerReadM, if_neg ho0, hlk]; exact (if_neg hu).trans (if_pos he)) (f03.trans f4)
  ·have he : ¬ (readV D n).2 ≠ 0 := by simpa using hc
   have hri := qaY hD n
   refine qlh hn hri.1 (by omega) fun w5 f5 => ?_
   exact res (by rw [pagerReadM, if_neg ho0, hlk]; exact (if_neg hu).trans (if_neg he)) ((f03.trans f4).trans f5)
end
end
end Go.Proofs.YtmbcedengdoamaaGreatDoor
end
section
set_option linter.unusedVariables false
set_option linter.unusedSimpArgs false
namespace Go.Proofs.YtmbcedengdoamaaGreatDoor
open Go Go.Pt
theorem qmF {cl : List Cell} {w : World} {b off : Nat} {cs : Array Value} {T : TypeId} {fr : Nat × Nat} {K : HL cl -> Prop} (hb : w.heap[b]? = some (.cells cs T fr)) (x : HL cl) (hx : (cs.toList.drop off).take cl.length = HL.mk cl x) (k : K x) : Pt.ldA cl ⟨b, off, none⟩ w K :=
 ⟨x, qaQ hb _ off 0 (by rw [HL.mk_length]; exact hx), k⟩
attribute [local irreducible] ld ldA ldV fld fldA newZ st new idx idxS idxA slc slcS slcP mkS chk nn call callV inv run runQ runU join loop held ext rng undefer s2a nxt ent IntKind.wrap
theorem PgX.setRoots {w w' : World} {X : List Nat} {pb : Nat} {db : Option Addr} {M : PgM} {fb defb mb : Nat} {sl sn : Sl} {F1 F2 : List Nat} {fs : List (Int × Leaf)} {roots : List Int} (h : PgX w X pb db M fb defb mb sl sn F1 F2 fs) (hr : roots.length = 24)
  (hc : w'.heap[pb]? = some (.cells (pgCells db M.sup sl sn M.turn M.over fb defb mb roots) PGT (0, 0))) (f : Fr [pb] w w') : PgX w' X pb db { M with roots := roots } fb defb mb sl sn F1 F2 fs where
 cell := hc
 free := h.free.frame f fun b hb => by simpa using (h.sep.2.1 b hb).1
 deferred := h.deferred.frame f fun b hb => by simpa using (h.sep.2.2 b hb).1
 map := h.map.frame f (by simpa using fun e => h.sep.1 e.symm)
 fresh := h.fresh
 rows := h.rows.frame (f.mono fun i hi _ => by rw [List.mem_singleton.1 hi]; simp) fun b hb => .inl hb
 xlt := fun b hb => Nat.lt_of_lt_of_le (h.xlt b hb) f.size
 xsep := h.xsep
 sep := h.sep
 suplen := h.suplen
 rootlen := hr
theorem qqp {db : Option Addr} {sup : Sup} {sl sn : Sl} {turn : Int} {over : Bool} {fb defb mb : Nat} {roots : List Int} (hs : sup.2.length = 27) (hr : roots.length = 24) {t : Nat} (ht : t < 8) {r0 r1 r2 : Int} :
  splice (pgCells db sup sl sn turn over fb defb mb roots) (36 + 3 * t) [.int .u32 r0, .int .u32 r1, .int .u32 r2] = pgCells db sup sl sn turn over fb defb mb (roots.take (3 * t) ++ [r0, r1, r2] ++ roots.drop (3 * t + 3)) := by
 have hsp : roots = roots.take (3 * t) ++ (roots.drop (3 * t)).take 3 ++ roots.drop (3 * t + 3) := by
  rw [List.append_assoc, <- List.drop_drop, List.take_append_drop, List.take_append_drop]
 have := qat (A := (.pointer db :: supV sup.1 sup.2) ++ pgRest sl sn turn over fb defb mb ++ (roots.take (3 * t)).map (Value.int .u32)) (X := ((roots.drop (3 * t)).take 3).map (Value.int .u32)) (Y := [.int .u32 r0, .int .u32 r1, .int .u32 r2]) (Z := (roots.drop (3 * t + 3)).map (Value.int .u32)) (by rw [List.length_map, List.length_take, List.length_drop]; show min 3 _ = 3; omega)
 have hA : ((.pointer db :: supV sup.1 sup.2) ++ pgRest sl sn turn over fb defb mb ++ (roots.take (3 * t)).map (Value.int .u32)).length = 36 + 3 * t := by
  rw [List.length_append, List.length_append, qbd hs, List.length_map, List.length_take]
  show 29 + 7 + _ = _
  omega
 rw [hA] at this
 unfold pgCells
 have hm : roots.map (Value.int .u32) = (roots.take (3 * t)).map (Value.int .u32) ++ ((roots.drop (3 * t)).take 3).map (Value.int .u32) ++ (roots.drop (3 * t + 3)).map (Value.int .u32) := by
  rw [<- List.map_append, <- List.map_append, <- hsp]
 rw [hm]
 simp only [List.map_append, List.map_cons, List.map_nil]
 simp only [List.append_assoc] at this ⊢
 exact this
section
variable {w : World} {X : List Nat} {pb : Nat} {db : Option Addr} {F : List Nat} {M : PgM}
theorem qpg {t r0 r1 r2 : Int} {K : Int -> World -> Prop} (h : PagerAt w X pb db F M)
  (hk : ∀ w', PagerAt w' X pb db F (setRootM M t r0 r1 r2).2 -> Fr F w w' -> K (setRootM M t r0 r1 r2).1 w') :
  call Tryz.prog 53 [.pointer (some ⟨pb, 0, none⟩), .int .i64 t, .agg #[.int .u32 r0, .int .u32 r1, .int .u32 r2]] [.one (.int .i64)] w K := by
 have h0 := h
 obtain ⟨fb, defb, mb, sl, sn, F1, F2, fs, rfl, hx⟩ := h
 refine qhH (p := some ⟨pb, 0, none⟩) ?_
 unfold qck
 have same : ∀ {e : Int} {w' : World}, setRootM M t r0 r1 r2 = (e, M) -> Fr [] w w' -> K e w' := by
  intro e w' he hf
  have := hk w' (by rw [he]; exact h0.frame0 hf) (hf.mono (fun b hb => by cases hb))
  rw [he] at this
  exact this
 refine Own.new' (Own.start [] w) fun r w1 e1 f1 ho => ?_
 have hx1 := hx.frame0 f1
 refine qad (qag (c := .bool) hx1.cell M.over (qgt hx.suplen) ?_)
 refine qaa (fun hc => same (by rw [setRootM, if_pos hc]) f1) (fun hc => ?_)
 have ho0 : ¬ M.over = true := by rw [hc]; decide
 refine qae (fun b w' => b = decide (t < 0 \/ t > 7) /\ w' = w1) ?_ ?_
 ·refine qaa (fun hc => ⟨by rw [decide_eq_true (Or.inl (of_decide_eq_true hc))], rfl⟩) (fun hc => ?_)
  have := of_decide_eq_false hc
  refine ⟨decide_eq_decide.2 ⟨fun h => .inr (by omega), fun h => by omega⟩, rfl⟩
 rintro b w2 ⟨rfl, rfl⟩
 refine qaa (fun hc => same (by rw [setRootM, if_neg ho0, if_pos (of_decide_eq_true hc)]) f1) (fun hc => ?_)
 have hr := of_decide_eq_false hc
 obtain ⟨n, rfl⟩ : ∃ n : Nat, t = n := ⟨t.toNat, by omega⟩
 have hn8 : n < 8 := by omega
 have hsm : setRootM M n r0 r1 r2 = (0, { M with roots := M.roots.take (3 * n) ++ [r0, r1, r2] ++ M.roots.drop (3 * n + 3) }) := by rw [setRootM, if_neg ho0, if_neg hr, Int.toNat_natCast]
 have hod := ho.drew
 have hxd := hx1.frame0 (Fr.refl [] w2).drew
 refine Own.ldA (cl := [Cell.int .u32, Cell.int .u32, Cell.int .u32]) hod 0 rfl (r0, r1, r2) rfl ?_
 refine qad ?_
 refine qan (by omega) ?_
 simp only [Addr.add_mk, Int.toNat_natCast]
 refine qcU hxd.cell (pgCells db M.sup sl sn M.turn M.over fb defb mb (M.roots.take (3 * n) ++ [r0, r1, r2] ++ M.roots.drop (3 * n + 3))) (by show splice _ (0 + 33 + 3 + n * 3) _ = _; rw [show 0 + 33 + 3 + n * 3 = 36 + 3 * n by omega]; exact qqp hx.suplen hx.rootlen hn8) rfl (by rw [qsR hx.suplen, hx.rootlen]; exact Nat.le_trans (show 0 + 33 + 3 + n * 3 + 3 <= 60 by omega) (Nat.le_refl 60)) fun w3 hc3 f3 => ?_
 have hl : (M.roots.take (3 * n) ++ [r0, r1, r2] ++ M.roots.drop (3 * n + 3)).length = 24 := by
  have := hx.rootlen
  simp only [List.length_append, List.length_take, List.length_drop, List.length_cons, List.length_nil]
  omega
 have := hk w3 (by rw [hsm]; exact ⟨fb, defb, mb, sl, sn, F1, F2, fs, rfl, hxd.setRoots hl hc3 f3⟩) ((f1.drew.mono fun b hb => nomatch hb).trans (f3.mono fun b hb _ => by rw [List.mem_singleton.1 hb]; simp))
 rw [hsm] at this
 exact this
end
theorem qry {w : World} {dbk pb : Nat} {X FD F : List Nat} {D : DiskM} {M : PgM} {k : Nat} {n : Int} {K : Int × Sl × Int -> World -> Prop} (hdisk : DiskAt w dbk FD D) (hlim : Lim D k) (hpag : PagerAt w X pb (dbOf dbk M) F M) (hv : Hv w) (hn : U32 n) (hl : M.lists.length <= 1000000) (hb : ∀ e ∈ M.fresh, e.2.2.length <= 100000)
  (hk : ∀ s w', (∀ G : List Nat, (∀ b ∈ G, b < w.heap.size) -> RdB G w' s (pagerReadM D M n).2.1) -> Fr [] w w' -> K ((pagerReadM D M n).1, s, (pagerReadM D M n).2.2) w') :
  call Tryz.prog 35 [.pointer (some ⟨pb, 0, none⟩), .int .u32 n] [.one (.int .u8), .one .slice, .one (.int .i64)] w K := by
 have hpag0 := hpag
 obtain ⟨fb, defb, mb, sl, sn, F1, F2, fs, rfl, hx⟩ := hpag
 refine qjr (p := some ⟨pb, 0, none⟩) ?_
 unfold qdJ
 have res : ∀ {a : Int} {e : Int} {w' : World}, pagerReadM D M n = (a, [], e) -> Fr [] w w' -> K (a, ⟨none, 0, 0⟩, e) w' := fun he f => by
  have := hk ⟨none, 0, 0⟩ _ (fun G hG => by rw [he]; exact .nil _ _ _ _) f
  rw [he] at this
  exact this
 refine qad (qag (c := .bool) hx.cell M.over (qgt hx.suplen) ?_)
 refine qaa (fun hc => res (by rw [pagerReadM, if_pos hc]) (.refl _ _)) (fun hc => ?_)
 have ho0 : ¬ M.over = true := by rw [hc]; decide
 have hdb : dbOf dbk M = some ⟨dbk, 0, none⟩ := if_neg ho0
 refine qad ?_
 simp only [Addr.add_mk]
 refine qag (c := .map) hx.cell (some mb) (qb3 hx.suplen) ?_
 have hlk : look n M.fresh = (look n fs).map fun q => (q.1, q.2.1, q.2.2.2) := by rw [hx.fresh]; exact qdp (fun e : Leaf => (e.1, e.2.2)) n fs
 refine qkt hx.map.at (fun q hq => ?_) (fun hq => ?_)
 ·rw [hq] at hlk
  have hlk : look n M.fresh = some (q.1, q.2.1, q.2.2.2) := hlk
  refine Own.new' (Own.start [] w) fun r w1 e1 f1 ho => ?_
  refine Own.st' ho 0 rfl #[.int .u8 q.2.1, .slice q.2.2.1.a q.2.2.1.len q.2.2.1.cap] rfl rfl (Nat.le_of_ble_eq_true rfl) fun w2 ho2 f2 => ?_
  have hod := ho2.drew
  refine cond_true rfl ?_
  refine Own.ld (c := .int .u8) hod 0 rfl q.2.1 rfl ?_
  refine Own.ld (c := .slice) hod 0 rfl q.2.2.1 rfl ?_
  have hqm := (qaJ hq).2
  have hqb := hx.rows.bodies _ hqm
  have hmem := (qaJ hlk).2
  refine qbB (hqb.frame0 hod.fr) (Nat.le_trans (hb _ hmem) (by decide)) fun s2 B2 w3 b2 f3 n2 _ _ => ?_
  have ho3 := hod.frame0 f3
  refine qar (ho3.cell 0 rfl rfl) ?_
  have hres : pagerReadM D M n = (q.2.1, q.2.2.2, 0) := by rw [pagerReadM, if_neg ho0, hlk]
  have := hk s2 w3 (fun G hG => by rw [hres]; exact Buf.rds qaq b2 fun b hb hm => by have := n2 b hb; have := hG b hm; have := hod.fr.size; omega) ho3.fr
  rw [hres] at this
  exact this
 ·rw [hq] at hlk
  have hlk : look n M.fresh = none := hlk
  refine Own.new' (Own.start [] w) fun r w1 e1 f1 ho => ?_
  refine Own.st' ho 0 rfl #[.int .u8 0, .slice none 0 0] rfl rfl (Nat.le_of_ble_eq_true rfl) fun w2 ho2 f2 => ?_
  refine cond_false rfl ?_
  refine qom (hpag0.frame0 ho2.fr) hl fun w3 f3 => ?_
  have f03 := ho2.fr.trans f3
  have hx3 := hx.frame0 f03
  refine qaa (fun hc => ?_) (fun hc => ?_)
  ·have hu : usedV M n = false := by simpa using hc
   exact res (by rw [pagerReadM, if_neg ho0, hlk]; exact if_pos hu) f03
  have hu : ¬ usedV M n = false := by simpa using hc
  rw [hdb] at hx3
  refine qad (qag (c := .ptr) hx3.cell (some ⟨dbk, 0, none⟩) qqd ?_)
  rw [wi' n (by have := hn.1; have := hn.2; omega)]
  refine qiJ (hdisk.frame0 f03) hlim.ok fun s5 B5 w5 b5 f5 n5 => ?_
  refine qaa (fun hc => ?_) (fun hc => ?_)
  ·have he : (readV D n).2 ≠ 0 := by simpa using hc
   exact res (by rw [pagerReadM, if_neg ho0, hlk]; exact (if_neg hu).trans (if_pos he)) (f03.trans f5)
  have he : ¬ (readV D n).2 ≠ 0 := by simpa using hc
  have hri := qaY hlim.ok n
  refine qmE (b5.rds qaq (S := []) (by simp)) (hv.frame0 (f03.trans f5)) hri.1 (by omega) fun s6 B6 w6 b6 f6 n6 => ?_
  have hres : pagerReadM D M n = openV n (readV D n).1 := by rw [pagerReadM, if_neg ho0, hlk]; exact (if_neg hu).trans (if_neg he)
  have := hk s6 w6 (fun G hG => by rw [hres]; exact Buf.rds qaq b6 fun b hb hm => by have := n6 b hb; have := hG b hm; have := (f03.trans f5).size; omega) ((f03.trans f5).trans f6)
  rw [hres] at this
  exact this
end Go.Proofs.YtmbcedengdoamaaGreatDoor
end
section
set_option linter.unusedVariables false
set_option linter.unusedSimpArgs false
namespace Go.Proofs.YtmbcedengdoamaaGreatDoor
open Go Go.Pt
def zrs (n : Nat) : List Value := List.replicate n (.int .u8 0)
theorem qj0 (n : Nat) : Builtin.zeroCells #[.int .u8 0] n = (zrs n).toArray := by
 unfold Builtin.zeroCells zrs
 apply Array.ext'
 have h1 : (#[Value.int .u8 0] : Array Value).size = 1 := rfl
 simp only [h1, Nat.mul_one, Array.toList_map, Array.toList_range]
 rw [List.eq_replicate_iff]
 refine ⟨by simp, fun b hb => ?_⟩
 obtain ⟨i, _, rfl⟩ := List.mem_map.1 hb
 rw [Nat.mod_one]
 rfl
section
variable {P : Program} (w : World)
theorem qiF (t tx ty e : TypeId) (i : TypeInfo) (z : Value) {kd : IntKind} (ht : P.underlying t = some (.slice e)) (hk : P.underlying tx = some (.int kd)) (hi : P.info? e = some i) (hz : i.zero = some z) (hzc : z.cells = #[.int .u8 0]) (hsz : i.size = 1) (hby : i.bytes = 1)
  (b off sLen sCap n : Nat) (hn : n <= 100000) (hroom : sLen + n <= sCap) (hc : ∀ j, j < n -> (w.cell? ⟨b, off + sLen + j, none⟩).isSome = true) (hf : ∀ j, j < n -> w.frozen? ⟨b, off + sLen + j, none⟩ = false) :
  (Builtin.append_ #[t, tx] ty #[.slice (some ⟨b, off, none⟩) sLen sCap, .int .i64 n]).run P w = .ok (.slice (some ⟨b, off, none⟩) (sLen + n) sCap) (w.setCells b (off + sLen) (zrs n)) := by
 have hst := run_storeCells_cells (P := P) b (off + sLen) (zrs n) 0 w (by simpa [zrs] using hc) (by simpa [zrs] using hf) (fun u hu => by rw [List.eq_of_mem_replicate hu]; rfl)
 simp only [Nat.add_zero] at hst
 have hw : IntKind.wrap .i64 (n : Int) = n := wi' _ (by omega)
 have h0 : ¬ ((n : Int) < 0) := by omega
 have h48 : ¬ (281474976710656 < (n : Int)) := by omega
 have hai : ∀ w : World, (asIntOf (.int .i64 (n : Int))).run P w = .ok (.i64, (n : Int)) w := fun w => rfl
 by_cases hn0 : n = 0
 ·subst hn0
  have e0 : zrs 0 = [] := rfl
  rw [e0] at hst ⊢
  simp only [Nat.add_zero] at hroom
  have hai0 : ∀ w : World, (asIntOf (.int .i64 0)).run P w = .ok (.i64, 0) w := fun w => rfl
  have hw0 : IntKind.wrap .i64 0 = 0 := wi' _ (by decide)
  simp [Builtin.append_, run_underlying ht, run_underlying hk, sizeOf, typeInfo, zeroValue, hi, hz, hzc, hsz, hby, asInt, hai0, Result.andThen_ok, hw0, hroom, Addr.add_lit, hst]
 ·simp [Builtin.append_, run_underlying ht, run_underlying hk, sizeOf, typeInfo, zeroValue, hi, hz, hzc, hsz, hby, asInt, hai, Result.andThen_ok, hw, h0, h48, hn0, hroom, qj0, Addr.add_lit, hst]
theorem qiL (t tx ty e : TypeId) (i : TypeInfo) (z : Value) {kd : IntKind} (ht : P.underlying t = some (.slice e)) (hk : P.underlying tx = some (.int kd)) (hi : P.info? e = some i) (hz : i.zero = some z) (hzc : z.cells = #[.int .u8 0]) (hsz : i.size = 1) (hby : i.bytes = 1)
  (base : Option Addr) (sLen sCap n : Nat) (olds : List Value) (hold : (Builtin.firstCells 1 sLen (.slice base sLen sCap)).run P w.drew = .ok olds.toArray w.drew) (hn : n <= 100000) (hn1 : 0 < n) (hg : sCap < sLen + n) (h63 : ((sLen + n : Nat) : Int) <= 9223372036854775807) (hfit : Builtin.nextslicecap (sLen + n) sCap <= 281474976710656) :
  (Builtin.append_ #[t, tx] ty #[.slice base sLen sCap, .int .i64 n]).run P w =
   .ok (.slice (some ⟨w.heap.size, 0, none⟩) (sLen + n) (grownCap w (sLen + n) sCap e)) (w.drew.alloc (.cells ((olds ++ zrs n).toArray ++ Builtin.zeroCells z.cells (grownCap w (sLen + n) sCap e - (sLen + n))) e)) := by
 have hw : IntKind.wrap .i64 (n : Int) = n := wi' _ (by omega)
 have h0 : ¬ ((n : Int) < 0) := by omega
 have h48 : ¬ (281474976710656 < (n : Int)) := by omega
 have hai : ∀ w : World, (asIntOf (.int .i64 (n : Int))).run P w = .ok (.i64, (n : Int)) w := fun w => rfl
 have hnr : ¬ (sLen + n <= sCap) := by omega
 have h63' : ¬ (9223372036854775807 < ((sLen : Int) + (n : Int))) := by omega
 have h48' : ¬ (281474976710656 < Builtin.nextslicecap (sLen + n) sCap) := by omega
 have hn0 : ¬ n = 0 := by omega
 simp [Builtin.append_, run_underlying ht, run_underlying hk, sizeOf, typeInfo, zeroValue, hi, hz, hzc, hsz, hby, asInt, hai, Result.andThen_ok, hw, h0, h48, hn0, hnr, h63', h48', qj0, Question.forced, hold, newRow, grownCap]
end
theorem qpO (n : Nat) : (zs n).flatMap encB = zrs n := by
 unfold zs zrs
 induction n with
 | zero => rfl
 | succ n ih => rw [List.replicate_succ, List.flatMap_cons, ih, List.replicate_succ]; rfl
theorem qtb {P : Program} {w : World} {t tx ty e : TypeId} {i : TypeInfo} {z : Value} {kd : IntKind} {s : Sl} {l : List Int} {B : List Nat} {n : Nat} {K : Sl -> World -> Prop} (h : Buf encB 1 w s l B) (hne : s.a ≠ none)
  (ht : P.underlying t = some (.slice e)) (hk : P.underlying tx = some (.int kd)) (hi : P.info? e = some i) (hz : i.zero = some z) (hzc : z.cells = #[.int .u8 0]) (hsz : i.size = 1) (hby : i.bytes = 1) (hn : n <= 100000) (hl : l.length <= 1000000)
  (kk : ∀ s' B' w', Buf encB 1 w' s' (l ++ zs n) B' -> Fr B w w' -> (∀ b ∈ B', b ∈ B \/ w.heap.size <= b) -> K s' w') :
  Pt.run [Ty1.one Cell.slice] ((Builtin.append_ #[t, tx] ty #[.slice s.a s.len s.cap, .int .i64 n]).run P w) K := by
 rcases h with ⟨rfl, rfl, rfl⟩ | ⟨b, o, cs, T, rfl, ho0, ha, hb, h1, h2, h3, h4⟩
 ·exact absurd rfl hne
 have hfl := qbs qaq
 have hnz : (zs n).length = n := qaC n
 obtain ⟨a, len, cap⟩ := s
 simp only at ha h1 h2 h3
 subst ha
 subst h1
 rw [Nat.mul_one] at h3
 by_cases hroom : l.length + n <= cap
 ·refine qeq ⟨_, _, _⟩ _ (qiF w t tx ty e i z ht hk hi hz hzc hsz hby b o l.length cap n hn hroom (fun j hj => ?_) (fun j hj => ?_)) ?_
  ·rw [qaj hb]
   simp [show o + l.length + j < cs.size by omega]
  ·simp [World.frozen?, hb]
  ·rw [qdh hb]
   refine kk _ [b] _ (.inr ⟨b, o, _, T, rfl, ho0, rfl, by rw [qaD _ _ _ _ (qac hb), if_pos rfl], by simp [qaC], by dsimp only; omega, by rw [qbQ, Nat.mul_one]; exact h3, ?_⟩) (qb4 (qac hb) _) (fun c hc => .inl hc)
   have hzl : (zrs n).length = n := by simp [zrs]
   rw [qau _ _ _ (by rw [hzl]; omega), List.length_append, Nat.add_mul, List.flatMap_append, <- h4, qpO]
   have := qok cs.toList (zrs n) (cs.toList.drop (o + l.length + (zrs n).length)) o l.length (by simp; omega)
   rw [hzl] at this ⊢
   rw [hnz, Nat.mul_one, Nat.mul_one]
   exact this
 ·have hn1 : 0 < n := by omega
  have hold : (Builtin.firstCells 1 l.length (.slice (some ⟨b, o, none⟩) l.length cap)).run P w.drew = .ok (l.flatMap encB).toArray w.drew := run_firstCells_some _ _ _ _ _ _ _ (hfl l) (fun j u hj => by
   rw [Addr.add_mk]
   show w.cell? _ = _
   rw [qaj hb]
   have hjl : j < l.length * 1 := by
    have := (List.getElem?_eq_some_iff.1 hj).1
    rw [hfl] at this; exact this
   rw [<- h4, List.getElem?_take, if_pos hjl, List.getElem?_drop] at hj
   simpa using hj)
  have hfit := growslice_fits (bytes := 1) (show cap < l.length + n by omega) (by omega)
  rw [Nat.mul_one] at hfit
  refine qeq ⟨_, _, _⟩ _ (qiL w t tx ty e i z ht hk hi hz hzc hsz hby (some ⟨b, o, none⟩) l.length cap n _ hold hn hn1 (by omega) (by omega) hfit) ?_
  have hge := grownCap_ge w (l.length + n) cap e
  have hzl : (zrs n).length = n := by simp [zrs]
  refine kk _ [w.heap.size] _ (Buf.fresh qaq (b := w.heap.size) (T := e) (cs := ((l.flatMap encB) ++ zrs n).toArray ++ Builtin.zeroCells z.cells (grownCap w (l.length + n) cap e - (l.length + n))) ?_ (by rw [List.length_append, hnz]) hge ?_ ?_) ?_ ?_
  ·rw [qcj]; exact if_pos rfl
  ·rw [Array.size_append, qhL, hzc, List.size_toArray, List.length_append, hfl, hzl]
   show grownCap w (l.length + n) cap e * 1 <= l.length * 1 + n + (grownCap w (l.length + n) cap e - (l.length + n)) * 1
   generalize grownCap w (l.length + n) cap e = g at hge
   omega
  ·rw [Array.toList_append, List.take_append_of_le_length (by simp [hfl, hnz, hzl]), List.take_of_length_le (by simp [hfl, hnz, hzl]), List.flatMap_append, qpO]
  ·exact (Fr.refl _ w).drew.alloc _
  ·intro b hb; simp at hb; subst hb; exact .inr (Nat.le_refl _)
end Go.Proofs.YtmbcedengdoamaaGreatDoor
end
section
set_option linter.unusedVariables false
set_option linter.unusedSimpArgs false
namespace Go.Proofs.YtmbcedengdoamaaGreatDoor
open Go Go.Pt
attribute [local irreducible] ld ldA ldV fld fldA newZ st new idx idxS idxA slc slcS slcP mkS chk nn call callV inv run runQ runU join loop held ext rng undefer s2a nxt ent IntKind.wrap
def insF {β : Type} (n : Int) (v : β) : List (Int × β) -> List (Int × β)
 | [] => [(n, v)]
 | a :: l => if a.1 > n then (n, v) :: a :: l else a :: insF n v l
theorem qlt {β : Type} {n : Int} {v : β} : ∀ {A B : List (Int × β)}, (∀ e ∈ A, ¬ e.1 > n) -> insF n v (A ++ B) = A ++ insF n v B
 | [], B, _ => rfl
 | a :: A, B, h => by
  rw [List.cons_append, insF, if_neg (h a (by simp)), qlt (fun e he => h e (by simp [he]))]
  rfl
def makeR (M : PgM) (kind : Int) (body : List Int) : (Int × Int) × PgM :=
 if M.over then ((0, 7), M) else if body.length > 500 then ((0, 3), M) else
 match M.free with
 | [] => ((0, 6), M)
 | n :: r => ((n, 0), { M with free := r, fresh := insF n (kind, body) M.fresh })
theorem qrf : ∃ i, Tryz.prog.info? 165 = some i /\ i.zero = some (.agg #[.int .u32 0, .int .u8 0, .string ⟨#[]⟩]) /\ i.size = 3 /\ i.bytes = 24 := qeX (by kernel_rfl)
abbrev BufP (w : World) (s : Sl) (l : List (Int × Int × List Int)) (B : List Nat) : Prop := Buf encPage 3 w s l B
theorem qoM {w : World} {s : Sl} {l : List (Int × Int × List Int)} {B : List Nat} {e : Int × Int × List Int} {K : Sl -> World -> Prop} (h : BufP w s l B) (hl : l.length <= 1000000)
  (kk : ∀ s' B' w', BufP w' s' (l ++ [e]) B' -> Fr B w w' -> (∀ b ∈ B', b ∈ B \/ w.heap.size <= b) -> K s' w') :
  Pt.new (.cells #[.int .u32 e.1, .int .u8 e.2.1, .string (strOf e.2.2)] 165) w fun r w1 => Pt.run [Ty1.one Cell.slice] ((Builtin.append_ #[59, 59] 59 #[.slice s.a s.len s.cap, .slice (some ⟨r, 0, none⟩) 1 1]).run Tryz.prog w1) K := by
 obtain ⟨i, hi, hz, hsz, hby⟩ := qrf
 exact Buf.push (e := 165) (x := e) h qbS (qkX e) (by kernel_rfl) hi hz hsz rfl rfl (by rw [hby]; omega) (by omega) kk
theorem qsp {S : List Nat} {w : World} {s src : Sl} {l ys : List (Int × Int × List Int)} {B : List Nat} {K : Sl -> World -> Prop} (h : BufP w s l B) (hr : Rds encPage 3 S w src ys) (hl : l.length + ys.length <= 1000000)
  (kk : ∀ s' B' w', BufP w' s' (l ++ ys) B' -> Fr B w w' -> (∀ b ∈ B', b ∈ B \/ w.heap.size <= b) -> K s' w') :
  Pt.run [Ty1.one Cell.slice] ((Builtin.append_ #[59, 59] 59 #[.slice s.a s.len s.cap, .slice src.a src.len src.cap]).run Tryz.prog w) K := by
 obtain ⟨i, hi, hz, hsz, hby⟩ := qrf
 have hlen := hr.1
 refine Buf.appSrc (e := 165) h qbS (by kernel_rfl) hi hz hsz rfl (qhW (e' := 165) hr qbS qkX (by kernel_rfl)) hlen (by rw [hby]; omega) (by omega) fun s' B' w' b' f' n' _ => kk s' B' w' b' f' n'
theorem Rds.keep {α : Type} {enc : α -> List Value} {k r : Nat} {T : List Nat} {w w' : World} {s : Sl} {l : List α} (h : Rds enc k T w s l) (hr : r ∈ T) (f : Fr [r] w w') : Rds enc k T w' s l :=
 h.frame (f.mono fun i hi _ => by rw [List.mem_singleton.1 hi]; exact hr) fun b hb => .inl hb
theorem Rds.less {α : Type} {enc : α -> List Value} {k : Nat} {S T : List Nat} {w : World} {s : Sl} {l : List α} (h : Rds enc k (T ++ S) w s l) : Rds enc k S w s l :=
 h.weak fun b hb => .inl (List.mem_append_right _ hb)
theorem Buf.apart {α : Type} {enc : α -> List Value} {k r n : Nat} {B : List Nat} {w w' : World} {s : Sl} {l : List α} (h : Buf enc k w s l B) (hB : ∀ b ∈ B, n <= b) (hr : r < n) (f : Fr [r] w w') : Buf enc k w' s l B :=
 h.frame f fun b hb1 hb2 => by have := hB b hb1; rw [List.mem_singleton.1 hb2] at this; omega
section
variable {S : List Nat} {w : World} {x : RV} {D : DiskM} {M : PgM}
theorem qls {kind : Int} {l : List Int} {K : List Value × Int × Int -> World -> Prop} (h : RP S w x D M) (hS : ∀ b ∈ S, b < w.heap.size) (hl : M.fresh.length <= 100000) (hf : M.free.length <= 100000)
  (hk : ∀ x' w', RP S w' x' D (makeR M kind l).2 -> Fr [] w w' -> K (refV x', (makeR M kind l).1.1, (makeR M kind l).1.2) w') :
  call Tryz.prog 48 [.agg (refV x).toArray, .int .u8 kind, .string (strOf l)] [.raw, .one (.int .u32), .one (.int .i64)] w K := by
 refine qfr (p := refV x) ?_
 unfold qbr
 have hx := h.ok
 refine Own.new' (Own.start [] w) fun r1 w1 e1 f1 ho => ?_
 refine Own.newZ ho qbD fun r3 w2 e2 ho => ?_
 have same : ∀ {a e : Int} {w' : World}, makeR M kind l = ((a, e), M) -> Fr [] w w' -> K (refV x, a, e) w' := fun he f => by
  have := hk x _ (by rw [he]; exact h.frame0 f) f
  rw [he] at this
  exact this
 refine Own.ld (c := .bool) ho 1 rfl x.over (qgr hx) ?_
 refine qaa (fun hc => ?_) (fun hc => ?_)
 ·exact qcn (K := fun vs w => K (vs, 0, 7) w) ho 1 0 rfl rfl qap hx fun w4 f4 _ => same (by rw [makeR, if_pos (by rw [<- h.over]; exact hc)]) f4
 have ho0 : ¬ M.over = true := by rw [<- h.over, hc]; decide
 rw [qai]
 refine qaa (fun hc => ?_) (fun hc => ?_)
 ·have hlong : l.length > 500 := by have := of_decide_eq_true hc; omega
  exact qcn (K := fun vs w => K (vs, 0, 3) w) ho 1 0 rfl rfl qap hx fun w4 f4 _ => same (by rw [makeR, if_neg ho0, if_pos hlong]) f4
 have hsh : ¬ l.length > 500 := by have := of_decide_eq_false hc; omega
 refine Own.ld (c := .slice) ho 1 rfl x.sf (qdR hx) ?_
 have hfl : x.sf.len = M.free.length := h.free.1
 refine qaa (fun hc => ?_) (fun hc => ?_)
 ·have he : M.free = [] := by
   have : (x.sf.len : Int) = 0 := by simpa using hc
   exact List.length_eq_zero_iff.1 (by omega)
  exact qcn (K := fun vs w => K (vs, 0, 6) w) ho 1 0 rfl rfl qap hx fun w4 f4 _ => same (by rw [makeR, if_neg ho0, if_neg hsh, he]) f4
 have hne : M.free.length ≠ 0 := by
  have : ¬ (x.sf.len : Int) = 0 := by simpa using hc
  omega
 obtain ⟨n, r, hnr⟩ : ∃ n r, M.free = n :: r := by
  cases hM : M.free with
  | nil => rw [hM] at hne; exact absurd rfl hne
  | cons n r => exact ⟨n, r, rfl⟩
 have hmk : makeR M kind l = ((n, 0), { M with free := r, fresh := insF n (kind, l) M.fresh }) := by rw [makeR, if_neg ho0, if_neg hsh, hnr]
 have h2 := h.opened ho
 refine Own.ld (c := .slice) ho 1 rfl x.sf (qdR hx) ?_
 refine Rd.at h2.free 0 rfl (by rw [hnr]; rfl) ?_
 refine Own.ld (c := .slice) ho 1 rfl x.sf (qdR hx) ?_
 refine Rds.drop h2.free 1 rfl (by rw [hnr, List.length_cons]; omega) (by omega) fun s20 hs20 => ?_
 rw [hnr] at hs20
 refine Own.st' ho 1 rfl _ (qoa (s := s20) hx) rfl (by rw [List.size_toArray, qax hx]; exact Nat.le_of_ble_eq_true rfl) fun w3 ho3 f3 => ?_
 have hx3 : RV.Ok { x with sf := s20 } := ⟨hx.sup, hx.roots⟩
 have hs3 := Rds.keep hs20 (r := r1) (by simp) f3
 have h3 := h.frame0 ho3.fr
 have hfr3 := h3.fresh
 have hfrl := hfr3.1
 refine Own.new' ho3 fun r22 w4 e4 f4 ho4 => ?_
 have done : ∀ {s : Sl} {B : List Nat} {w5 : World}, BufP w5 s (insF n (kind, l) M.fresh) B -> Fr [] w3 w5 -> (∀ b ∈ B, w3.heap.size <= b) ->
   st ⟨r1, 39, none⟩ [.slice s.a s.len s.cap] w5 (fun w55 => ldV 64 ⟨r1, 0, none⟩ w55 fun vs56 => chk (vs56.length = 64) (st ⟨r3, 0, none⟩ vs56 w55 fun w57 => ldV 64 ⟨r3, 0, none⟩ w57 fun vs58 => K (vs58, n, 0) w57)) := by
  intro s B w5 hb f5 hB
  have ho5 := ho3.frame0 f5
  refine Own.st' ho5 1 rfl _ (qjT (s := s) hx3) rfl (by rw [List.size_toArray, qax hx3]; exact Nat.le_of_ble_eq_true rfl) fun w6 ho6 f6 => ?_
  have hx6 : RV.Ok { x with sf := s20, sfr := s } := ⟨hx.sup, hx.roots⟩
  have l1 := qac (ho3.at (i := 1) rfl)
  have l3 := qac (ho3.at (i := 0) rfl)
  refine qcn (x := { x with sf := s20, sfr := s }) (x0 := rvZ) (K := fun vs w => K (vs, n, 0) w) ho6 1 0 rfl rfl qap hx6 fun w7 f7 g7 => ?_
  have b6 := Buf.apart (Buf.apart hb hB l1 f6) hB l3 g7
  have h7 := h.frame0 f7
  have hsz := ho3.fr.size
  have fs7 : Rd S w7 s20 r := Rds.less (Rds.keep (Rds.keep (Rds.frame0 hs3 f5) (r := r1) (by simp) f6) (r := r3) (by simp) g7)
  have := hk { x with sf := s20, sfr := s } w7 (by rw [hmk]; exact ⟨h7.disk, h7.sup, h7.lists, h7.named, h7.turn, h7.over, fs7, h7.deferred, b6.rds qbS fun b hb1 hb2 => by have := hB b hb1; have := hS b hb2; omega, h7.roots, hx6⟩) f7
  rw [hmk] at this
  exact this
 refine qaf (fun y w' => ∃ (i : Nat) (B : List Nat) (o : List (Int × Int × List Int)), y.2.2 = i /\ i <= M.fresh.length /\ BufP w' y.1 o B /\ Fr [] w3 w' /\ (∀ b ∈ B, w3.heap.size <= b) /\ o.length = i + y.2.1.toNat /\
   (if y.2.1 then o ++ M.fresh.drop i = insF n (kind, l) M.fresh else o = M.fresh.take i /\ ∀ e ∈ M.fresh.take i, ¬ e.1 > n)) (fun y _ => ((M.fresh.length : Int) - y.2.2).toNat)
  ⟨0, [r22], [], rfl, by omega, Buf.empty (ho4.at (i := 0) rfl), f4, by simp [e4], by simp, by simp⟩ ?_
 rintro ⟨so, dn, y⟩ w5 ⟨i, B, o, hy, hi, hb, f5, hB, hol, hinv⟩ X hX
 simp only at hy hb hinv
 subst hy
 dsimp only
 have ho5 := ho3.frame0 f5
 have hfr5 := hfr3.frame0 f5
 refine Own.ld (c := .slice) ho5 1 rfl x.sfr (qbM hx3) ?_
 rw [hfrl]
 refine qaa (fun hc => ?_) (fun hc => ?_)
 ·have hil : i < M.fresh.length := by have := of_decide_eq_true hc; omega
  refine qae (fun t w' => ∃ (B : List Nat) (o2 : List (Int × Int × List Int)), BufP w' t.1 o2 B /\ Fr [] w3 w' /\ (∀ b ∈ B, w3.heap.size <= b) /\ o2.length = i + t.2.toNat /\
   (if t.2 then o2 ++ M.fresh.drop i = insF n (kind, l) M.fresh else o2 = M.fresh.take i /\ ∀ e ∈ M.fresh.take (i + 1), ¬ e.1 > n)) ?_ ?_
  ·refine qae (fun b w' => b = decide (dn = false /\ M.fresh[i].1 > n) /\ w' = w5) ?_ ?_
   ·refine qaa (fun hc2 => ?_) (fun hc2 => ?_)
    ·have hdn : dn = false := by simpa using hc2
     refine Own.ld (c := .slice) ho5 1 rfl x.sfr (qbM hx3) ?_
     obtain ⟨hn2, bb, oo, ha, _, cs, T, fr, hbk, hcs⟩ := hfr5.at i (List.getElem?_eq_getElem hil)
     have c0 : cs[oo + i * 3]? = some (.int .u32 M.fresh[i].1) := by
      have := congrArg (·[0]?) hcs
      simpa [encPage] using this
     refine qbj ha ⟨by omega, by omega⟩ ?_
     rw [Int.toNat_natCast]
     refine qag (c := .int .u32) hbk M.fresh[i].1 c0 ?_
     refine ⟨?_, rfl⟩
     rw [hdn]
     simp
    ·have hdn : dn = true := by simpa using hc2
     exact ⟨by rw [hdn]; simp, rfl⟩
   rintro b w6 ⟨rfl, rfl⟩
   refine qaa (fun hc2 => ?_) (fun hc2 => ?_)
   ·obtain ⟨hdn, hgt⟩ := of_decide_eq_true hc2
    subst hdn
    simp only [Bool.false_eq_true, if_false] at hinv
    obtain ⟨rfl, hle⟩ := hinv
    refine qoM (e := (n, kind, l)) hb (by rw [List.length_take]; omega) fun s' B' w7 hb7 f7 n7 => ?_
    refine ⟨B', _, hb7, f5.trans' f7 (fun b hb => .inr (hB b hb)), fun b hb => ?_, ?_, ?_⟩
    ·rcases n7 b hb with h | h
     ·exact hB b h
     ·have := f5.size; omega
    ·rw [List.length_append, List.length_take, List.length_cons, List.length_nil]; show _ = i + 1; omega
    ·rw [if_pos rfl]
     conv => rhs; rw [<- List.take_append_drop i M.fresh]
     rw [qlt hle, List.drop_eq_getElem_cons hil, insF, if_pos hgt, List.append_assoc]
     rfl
   ·have hno := of_decide_eq_false hc2
    cases dn with
    | true =>
     simp only [if_true] at hinv
     exact ⟨B, o, hb, f5, hB, hol, by rw [if_pos rfl]; exact hinv⟩
    | false =>
     simp only [Bool.false_eq_true, if_false] at hinv
     obtain ⟨rfl, hle⟩ := hinv
     refine ⟨B, _, hb, f5, hB, hol, ?_⟩
     rw [if_neg (show ¬ false = true from Bool.false_ne_true)]
     refine ⟨rfl, fun e he => ?_⟩
     rw [List.take_succ_eq_append_getElem hil] at he
     rcases List.mem_append.1 he with he | he
     ·exact hle e he
     ·rw [List.mem_singleton.1 he]
      exact fun hgt => hno ⟨rfl, hgt⟩
  rintro ⟨so2, dn2⟩ w6 ⟨B2, o2, hb6, f6, hB6, hol6, hinv6⟩
  simp only at hb6 hinv6
  dsimp only
  have ho6 := ho3.frame0 f6
  have hfr6 := hfr3.frame0 f6
  refine Own.ld (c := .slice) ho6 1 rfl x.sfr (qbM hx3) ?_
  refine Rds.getA hfr6 i (cl := [Cell.int .u32, Cell.int .u8, Cell.str]) rfl (List.getElem?_eq_getElem hil) rfl (y := (M.fresh[i].1, M.fresh[i].2.1, strOf M.fresh[i].2.2)) rfl ?_
  have hd2 := Bool.toNat_le dn2
  dsimp only at hol6
  refine qoM (e := M.fresh[i]) hb6 (by omega) fun s' B' w7 hb7 f7 n7 => ?_
  rw [wi' _ (by omega)]
  refine hX _ _ ⟨i + 1, B', _, by simp, by omega, hb7, f6.trans' f7 (fun b hb => .inr (hB6 b hb)), fun b hb => ?_, by rw [List.length_append, List.length_cons, List.length_nil, hol6]; show i + dn2.toNat + 1 = i + 1 + dn2.toNat; omega, ?_⟩ (by dsimp only; omega)
  ·rcases n7 b hb with h | h
   ·exact hB6 b h
   ·have := f6.size; omega
  ·dsimp only
   cases dn2 with
   | true =>
    simp only [if_true] at hinv6 ⊢
    rw [<- hinv6, List.drop_eq_getElem_cons hil, List.append_assoc]
    rfl
   | false =>
    simp only [Bool.false_eq_true, if_false] at hinv6 ⊢
    rw [hinv6.1, List.take_succ_eq_append_getElem hil]
    refine ⟨rfl, fun e he => hinv6.2 e ?_⟩
    rw [List.take_succ_eq_append_getElem hil]
    exact he
 have hie : i = M.fresh.length := by have := of_decide_eq_false hc; omega
 subst hie
 refine qae (fun s w' => ∃ B, BufP w' s (insF n (kind, l) M.fresh) B /\ Fr [] w3 w' /\ ∀ b ∈ B, w3.heap.size <= b) ?_ ?_
 ·refine qaa (fun hc2 => ?_) (fun hc2 => ?_)
  ·have hdn : dn = false := by simpa using hc2
   subst hdn
   simp only [Bool.false_eq_true, if_false] at hinv
   obtain ⟨rfl, hle⟩ := hinv
   refine qoM (e := (n, kind, l)) hb (by rw [List.length_take]; omega) fun s' B' w7 hb7 f7 n7 => ?_
   refine ⟨B', ?_, f5.trans' f7 (fun b hb => .inr (hB b hb)), fun b hb => ?_⟩
   ·have e : insF n (kind, l) M.fresh = M.fresh.take M.fresh.length ++ [(n, kind, l)] := by
     have := qlt (v := (kind, l)) (B := []) hle
     rw [List.append_nil, List.take_length] at this
     rw [this, List.take_length]
     rfl
    rw [e]
    exact hb7
   ·rcases n7 b hb with h | h
    ·exact hB b h
    ·have := f5.size; omega
  ·have hdn : dn = true := by simpa using hc2
   subst hdn
   simp only [if_true] at hinv
   rw [List.drop_length, List.append_nil] at hinv
   rw [<- hinv]
   exact ⟨B, hb, f5, hB⟩
 rintro s w6 ⟨B6, hb6, f6, hB6⟩
 exact done hb6 f6 hB6
end
section
theorem qsL {α : Type} {enc : α -> List Value} {k : Nat} {w : World} {s : Sl} {l : List α} {B : List Nat} {i : Nat} {x : α} {y : Int} {K : World -> Prop} (h : Buf enc k w s l B) (hl : i < l.length) (hy : y = i) (henc : ∀ x, (enc x).length = k) (hone : (enc x).all Value.oneCell' = true)
  (kk : ∀ w', Buf enc k w' s (l.set i x) B -> Fr B w w' -> K w') : idx s y k fun a => st a (enc x) w K := by
 subst hy
 rcases h with ⟨rfl, rfl, _⟩ | ⟨b, o, cs, T, rfl, rfl, ha, hb, h1, h2, h3, h4⟩
 ·simp at hl
 ·refine qbj ha ⟨by omega, by omega⟩ ?_
  rw [Int.toNat_natCast, Nat.zero_add]
  rw [List.drop_zero] at h4
  have hlen := qbs henc l
  have hx := henc x
  have hik : i * k + k <= l.length * k := by have := Nat.mul_le_mul_right k (show i + 1 <= l.length from hl); rw [Nat.add_mul] at this; omega
  have hlc : l.length * k <= cs.size := Nat.le_trans (Nat.mul_le_mul_right k (show l.length <= s.cap by omega)) (by rw [Nat.zero_add] at h3; exact h3)
  have hsz : i * k + (enc x).length <= cs.size := by omega
  refine qcU hb (splice cs (i * k) (enc x)) rfl hone hsz fun w' hb' f' => ?_
  refine kk w' (.inr ⟨b, 0, _, T, rfl, rfl, ha, hb', by rw [List.length_set]; exact h1, h2, by rw [qbQ]; exact h3, ?_⟩) f'
  rw [List.drop_zero, List.length_set]
  have hsp := qhI henc l i x hl
  have h5 : (splice cs (i * k) (enc x)).toList.take (l.length * k) = (splice (l.flatMap enc).toArray (i * k) (enc x)).toList := by
   rw [qau _ _ _ hsz, qau _ _ _ (by show _ <= (l.flatMap enc).length; omega)]
   have hc2 : cs.toList = l.flatMap enc ++ cs.toList.drop (l.length * k) := by rw [<- h4, List.take_append_drop]
   rw [hc2]
   generalize cs.toList.drop (l.length * k) = R
   show (((l.flatMap enc ++ R).take (i * k) ++ enc x ++ (l.flatMap enc ++ R).drop (i * k + (enc x).length)).take (l.length * k)) = (l.flatMap enc).take (i * k) ++ enc x ++ (l.flatMap enc).drop (i * k + (enc x).length)
   have e1 : (l.flatMap enc ++ R).take (i * k) = (l.flatMap enc).take (i * k) := List.take_append_of_le_length (by omega)
   have e2 : (l.flatMap enc ++ R).drop (i * k + (enc x).length) = (l.flatMap enc).drop (i * k + (enc x).length) ++ R := List.drop_append_of_le_length (by omega)
   rw [e1, e2, <- List.append_assoc]
   have e3 : ((l.flatMap enc).take (i * k) ++ enc x ++ (l.flatMap enc).drop (i * k + (enc x).length)).length = l.length * k := by
    simp only [List.length_append, List.length_take, List.length_drop]; omega
   rw [List.take_append_of_le_length (by omega), List.take_of_length_le (by omega)]
  rw [h5, hsp]
theorem Rds.upto {α : Type} {enc : α -> List Value} {k : Nat} {S : List Nat} {w : World} {s : Sl} {l : List α} (h : Rds enc k S w s l) {hi : Int} (b : Nat) {K : Sl -> Prop} (hhi : hi = b) (hb : b <= l.length)
  (kk : ∀ s', Rds enc k S w s' (l.take b) -> K s') : slc s none (some hi) none k K := by
 subst hhi
 obtain ⟨h1, h2, h3⟩ := h
 refine qn1 ⟨by omega, by omega⟩ (kk _ ⟨by simp only [Int.toNat_natCast, List.length_take]; omega, by simp only [Int.toNat_natCast]; omega, ?_⟩)
 rcases h3 with h3 | ⟨b', o, cs, T, fr, ha, hbk, hn, hc⟩
 ·exact .inl (by rw [h3]; simp)
 ·refine .inr ⟨b', o, cs, T, fr, ha, hbk, hn, fun i x hx => hc i x ?_⟩
  rw [List.getElem?_take] at hx
  split at hx
  ·exact hx
  ·cases hx
section
variable {S : List Nat} {w : World} {x : RV} {D : DiskM} {M : PgM}
theorem qll {n kind : Int} {l : List Int} {K : List Value × Int -> World -> Prop} (h : RP S w x D M) (hS : ∀ b ∈ S, b < w.heap.size) (hl : M.fresh.length <= 100000)
  (hk : ∀ x' w', RP S w' x' D (putV M n kind l).2 -> Fr [] w w' -> K (refV x', (putV M n kind l).1) w') :
  call Tryz.prog 50 [.agg (refV x).toArray, .int .u32 n, .int .u8 kind, .string (strOf l)] [.raw, .one (.int .i64)] w K := by
 refine qf2 (p := refV x) ?_
 unfold qbC
 have hx := h.ok
 refine Own.new' (Own.start [] w) fun r1 w1 e1 f1 ho => ?_
 refine Own.newZ ho qbD fun r3 w2 e2 ho => ?_
 have same : ∀ {e : Int} {w' : World}, putV M n kind l = (e, M) -> Fr [] w w' -> K (refV x, e) w' := fun he f => by
  have := hk x _ (by rw [he]; exact h.frame0 f) f
  rw [he] at this
  exact this
 refine Own.ld (c := .bool) ho 1 rfl x.over (qgr hx) ?_
 refine qaa (fun hc => ?_) (fun hc => ?_)
 ·exact qcn (K := fun vs w => K (vs, 7) w) ho 1 0 rfl rfl qap hx fun w4 f4 _ => same (by rw [putV, if_pos (by rw [<- h.over]; exact hc)]) f4
 have ho0 : ¬ M.over = true := by rw [<- h.over, hc]; decide
 refine Own.ldP ho 1 rfl hx ?_
 refine qhh (h.frame0 ho.fr) hl fun w3 f3 => ?_
 have ho3 := ho.frame0 f3
 cases hlk : look n M.fresh with
 | none =>
  refine cond_true (by decide) ?_
  exact qcn (K := fun vs w => K (vs, 10) w) ho3 1 0 rfl rfl qap hx fun w4 f4 _ => same (by rw [putV, if_neg ho0, hlk]) f4
 | some q =>
  have hqn : q.1 < M.fresh.length := (List.getElem?_eq_some_iff.1 (qaJ hlk).1).1
  have hq0 : decide ((q.1 : Int) < 0) = false := by rw [decide_eq_false_iff_not]; omega
  refine cond_false hq0 ?_
  rw [qai]
  refine qaa (fun hc => ?_) (fun hc => ?_)
  ·have hlong : l.length > 500 := by have := of_decide_eq_true hc; omega
   exact qcn (K := fun vs w => K (vs, 3) w) ho3 1 0 rfl rfl qap hx fun w4 f4 _ => same (by rw [putV, if_neg ho0, hlk]; exact if_pos hlong) f4
  have hsh : ¬ l.length > 500 := by have := of_decide_eq_false hc; omega
  have hmk : putV M n kind l = (0, { M with fresh := M.fresh.set q.1 (n, kind, l) }) := by rw [putV, if_neg ho0, hlk]; exact (if_neg hsh).trans (by rw [setL, hlk])
  refine Own.new' ho3 fun r18 w4 e4 f4 ho4 => ?_
  have h3 := h.frame0 ho3.fr
  refine Own.ld (c := .slice) ho4 2 rfl x.sfr (qbM hx) ?_
  refine qsp (S := S) (s := ⟨some ⟨r18, 0, none⟩, 0, 0⟩) (src := x.sfr) (l := []) (Buf.empty (ho4.at (i := 0) rfl)) (h3.fresh.frame0 f4) (by simp; omega) fun s21 B w5 hb5 f5 n5 => ?_
  rw [List.nil_append] at hb5
  have hB : ∀ b ∈ B, w3.heap.size <= b := fun b hb => by
   rcases n5 b hb with h | h
   ·rw [List.mem_singleton.1 h]; omega
   ·have := f4.size; omega
  have f35 : Fr [] w3 w5 := f4.trans' f5 fun b hb => by rw [List.mem_singleton.1 hb]; exact .inr (by omega)
  have ho5 := ho3.frame0 f35
  have l1 : r1 < w3.heap.size := qac (ho3.at (i := 1) rfl)
  have l3 : r3 < w3.heap.size := qac (ho3.at (i := 0) rfl)
  refine Own.st' ho5 1 rfl _ (qjT (s := s21) hx) rfl (by rw [List.size_toArray, qax hx]; exact Nat.le_of_ble_eq_true rfl) fun w6 ho6 f6 => ?_
  have hx6 : RV.Ok { x with sfr := s21 } := ⟨hx.sup, hx.roots⟩
  have hb6 := Buf.apart hb5 hB l1 f6
  refine Own.ld (c := .slice) ho6 1 rfl s21 (qbM hx6) ?_
  refine qsL (x := (n, kind, l)) hb6 hqn rfl qbS rfl fun w7 hb7 f7 => ?_
  have hsz := ho3.fr.size
  have ho7 := ho6.frame f7 (fun b hb => .inr (by have := hB b hb; omega)) (fun p hp hb => by
   have := hB _ hb
   simp only [List.set_cons_succ, List.set_cons_zero, List.mem_cons, List.not_mem_nil, or_false] at hp
   rcases hp with rfl | rfl
   ·exact absurd this (Nat.not_le.2 l3)
   ·exact absurd this (Nat.not_le.2 l1))
  refine qcn (x := { x with sfr := s21 }) (x0 := rvZ) (K := fun vs w => K (vs, 0) w) ho7 1 0 rfl rfl qap hx6 fun w8 f8 g8 => ?_
  have b8 := Buf.apart hb7 hB l3 g8
  have h8 := h.frame0 f8
  have := hk { x with sfr := s21 } w8 (by rw [hmk]; exact ⟨h8.disk, h8.sup, h8.lists, h8.named, h8.turn, h8.over, h8.free, h8.deferred, Buf.rds qbS b8 fun b hb1 hb2 => by have := hB b hb1; have := hS b hb2; omega, h8.roots, hx6⟩) f8
  rw [hmk] at this
  exact this
theorem qnj {n : Int} {K : List Value × Int -> World -> Prop} (h : RP S w x D M) (hS : ∀ b ∈ S, b < w.heap.size) (hl1 : M.lists.length <= 100000) (hl2 : M.free.length <= 100000) (hl3 : M.deferred.length <= 100000) (hl : M.fresh.length <= 100000) (hs1 : M.free.Pairwise (· < ·)) (hs2 : M.deferred.Pairwise (· < ·))
  (hk : ∀ x' w', RP S w' x' D (dropV M n).2 -> Fr [] w w' -> K (refV x', (dropV M n).1) w') :
  call Tryz.prog 51 [.agg (refV x).toArray, .int .u32 n] [.raw, .one (.int .i64)] w K := by
 refine qfB (p := refV x) ?_
 unfold qbq
 have hx := h.ok
 refine Own.new' (Own.start [] w) fun r1 w1 e1 f1 ho => ?_
 refine Own.newZ ho qbD fun r3 w2 e2 ho => ?_
 have same : ∀ {e : Int} {w' : World}, dropV M n = (e, M) -> Fr [] w w' -> K (refV x, e) w' := fun he f => by
  have := hk x _ (by rw [he]; exact h.frame0 f) f
  rw [he] at this
  exact this
 refine Own.ld (c := .bool) ho 1 rfl x.over (qgr hx) ?_
 refine qaa (fun hc => ?_) (fun hc => ?_)
 ·exact qcn (K := fun vs w => K (vs, 7) w) ho 1 0 rfl rfl qap hx fun w4 f4 _ => same (by rw [dropV, if_pos (by rw [<- h.over]; exact hc)]) f4
 have ho0 : ¬ M.over = true := by rw [<- h.over, hc]; decide
 refine Own.ldP ho 1 rfl hx ?_
 refine qhh (h.frame0 ho.fr) hl fun w3 f3 => ?_
 have ho3 := ho.frame0 f3
 have h3 := h.frame0 ho3.fr
 have l1 : r1 < w3.heap.size := qac (ho3.at (i := 1) rfl)
 have l3 : r3 < w3.heap.size := qac (ho3.at (i := 0) rfl)
 have hsz := ho3.fr.size
 cases hlk : look n M.fresh with
 | some q =>
  have hqn : q.1 < M.fresh.length := (List.getElem?_eq_some_iff.1 (qaJ hlk).1).1
  have hq0 : decide ((q.1 : Int) >= 0) = true := by rw [decide_eq_true_iff]; omega
  refine cond_true hq0 ?_
  have hmk : dropV M n = (0, { M with fresh := M.fresh.take q.1 ++ M.fresh.drop (q.1 + 1), free := ins n M.free }) := by rw [dropV, if_neg ho0, hlk]; simp only [delL, hlk, List.eraseIdx_eq_take_drop_succ]
  refine Own.new' ho3 fun r12 w4 e4 f4 ho4 => ?_
  have h4 := h3.fresh.frame0 f4
  refine Own.ld (c := .slice) ho4 2 rfl x.sfr (qbM hx) ?_
  refine Rds.upto h4 q.1 rfl (by omega) fun s15 hs15 => ?_
  refine qsp (S := S) (s := ⟨some ⟨r12, 0, none⟩, 0, 0⟩) (src := s15) (l := []) (Buf.empty (ho4.at (i := 0) rfl)) hs15 (by simp; omega) fun s16 B w5 hb5 f5 n5 => ?_
  rw [List.nil_append] at hb5
  have hB : ∀ b ∈ B, w3.heap.size <= b := fun b hb => by
   rcases n5 b hb with h | h
   ·rw [List.mem_singleton.1 h]; omega
   ·have := f4.size; omega
  have f35 : Fr [] w3 w5 := f4.trans' f5 fun b hb => by rw [List.mem_singleton.1 hb]; exact .inr (by omega)
  have ho5 := ho3.frame0 f35
  refine Own.ld (c := .slice) ho5 1 rfl x.sfr (qbM hx) ?_
  refine Rds.drop (h3.fresh.frame0 f35) (q.1 + 1) ((wi' ((q.1 : Int) + 1) (by omega)).trans (by omega)) (by omega) (by omega) fun s19 hs19 => ?_
  refine qsp (S := S) hb5 hs19 (by rw [List.length_take, List.length_drop]; omega) fun s20 B6 w6 hb6 f6 n6 => ?_
  have hB6 : ∀ b ∈ B6, w3.heap.size <= b := fun b hb => by
   rcases n6 b hb with h | h
   ·exact hB b h
   ·have := f35.size; omega
  have f36 : Fr [] w3 w6 := f35.trans' f6 fun b hb => .inr (hB b hb)
  have ho6 := ho3.frame0 f36
  refine Own.st' ho6 1 rfl _ (qjT (s := s20) hx) rfl (by rw [List.size_toArray, qax hx]; exact Nat.le_of_ble_eq_true rfl) fun w7 ho7 f7 => ?_
  have hx7 : RV.Ok { x with sfr := s20 } := ⟨hx.sup, hx.roots⟩
  have hb7 := Buf.apart hb6 hB6 l1 f7
  refine Own.ld (c := .slice) ho7 1 rfl x.sf (qdR hx7) ?_
  refine qkl (h.frame0 ho7.fr).free hl2 fun s24 B8 w8 hb8 f8 n8 => ?_
  rw [qix hs1] at hb8
  have ho8 := ho7.frame0 f8
  refine Own.st' ho8 1 rfl _ (qoa (s := s24) hx7) rfl (by rw [List.size_toArray, qax hx7]; exact Nat.le_of_ble_eq_true rfl) fun w9 ho9 f9 => ?_
  have hx9 : RV.Ok { x with sf := s24, sfr := s20 } := ⟨hx.sup, hx.roots⟩
  refine qcn (x := { x with sf := s24, sfr := s20 }) (x0 := rvZ) (K := fun vs w => K (vs, 0) w) ho9 1 0 rfl rfl qap hx9 fun w10 f10 g10 => ?_
  have b10 := Buf.apart (Buf.apart (Buf.frame0 hb7 f8) hB6 l1 f9) hB6 l3 g10
  have l7 := ho7.fr.size
  have l71 := qac (ho7.at (i := 1) rfl)
  have l73 := qac (ho7.at (i := 0) rfl)
  have c10 := Buf.apart (Buf.apart hb8 n8 l71 f9) n8 l73 g10
  have h10 := h.frame0 f10
  have := hk { x with sf := s24, sfr := s20 } w10 (by rw [hmk]; exact ⟨h10.disk, h10.sup, h10.lists, h10.named, h10.turn, h10.over, Buf.rds qas c10 (fun b hb1 hb2 => by have := n8 b hb1; have := hS b hb2; omega), h10.deferred, Buf.rds qbS b10 (fun b hb1 hb2 => by have := hB6 b hb1; have := hS b hb2; omega), h10.roots, hx9⟩) f10
  rw [hmk] at this
  exact this
 | none =>
  refine cond_false (by decide) ?_
  refine Own.ldP ho3 1 rfl hx ?_
  refine qov h3 hl1 hl2 hl3 hl fun w4 f4 => ?_
  have ho4 := ho3.frame0 f4
  refine qaa (fun hc => ?_) (fun hc => ?_)
  ·have hu : ¬ usedV M n = true := by simpa using hc
   exact qcn (K := fun vs w => K (vs, 10) w) ho4 1 0 rfl rfl qap hx fun w5 f5 _ => same (by rw [dropV, if_neg ho0, hlk]; exact if_neg hu) f5
  have hu : usedV M n = true := by simpa using hc
  have hmk : dropV M n = (0, { M with deferred := ins n M.deferred }) := by rw [dropV, if_neg ho0, hlk]; exact if_pos hu
  refine Own.ld (c := .slice) ho4 1 rfl x.sd (qnH hx) ?_
  refine qkl (h.frame0 ho4.fr).deferred hl3 fun s24 B8 w8 hb8 f8 n8 => ?_
  rw [qix hs2] at hb8
  have ho8 := ho4.frame0 f8
  refine Own.st' ho8 1 rfl _ (qrN (s := s24) hx) rfl (by rw [List.size_toArray, qax hx]; exact Nat.le_of_ble_eq_true rfl) fun w9 ho9 f9 => ?_
  have hx9 : RV.Ok { x with sd := s24 } := ⟨hx.sup, hx.roots⟩
  refine qcn (x := { x with sd := s24 }) (x0 := rvZ) (K := fun vs w => K (vs, 0) w) ho9 1 0 rfl rfl qap hx9 fun w10 f10 g10 => ?_
  have l7 := ho4.fr.size
  have l71 := qac (ho4.at (i := 1) rfl)
  have l73 := qac (ho4.at (i := 0) rfl)
  have c10 := Buf.apart (Buf.apart hb8 n8 l71 f9) n8 l73 g10
  have h10 := h.frame0 f10
  have := hk { x with sd := s24 } w10 (by rw [hmk]; exact ⟨h10.disk, h10.sup, h10.lists, h10.named, h10.turn, h10.over, h10.free, Buf.rds qas c10 (fun b hb1 hb2 => by have := n8 b hb1; have := hS b hb2; omega), h10.fresh, h10.roots, hx9⟩) f10
  rw [hmk] at this
  exact this
end
end
theorem RD.opened {S : List Nat} {w w2 : World} {d : RDv} {D : DiskM} {L : List (Nat × Obj)} (h : RD S w d D) (ho : Own [] w w2 L) : RD (L.map (·.1) ++ S) w2 d D :=
 h.frame (ho.fr.mono fun i hi => nomatch hi) fun b hb => by
  rcases List.mem_append.1 hb with hb | hb
  ·obtain ⟨p, hp, rfl⟩ := List.mem_map.1 hb
   rcases ho.own p hp with h | h
   ·cases h
   ·exact .inr h
  ·exact .inl hb
theorem RD.keep {T : List Nat} {w w' : World} {r : Nat} {d : RDv} {D : DiskM} (h : RD T w d D) (hr : r ∈ T) (f : Fr [r] w w') : RD T w' d D :=
 h.frame (f.mono fun i hi _ => by rw [List.mem_singleton.1 hi]; exact hr) fun b hb => .inl hb
theorem RD.less {S T : List Nat} {w : World} {d : RDv} {D : DiskM} (h : RD (T ++ S) w d D) : RD S w d D := h.frame (.refl _ _) fun b hb => .inl (List.mem_append_right _ hb)
theorem Own.ltS {S T : List Nat} {w0 w : World} {L : List (Nat × Obj)} (h : Own S w0 w L) (hS : ∀ b ∈ T, b < w0.heap.size) : ∀ b ∈ L.map (·.1) ++ T, b < w.heap.size := fun b hb => by
 rcases List.mem_append.1 hb with hb | hb
 ·obtain ⟨p, hp, rfl⟩ := List.mem_map.1 hb
  exact qac (h.blk p hp)
 ·exact Nat.lt_of_lt_of_le (hS b hb) h.fr.size
theorem Own.stD' {S : List Nat} {w0 w : World} {L : List (Nat × Obj)} {r : Nat} {d d' : RDv} {K : World -> Prop} (h : Own S w0 w L) (i : Nat) (hi : L[i]? = some (r, .cells (rdC d) RDT (0, 0))) (k : ∀ w', Own S w0 w' (L.set i (r, .cells (rdC d') RDT (0, 0))) -> Fr [r] w w' -> K w') : st ⟨r, 0, none⟩ (HL.mk dC d') w K :=
 Own.st' h i hi (rdC d') rfl rfl (Nat.le_of_ble_eq_true rfl) k
theorem qre {numbers pages : List Int} (h : (bodiesV numbers pages).2 = 0) : (bodiesV numbers pages).1.length = pages.length /\ ∀ b ∈ (bodiesV numbers pages).1, b.length <= 500 /\ IsB b := by
 unfold bodiesV at h ⊢
 split
 ·rename_i h1; rw [if_pos h1] at h; exact absurd h (by decide)
 rename_i h1; rw [if_neg h1] at h
 split
 ·rename_i h1; rw [if_pos h1] at h; exact absurd h (by decide)
 ·refine ⟨qfn _ _ _, fun b hb => ?_⟩
  obtain ⟨i, _, rfl⟩ := List.mem_map.1 hb
  rw [qfE]
  have := qhb numbers i
  unfold chunk at this
  exact ⟨by omega, qjJ _ _⟩
theorem qlL {S : List Nat} {w : World} {d : RDv} {D : DiskM} {k : Nat} {sn sp : Sl} {numbers pages : List Int} {K : RDv × Int -> World -> Prop} (h : RD S w d D) (hD : Lim D k) (hk6 : k + pages.length < 1000000) (hS : ∀ b ∈ S, b < w.heap.size)
  (hn : Rd [] w sn numbers) (hp : Rd [] w sp pages) (hnl : numbers.length <= 100000) (hpl : pages.length <= 100000) (hnu : ∀ x ∈ numbers, U32 x) (hpu : ∀ x ∈ pages, U32 x) (hb0 : (bodiesV numbers pages).2 = 0)
  (hk : ∀ d' w', RD S w' d' (spreadM D numbers pages).1 -> Fr [] w w' -> K (d', (spreadM D numbers pages).2) w') :
  call Tryz.prog 108 [.agg (rdC d), .slice sn.a sn.len sn.cap, .slice sp.a sp.len sp.cap] [.agg dC, .one (.int .i64)] w K := by
 obtain ⟨d0, d1, d2, d3, d4⟩ := d
 refine qg4 (d0 := d0) (d1 := d1) (d2 := d2) (d3 := d3) (d4 := d4) (numbers := sn) (pages := sp) ?_
 unfold qca
 rw [spreadM, if_neg (by rw [hb0]; decide)] at hk
 refine Own.new' (Own.start [] w) fun r1 w1 e1 f1 ho => ?_
 refine Own.new' ho fun r3 w2 e2 f2 ho => ?_
 have h2 := h.opened ho
 refine qqv (G := []) (hn.frame0 ho.fr) (hp.frame0 ho.fr) hnl hpl hnu hpu fun s5 B w3 b3 f3 n3 => ?_
 have hbl := qre hb0
 generalize (bodiesV numbers pages).1 = bs at hk hbl b3
 have ho3 := ho.frame0 f3
 have h3 := h2.frame0 f3
 have hp3 := hp.frame0 ho3.fr
 have hbs3 := Buf.rds (S := [r3, r1]) ql8 b3 fun b hb hm => by
  have hlt := Own.ltS ho (T := []) (fun b hb => nomatch hb) b (by simpa using hm)
  have := n3 b hb
  omega
 have hsl := hbs3.1
 have hlp := hp.1
 have hbl1 := hbl.1
 refine qaf (fun x w' => ∃ (i : Nat) (d' : RDv) (D' : DiskM), x = i /\ i <= pages.length /\ Own [] w w' [(r3, .cells (rdC zD) RDT (0, 0)), (r1, .cells (rdC d') RDT (0, 0))] /\ Fr [r3, r1] w3 w' /\ RD ([r3, r1] ++ S) w' d' D' /\ Lim D' (k + i) /\
   andThen (writesM ((pages.zip bs).map fun x => (x.1, sealV x.1 2 x.2)) D) syncM = andThen (writesM (((pages.zip bs).drop i).map fun x => (x.1, sealV x.1 2 x.2)) D') syncM) (fun x _ => ((pages.length : Int) - x).toNat)
  ⟨0, (d0, d1, d2, d3, d4), D, rfl, by omega, ho3, .refl _ _, h3, hD, rfl⟩ ?_
 rintro x w4 ⟨i, d', D', rfl, hi, ho4, f4, h4, hD4, he⟩ X hX
 have hbs4 := Rds.frame hbs3 f4 (fun b hb => .inl hb)
 have hp4 := hp.frame0 ho4.fr
 refine qaa (fun hc => ?_) (fun hc => ?_)
 ·have hil : i < pages.length := by have := of_decide_eq_true hc; dsimp only at this; omega
  have hib : i < bs.length := by omega
  have hb := hbl.2 bs[i] (List.getElem_mem hib)
  refine Rd.at (w := w4.drew) (hp4.frame0 (Fr.refl [] w4).drew) i rfl (List.getElem?_eq_getElem hil) ?_
  refine Rds.get (c := .str) (y := strOf bs[i]) (Rds.drew hbs4) i rfl (List.getElem?_eq_getElem hib) rfl ?_
  refine qiA (hpu _ (List.getElem_mem hil)) (by decide) hb.2 (fun h => absurd h (by omega)) fun _ w5 f5 => ?_
  have f45 : Fr [] w4 w5.drew := ((Fr.refl [] w4).drew.trans f5).drew
  have ho5 := ho4.frame0 f45
  have h5 := h4.frame0 f45
  refine Own.ldD ho5 1 rfl ?_
  refine Rd.at (hp4.frame0 f45) i rfl (List.getElem?_eq_getElem hil) ?_
  have hpi := hpu _ (List.getElem_mem hil)
  rw [wi' pages[i] (by have := hpi.1; have := hpi.2; omega)]
  have hw := hD4.waits
  have hr := hD4.writes
  refine qdt h5 hD4.ok (Own.ltS ho5 hS) (by omega) (by omega) fun d6 w6 h6 f6 => ?_
  have ho6 := ho5.frame0 f6
  refine Own.stD' ho6 1 rfl fun w7 ho7 f7 => ?_
  have h7 := h6.keep (r := r1) (by simp) f7
  have hz : (pages.zip bs).drop i = (pages[i], bs[i]) :: (pages.zip bs).drop (i + 1) := qjd (numbers := numbers) hil hib
  rw [hz, List.map_cons, writesM] at he
  refine qaa (fun hc2 => ?_) (fun hc2 => ?_)
  ·have hne : (writeM D' pages[i] (sealV pages[i] 2 bs[i])).2 ≠ 0 := by simpa using hc2
   have hfin : andThen (writesM ((pages.zip bs).map fun x => (x.1, sealV x.1 2 x.2)) D) syncM = writeM D' pages[i] (sealV pages[i] 2 bs[i]) := by
    rw [he]; simp only [andThen]; rw [if_neg hne, if_neg hne]
   refine qdZ (K := fun t w => K (t, (writeM D' pages[i] (sealV pages[i] 2 bs[i])).2) w) ho7 1 0 rfl rfl fun w8 f8 g8 => ?_
   have := hk d6 w8 (by rw [hfin]; exact (h7.keep (r := r3) (by simp) g8).less) f8
   rw [hfin] at this
   exact this
  ·have heq : (writeM D' pages[i] (sealV pages[i] 2 bs[i])).2 = 0 := by simpa using hc2
   rw [wi' _ (by omega)]
   refine hX _ _ ⟨i + 1, d6, _, by simp, by omega, ho7, ?_, h7, ?_, ?_⟩ (by omega)
   ·exact (f4.trans (f45.mono fun b hb => nomatch hb)).trans ((f6.mono fun b hb => nomatch hb).trans (f7.mono fun b hb _ => by rw [List.mem_singleton.1 hb]; simp))
   ·exact (hD4.write (by omega) (qcZ (by decide) hb.2)).mono (by omega)
   ·rw [he]; simp only [andThen]; rw [if_pos heq]
 ·have hie : i = pages.length := by have := of_decide_eq_false hc; dsimp only at this; omega
  subst hie
  have hz : (pages.zip bs).drop pages.length = [] := List.drop_eq_nil_of_le (by rw [List.length_zip]; omega)
  rw [hz] at he
  have hfin : andThen (writesM ((pages.zip bs).map fun x => (x.1, sealV x.1 2 x.2)) D) syncM = syncM D' := by rw [he]; rfl
  refine Own.ldD ho4 1 rfl ?_
  refine qjZ h4 hD4.ok (Own.ltS ho4 hS) fun d6 w6 h6 f6 => ?_
  have ho6 := ho4.frame0 f6
  refine Own.stD' (d := zD) ho6 0 rfl fun w7 ho7 f7 => ?_
  refine Own.ldD ho7 0 rfl ?_
  have := hk d6 w7 (by rw [hfin]; exact (h6.keep (r := r3) (by simp) f7).less) ho7.fr
  rw [hfin] at this
  exact this
theorem qnk {S : List Nat} {w : World} {d : RDv} {D : DiskM} {k : Nat} {s : Sup} {K : RDv × Int -> World -> Prop} (h : RD S w d D) (hD : Lim D k) (hk6 : k < 1000000) (hS : ∀ b ∈ S, b < w.heap.size) (hq : U64 s.1) (ht : s.2.length = 27) (hu : ∀ x ∈ s.2, U32 x)
  (hk : ∀ d' w', RD S w' d' (sealM D s).1 -> Fr [] w w' -> K (d', (sealM D s).2) w') :
  call Tryz.prog 109 [.agg (rdC d), .agg (supV s.1 s.2).toArray] [.agg dC, .one (.int .i64)] w K := by
 obtain ⟨d0, d1, d2, d3, d4⟩ := d
 refine qif (d0 := d0) (d1 := d1) (d2 := d2) (d3 := d3) (d4 := d4) (s := supV s.1 s.2) ?_
 unfold qcF
 refine Own.new' (Own.start [] w) fun r1 w1 e1 f1 ho => ?_
 refine Own.new' ho fun r3 w2 e2 f2 ho => ?_
 refine Own.new' ho fun r5 w3 e3 f3 ho => ?_
 have h3 := h.opened ho
 have hod := ho.drew
 refine Own.ldD (d := (d0, d1, d2, d3, d4)) hod 2 rfl ?_
 refine Own.ld (c := .int .u64) hod 1 rfl s.1 rfl ?_
 refine qaw (hod.at (i := 1) rfl) (supV s.1 s.2) (qav ht) (by rw [List.drop_zero, List.take_of_length_le (Nat.le_of_eq (qav ht))]) ?_
 refine qrj hq ht hu fun w4 f4 => ?_
 have ho4 := hod.frame0 f4
 have h4 := h3.frame0 ((Fr.refl [] w3).drew.trans f4)
 refine qaW (by rw [qaj (ho4.at (i := 1) rfl)]; rfl) (qaQ (ho4.at (i := 2) rfl) _ 0 0 rfl) ?_
 have hm : Int.tmod s.1 2 = s.1 % 2 := Int.tmod_eq_emod_of_nonneg hq.1
 have hm2 : 0 <= s.1 % 2 /\ s.1 % 2 < 2 := by omega
 rw [wi' (Int.tmod s.1 2) (by rw [hm]; omega)]
 have hw := hD.waits
 have hr := hD.writes
 refine qdt (n := Int.tmod s.1 2) (l := (superP s).2) h4 hD.ok (Own.ltS ho4 hS) (by omega) (by omega) fun d6 w6 h6 f6 => ?_
 have ho6 := ho4.frame0 f6
 refine Own.stD' (d := (d0, d1, d2, d3, d4)) ho6 2 rfl fun w7 ho7 f7 => ?_
 have h7 := h6.keep (r := r1) (by simp) f7
 refine qaa (fun hc => ?_) (fun hc => ?_)
 ·have hne : (writeM D (superP s).1 (superP s).2).2 ≠ 0 := (by simpa using hc : (writeM D (Int.tmod s.1 2) (superP s).2).2 ≠ 0)
  have hfin : sealM D s = writeM D (superP s).1 (superP s).2 := by simp only [sealM, andThen]; rw [if_neg hne]
  refine qdZ (d := d6) (d0 := zD) (K := fun t w => K (t, (writeM D (superP s).1 (superP s).2).2) w) ho7 2 0 rfl rfl fun w8 f8 g8 => ?_
  have := hk d6 w8 (by rw [hfin]; exact (h7.keep (r := r5) (by simp) g8).less) f8
  rw [hfin] at this
  exact this
 ·have heq : (writeM D (superP s).1 (superP s).2).2 = 0 := (by simpa using hc : (writeM D (Int.tmod s.1 2) (superP s).2).2 = 0)
  have hfin : sealM D s = syncM (writeM D (superP s).1 (superP s).2).1 := by simp only [sealM, andThen]; rw [if_pos heq]
  refine Own.ldD ho7 2 rfl ?_
  refine qjZ h7 (hD.write hk6 (qlM s)).ok (by have := Own.ltS ho7 hS; exact this) fun d8 w8 h8 f8 => ?_
  have ho8 := ho7.frame0 f8
  refine Own.stD' (d := zD) ho8 0 rfl fun w9 ho9 f9 => ?_
  refine Own.ldD ho9 0 rfl ?_
  have := hk d8 w9 (by rw [hfin]; exact (h8.keep (r := r5) (by simp) f9).less) ho9.fr
  rw [hfin] at this
  exact this
theorem qqr {S : List Nat} {w : World} {d : RDv} {D : DiskM} {k : Nat} {K : RDv × Int -> World -> Prop} (h : RD S w d D) (hl : Lim D k) (hk : k <= 900000) (h8 : 8 <= D.safe.length) (hS : ∀ b ∈ S, b < w.heap.size)
  (kk : ∀ d' w', RD S w' d' (formatM D).1 -> Fr [] w w' -> K (d', (formatM D).2) w') :
  call Tryz.prog 66 [.agg (rdC d)] [.agg dC, .one (.int .i64)] w K := by
 obtain ⟨d0, d1, d2, d3, d4⟩ := d
 refine qg3 (d0 := d0) (d1 := d1) (d2 := d2) (d3 := d3) (d4 := d4) ?_
 unfold qb2
 have hsafe := hl.ok.safe
 refine Own.new' (Own.start [] w) fun r1 w1 e1 f1 ho => ?_
 refine Own.new' ho fun r3 w2 e2 f2 ho => ?_
 have h2 := h.opened ho
 refine Own.mk1 (Own.start [] w2) (by decide) (by decide) (by decide) (by decide) fun b w3 e3 ho3b => ?_
 have f3 := ho3b.fr
 have hb := ho3b.at (i := 0) rfl
 have hz : (512 : Int).toNat = 512 := rfl
 rw [hz] at hb ⊢
 rw [qgu] at hb
 have hrd := qc8 (S := []) (l := zs 512) hb (by simp)
 rw [qaC] at hrd
 refine qaX (S := []) (s := ⟨some ⟨b, 0, none⟩, 512, 512⟩) hrd (IsB.zs _) ?_
 have ho3 := ho.frame0 f3
 have h3 := h2.frame0 f3
 have hw := hl.waits
 have hr := hl.writes
 refine Own.ldD (d := (d0, d1, d2, d3, d4)) ho3 1 rfl ?_
 refine qdt (l := zs 512) h3 hl.ok (Own.ltS ho3 hS) (by omega) (by omega) fun d6 w6 h6 f6 => ?_
 have ho6 := ho3.frame0 f6
 refine Own.stD' (d := (d0, d1, d2, d3, d4)) ho6 1 rfl fun w7 ho7 f7 => ?_
 have h7 := h6.keep (r := r1) (by simp) f7
 have l7 := hl.write (n := 0) (l := zs 512) (by omega) (IsB.zs 512)
 refine qaa (fun hc => ?_) (fun hc => ?_)
 ·have hc : (writeM D 0 (zs 512)).2 ≠ 0 := by simpa using hc
  have e : formatM D = writeM D 0 (zs 512) := qaH hc
  rw [e] at kk
  exact qdZ (d := d6) (d0 := zD) (K := fun t w => K (t, (writeM D 0 (zs 512)).2) w) ho7 1 0 rfl rfl fun w8 f8 g8 => kk d6 w8 (h7.keep (r := r3) (by simp) g8).less f8
 have hc1 : (writeM D 0 (zs 512)).2 = 0 := by simpa using hc
 rw [formatM, qaR hc1] at kk
 have hD2 := qch (D := D) (n := 0) (l := zs 512)
 generalize (writeM D 0 (zs 512)).1 = D2 at h7 l7 kk hD2
 have hw2 := l7.waits
 have hr2 := l7.writes
 refine Own.ldD (d := d6) ho7 1 rfl ?_
 refine qdt (l := zs 512) h7 l7.ok (by have := Own.ltS ho7 hS; exact this) (by omega) (by omega) fun d8 w8 h8' f8 => ?_
 have ho8 := ho7.frame0 f8
 refine Own.stD' (d := d6) ho8 1 rfl fun w9 ho9 f9 => ?_
 have h9 := h8'.keep (r := r1) (by simp) f9
 have l9 := l7.write (n := 1) (l := zs 512) (by omega) (IsB.zs 512)
 refine qaa (fun hc => ?_) (fun hc => ?_)
 ·have hc : (writeM D2 1 (zs 512)).2 ≠ 0 := by simpa using hc
  rw [qaH hc] at kk
  exact qdZ (d := d8) (d0 := zD) (K := fun t w => K (t, (writeM D2 1 (zs 512)).2) w) ho9 1 0 rfl rfl fun w10 f10 g10 => kk d8 w10 (h9.keep (r := r3) (by simp) g10).less f10
 have hc2 : (writeM D2 1 (zs 512)).2 = 0 := by simpa using hc
 rw [qaR hc2] at kk
 have hD4 := qch (D := D2) (n := 1) (l := zs 512)
 generalize (writeM D2 1 (zs 512)).1 = D4 at h9 l9 kk hD4
 refine Own.ldD (d := d8) ho9 1 rfl ?_
 refine qjZ h9 l9.ok (by have := Own.ltS ho9 hS; exact this) fun d10 w10 h10 f10 => ?_
 have ho10 := ho9.frame0 f10
 refine Own.stD' (d := d8) ho10 1 rfl fun w11 ho11 f11 => ?_
 have h11 := h10.keep (r := r1) (by simp) f11
 have l11 := l9.sync
 refine qaa (fun hc => ?_) (fun hc => ?_)
 ·have hc : (syncM D4).2 ≠ 0 := by simpa using hc
  rw [qaH hc] at kk
  exact qdZ (d := d10) (d0 := zD) (K := fun t w => K (t, (syncM D4).2) w) ho11 1 0 rfl rfl fun w12 f12 g12 => kk d10 w12 (h11.keep (r := r3) (by simp) g12).less f12
 have hc3 : (syncM D4).2 = 0 := by simpa using hc
 rw [qaR hc3] at kk
 have hD5 := qhs (D := D4)
 generalize (syncM D4).1 = D5 at h11 l11 kk hD5
 have hn5 : D5.safe.length = D.safe.length := by omega
 have al := qiC D.safe.length
 have hd10 : d10.1.len = D.safe.length := by have := h11.safe.1; omega
 have hS11 := fun b hb => Own.ltS ho11 hS b hb
 refine Own.new' ho11 fun r30 w12 e12 f12 ho12 => ?_
 refine qaf (fun x w' => ∃ (i : Nat) (B : List Nat), x.2 = ((i + 2 : Nat) : Int) /\ i <= D.safe.length - 2 /\ BufU w' x.1 ((allV D.safe.length).take i) B /\ Fr [] w11 w' /\ ∀ b ∈ B, w11.heap.size <= b) (fun x _ => ((D.safe.length : Int) - x.2).toNat)
  ⟨0, [r30], rfl, by omega, Buf.empty (ho12.at (i := 0) rfl), f12, by simp [e12]⟩ ?_
 rintro ⟨s, x⟩ w13 ⟨i, B, hx, hi, hb13, f13, n13⟩ Y hY
 simp only at hx hb13
 subst hx
 have ho13 := ho11.frame0 f13
 refine Own.ld (c := .slice) ho13 1 rfl d10.1 rfl ?_
 dsimp only
 rw [hd10]
 refine qaa (fun hc => ?_) (fun hc => ?_)
 ·have hil : i < D.safe.length - 2 := by have := of_decide_eq_true hc; omega
  rw [qaI ((i + 2 : Nat) : Int) (by omega)]
  refine qio hb13 (by rw [List.length_take]; omega) fun s7 B7 w7 b7 f7 n7 => ?_
  rw [wi' _ (by omega)]
  refine hY _ _ ⟨i + 1, B7, by simp; omega, by omega, ?_, f13.trans' f7 (fun b hb => .inr (n13 b hb)), fun b hb => ?_⟩ (by dsimp only; omega)
  ·have e : (allV D.safe.length).take (i + 1) = (allV D.safe.length).take i ++ [((i + 2 : Nat) : Int)] := by
    rw [List.take_succ_eq_append_getElem (by omega)]
    congr 2
    have h1 := qmJ hil
    have h2 := List.getElem?_eq_getElem (l := allV D.safe.length) (i := i) (by omega)
    rw [h2] at h1
    rw [Option.some.inj h1]
    simp
   rw [e]; exact b7
  ·rcases n7 b hb with h | h
   ·exact n13 b h
   ·exact Nat.le_trans f13.size h
 ·have hie : i = D.safe.length - 2 := by have := of_decide_eq_false hc; omega
  subst hie
  rw [List.take_of_length_le (by omega)] at hb13
  have hsl := hb13.len
  rw [hsl]
  refine qoR (by omega) ?_
  have hnp := qiZ (n := (allV D.safe.length).length)
  have hod := ho13.drew
  refine Own.ldD (d := d10) hod 1 rfl ?_
  have rall : Rd [] w13.drew s (allV D.safe.length) := Buf.rds qas (Buf.frame0 hb13 (Fr.refl [] w13).drew) (fun b hb hm => nomatch hm)
  refine Rds.drop rall (needP (allV D.safe.length).length) rfl hnp (by omega) fun sn rn => ?_
  refine Rds.upto rall (needP (allV D.safe.length).length) rfl hnp fun sp rp => ?_
  have hlo := qiu (n := D.safe.length)
  have f11d : Fr [] w11 w13.drew := f13.drew
  rw [hn5] at kk
  have hu : ∀ x ∈ allV D.safe.length, U32 x := fun x hx => by have := qir.1 hx; constructor <;> omega
  refine qlL (h11.frame0 f11d) l11 (by rw [List.length_take]; omega) (by have := Own.ltS hod hS; exact this) rn rp (by rw [List.length_drop]; omega) (by rw [List.length_take]; omega) (fun x hx => hu x (List.mem_of_mem_drop hx)) (fun x hx => hu x (List.mem_of_mem_take hx)) (by rw [hlo.bodies]) fun d14 w14 h14 f14 => ?_
  have l14 := (l11.spread (numbers := (allV D.safe.length).drop (needP (allV D.safe.length).length)) (pages := (allV D.safe.length).take (needP (allV D.safe.length).length)) (by rw [List.length_take]; omega)).mono (k' := k + 2 + 4096) (by rw [List.length_take]; omega)
  have ho14 := hod.frame0 f14
  refine Own.stD' (d := d10) ho14 1 rfl fun w15 ho15 f15 => ?_
  have h15 := h14.keep (r := r1) (by simp) f15
  refine qaa (fun hc => ?_) (fun hc => ?_)
  ·have hc : (spreadM D5 ((allV D.safe.length).drop (needP (allV D.safe.length).length)) ((allV D.safe.length).take (needP (allV D.safe.length).length))).2 ≠ 0 := by simpa using hc
   rw [qaH hc] at kk
   exact qdZ (d := d14) (d0 := zD) (K := fun t w => K (t, (spreadM D5 ((allV D.safe.length).drop (needP (allV D.safe.length).length)) ((allV D.safe.length).take (needP (allV D.safe.length).length))).2) w) ho15 1 0 rfl rfl fun w16 f16 g16 => kk d14 w16 (h15.keep (r := r3) (by simp) g16).less f16
  have hc4 : (spreadM D5 ((allV D.safe.length).drop (needP (allV D.safe.length).length)) ((allV D.safe.length).take (needP (allV D.safe.length).length))).2 = 0 := by simpa using hc
  rw [qaR hc4] at kk
  have hD7 := qhA (D := D5) (a := (allV D.safe.length).drop (needP (allV D.safe.length).length)) (b := (allV D.safe.length).take (needP (allV D.safe.length).length))
  generalize (spreadM D5 ((allV D.safe.length).drop (needP (allV D.safe.length).length)) ((allV D.safe.length).take (needP (allV D.safe.length).length))).1 = D7 at h15 l14 kk hD7
  have hn7 : D7.safe.length = D.safe.length := by omega
  rw [hn7] at kk
  refine Own.ldD (d := d14) ho15 1 rfl ?_
  refine Own.ld (c := .slice) ho15 1 rfl d14.1 rfl ?_
  have hd14 : d14.1.len = D.safe.length := by have := h15.safe.1; omega
  rw [hd14]
  have hfree : IntKind.wrap .i64 (((allV D.safe.length).length : Int) - (needP (allV D.safe.length).length : Int)) = ((allV D.safe.length).length : Int) - (needP (allV D.safe.length).length : Int) := wi' _ (by omega)
  rw [hfree]
  refine qay (ts := [Ty1.raw]) (supV (fmtSup D.safe.length).1 (fmtSup D.safe.length).2) (qmh w15) ?_
  have hso := qht h8 hsafe
  refine qnk (s := fmtSup D.safe.length) h15 l14 (by omega) (by have := Own.ltS ho15 hS; exact this) ⟨hso.seq.1, by have := hso.seq.2; omega⟩ hso.len hso.u32 fun d16 w16 h16 f16 => ?_
  have ho16 := ho15.frame0 f16
  refine Own.stD' (d := zD) ho16 0 rfl fun w17 ho17 f17 => ?_
  refine Own.ldD (d := d16) ho17 0 rfl ?_
  exact kk d16 w17 (h16.keep (r := r3) (by simp) f17).less ho17.fr
section
theorem qs6 {S : Type} {B : (S -> World -> Prop) -> S -> World -> Prop} {s : S} {w : World} {n : Nat} (I : Nat -> S -> World -> Prop) (h0 : I n s w)
  (step : ∀ n s w, I n s w -> ∀ X : S -> World -> Prop, (∀ n' s' w', I n' s' w' -> n' < n -> X s' w') -> B X s w) : loop S B s w := by
 unfold loop
 intro J hJ
 have key : ∀ n s w, I n s w -> J s w := by
  intro n
  induction n using Nat.strongRecOn with
  | _ n ih => exact fun s w hI => hJ s w (step n s w hI J fun n' s' w' hI' hlt => ih n' hlt s' w' hI')
 exact key n s w h0
section
variable {x : RV}
theorem qm5 (h : x.Ok) {s : Sup} (hs : s.2.length = 27) : splice (refV x).toArray 5 (supV s.1 s.2) = (refV { x with sup := s }).toArray := by
 have := qat (A := rvA x) (X := supV x.sup.1 x.sup.2) (Y := supV s.1 s.2) (Z := rvB x ++ rvW x) (by rw [qav h.sup, qav hs])
 have e1 : refV x = rvA x ++ supV x.sup.1 x.sup.2 ++ (rvB x ++ rvW x) := by simp [refV]
 have e2 : refV { x with sup := s } = rvA x ++ supV s.1 s.2 ++ (rvB x ++ rvW x) := by simp [refV, rvA, rvB, rvW]
 rw [e1, e2]; exact this
theorem qoB (h : x.Ok) {s : Sl} : splice (refV x).toArray 33 [slV s] = (refV { x with sl := s }).toArray := by
 have := qat (A := rvA x ++ supV x.sup.1 x.sup.2) (X := [slV x.sl]) (Y := [slV s]) (Z := [slV x.sn, .int .i64 x.turn, .bool x.over] ++ rvW x) rfl
 rw [qiP h] at this
 have e1 : refV x = rvA x ++ supV x.sup.1 x.sup.2 ++ [slV x.sl] ++ ([slV x.sn, .int .i64 x.turn, .bool x.over] ++ rvW x) := by simp [refV, rvB]
 have e2 : refV { x with sl := s } = rvA x ++ supV x.sup.1 x.sup.2 ++ [slV s] ++ ([slV x.sn, .int .i64 x.turn, .bool x.over] ++ rvW x) := by simp [refV, rvA, rvB, rvW]
 rw [e1, e2]; exact this
theorem qoG (h : x.Ok) {s : Sl} : splice (refV x).toArray 34 [slV s] = (refV { x with sn := s }).toArray := by
 have := qat (A := rvA x ++ supV x.sup.1 x.sup.2 ++ [slV x.sl]) (X := [slV x.sn]) (Y := [slV s]) (Z := [.int .i64 x.turn, .bool x.over] ++ rvW x) rfl
 rw [List.length_append, qiP h] at this
 have e1 : refV x = rvA x ++ supV x.sup.1 x.sup.2 ++ [slV x.sl] ++ [slV x.sn] ++ ([.int .i64 x.turn, .bool x.over] ++ rvW x) := by simp [refV, rvB]
 have e2 : refV { x with sn := s } = rvA x ++ supV x.sup.1 x.sup.2 ++ [slV x.sl] ++ [slV s] ++ ([.int .i64 x.turn, .bool x.over] ++ rvW x) := by simp [refV, rvA, rvB, rvW]
 rw [e1, e2]; exact this
theorem qqK (h : x.Ok) {b : Bool} : splice (refV x).toArray 36 [.bool b] = (refV { x with over := b }).toArray := by
 have := qat (A := rvA x ++ supV x.sup.1 x.sup.2 ++ [slV x.sl, slV x.sn, .int .i64 x.turn]) (X := [.bool x.over]) (Y := [.bool b]) (Z := rvW x) rfl
 rw [List.length_append, qiP h] at this
 have e1 : refV x = rvA x ++ supV x.sup.1 x.sup.2 ++ [slV x.sl, slV x.sn, .int .i64 x.turn] ++ [.bool x.over] ++ rvW x := by simp [refV, rvB]
 have e2 : refV { x with over := b } = rvA x ++ supV x.sup.1 x.sup.2 ++ [slV x.sl, slV x.sn, .int .i64 x.turn] ++ [.bool b] ++ rvW x := by simp [refV, rvA, rvB, rvW]
 rw [e1, e2]; exact this
end
abbrev rpOffs : Array (Nat × Nat) := #[(0, 5), (5, 28), (33, 1), (34, 1), (35, 1), (36, 1), (37, 27)]
theorem qhj : Tryz.prog.underlying RPT = some (.struct (fieldsOf Tryz.prog RPT)) := by kernel_rfl
theorem qku : ∀ w, ((fieldsOf Tryz.prog RPT).mapM fun f => do pure (f.offset, <- sizeOf f.type) : Sem (Array (Nat × Nat))).run Tryz.prog w = .ok rpOffs w := fun w => by kernel_rfl
theorem qkm : ∃ z, (Tryz.prog.info? RPT).bind (·.zero) = some z /\ z.cells = (refV rvZ).toArray := by
 obtain ⟨z, hz, hzs⟩ := Option.map_eq_some_iff.1 qbD
 exact ⟨z, hz, by rw [<- hzs]⟩
theorem qqT (w : World) : (Instr.build RPT #[]).run Tryz.prog w = .ok (.agg (refV rvZ).toArray) w := by
 obtain ⟨z, hz, hzs⟩ := qkm
 rw [<- hzs]
 exact qmm hz qhj qku w
theorem qqY {d : RDv} {s : Sup} (hs : s.2.length = 27) (w : World) : (Instr.build RPT #[(0, .agg (rdC d)), (1, .agg (supV s.1 s.2).toArray)]).run Tryz.prog w = .ok (.agg (refV { rvZ with d := d, sup := s }).toArray) w := by
 obtain ⟨z, hz, hzs⟩ := qkm
 refine qba (parts := [(0, .agg (rdC d)), (1, .agg (supV s.1 s.2).toArray)]) hz qhj qku ?_ w
 rw [hzs, qam (o := 0) (s := 5) rfl rfl (by rw [List.size_toArray, qax qap]; decide)]
 have e1 : splice (refV rvZ).toArray 0 (Value.cells (.agg (rdC d))).toList = (refV { rvZ with d := d }).toArray := qmI qap
 have k1 : RV.Ok { rvZ with d := d } := ⟨rfl, rfl⟩
 rw [e1, qam (o := 5) (s := 28) rfl (by show (supV s.1 s.2).toArray.size = 28; rw [List.size_toArray, qav hs]) (by rw [List.size_toArray, qax k1]; decide)]
 have e2 : splice (refV { rvZ with d := d }).toArray 5 (Value.cells (.agg (supV s.1 s.2).toArray)).toList = (refV { rvZ with d := d, sup := s }).toArray := qm5 k1 hs
 rw [e2]
 rfl
theorem qrl {d : RDv} (w : World) : (Instr.build RPT #[(0, .agg (rdC d)), (5, .bool true)]).run Tryz.prog w = .ok (.agg (refV { rvZ with d := d, over := true }).toArray) w := by
 obtain ⟨z, hz, hzs⟩ := qkm
 refine qba (parts := [(0, .agg (rdC d)), (5, .bool true)]) hz qhj qku ?_ w
 rw [hzs, qam (o := 0) (s := 5) rfl rfl (by rw [List.size_toArray, qax qap]; decide)]
 have e1 : splice (refV rvZ).toArray 0 (Value.cells (.agg (rdC d))).toList = (refV { rvZ with d := d }).toArray := qmI qap
 have k1 : RV.Ok { rvZ with d := d } := ⟨rfl, rfl⟩
 rw [e1, qam (o := 36) (s := 1) rfl rfl (by rw [List.size_toArray, qax k1]; decide)]
 have e2 : splice (refV { rvZ with d := d }).toArray 36 (Value.cells (.bool true)).toList = (refV { rvZ with d := d, over := true }).toArray := qqK k1
 rw [e2]
 rfl
theorem qrg {d : RDv} {s : Sup} {sl sn : Sl} {t : Int} (hs : s.2.length = 27) (w : World) : (Instr.build RPT #[(0, .agg (rdC d)), (1, .agg (supV s.1 s.2).toArray), (2, .slice sl.a sl.len sl.cap), (3, .slice sn.a sn.len sn.cap), (4, .int .i64 t)]).run Tryz.prog w = .ok (.agg (refV { rvZ with d := d, sup := s, sl := sl, sn := sn, turn := t }).toArray) w := by
 obtain ⟨z, hz, hzs⟩ := qkm
 refine qba (parts := [(0, .agg (rdC d)), (1, .agg (supV s.1 s.2).toArray), (2, .slice sl.a sl.len sl.cap), (3, .slice sn.a sn.len sn.cap), (4, .int .i64 t)]) hz qhj qku ?_ w
 rw [hzs, qam (o := 0) (s := 5) rfl rfl (by rw [List.size_toArray, qax qap]; decide)]
 have e1 : splice (refV rvZ).toArray 0 (Value.cells (.agg (rdC d))).toList = (refV { rvZ with d := d }).toArray := qmI qap
 have k1 : RV.Ok { rvZ with d := d } := ⟨rfl, rfl⟩
 rw [e1, qam (o := 5) (s := 28) rfl (by show (supV s.1 s.2).toArray.size = 28; rw [List.size_toArray, qav hs]) (by rw [List.size_toArray, qax k1]; decide)]
 have e2 : splice (refV { rvZ with d := d }).toArray 5 (Value.cells (.agg (supV s.1 s.2).toArray)).toList = (refV { rvZ with d := d, sup := s }).toArray := qm5 k1 hs
 have k2 : RV.Ok { rvZ with d := d, sup := s } := ⟨hs, rfl⟩
 rw [e2, qam (o := 33) (s := 1) rfl rfl (by rw [List.size_toArray, qax k2]; decide)]
 have e3 : splice (refV { rvZ with d := d, sup := s }).toArray 33 (Value.cells (.slice sl.a sl.len sl.cap)).toList = (refV { rvZ with d := d, sup := s, sl := sl }).toArray := qoB k2
 have k3 : RV.Ok { rvZ with d := d, sup := s, sl := sl } := ⟨hs, rfl⟩
 rw [e3, qam (o := 34) (s := 1) rfl rfl (by rw [List.size_toArray, qax k3]; decide)]
 have e4 : splice (refV { rvZ with d := d, sup := s, sl := sl }).toArray 34 (Value.cells (.slice sn.a sn.len sn.cap)).toList = (refV { rvZ with d := d, sup := s, sl := sl, sn := sn }).toArray := qoG k3
 have k4 : RV.Ok { rvZ with d := d, sup := s, sl := sl, sn := sn } := ⟨hs, rfl⟩
 rw [e4, qam (o := 35) (s := 1) rfl rfl (by rw [List.size_toArray, qax k4]; decide)]
 have e5 : splice (refV { rvZ with d := d, sup := s, sl := sl, sn := sn }).toArray 35 (Value.cells (.int .i64 t)).toList = (refV { rvZ with d := d, sup := s, sl := sl, sn := sn, turn := t }).toArray := qlR k4
 rw [e5]
 rfl
theorem qqi {S : List Nat} {w0 w : World} {L : List (Nat × Obj)} {r3 : Nat} {x x0 : RV} {K : List Value -> World -> Prop} (h : Own S w0 w L) (j : Nat) (hj : L[j]? = some (r3, .cells (refV x0).toArray RPT (0, 0))) (h0 : x0.Ok) (hx : x.Ok) (k : ∀ w', Fr S w0 w' -> Fr [r3] w w' -> K (refV x) w') :
  chk ((refV x).length = 64) (st ⟨r3, 0, none⟩ (refV x) w fun w' => ldV 64 ⟨r3, 0, none⟩ w' fun vs' => K vs' w') := by
 refine Own.stP h j hj h0 hx fun w' h' f' => ?_
 have hjl := (List.getElem?_eq_some_iff.1 hj).1
 exact Own.ldP h' j (by rw [List.getElem?_set_self hjl]) hx (k w' h'.fr f')
end
theorem qqh {l : List Int} (h : (parseV l).2.2 = 0) : ∀ x ∈ (parseV l).2.1, 2 <= x := by
 unfold parseV at h ⊢
 split
 ·rename_i c; rw [if_pos c] at h; exact absurd h (by decide)
 rename_i c; rw [if_neg c] at h
 split
 ·rename_i c; rw [if_pos c] at h; exact absurd h (by decide)
 rename_i c; rw [if_neg c] at h
 split
 ·rename_i c
  intro x hx
  have := ((qgm _ _).1 c).1 x hx
  omega
 ·rename_i c; rw [if_neg c] at h; exact absurd h (by decide)
theorem qq0 {D : DiskM} {n : Int} (h : (readV D n).2 ≠ 0) : (readV D n).1 = [] := by
 unfold readV at h ⊢
 split
 ·rfl
 rename_i c; rw [if_neg c] at h
 split
 ·rfl
 rename_i c; rw [if_neg c] at h
 split
 ·rename_i b hb; rw [hb] at h; exact absurd rfl h
 ·rename_i hb; rw [hb] at h; exact absurd rfl h
theorem qq4 (n : Int) : (openV n []).2.2 ≠ 0 := by
 rw [openV, if_pos (by decide)]
 decide
def prevN (named : List Int) (i : Nat) : Int := if i = 0 then 0 else named.getD (i - 1) 0
structure RWalk (w : World) (sup : Sup) (a : Int) (lists named : List Int) (w' : World) (sl sn : Sl) (B1 B2 : List Nat) : Prop where
 sz : w.heap.size <= w'.heap.size
 b1 : BufU w' sl lists B1
 b2 : BufU w' sn named B2
 n1 : ∀ b ∈ B1, w.heap.size <= b /\ b ∉ B2
 n2 : ∀ b ∈ B2, w.heap.size <= b
 at_ : U32 a
 nodup : lists.Nodup
 range : ∀ x ∈ lists, 2 <= x /\ x < sup.2.getD 0 0
 len : named.length <= 123 * lists.length
 two : ∀ x ∈ named, 2 <= x
theorem qto {w : World} {s : Sl} {l : List Int} {B : List Nat} {a : Int} {T : TypeId} {K : Sl -> World -> Prop} (h : BufU w s l B) (hl : l.length + 1 <= 1000000)
  (kk : ∀ s' B' w', BufU w' s' (l ++ [a]) B' -> Fr B w w' -> (∀ b ∈ B', b ∈ B \/ w.heap.size <= b) -> K s' w') :
  Pt.new (.cells #[.int .u32 a] T) w fun r w1 => Pt.run [Ty1.one Cell.slice] ((Builtin.append_ #[27, 27] 27 #[.slice s.a s.len s.cap, .slice (some ⟨r, 0, none⟩) 1 1]).run Tryz.prog w1) K := qio h (by omega) kk
theorem qkf {S : List Nat} {w : World} {d : RDv} {D : DiskM} {K : List Value × Int -> World -> Prop} (h : RD S w d D) (hD : D.Ok) (h2 : 2 <= D.safe.length) (hS : ∀ b ∈ S, b < w.heap.size)
  (hno : ∀ e, openM D = (none, e) -> ∀ w', Fr [] w w' -> K (refV rvZ, e) w')
  (hk : ∀ x' M w', openM D = (some M, 0) -> RP S w' x' D M -> Fr [] w w' -> K (refV x', 0) w') :
  call Tryz.prog 30 [.agg (rdC d)] [.raw, .one (.int .i64)] w K := by
 obtain ⟨d0, d1, d2, d3, d4⟩ := d
 refine qh1 (d0 := d0) (d1 := d1) (d2 := d2) (d3 := d3) (d4 := d4) ?_
 unfold qcN
 refine Own.new' (Own.start [] w) fun r1 w1 e1 f1 ho => ?_
 refine Own.newZ ho qbD fun r3 w2 e2 ho2 => ?_
 have hsafe := hD.safe
 have bad : ∀ {e : Int} {w' : World} {L : List (Nat × Obj)} (i : Nat), openM D = (none, e) -> Own [] w w' L -> L[i]? = some (r3, .cells (refV rvZ).toArray RPT (0, 0)) ->
   runQ [Ty1.raw] (fun w'' => (Instr.build RPT #[]).run Tryz.prog w'') w' fun vs => chk (vs.length = 64) (st ⟨r3, 0, none⟩ vs w' fun w'' => ldV 64 ⟨r3, 0, none⟩ w'' fun vs' => K (vs', e) w'') := by
  intro e w' L i he ho hi
  refine qay (ts := [Ty1.raw]) (refV rvZ) (qqT w') ?_
  exact qqi (K := fun vs w => K (vs, e) w) ho i hi qap qap fun w'' f'' _ => hno e he w'' f''
 refine Own.ldD (d := (d0, d1, d2, d3, d4)) ho2 1 rfl ?_
 refine qhr (h.frame0 ho2.fr) hD fun w3 f3 => ?_
 have ho3 := ho2.frame0 f3
 refine qaa (fun hc => ?_) (fun hc => ?_)
 ·have hc : (readV D 0).2 ≠ 0 := by simpa using hc
  exact bad 0 (by rw [openM, if_pos hc]) ho3 rfl
 have hc0 : ¬ (readV D 0).2 ≠ 0 := by simpa using hc
 have hdn : D.down = false := by
  cases hd : D.down with
  | false => rfl
  | true => exact absurd (by rw [readV, if_pos hd]; decide) hc0
 have hc1 : ¬ (readV D 1).2 ≠ 0 := by
  rw [readV, if_neg (by rw [hdn]; decide), if_neg (by omega)]
  split <;> simp
 refine Own.ldD (d := (d0, d1, d2, d3, d4)) ho3 1 rfl ?_
 refine qhr (h.frame0 ho3.fr) hD fun w4 f4 => ?_
 have ho4 := ho3.frame0 f4
 have i0 := qaY hD 0
 have i1 := qaY hD 1
 refine qqu i0.1 i1.1 (by omega) (by omega) fun w5 f5 => ?_
 have ho5 := ho4.frame0 f5
 have hsl := qhJ (readV D 0).1 (readV D 1).1
 have hnm : newestM D = newestV (readV D 0).1 (readV D 1).1 := by rw [newestM, if_neg hc0, if_neg hc1]
 have hu := qgF (qk5 D)
 have hopen := qjG D
 rw [hnm] at hu hopen
 generalize newestV (readV D 0).1 (readV D 1).1 = sm at hsl hu hopen
 obtain ⟨sup, e⟩ := sm
 simp only at hsl hu hopen
 refine Own.newZ ho5 qbp fun r17 w6 e6 ho6 => ?_
 refine qdP ho6 0 rfl rfl hsl fun w7 ho7 => ?_
 refine qaa (fun hc => ?_) (fun hc => ?_)
 ·have hc : e ≠ 0 := by simpa using hc
  exact bad 1 (by rw [hopen, if_pos hc]) ho7 rfl
 have he0 : ¬ e ≠ 0 := by simpa using hc
 rw [if_neg he0] at hopen
 refine Own.ldD (d := (d0, d1, d2, d3, d4)) ho7 2 rfl ?_
 refine qbE (ho7.at (i := 0) rfl) hsl ?_
 refine qay (ts := [Ty1.raw]) (refV { rvZ with d := (d0, d1, d2, d3, d4), sup := sup }) (qqY hsl w7) ?_
 have kx : RV.Ok { rvZ with d := (d0, d1, d2, d3, d4), sup := sup } := ⟨hsl, rfl⟩
 refine Own.newZ ho7 qbD fun r28 w8 e8 ho8 => ?_
 refine Own.stP ho8 0 rfl qap kx fun w9 ho9 f9 => ?_
 have hsb := qcB (q := sup.1) (t := sup.2) 0 (by rw [hsl]; decide)
 have hsli := qcB (q := sup.1) (t := sup.2) 1 (by rw [hsl]; decide)
 have hsf := qcB (q := sup.1) (t := sup.2) 2 (by rw [hsl]; decide)
 have hub := hu 0
 have huf := hu 2
 refine Own.ld (c := .int .u32) ho9 1 rfl (sup.2.getD 0 0) hsb ?_
 refine Own.ld (c := .slice) ho9 3 rfl d0 rfl ?_
 rw [wi' (sup.2.getD 0 0) (by have := hub.1; have := hub.2; omega)]
 have hd0 : d0.len = D.safe.length := h.safe.1
 rw [hd0]
 refine qaa (fun hc => ?_) (fun hc => ?_)
 ·have hc : sup.2.getD 0 0 ≠ D.safe.length := by simpa using hc
  exact bad 2 (by rw [hopen, if_pos hc]) ho9 rfl
 have hbl : ¬ sup.2.getD 0 0 ≠ D.safe.length := by simpa using hc
 rw [if_neg hbl] at hopen
 have hb4 : sup.2.getD 0 0 <= 4096 := by omega
 refine Own.ld (c := .int .u32) ho9 1 rfl (sup.2.getD 1 0) hsli ?_
 generalize hF0 : (sup.2.getD 0 0).toNat + 1 = F0
 have hload : loadM D sup = match walkM D (sup.2.getD 0 0) F0 (sup.2.getD 1 0) [] [] with | none => none | some x => if namedB (sup.2.getD 0 0) x.1 0 x.2 = true /\ (x.2.length : Int) = sup.2.getD 2 0 then some x else none := by rw [<- hF0]; rfl
 have none' : loadM D sup = none -> openM D = (none, 2) := fun hn => by rw [hopen, hn]
 have dk : ∀ {w' : World}, Fr [] w w' -> RD S w' (d0, d1, d2, d3, d4) D := fun f => h.frame0 f
 refine qs6 (n := F0) (fun f a w' => ∃ lists named sl sn B1 B2, Own [] w w' [(r28, .cells (refV { rvZ with d := (d0, d1, d2, d3, d4), sup := sup, sl := sl, sn := sn }).toArray RPT (0, 0)), (r17, .cells (supV sup.1 sup.2).toArray 58 (0, 0)), (r3, .cells (refV rvZ).toArray RPT (0, 0)), (r1, .cells (rdC (d0, d1, d2, d3, d4)) RDT (0, 0))] /\
   RWalk w9 sup a lists named w' sl sn B1 B2 /\ f + lists.length = F0 /\ walkM D (sup.2.getD 0 0) f a lists named = walkM D (sup.2.getD 0 0) F0 (sup.2.getD 1 0) [] [])
  ⟨[], [], ⟨none, 0, 0⟩, ⟨none, 0, 0⟩, [], [], ho9, ⟨Nat.le_refl _, .nil _ _ _, .nil _ _ _, by simp, by simp, hu 1, .nil, by simp, by simp, by simp⟩, rfl, rfl⟩ ?_
 rintro f a w10 ⟨lists, named, sl, sn, B1, B2, hoA, H, hf, hwalk⟩ X hX
 have l28 : r28 < w9.heap.size := qac (ho9.at (i := 0) rfl)
 have l17 : r17 < w9.heap.size := qac (ho9.at (i := 1) rfl)
 have l3 : r3 < w9.heap.size := qac (ho9.at (i := 2) rfl)
 have l1 : r1 < w9.heap.size := qac (ho9.at (i := 3) rfl)
 have sep : ∀ {B : List Nat} {T : List (Nat × Obj)}, (∀ b ∈ B, w9.heap.size <= b) -> (∀ p ∈ T, p.1 < w9.heap.size) -> ∀ p ∈ T, p.1 ∉ B := fun hB hT p hp hb => by have := hB _ hb; have := hT p hp; omega
 have kA : RV.Ok { rvZ with d := (d0, d1, d2, d3, d4), sup := sup, sl := sl, sn := sn } := ⟨hsl, rfl⟩
 have hpos : lists.length < F0 := by
  rcases qdw H.nodup H.range with h | h
  ·omega
  ·rw [h]; simp; omega
 obtain ⟨f, rfl⟩ : ∃ g, f = g + 1 := ⟨f - 1, by omega⟩
 have hml := H.len
 have hl4 : lists.length <= 4096 := by omega
 have rdl : Rd [] w10 sl lists := Buf.rds qas H.b1 (fun b hb hm => nomatch hm)
 refine qaa (fun hc1 => ?_) (fun hc1 => ?_)
 ·have ha0 : a ≠ 0 := by simpa using hc1
  rw [walkM, if_neg ha0] at hwalk
  refine qae (fun b w' => b = decide (a < 2 \/ a >= sup.2.getD 0 0 \/ a ∈ lists) /\ w' = w10) ?_ ?_
  ·refine qaa (fun h => ⟨by rw [decide_eq_true (Or.inl (of_decide_eq_true h))], rfl⟩) (fun h => ?_)
   have h1 := of_decide_eq_false h
   refine Own.ld (c := .int .u32) hoA 1 rfl (sup.2.getD 0 0) hsb ?_
   refine qaa (fun h => ⟨by rw [decide_eq_true (Or.inr (Or.inl (of_decide_eq_true h)))], rfl⟩) (fun h => ?_)
   have h2 := of_decide_eq_false h
   refine Own.ld (c := .slice) hoA 0 rfl sl (qgd kA) ?_
   refine qgp rdl (by omega) ⟨?_, rfl⟩
   refine decide_eq_decide.2 ⟨fun h => .inr (.inr h), fun h => ?_⟩
   rcases h with h | h | h
   ·exact absurd h h1
   ·exact absurd h h2
   ·exact h
  rintro b w3 ⟨rfl, rfl⟩
  refine qaa (fun h => ?_) (fun h => ?_)
  ·have h := of_decide_eq_true h
   rw [if_pos h] at hwalk
   exact bad 2 (none' (by rw [hload, <- hwalk])) hoA rfl
  have hbad := of_decide_eq_false h
  rw [if_neg hbad] at hwalk
  have ha2 : 2 <= a := by omega
  have hab : a < sup.2.getD 0 0 := by omega
  have hal : a ∉ lists := fun h => hbad (.inr (.inr h))
  refine Own.ldD (d := (d0, d1, d2, d3, d4)) hoA 3 rfl ?_
  rw [wi' a (by omega)]
  refine qhr (dk hoA.fr) hD fun w11 f11 => ?_
  have hri := qaY hD a
  refine qlh H.at_ hri.1 (by omega) fun w12 f12 => ?_
  have hoB := qhq hri.1 a
  refine qq7 hoB.1 (by have := hoB.2; omega) fun s7 B7 w13 b7 f13 n7 => ?_
  have f3x := (f11.trans f12).trans f13
  have hoC := hoA.frame0 f3x
  refine qae (fun b w' => b = decide ((openV a (readV D a).1).2.2 ≠ 0 \/ (openV a (readV D a).1).1 ≠ 2 \/ (parseV (openV a (readV D a).1).2.1).2.2 ≠ 0) /\ w' = w13) ?_ ?_
  ·refine qaa (fun h => ?_) (fun h => ?_)
   ·have h : (openV a (readV D a).1).2.2 ≠ 0 := by simpa using h
    exact ⟨by rw [decide_eq_true (Or.inl h)], rfl⟩
   have h : (openV a (readV D a).1).2.2 = 0 := by simpa using h
   refine qaa (fun h2 => ?_) (fun h2 => ?_)
   ·have h2 : (openV a (readV D a).1).1 ≠ 2 := by simpa using h2
    exact ⟨by rw [decide_eq_true (Or.inr (Or.inl h2))], rfl⟩
   have h2 : (openV a (readV D a).1).1 = 2 := by simpa using h2
   refine ⟨?_, rfl⟩
   by_cases h3 : (parseV (openV a (readV D a).1).2.1).2.2 = 0 <;> simp [h, h2, h3]
  rintro b w14 ⟨rfl, rfl⟩
  refine qaa (fun h => ?_) (fun h => ?_)
  ·have h := of_decide_eq_true h
   refine bad 2 (none' ?_) hoC rfl
   rw [hload, <- hwalk]
   by_cases hr : (readV D a).2 ≠ 0
   ·rw [if_pos hr]
   rw [if_neg hr]
   rcases h with h | h | h
   ·rw [if_pos (.inl h)]
   ·rw [if_pos (.inr h)]
   ·by_cases ho' : (openV a (readV D a).1).2.2 ≠ 0 \/ (openV a (readV D a).1).1 ≠ 2
    ·rw [if_pos ho']
    ·rw [if_neg ho', if_pos h]
  have h := of_decide_eq_false h
  have hr : ¬ (readV D a).2 ≠ 0 := fun hr => h (.inl (by rw [qq0 hr]; exact qq4 a))
  rw [if_neg hr, if_neg (fun h' => h (h'.imp id .inl)), if_neg (fun h' => h (.inr (.inr h')))] at hwalk
  have hpz : (parseV (openV a (readV D a).1).2.1).2.2 = 0 := Decidable.byContradiction fun h' => h (.inr (.inr h'))
  have hp2 := qqh hpz
  have hpl := qlX (openV a (readV D a).1).2.1
  have hpu := qlZ (openV a (readV D a).1).2.1
  generalize parseV (openV a (readV D a).1).2.1 = pv at hwalk b7 hpl hpu hp2
  have b1C := Buf.frame0 H.b1 f3x
  have b2C := Buf.frame0 H.b2 f3x
  have l7 : ∀ b ∈ B7, w3.heap.size <= b := fun b hb => Nat.le_trans (f11.trans f12).size (n7 b hb)
  have hsz := H.sz
  have hsz3 := f3x.size
  refine Own.ld (c := .slice) hoC 0 rfl sl (qgd kA) ?_
  refine qto b1C (by omega) fun s9 B9 w15 b9 f15 n9 => ?_
  have g1 : ∀ b ∈ B1, w9.heap.size <= b := fun b hb => (H.n1 b hb).1
  have hoE := hoC.frame f15 (fun b hb => .inr (by have := g1 b hb; have := ho9.fr.size; omega)) (fun p hp hb => by
   have := g1 _ hb
   simp only [List.mem_cons, List.not_mem_nil, or_false] at hp
   rcases hp with rfl | rfl | rfl | rfl
   ·exact absurd this (Nat.not_le.2 l28)
   ·exact absurd this (Nat.not_le.2 l17)
   ·exact absurd this (Nat.not_le.2 l3)
   ·exact absurd this (Nat.not_le.2 l1))
  have b2E := Buf.frame b2C f15 (fun b hb hb1 => (H.n1 b hb1).2 hb)
  have b7E := Buf.frame b7 f15 (fun b hb hb1 => by have := l7 b hb; have := H.b1.lt b hb1; omega)
  have g9 : ∀ b ∈ B9, w9.heap.size <= b := fun b hb => by
   rcases n9 b hb with h | h
   ·exact g1 b h
   ·omega
  have sep9 : ∀ b ∈ B9, b ∉ B2 := fun b hb hb2 => by
   rcases n9 b hb with h | h
   ·exact (H.n1 b h).2 hb2
   ·have := b2C.lt b hb2; omega
  refine Own.st' hoE 0 rfl _ (qoB (s := s9) kA) rfl (by rw [List.size_toArray, qax kA]; exact Nat.le_of_ble_eq_true rfl) fun w16 hoF f16 => ?_
  have kF : RV.Ok { rvZ with d := (d0, d1, d2, d3, d4), sup := sup, sl := s9, sn := sn } := ⟨hsl, rfl⟩
  have b9F := Buf.apart b9 g9 l28 f16
  have g2 : ∀ b ∈ B2, w9.heap.size <= b := H.n2
  have b2F := Buf.apart b2E g2 l28 f16
  have g7 : ∀ b ∈ B7, w9.heap.size <= b := fun b hb => by have := l7 b hb; omega
  have b7F := Buf.apart b7E g7 l28 f16
  refine Own.ld (c := .slice) hoF 0 rfl sn (qge kF) ?_
  refine qmS b2F (Buf.rds (S := []) qas b7F (fun b hb hm => nomatch hm)) (by omega) fun s10 B10 w17 b10 f17 n10 => ?_
  have hoG := hoF.frame f17 (fun b hb => .inr (by have := g2 b hb; have := ho9.fr.size; omega)) (fun p hp hb => by
   have := g2 _ hb
   simp only [List.set_cons_zero, List.mem_cons, List.not_mem_nil, or_false] at hp
   rcases hp with rfl | rfl | rfl | rfl
   ·exact absurd this (Nat.not_le.2 l28)
   ·exact absurd this (Nat.not_le.2 l17)
   ·exact absurd this (Nat.not_le.2 l3)
   ·exact absurd this (Nat.not_le.2 l1))
  have b9G := Buf.frame b9F f17 sep9
  have h1517 := Nat.le_trans f15.size f16.size
  have g10 : ∀ b ∈ B10, w9.heap.size <= b := fun b hb => by
   rcases n10 b hb with h | h
   ·exact g2 b h
   ·omega
  have sep10 : ∀ b ∈ B9, b ∉ B10 := fun b hb hb2 => by
   rcases n10 b hb2 with h | h
   ·exact sep9 b hb h
   ·have := b9F.lt b hb; omega
  refine Own.st' hoG 0 rfl _ (qoG (s := s10) kF) rfl (by rw [List.size_toArray, qax kF]; exact Nat.le_of_ble_eq_true rfl) fun w18 hoH f18 => ?_
  have b9H := Buf.apart b9G g9 l28 f18
  have b10H := Buf.apart b10 g10 l28 f18
  refine hX f _ _ ⟨lists ++ [a], named ++ pv.2.1, s9, s10, B9, B10, hoH, ⟨?_, b9H, b10H, fun b hb => ⟨g9 b hb, sep10 b hb⟩, g10, hpu, ?_, ?_, ?_, ?_⟩, ?_, hwalk⟩ (by omega)
  ·have := f17.size; have := f18.size; omega
  ·rw [List.nodup_append]
   exact ⟨H.nodup, by simp, fun x hx y hy => by simp at hy; subst hy; exact fun e => hal (e ▸ hx)⟩
  ·intro x hx
   rcases List.mem_append.1 hx with h | h
   ·exact H.range x h
   ·simp at h; subst h; exact ⟨ha2, hab⟩
  ·rw [List.length_append, List.length_append]
   have : [a].length = 1 := rfl
   omega
  ·intro x hx
   rcases List.mem_append.1 hx with h | h
   ·exact H.two x h
   ·exact hp2 x h
  ·rw [List.length_append]
   have : [a].length = 1 := rfl
   omega
 ·have ha0 : a = 0 := by simpa using hc1
  subst ha0
  rw [walkM, if_pos rfl] at hwalk
  rw [<- hwalk] at hload
  dsimp only at hload
  have rn : Rd [] w10 sn named := Buf.rds qas H.b2 (fun b hb hm => nomatch hm)
  have hnl := rn.1
  refine qaf (fun x w' => ∃ i : Nat, x = i /\ i <= named.length /\ Fr [] w10 w' /\ namedB (sup.2.getD 0 0) lists (prevN named i) (named.drop i) = namedB (sup.2.getD 0 0) lists 0 named) (fun x _ => ((named.length : Int) - x).toNat) ⟨0, rfl, by omega, .refl _ _, rfl⟩ ?_
  rintro ii w11 ⟨i, rfl, hi, f11, hn⟩ Z hZ
  have ho11 := hoA.frame0 f11
  have rn11 := Rds.frame0 rn f11
  have rl11 := Rds.frame0 rdl f11
  refine Own.ld (c := .slice) ho11 0 rfl sn (qge kA) ?_
  rw [hnl]
  refine qaa (fun hc => ?_) (fun hc => ?_)
  ·have hil : i < named.length := by have := of_decide_eq_true hc; omega
   have hod := ho11.drew
   have rnd : Rd [] w11.drew sn named := Rds.drew rn11
   have rld : Rd [] w11.drew sl lists := Rds.drew rl11
   rw [List.drop_eq_getElem_cons hil, namedB] at hn
   refine qae (fun b w3 => b = (decide (named[i] <= prevN named i) || decide (named[i] >= sup.2.getD 0 0) || decide (named[i] ∈ lists)) /\ w3 = w11.drew) ?_ ?_
   ·refine Own.ld (c := .slice) hod 0 rfl sn (qge kA) ?_
    refine Rd.at rnd i rfl (List.getElem?_eq_getElem hil) ?_
    refine Own.ld (c := .int .u32) hod 1 rfl (sup.2.getD 0 0) hsb ?_
    refine qaa (fun h => ⟨by rw [h]; simp, rfl⟩) (fun h => ?_)
    refine qaa (fun h2 => ?_) (fun h2 => ?_)
    ·have hi0 : 0 < i := by have := of_decide_eq_true h2; omega
     have hpv : prevN named i = named[i - 1] := by rw [prevN, if_neg (by omega)]; exact (List.getElem_eq_getD _).symm
     refine Own.ld (c := .slice) hod 0 rfl sn (qge kA) ?_
     refine Rd.at rnd i rfl (List.getElem?_eq_getElem hil) ?_
     refine Own.ld (c := .slice) hod 0 rfl sn (qge kA) ?_
     rw [wi' ((i : Int) - 1) (by omega)]
     refine Rd.at rnd (i - 1) (by omega) (List.getElem?_eq_getElem (by omega)) ?_
     refine qaa (fun h3 => ⟨by rw [hpv, h3]; rfl, rfl⟩) (fun h3 => ?_)
     refine Own.ld (c := .slice) hod 0 rfl sl (qgd kA) ?_
     refine Own.ld (c := .slice) hod 0 rfl sn (qge kA) ?_
     refine Rd.at rnd i rfl (List.getElem?_eq_getElem hil) ?_
     refine qgp rld (by omega) ⟨?_, rfl⟩
     rw [hpv, h3, h]; rfl
    ·have hi0 : i = 0 := by have := of_decide_eq_false h2; omega
     subst hi0
     have h2le := H.two named[0] (List.getElem_mem hil)
     refine Own.ld (c := .slice) hod 0 rfl sl (qgd kA) ?_
     refine Own.ld (c := .slice) hod 0 rfl sn (qge kA) ?_
     refine Rd.at rnd 0 rfl (List.getElem?_eq_getElem hil) ?_
     refine qgp rld (by omega) ⟨?_, rfl⟩
     rw [h, decide_eq_false (show ¬ named[0] <= prevN named 0 by show ¬ named[0] <= 0; omega)]
     rfl
   rintro b w12 ⟨rfl, rfl⟩
   refine qaa (fun h => ?_) (fun h => ?_)
   ·rw [h] at hn
    refine bad 2 (none' ?_) hod rfl
    rw [hload, if_neg]
    rw [<- hn]
    simp
   ·rw [h] at hn
    rw [wi' _ (by omega)]
    refine hZ _ _ ⟨i + 1, by simp, by omega, f11.drew, ?_⟩ (by omega)
    have hpv : prevN named (i + 1) = named[i] := by rw [prevN, if_neg (by omega), Nat.add_sub_cancel]; exact (List.getElem_eq_getD _).symm
    rw [hpv]
    simpa using hn
  ·have : i = named.length := by have := of_decide_eq_false hc; omega
   subst this
   rw [List.drop_length] at hn
   have hn' : namedB (sup.2.getD 0 0) lists 0 named = true := hn.symm
   refine Own.ld (c := .slice) ho11 0 rfl sn (qge kA) ?_
   refine Own.ld (c := .int .u32) ho11 1 rfl (sup.2.getD 2 0) hsf ?_
   rw [wi' _ (by have := huf.1; have := huf.2; omega), hnl]
   refine qaa (fun hc => ?_) (fun hc => ?_)
   ·have hc : ¬ (named.length : Int) = sup.2.getD 2 0 := by simpa using hc
    exact bad 2 (none' (by rw [hload, if_neg (fun h => hc h.2)])) ho11 rfl
   have hfree : (named.length : Int) = sup.2.getD 2 0 := by simpa using hc
   rw [if_pos ⟨hn', hfree⟩] at hload
   rw [hload] at hopen
   refine Own.ldP ho11 0 rfl kA ?_
   have hS9 : ∀ b ∈ [r28, r17, r3, r1] ++ S, b < w9.heap.size := Own.ltS ho9 hS
   have away : ∀ {B : List Nat}, (∀ b ∈ B, w9.heap.size <= b) -> ∀ b ∈ B, b ∉ [r28, r17, r3, r1] ++ S := fun hB b hb hm => by have := hB b hb; have := hS9 b hm; omega
   have hop : RD ([r28, r17, r3, r1] ++ S) w11 (d0, d1, d2, d3, d4) D := h.opened ho11
   have rp : RP ([r28, r17, r3, r1] ++ S) w11 { rvZ with d := (d0, d1, d2, d3, d4), sup := sup, sl := sl, sn := sn } D ⟨sup, lists, named, 0, false, [], [], [], zs 24⟩ :=
    ⟨hop, rfl, Rds.frame0 (Buf.rds qas H.b1 (away fun b hb => (H.n1 b hb).1)) f11, Rds.frame0 (Buf.rds qas H.b2 (away H.n2)) f11, rfl, rfl, .nil _ _ _ _, .nil _ _ _ _, .nil _ _ _ _, rfl, kA⟩
   refine qnq rp ⟨Int.le_refl _, Int.le_of_lt (by show (0 : Int) < 1000000000; decide)⟩ fun x' w12 hp12 f12 => ?_
   have ho12 := ho11.frame0 f12
   refine qqi (K := fun vs w => K (vs, 0) w) ho12 2 rfl qap hp12.ok fun w13 f13 g13 => ?_
   exact hk x' _ w13 hopen (hp12.closed (by simp) g13) f13
section
def freshR (fresh : List (Int × Int × List Int)) : List (Int × List Int) := fresh.map fun e => (e.1, sealV e.1 e.2.1 e.2.2)
def flushR (D : DiskM) (fresh : List (Int × Int × List Int)) (pages named : List Int) (next : Sup) : DiskM × Int :=
 andThen (writesM (freshR fresh) D) fun D => andThen (spreadM D named pages) fun D => sealM D next
def overR : PgM := ⟨supZero, [], [], 0, true, [], [], [], zs 24⟩
def commitR (D : DiskM) (M : PgM) : (DiskM × PgM) × Int :=
 if M.over then ((D, M), 7) else
 if M.fresh = [] /\ M.deferred = [] /\ M.roots = M.sup.2.drop 3 then ((D, M), 0) else
 match planM M with
 | none => ((D, M), 6)
 | some x =>
  if (flushR D M.fresh x.1 x.2 (nextS M x.1 x.2)).2 ≠ 0 then (((flushR D M.fresh x.1 x.2 (nextS M x.1 x.2)).1, overR), (flushR D M.fresh x.1 x.2 (nextS M x.1 x.2)).2)
  else (((flushR D M.fresh x.1 x.2 (nextS M x.1 x.2)).1, begunM (nextS M x.1 x.2) x.1 x.2 (M.turn + 1) false x.2), 0)
theorem qtJ {M : PgM} (hW : M.Wf) : (M.lists.foldl (fun a n => ins n a) M.deferred).length = (M.deferred ++ M.lists).length /\
  ∀ k, insAll ((M.deferred ++ M.lists) ++ M.free.drop k) = (M.free.drop k).foldl (fun a n => ins n a) (M.lists.foldl (fun a n => ins n a) M.deferred) := by
 have hn := hW.nodup
 have hdl : (M.deferred ++ M.lists).Nodup := by
  have h1 := (List.nodup_append.1 hn).2.1
  rw [<- List.append_assoc] at h1
  exact (List.nodup_append.1 h1).1
 refine ⟨(qkb _ _ hdl).length_eq, fun k => ?_⟩
 have hd := qjI hW.defS
 unfold insAll at hd ⊢
 rw [List.foldl_append, List.foldl_append, hd]
theorem Own.newSt {S : List Nat} {w0 w : World} {L : List (Nat × Obj)} {cs cs' : Array Value} {T : TypeId} {vs : List Value} {K : Nat -> World -> Prop} (h : Own S w0 w L) (hcs : splice cs 0 vs = cs') (h1 : (vs.all Value.oneCell') = true) (hl : vs.length <= cs.size)
  (k : ∀ r w', r = w.heap.size -> Own S w0 w' ((r, .cells cs' T (0, 0)) :: L) -> Fr [] w w' -> K r w') : Pt.new (.cells cs T (0, 0)) w fun r w1 => Pt.st ⟨r, 0, none⟩ vs w1 fun w2 => K r w2 := by
 refine Own.new' h fun r w1 e1 f1 ho => ?_
 refine Own.st' ho 0 rfl cs' hcs h1 (by omega) fun w2 ho2 f2 => ?_
 exact k r w2 e1 ho2 (f1.trans' f2 fun b hb => by rw [List.mem_singleton.1 hb, e1]; exact .inr (Nat.le_refl _))
theorem Own.join0 {S : List Nat} {w0 w1 w2 : World} {L L' : List (Nat × Obj)} (h : Own S w0 w1 L) (h' : Own [] w1 w2 L') : Own S w0 w2 (L' ++ L) := by
 have h1 := h.frame0 h'.fr
 refine ⟨fun p hp => ?_, ?_, h1.fr, fun p hp => ?_⟩
 ·rcases List.mem_append.1 hp with hp | hp
  ·exact h'.blk p hp
  ·exact h1.blk p hp
 ·rw [List.map_append, List.nodup_append]
  refine ⟨h'.nodup, h.nodup, fun a ha b hb => ?_⟩
  obtain ⟨p, hp, rfl⟩ := List.mem_map.1 ha
  obtain ⟨q, hq, rfl⟩ := List.mem_map.1 hb
  have hql := qac (h.blk q hq)
  rcases h'.own p hp with h | h
  ·cases h
  ·omega
 ·rcases List.mem_append.1 hp with hp | hp
  ·rcases h'.own p hp with h2 | h2
   ·cases h2
   ·exact .inr (Nat.le_trans h.fr.size h2)
  ·exact h.own p hp
section
variable {S : List Nat} {w : World} {x : RV} {D : DiskM} {M : PgM}
theorem RP.overV {D' : DiskM} {d : RDv} (h : RD S w d D') : RP S w { rvZ with d := d, over := true } D' overR :=
 ⟨h, rfl, .nil _ _ _ _, .nil _ _ _ _, rfl, rfl, .nil _ _ _ _, .nil _ _ _ _, .nil _ _ _ _, rfl, ⟨rfl, rfl⟩⟩
theorem qqs {k : Nat} {K : List Value × Int -> World -> Prop} (h : RP S w x D M) (hW : M.Wf) (hlim : Lim D k) (hk6 : k + 5000 <= 1000000) (ht : 0 <= M.turn /\ M.turn <= 1000000000) (hS : ∀ b ∈ S, b < w.heap.size)
  (kk : ∀ x' w', RP S w' x' (commitR D M).1.1 (commitR D M).1.2 -> Fr [] w w' -> K (refV x', (commitR D M).2) w') :
  call Tryz.prog 67 [.agg (refV x).toArray] [.raw, .one (.int .i64)] w K := by
 have hall := PgM.Wf.all M hW
 refine qeG (p := refV x) ?_
 unfold qa9
 have hx := h.ok
 have hsl : M.sup.2.length = 27 := by rw [<- h.sup]; exact hx.sup
 have hrl : M.roots.length = 24 := by rw [<- h.roots]; exact hx.roots
 have hsr : (M.sup.2.drop 3).length = 24 := by rw [List.length_drop, hsl]
 refine Own.new' (Own.start [] w) fun r1 w1 e1 f1 ho => ?_
 refine Own.newZ ho qbD fun r3 w2 e2 ho => ?_
 have same : ∀ {e : Int} {w' : World}, commitR D M = ((D, M), e) -> Fr [] w w' -> K (refV x, e) w' := fun he f => by
  have := kk x _ (by rw [he]; exact h.frame0 f) f
  rw [he] at this
  exact this
 refine Own.ld (c := .bool) ho 1 rfl x.over (qgr hx) ?_
 refine qaa (fun hc => ?_) (fun hc => ?_)
 ·exact qcn (K := fun vs w => K (vs, 7) w) ho 1 0 rfl rfl qap hx fun w4 f4 _ => same (by rw [commitR, if_pos (by rw [<- h.over]; exact hc)]) f4
 have ho0 : ¬ M.over = true := by rw [<- h.over, hc]; decide
 have h2 := h.opened ho
 have hfl := h2.fresh.1
 have hdl := h2.deferred.1
 have hel := h2.free.1
 have hll := h2.lists.1
 have hT : ∀ b ∈ [r3, r1] ++ S, b < w2.heap.size := Own.ltS ho hS
 refine qae (fun b w' => b = decide (M.fresh = [] /\ M.deferred = [] /\ M.roots = M.sup.2.drop 3) /\ w' = w2) ?_ ?_
 ·refine Own.ld (c := .slice) ho 1 rfl x.sfr (qbM hx) ?_
  rw [hfl]
  refine qaa (fun hc1 => ?_) (fun hc1 => ?_)
  ·have h1 : M.fresh = [] := List.eq_nil_of_length_eq_zero (by have : (M.fresh.length : Int) = 0 := (by simpa using hc1); omega)
   refine Own.ld (c := .slice) ho 1 rfl x.sd (qnH hx) ?_
   rw [hdl]
   refine qaa (fun hc2 => ?_) (fun hc2 => ?_)
   ·have h2 : M.deferred = [] := List.eq_nil_of_length_eq_zero (by have : (M.deferred.length : Int) = 0 := (by simpa using hc2); omega)
    refine qaw (b := r1) (off := 40) (ho.at (i := 1) rfl) (M.roots.map (Value.int .u32)) (by rw [List.length_map, hrl]) (by rw [<- h.roots]; exact qoo hx) ?_
    refine qaw (b := r1) (off := 9) (ho.at (i := 1) rfl) ((M.sup.2.drop 3).map (Value.int .u32)) (by rw [List.length_map, hsr]) (by rw [<- h.sup]; exact qmY hx) ?_
    refine qlC hrl hsr ⟨?_, rfl⟩
    simp [h1, h2]
   ·have h2 : M.deferred ≠ [] := fun e => by rw [e] at hc2; simp at hc2
    exact ⟨by simp [h2], rfl⟩
  ·have h1 : M.fresh ≠ [] := fun e => by rw [e] at hc1; simp at hc1
   exact ⟨by simp [h1], rfl⟩
 rintro b w3 ⟨rfl, rfl⟩
 refine qaa (fun hc => ?_) (fun hc => ?_)
 ·exact qcn (K := fun vs w => K (vs, 0) w) ho 1 0 rfl rfl qap hx fun w4 f4 _ => same (by rw [commitR, if_neg ho0, if_pos (of_decide_eq_true hc)]) f4
 have hne := of_decide_eq_false hc
 refine Own.ld (c := .slice) ho 1 rfl x.sd (qnH hx) ?_
 obtain ⟨plen, pins⟩ := qtJ hW
 have rdT : ∀ {s : Sl} {l : List Int} {B : List Nat} {wa wb : World}, BufU wb s l B -> w3.heap.size <= wa.heap.size -> (∀ b ∈ B, wa.heap.size <= b) -> Rd ([r3, r1] ++ S) wb s l := fun hb hsz hB =>
  Buf.rds qas hb fun b hb1 hb2 => by have := hB b hb1; have := hT b hb2; omega
 refine qaf (fun y w' => ∃ i : Nat, y.2 = i /\ i <= M.lists.length /\ Fr [] w3 w' /\ Rd ([r3, r1] ++ S) w' y.1 ((M.lists.take i).foldl (fun a n => ins n a) M.deferred)) (fun y _ => ((M.lists.length : Int) - y.2).toNat)
  ⟨0, rfl, by omega, .refl _ _, h2.deferred⟩ ?_
 rintro ⟨s4, y⟩ w4 ⟨i, hy, hi, f4, hr4⟩ X hX
 simp only at hy hr4
 subst hy
 dsimp only
 have ho4 := ho.frame0 f4
 refine Own.ld (c := .slice) ho4 1 rfl x.sl (qgd hx) ?_
 rw [hll]
 have folds : ∀ (l a : List Int), (l.foldl (fun a n => ins n a) a).length <= a.length + l.length := by
  intro l
  induction l with
  | nil => intro a; simp
  | cons x l ih =>
   intro a
   have h1 := ih (ins x a)
   have h2 := qmL x a
   rw [List.foldl_cons, List.length_cons]
   omega
 refine qaa (fun hc => ?_) (fun hc => ?_)
 ·have hil : i < M.lists.length := by have := of_decide_eq_true hc; omega
  refine Own.ld (c := .slice) ho4 1 rfl x.sl (qgd hx) ?_
  refine Rd.at (h2.lists.frame0 f4) i rfl (List.getElem?_eq_getElem hil) ?_
  have hlen := folds (M.lists.take i) M.deferred
  rw [List.length_take] at hlen
  refine qkl hr4 (by omega) fun s5 B5 w5 b5 f5 n5 => ?_
  rw [qix (qdu _ _ hW.defS)] at b5
  rw [wi' _ (by omega)]
  refine hX _ _ ⟨i + 1, by simp, by omega, f4.trans f5, ?_⟩ (by dsimp only; omega)
  rw [List.take_succ_eq_append_getElem hil, List.foldl_append]
  exact rdT b5 f4.size n5
 have hie : i = M.lists.length := by have := of_decide_eq_false hc; omega
 subst hie
 rw [List.take_length] at hr4
 have h4l := hr4.1
 generalize hacc : M.lists.foldl (fun a n => ins n a) M.deferred = acc at hr4 plen pins h4l
 have haccs : acc.Pairwise (· < ·) := by rw [<- hacc]; exact qdu _ _ hW.defS
 have hdll : (M.deferred ++ M.lists).length <= 4096 := by rw [List.length_append]; omega
 refine Own.ld (c := .slice) ho4 1 rfl x.sf (qdR hx) ?_
 have hnd : IntKind.wrap .i64 ((x.sf.len : Int) + (s4.len : Int)) = ((M.free.length + (M.deferred ++ M.lists).length : Nat) : Int) := by rw [wi' _ (by omega)]; omega
 rw [hnd]
 refine qoR (by omega) ?_
 generalize hkk : needP (M.free.length + (M.deferred ++ M.lists).length) = kn
 refine Own.ld (c := .slice) ho4 1 rfl x.sf (qdR hx) ?_
 rw [hel]
 refine qaa (fun hc => ?_) (fun hc => ?_)
 ·have hgt : kn > M.free.length := by have := of_decide_eq_true hc; omega
  exact qcn (K := fun vs w => K (vs, 6) w) ho4 1 0 rfl rfl qap hx fun w5 f5 _ => same (by rw [commitR, if_neg ho0, if_neg hne, planM, hkk, if_pos hgt]) f5
 have hkn : ¬ kn > M.free.length := by have := of_decide_eq_false hc; omega
 have hpl : planM M = some (M.free.take kn, (M.free.drop kn).foldl (fun a n => ins n a) acc) := by rw [planM, hkk, if_neg hkn, pins]
 have hlo := qfj hW hpl
 have hnu := qki hW hpl
 generalize hpages : M.free.take kn = pages at hpl hlo hnu
 generalize hnamed : (M.free.drop kn).foldl (fun a n => ins n a) acc = named at hpl hlo hnu
 have hplen : pages.length = kn := by rw [<- hpages, List.length_take]; omega
 have hnlen : named.length <= 4096 := by
  rw [<- hnamed]
  have := folds (M.free.drop kn) acc
  rw [List.length_drop] at this
  rw [List.length_append] at plen hdll
  omega
 have hcm : commitR D M = if (flushR D M.fresh pages named (nextS M pages named)).2 ≠ 0 then (((flushR D M.fresh pages named (nextS M pages named)).1, overR), (flushR D M.fresh pages named (nextS M pages named)).2)
  else (((flushR D M.fresh pages named (nextS M pages named)).1, begunM (nextS M pages named) pages named (M.turn + 1) false named), 0) := by rw [commitR, if_neg ho0, if_neg hne, hpl]
 refine Own.ld (c := .slice) ho4 1 rfl x.sf (qdR hx) ?_
 refine Rds.upto (h2.free.frame0 f4) kn rfl (by omega) fun sp rp => ?_
 rw [hpages] at rp
 refine qaf (fun y w' => ∃ j : Nat, y.2 = ((kn + j : Nat) : Int) /\ kn + j <= M.free.length /\ Fr [] w4 w' /\ Rd ([r3, r1] ++ S) w' y.1 (((M.free.drop kn).take j).foldl (fun a n => ins n a) acc)) (fun y _ => ((M.free.length : Int) - y.2).toNat)
  ⟨0, rfl, by omega, .refl _ _, hr4⟩ ?_
 rintro ⟨s5, y⟩ w5 ⟨j, hy, hj, f5, hr5⟩ Y hY
 simp only at hy hr5
 subst hy
 dsimp only
 have ho5 := ho4.frame0 f5
 have f35 := f4.trans f5
 refine Own.ld (c := .slice) ho5 1 rfl x.sf (qdR hx) ?_
 rw [hel]
 refine qaa (fun hc => ?_) (fun hc => ?_)
 ·have hil : kn + j < M.free.length := by have := of_decide_eq_true hc; omega
  have hjl : j < (M.free.drop kn).length := by rw [List.length_drop]; omega
  refine Own.ld (c := .slice) ho5 1 rfl x.sf (qdR hx) ?_
  refine Rd.at (h2.free.frame0 f35) (kn + j) rfl (List.getElem?_eq_getElem hil) ?_
  have hlen := folds ((M.free.drop kn).take j) acc
  rw [List.length_take] at hlen
  rw [List.length_append] at plen hdll
  refine qkl hr5 (by omega) fun s6 B6 w6 b6 f6 n6 => ?_
  rw [qix (qdu _ _ haccs)] at b6
  rw [wi' _ (by omega)]
  refine hY _ _ ⟨j + 1, by dsimp only; omega, by omega, f5.trans f6, ?_⟩ (by dsimp only; omega)
  have hg : (M.free.drop kn)[j] = M.free[kn + j] := List.getElem_drop
  rw [List.take_succ_eq_append_getElem hjl, List.foldl_append, hg]
  exact rdT b6 f35.size n6
 have hje : kn + j = M.free.length := by have := of_decide_eq_false hc; omega
 rw [List.take_of_length_le (by rw [List.length_drop]; omega), hnamed] at hr5
 have h5l := hr5.1
 refine Own.ld (c := .int .u64) ho5 1 rfl M.sup.1 (by rw [<- h.sup]; exact qnK hx) ?_
 refine Own.ld (c := .int .u32) ho5 1 rfl (M.sup.2.getD 0 0) (by rw [<- h.sup]; exact qq5 hx 0 (by decide)) ?_
 refine qaw (b := r1) (off := 40) (ho5.at (i := 1) rfl) (M.roots.map (Value.int .u32)) (by rw [List.length_map, hrl]) (by rw [<- h.roots]; exact qoo hx) ?_
 refine qay (ts := [Ty1.raw]) (supV (IntKind.wrap .u64 (M.sup.1 + 1)) ([M.sup.2.getD 0 0, 0, IntKind.wrap .u32 (named.length : Int)] ++ M.roots)) (by rw [h5l]; exact qlQ hrl _) ?_
 have l27 : ([M.sup.2.getD 0 0, 0, IntKind.wrap .u32 (named.length : Int)] ++ M.roots).length = 27 := by rw [List.length_append, hrl]; rfl
 have n27 : (nextS M pages named).2.length = 27 := by
  show ([M.sup.2.getD 0 0, pages.headD 0, IntKind.wrap .u32 (named.length : Int)] ++ M.roots).length = 27
  rw [List.length_append, hrl]; rfl
 have hq64 : U64 (nextS M pages named).1 := by
  show U64 (IntKind.wrap .u64 (M.sup.1 + 1))
  unfold IntKind.wrap
  have : (IntKind.u64.signed) = false := rfl
  simp only [this, Bool.false_and, Bool.false_eq_true, if_false]
  exact ⟨Int.emod_nonneg _ (by decide), Int.emod_lt_of_pos _ (by decide)⟩
 refine Own.newZ (Own.start [] w5) qbp fun r54 w6 e6 ho6' => ?_
 refine qdP ho6' 0 rfl rfl l27 fun w7 ho7' => ?_
 have f57 := ho7'.fr
 have ho7 := Own.join0 ho5 ho7'
 have rp7 : Rd [] w7 sp pages := Rds.frame0 (Rds.weak rp fun b hb => nomatch hb) (f5.trans f57)
 refine qae (fun _ w' => Own [] w w' [(r54, .cells (supV (nextS M pages named).1 (nextS M pages named).2).toArray 58 (0, 0)), (r3, .cells (refV rvZ).toArray RPT (0, 0)), (r1, .cells (refV x).toArray RPT (0, 0))] /\ Fr [r54] w7 w') ?_ ?_
 ·refine qaa (fun hc => ?_) (fun hc => ?_)
  ·have hp0 : 0 < pages.length := by have := of_decide_eq_true hc; omega
   refine Rd.at rp7 0 rfl (List.getElem?_eq_getElem hp0) ?_
   refine Own.st' ho7 0 rfl (supV (nextS M pages named).1 (nextS M pages named).2).toArray ?_ rfl (by rw [qc3 l27]; exact Nat.le_of_ble_eq_true rfl) fun w8 ho8 f8 => ⟨ho8, f8⟩
   have hh : pages.headD 0 = pages[0] := by
    cases pages with
    | nil => simp at hp0
    | cons a r => rfl
   show splice (supV _ ([M.sup.2.getD 0 0] ++ 0 :: (IntKind.wrap .u32 (named.length : Int) :: M.roots))).toArray 2 [.int .u32 pages[0]] = _
   have := qiw (q := IntKind.wrap .u64 (M.sup.1 + 1)) (x := 0) (y := pages[0]) (A := [M.sup.2.getD 0 0]) (Z := IntKind.wrap .u32 (named.length : Int) :: M.roots)
   refine this.trans ?_
   rw [nextS, hh]
   rfl
  ·have hp0 : pages = [] := List.eq_nil_of_length_eq_zero (by have := of_decide_eq_false hc; omega)
   have e : supV (nextS M pages named).1 (nextS M pages named).2 = supV (IntKind.wrap .u64 (M.sup.1 + 1)) ([M.sup.2.getD 0 0, 0, IntKind.wrap .u32 (named.length : Int)] ++ M.roots) := by
    rw [nextS, hp0]; rfl
   rw [e]
   exact ⟨ho7, .refl _ _⟩
 rintro _ w8 ⟨ho8, f78⟩
 have l54 : w5.heap.size <= r54 := by rw [e6]; exact Nat.le_refl _
 have f58 : Fr [] w5 w8 := f57.trans' f78 fun b hb => by rw [List.mem_singleton.1 hb]; exact .inr l54
 have f38 : Fr [] w3 w8 := f35.trans f58
 have rp8 : Rd [] w8 sp pages := Rds.frame0 (Rds.weak rp fun b hb => nomatch hb) (f5.trans f58)
 have rn8 : Rd [] w8 s5 named := Rds.frame0 (Rds.weak hr5 fun b hb => nomatch hb) f58
 have rf8 := h2.fresh.frame0 f38
 refine Own.ldA (cl := dC) ho8 2 rfl x.d (qtD hx) ?_
 refine Own.newSt ho8 (cs' := rdC x.d) rfl rfl (Nat.le_of_ble_eq_true rfl) fun r64 w9 e9 ho9 f9 => ?_
 have f39 := f38.trans f9
 have rf9 := h2.fresh.frame0 f39
 have hd9 : RD ([r64, r54, r3, r1] ++ S) w9 x.d D := h.disk.opened ho9
 have hS9 : ∀ b ∈ [r64, r54, r3, r1] ++ S, b < w9.heap.size := Own.ltS ho9 hS
 have hbody := hW.body
 have hkeyU : ∀ e ∈ M.fresh, U32 e.1 := fun e he => by
  have := hW.range e.1 (List.mem_append_right _ (List.mem_append_right _ (List.mem_append_right _ (List.mem_map_of_mem he))))
  have := hW.n4
  constructor <;> omega
 have fail : ∀ {D' : DiskM} {d' : RDv} {w' : World} {e : Int} {L : List (Nat × Obj)} (i j : Nat), flushR D M.fresh pages named (nextS M pages named) = (D', e) -> e ≠ 0 -> Own [] w w' L -> L[i]? = some (r64, .cells (rdC d') RDT (0, 0)) -> L[j]? = some (r3, .cells (refV rvZ).toArray RPT (0, 0)) -> RD ([r64, r54, r3, r1] ++ S) w' d' D' ->
   ldA dC ⟨r64, 0, none⟩ w' fun t => runQ [Ty1.raw] (fun w'' => (Instr.build RPT #[(0, .agg (HL.mk dC t).toArray), (5, .bool true)]).run Tryz.prog w'') w' fun vs => chk (vs.length = 64) (st ⟨r3, 0, none⟩ vs w' fun w'' => ldV 64 ⟨r3, 0, none⟩ w'' fun vs' => K (vs', e) w'') := by
  intro D' d' w' e L i j hfl he ho hi hj hd
  refine Own.ldD ho i hi ?_
  refine qay (ts := [Ty1.raw]) (refV { rvZ with d := d', over := true }) (qrl w') ?_
  refine qqi (K := fun vs w => K (vs, e) w) ho j hj qap ⟨rfl, rfl⟩ fun w'' f'' g'' => ?_
  have hres : commitR D M = ((D', overR), e) := by rw [hcm, hfl]; exact if_pos he
  have := kk { rvZ with d := d', over := true } w'' (by rw [hres]; exact RP.overV (hd.keep (r := r3) (by simp) g'').less) f''
  rw [hres] at this
  exact this
 have hflu : ∀ {D' : DiskM} {l : List (Int × List Int)}, andThen (writesM (freshR M.fresh) D) (fun D => andThen (spreadM D named pages) fun D => sealM D (nextS M pages named)) = andThen (writesM l D') (fun D => andThen (spreadM D named pages) fun D => sealM D (nextS M pages named)) -> flushR D M.fresh pages named (nextS M pages named) = andThen (writesM l D') (fun D => andThen (spreadM D named pages) fun D => sealM D (nextS M pages named)) := fun h => h
 refine qaf (fun y w' => ∃ (i : Nat) (d' : RDv) (D' : DiskM), y = i /\ i <= M.fresh.length /\ Own [] w w' [(r64, .cells (rdC d') RDT (0, 0)), (r54, .cells (supV (nextS M pages named).1 (nextS M pages named).2).toArray 58 (0, 0)), (r3, .cells (refV rvZ).toArray RPT (0, 0)), (r1, .cells (refV x).toArray RPT (0, 0))] /\ Fr [r64] w9 w' /\ RD ([r64, r54, r3, r1] ++ S) w' d' D' /\ Lim D' (k + i) /\
   flushR D M.fresh pages named (nextS M pages named) = andThen (writesM ((freshR M.fresh).drop i) D') (fun D => andThen (spreadM D named pages) fun D => sealM D (nextS M pages named))) (fun y _ => ((M.fresh.length : Int) - y).toNat)
  ⟨0, x.d, D, rfl, by omega, ho9, .refl _ _, hd9, hlim, rfl⟩ ?_
 rintro y w10 ⟨i, d', D', rfl, hi, ho10, f10, hd10, hl10, he⟩ X hX
 have f9w : Fr [] w8 w10 := f9.trans' f10 fun b hb => by rw [List.mem_singleton.1 hb, e9]; exact .inr (Nat.le_refl _)
 have rf10 := rf8.frame0 f9w
 refine Own.ld (c := .slice) ho10 3 rfl x.sfr (qbM hx) ?_
 rw [hfl]
 refine qaa (fun hc => ?_) (fun hc => ?_)
 ·have hil : i < M.fresh.length := by have := of_decide_eq_true hc; omega
  have hbo := hbody M.fresh[i] (List.getElem_mem hil)
  have hku := hkeyU M.fresh[i] (List.getElem_mem hil)
  refine Own.ld (c := .slice) ho10 3 rfl x.sfr (qbM hx) ?_
  refine Rds.getA rf10 i (cl := [Cell.int .u32, Cell.int .u8, Cell.str]) rfl (List.getElem?_eq_getElem hil) rfl (y := (M.fresh[i].1, M.fresh[i].2.1, strOf M.fresh[i].2.2)) rfl ?_
  refine Own.newSt (Own.start [] w10) (cs' := #[.int .u32 M.fresh[i].1, .int .u8 M.fresh[i].2.1, .string (strOf M.fresh[i].2.2)]) rfl rfl (Nat.le_of_ble_eq_true rfl) fun r74 w11 e11 ho11' f11 => ?_
  have ho11 := Own.join0 ho10 ho11'
  have hd11 := hd10.frame0 f11
  refine Own.ld (c := .int .u32) ho11 0 rfl M.fresh[i].1 rfl ?_
  refine Own.ld (c := .int .u8) ho11 0 rfl M.fresh[i].2.1 rfl ?_
  refine Own.ld (c := .str) ho11 0 rfl (strOf M.fresh[i].2.2) rfl ?_
  refine qiA hku hbo.1 hbo.2.2 (fun h => absurd h (by omega)) fun _ w12 f12 => ?_
  have ho12 := ho11.frame0 f12
  have hd12 := hd11.frame0 f12
  refine Own.ldD (d := d') ho12 1 rfl ?_
  refine Own.ld (c := .int .u32) ho12 0 rfl M.fresh[i].1 rfl ?_
  rw [wi' M.fresh[i].1 (by have := hku.1; have := hku.2; omega)]
  have hw := hl10.waits
  have hr := hl10.writes
  have hsz : ∀ b ∈ [r64, r54, r3, r1] ++ S, b < w12.heap.size := fun b hb => Nat.lt_of_lt_of_le (hS9 b hb) (Nat.le_trans f10.size (Nat.le_trans f11.size f12.size))
  refine qdt hd12 hl10.ok hsz (by omega) (by omega) fun d13 w13 hd13 f13 => ?_
  have ho13 := ho12.frame0 f13
  refine Own.stD' (d := d') ho13 1 rfl fun w14 ho14 f14 => ?_
  have hd14 := hd13.keep (r := r64) (by simp) f14
  have hlf : i < (freshR M.fresh).length := by rw [freshR, List.length_map]; exact hil
  have hge : (freshR M.fresh)[i] = (M.fresh[i].1, sealV M.fresh[i].1 M.fresh[i].2.1 M.fresh[i].2.2) := by simp [freshR]
  rw [List.drop_eq_getElem_cons hlf, hge, writesM] at he
  refine qaa (fun hc2 => ?_) (fun hc2 => ?_)
  ·have hne2 : (writeM D' M.fresh[i].1 (sealV M.fresh[i].1 M.fresh[i].2.1 M.fresh[i].2.2)).2 ≠ 0 := by simpa using hc2
   rw [qaH hne2, qaH hne2] at he
   exact fail 1 3 he hne2 ho14 rfl rfl hd14
  ·have heq : (writeM D' M.fresh[i].1 (sealV M.fresh[i].1 M.fresh[i].2.1 M.fresh[i].2.2)).2 = 0 := by simpa using hc2
   rw [qaR heq] at he
   rw [wi' _ (by omega)]
   refine hX _ _ ⟨i + 1, d13, _, by simp, by omega, ho14.sub (List.Sublist.cons _ (List.Sublist.refl _)), ?_, hd14, (hl10.write (by omega) (qcZ hbo.1 hbo.2.2)).mono (by omega), he⟩ (by omega)
   exact (f10.trans (((f11.trans f12).trans f13).mono fun b hb => nomatch hb)).trans f14
 have hie : i = M.fresh.length := by have := of_decide_eq_false hc; omega
 subst hie
 rw [List.drop_eq_nil_of_le (by rw [freshR, List.length_map]; exact Nat.le_refl _)] at he
 have he : flushR D M.fresh pages named (nextS M pages named) = andThen (spreadM D' named pages) fun D => sealM D (nextS M pages named) := he
 have hpu : ∀ x ∈ pages, U32 x := fun x hx => by have := hlo.pgs x hx; have := hW.n4; constructor <;> omega
 have hnu' : ∀ x ∈ named, U32 x := fun x hx => by have := hlo.nums x hx; have := hW.n4; constructor <;> omega
 have hplf : pages.length <= M.free.length := by omega
 refine Own.ldD (d := d') ho10 0 rfl ?_
 refine qlL hd10 hl10 (by omega) (by have := Own.ltS ho10 hS; exact this) (rn8.frame0 f9w) (rp8.frame0 f9w) (by omega) (by omega) hnu' hpu (by rw [hlo.bodies]) fun d11 w11 hd11 f11 => ?_
 have hl11 := hl10.spread (numbers := named) (pages := pages) (by omega)
 have ho11 := ho10.frame0 f11
 refine Own.stD' (d := d') ho11 0 rfl fun w12 ho12 f12 => ?_
 have hd12 := hd11.keep (r := r64) (by simp) f12
 refine qaa (fun hc2 => ?_) (fun hc2 => ?_)
 ·have hne2 : (spreadM D' named pages).2 ≠ 0 := by simpa using hc2
  rw [qaH hne2] at he
  exact fail 0 2 he hne2 ho12 rfl rfl hd12
 have heq : (spreadM D' named pages).2 = 0 := by simpa using hc2
 rw [qaR heq] at he
 refine Own.ldD (d := d11) ho12 0 rfl ?_
 refine qbE (ho12.at (i := 1) rfl) n27 ?_
 refine qnk (s := nextS M pages named) hd12 hl11 (by omega) (by have := Own.ltS ho12 hS; exact this) hq64 n27 hnu fun d13 w13 hd13 f13 => ?_
 have ho13 := ho12.frame0 f13
 refine Own.stD' (d := d11) ho13 0 rfl fun w14 ho14 f14 => ?_
 have hd14 := hd13.keep (r := r64) (by simp) f14
 refine qaa (fun hc2 => ?_) (fun hc2 => ?_)
 ·have hne2 : (sealM (spreadM D' named pages).1 (nextS M pages named)).2 ≠ 0 := by simpa using hc2
  exact fail 0 2 he hne2 ho14 rfl rfl hd14
 have heq2 : (sealM (spreadM D' named pages).1 (nextS M pages named)).2 = 0 := by simpa using hc2
 refine Own.ldD (d := d13) ho14 0 rfl ?_
 refine qbE (ho14.at (i := 1) rfl) n27 ?_
 refine Own.ld (c := .int .i64) ho14 3 rfl M.turn (by rw [<- h.turn]; exact qpK hx) ?_
 refine qay (ts := [Ty1.raw]) (refV { rvZ with d := d13, sup := nextS M pages named, sl := sp, sn := s5, turn := M.turn }) (qrg n27 w14) ?_
 have kx : RV.Ok { rvZ with d := d13, sup := nextS M pages named, sl := sp, sn := s5, turn := M.turn } := ⟨n27, rfl⟩
 have f814 : Fr [r64] w9 w14 := ((f10.trans ((f11.mono fun b hb => nomatch hb) : Fr [r64] w10 w11)).trans (f12.trans (f13.mono fun b hb => nomatch hb))).trans f14
 have hin : ∀ {s : Sl} {l : List Int}, Rd ([r3, r1] ++ S) w5 s l -> Rd ([r64, r54, r3, r1] ++ S) w14 s l := fun hr => by
  have a := hr.frame0 (f58.trans f9)
  have b : Rd ([r64, r54, r3, r1] ++ S) w9 _ _ := Rds.frame hr ((f58.trans f9).mono fun i hi => nomatch hi) fun b hb => by
   simp only [List.cons_append, List.nil_append, List.mem_cons] at hb ⊢
   have h59 := f58.size
   rcases hb with rfl | rfl | hb
   ·exact .inr (by omega)
   ·exact .inr l54
   ·exact .inl hb
  exact b.frame (f814.mono fun i hi _ => by rw [List.mem_singleton.1 hi]; simp) fun b hb => .inl hb
 have rpx : RP ([r64, r54, r3, r1] ++ S) w14 { rvZ with d := d13, sup := nextS M pages named, sl := sp, sn := s5, turn := M.turn } (sealM (spreadM D' named pages).1 (nextS M pages named)).1 ⟨nextS M pages named, pages, named, M.turn, false, [], [], [], zs 24⟩ :=
  ⟨hd14, rfl, hin (rp.frame0 f5), hin hr5, rfl, rfl, .nil _ _ _ _, .nil _ _ _ _, .nil _ _ _ _, rfl, kx⟩
 refine qnq rpx ht fun x' w15 hp15 f15 => ?_
 have ho15 := ho14.frame0 f15
 refine qqi (K := fun vs w => K (vs, 0) w) ho15 2 rfl qap hp15.ok fun w16 f16 g16 => ?_
 have hres : commitR D M = (((sealM (spreadM D' named pages).1 (nextS M pages named)).1, begunM (nextS M pages named) pages named (M.turn + 1) false named), 0) := by
  rw [hcm, he, if_neg (by rw [heq2]; simp)]
 have := kk x' w16 (by rw [hres]; exact hp15.closed (by simp) g16) f16
 rw [hres] at this
 exact this
end
end
end Go.Proofs.YtmbcedengdoamaaGreatDoor
end
section
set_option linter.unusedVariables false
set_option linter.unusedSimpArgs false
namespace Go.Proofs.YtmbcedengdoamaaGreatDoor
open Go Go.Pt
attribute [local irreducible] ld ldA ldV fld fldA newZ st new idx idxS idxA slc slcS slcP mkS chk nn call callV inv run runQ runU join loop held ext rng undefer s2a IntKind.wrap
def encLoss (x : Int × Int) : List Value := [.int .i64 x.1, .int .i64 x.2]
end Go.Proofs.YtmbcedengdoamaaGreatDoor
end
section
set_option linter.unusedVariables false
set_option maxRecDepth 100000
namespace Go.Proofs.YtmbcedengdoamaaGreatDoor
open Go Go.Pt
@[reducible] def qbH : List Cell := [Cell.int IntKind.u8, Cell.int IntKind.u32, Cell.int IntKind.u8, Cell.slice, Cell.int IntKind.u16, Cell.slice]
@[reducible] def qj6 : List Cell := [Cell.int IntKind.u32, Cell.int IntKind.u32, Cell.int IntKind.u32]
def qbx (b : Option Addr) (o0 : Int) (o1 : Int) (o2 : Int) (o3 : Sl) (o4 : Int) (o5 : Sl) (K : Bool -> World -> Prop) (w : World) : Prop := new (Obj.cells #[.int .u8 o0, .int .u32 o1, .int .u8 o2, .slice o3.a o3.len o3.cap, .int .u16 o4, .slice o5.a o5.len o5.cap] 52) w <| fun r_1 w_2 => ld (.int .u8) ⟨r_1, 0, none⟩ w_2 <| fun (x_3 : Int) => cond (Int.tmod x_3 12 == 0) (nn b <| fun a_4 => ld .ptr ⟨a_4.block, a_4.off + 1, none⟩ (World.drew w_2) <| fun (p_5 : Option Addr) => ld (.int .u8) ⟨r_1, 2, none⟩ (World.drew w_2) <| fun (x_6 : Int) => ldA (qbH) ⟨r_1, 0, none⟩ (World.drew w_2) <| fun (t_7 : Int × Int × Int × Sl × Int × Sl) => call Tryz.prog 47 ([.agg (List.toArray (HL.mk qbH t_7))]) ([.one .slice]) (World.drew w_2) <| fun (s_8 : Sl) w_9 => held [fun w_10 => World.cell? w_10 ⟨r_1, 2, none⟩ = some (.int .u8 x_6), fun w_11 => World.cell? w_11 ⟨a_4.block, a_4.off + 1, none⟩ = some (.pointer p_5)] w_9 <| call Tryz.prog 10 ([.pointer p_5, .int .u8 x_6, .slice s_8.a s_8.len s_8.cap]) ([.one (.int .u32), .one (.int .i64)]) w_9 <| fun (t_12 : Int × Int) w_13 => (nn b <| fun a_14 => ldV 64 ⟨a_14.block, a_14.off + 2, none⟩ (World.drew w_13) <| fun (vs_15 : List Value) => ld (.int .u8) ⟨r_1, 2, none⟩ (World.drew w_13) <| fun (x_16 : Int) => ldA (qbH) ⟨r_1, 0, none⟩ (World.drew w_13) <| fun (t_17 : Int × Int × Int × Sl × Int × Sl) => call Tryz.prog 47 ([.agg (List.toArray (HL.mk qbH t_17))]) ([.one .slice]) (World.drew w_13) <| fun (s_18 : Sl) w_19 => held [fun w_20 => World.cell? w_20 ⟨r_1, 2, none⟩ = some (.int .u8 x_16), fun w_21 => cellsAt w_21 ⟨a_14.block, a_14.off + 2, none⟩ 0 vs_15] w_19 <| runQ [.one .str] (fun w_22 => (convert 22 9 (.slice s_18.a s_18.len s_18.cap)).run Tryz.prog w_22) w_19 <| fun (x_23 : ByteArray) => call Tryz.prog 48 ([.agg (List.toArray vs_15), .int .u8 x_16, .string x_23]) ([.raw, .one (.int .u32), .one (.int .i64)]) w_19 <| fun (t_24 : List Value × Int × Int) w_25 => newZ Tryz.prog 63 w_25 <| fun r_26 w_27 => held [fun w_28 => (convert 22 9 (.slice s_18.a s_18.len s_18.cap)).run Tryz.prog w_28 = Result.ok (.string x_23) w_28, fun w_29 => cellsAt w_29 ⟨r_1, 0, none⟩ 0 (HL.mk qbH t_17), fun w_30 => World.cell? w_30 ⟨r_1, 2, none⟩ = some (.int .u8 x_16), fun w_31 => cellsAt w_31 ⟨a_14.block, a_14.off + 2, none⟩ 0 vs_15] w_27 <| chk (List.length t_24.fst = 64) <| st ⟨r_26, 0, none⟩ t_24.fst w_27 <| fun w_32 => ldV 64 ⟨r_26, 0, none⟩ w_32 <| fun (vs_33 : List Value) => nn b <| fun a_34 => chk (List.length vs_33 = 64) <| st ⟨a_34.block, a_34.off + 2, none⟩ vs_33 w_32 <| fun w_35 => cond (t_12.fst == t_24.snd.fst) (K (t_12.snd == t_24.snd.snd) w_35) (K false w_35)) /\ ((nn b <| fun a_36 => ldV 64 ⟨a_36.block, a_36.off + 2, none⟩ (World.drew w_13) <| fun (vs_37 : List Value) => ld (.int .u8) ⟨r_1, 2, none⟩ (World.drew w_13) <| fun (x_38 : Int) => ldA (qbH) ⟨r_1, 0, none⟩ (World.drew w_13) <| fun (t_39 : Int × Int × Int × Sl × Int × Sl) => call Tryz.prog 47 ([.agg (List.toArray (HL.mk qbH t_39))]) ([.one .slice]) (World.drew w_13) <| fun (s_40 : Sl) w_41 => held [fun w_42 => World.cell? w_42 ⟨r_1, 2, none⟩ = some (.int .u8 x_38), fun w_43 => cellsAt w_43 ⟨a_36.block, a_36.off + 2, none⟩ 0 vs_37] w_41 <| runQ [.one .str] (fun w_44 => (convert 22 9 (.slice s_40.a s_40.len s_40.cap)).run Tryz.prog w_44) w_41 <| fun (x_45 : ByteArray) => newZ Tryz.prog 63 w_41 <| fun r_46 w_47 => held [fun w_48 => (convert 22 9 (.slice s_40.a s_40.len s_40.cap)).run Tryz.prog w_48 = Result.ok (.string x_45) w_48, fun w_49 => cellsAt w_49 ⟨r_1, 0, none⟩ 0 (HL.mk qbH t_39), fun w_50 => World.cell? w_50 ⟨r_1, 2, none⟩ = some (.int .u8 x_38), fun w_51 => cellsAt w_51 ⟨a_36.block, a_36.off + 2, none⟩ 0 vs_37] w_47 <| call Tryz.prog 48 ([.agg (List.toArray vs_37), .int .u8 x_38, .string x_45]) ([.raw, .one (.int .u32), .one (.int .i64)]) w_47 <| fun (t_52 : List Value × Int × Int) w_53 => chk (List.length t_52.fst = 64) <| st ⟨r_46, 0, none⟩ t_52.fst w_53 <| fun w_54 => ldV 64 ⟨r_46, 0, none⟩ w_54 <| fun (vs_55 : List Value) => nn b <| fun a_56 => chk (List.length vs_55 = 64) <| st ⟨a_56.block, a_56.off + 2, none⟩ vs_55 w_54 <| fun w_57 => cond (t_12.fst == t_52.snd.fst) (K (t_12.snd == t_52.snd.snd) w_57) (K false w_57)) /\ (nn b <| fun a_58 => ldV 64 ⟨a_58.block, a_58.off + 2, none⟩ (World.drew w_13) <| fun (vs_59 : List Value) => ld (.int .u8) ⟨r_1, 2, none⟩ (World.drew w_13) <| fun (x_60 : Int) => ldA (qbH) ⟨r_1, 0, none⟩ (World.drew w_13) <| fun (t_61 : Int × Int × Int × Sl × Int × Sl) => newZ Tryz.prog 63 (World.drew w_13) <| fun r_62 w_63 => held [fun w_64 => cellsAt w_64 ⟨r_1, 0, none⟩ 0 (HL.mk qbH t_61), fun w_65 => World.cell? w_65 ⟨r_1, 2, none⟩ = some (.int .u8 x_60), fun w_66 => cellsAt w_66 ⟨a_58.block, a_58.off + 2, none⟩ 0 vs_59] w_63 <| call Tryz.prog 47 ([.agg (List.toArray (HL.mk qbH t_61))]) ([.one .slice]) w_63 <| fun (s_67 : Sl) w_68 => held [fun w_69 => World.cell? w_69 ⟨r_1, 2, none⟩ = some (.int .u8 x_60), fun w_70 => cellsAt w_70 ⟨a_58.block, a_58.off + 2, none⟩ 0 vs_59] w_68 <| runQ [.one .str] (fun w_71 => (convert 22 9 (.slice s_67.a s_67.len s_67.cap)).run Tryz.prog w_71) w_68 <| fun (x_72 : ByteArray) => call Tryz.prog 48 ([.agg (List.toArray vs_59), .int .u8 x_60, .string x_72]) ([.raw, .one (.int .u32), .one (.int .i64)]) w_68 <| fun (t_73 : List Value × Int × Int) w_74 => chk (List.length t_73.fst = 64) <| st ⟨r_62, 0, none⟩ t_73.fst w_74 <| fun w_75 => ldV 64 ⟨r_62, 0, none⟩ w_75 <| fun (vs_76 : List Value) => nn b <| fun a_77 => chk (List.length vs_76 = 64) <| st ⟨a_77.block, a_77.off + 2, none⟩ vs_76 w_75 <| fun w_78 => cond (t_12.fst == t_73.snd.fst) (K (t_12.snd == t_73.snd.snd) w_78) (K false w_78)))) (cond (Int.tmod x_3 12 == 1) (nn b <| fun a_79 => ld .ptr ⟨a_79.block, a_79.off + 1, none⟩ (World.drew w_2) <| fun (p_80 : Option Addr) => ld (.int .u32) ⟨r_1, 1, none⟩ (World.drew w_2) <| fun (x_81 : Int) => ld (.int .u8) ⟨r_1, 2, none⟩ (World.drew w_2) <| fun (x_82 : Int) => ldA (qbH) ⟨r_1, 0, none⟩ (World.drew w_2) <| fun (t_83 : Int × Int × Int × Sl × Int × Sl) => call Tryz.prog 47 ([.agg (List.toArray (HL.mk qbH t_83))]) ([.one .slice]) (World.drew w_2) <| fun (s_84 : Sl) w_85 => held [fun w_86 => World.cell? w_86 ⟨r_1, 2, none⟩ = some (.int .u8 x_82), fun w_87 => World.cell? w_87 ⟨r_1, 1, none⟩ = some (.int .u32 x_81), fun w_88 => World.cell? w_88 ⟨a_79.block, a_79.off + 1, none⟩ = some (.pointer p_80)] w_85 <| call Tryz.prog 49 ([.pointer p_80, .int .u32 x_81, .int .u8 x_82, .slice s_84.a s_84.len s_84.cap]) ([.one (.int .i64)]) w_85 <| fun (x_89 : Int) w_90 => (nn b <| fun a_91 => ldV 64 ⟨a_91.block, a_91.off + 2, none⟩ (World.drew w_90) <| fun (vs_92 : List Value) => ld (.int .u32) ⟨r_1, 1, none⟩ (World.drew w_90) <| fun (x_93 : Int) => ld (.int .u8) ⟨r_1, 2, none⟩ (World.drew w_90) <| fun (x_94 : Int) => ldA (qbH) ⟨r_1, 0, none⟩ (World.drew w_90) <| fun (t_95 : Int × Int × Int × Sl × Int × Sl) => call Tryz.prog 47 ([.agg (List.toArray (HL.mk qbH t_95))]) ([.one .slice]) (World.drew w_90) <| fun (s_96 : Sl) w_97 => held [fun w_98 => World.cell? w_98 ⟨r_1, 2, none⟩ = some (.int .u8 x_94), fun w_99 => World.cell? w_99 ⟨r_1, 1, none⟩ = some (.int .u32 x_93), fun w_100 => cellsAt w_100 ⟨a_91.block, a_91.off + 2, none⟩ 0 vs_92] w_97 <| runQ [.one .str] (fun w_101 => (convert 22 9 (.slice s_96.a s_96.len s_96.cap)).run Tryz.prog w_101) w_97 <| fun (x_102 : ByteArray) => call Tryz.prog 50 ([.agg (List.toArray vs_92), .int .u32 x_93, .int .u8 x_94, .string x_102]) ([.raw, .one (.int .i64)]) w_97 <| fun (t_103 : List Value × Int) w_104 => newZ Tryz.prog 63 w_104 <| fun r_105 w_106 => held [fun w_107 => (convert 22 9 (.slice s_96.a s_96.len s_96.cap)).run Tryz.prog w_107 = Result.ok (.string x_102) w_107, fun w_108 => cellsAt w_108 ⟨r_1, 0, none⟩ 0 (HL.mk qbH t_95), fun w_109 => World.cell? w_109 ⟨r_1, 2, none⟩ = some (.int .u8 x_94), fun w_110 => World.cell? w_110 ⟨r_1, 1, none⟩ = some (.int .u32 x_93), fun w_111 => cellsAt w_111 ⟨a_91.block, a_91.off + 2, none⟩ 0 vs_92] w_106 <| chk (List.length t_103.fst = 64) <| st ⟨r_105, 0, none⟩ t_103.fst w_106 <| fun w_112 => ldV 64 ⟨r_105, 0, none⟩ w_112 <| fun (vs_113 : List Value) => nn b <| fun a_114 => chk (List.length vs_113 = 64) <| st ⟨a_114.block, a_114.off + 2, none⟩ vs_113 w_112 <| fun w_115 => K (x_89 == t_103.snd) w_115) /\ ((nn b <| fun a_116 => ldV 64 ⟨a_116.block, a_116.off + 2, none⟩ (World.drew w_90) <| fun (vs_117 : List Value) => ld (.int .u32) ⟨r_1, 1, none⟩ (World.drew w_90) <| fun (x_118 : Int) => ld (.int .u8) ⟨r_1, 2, none⟩ (World.drew w_90) <| fun (x_119 : Int) => ldA (qbH) ⟨r_1, 0, none⟩ (World.drew w_90) <| fun (t_120 : Int × Int × Int × Sl × Int × Sl) => call Tryz.prog 47 ([.agg (List.toArray (HL.mk qbH t_120))]) ([.one .slice]) (World.drew w_90) <| fun (s_121 : Sl) w_122 => held [fun w_123 => World.cell? w_123 ⟨r_1, 2, none⟩ = some (.int .u8 x_119), fun w_124 => World.cell? w_124 ⟨r_1, 1, none⟩ = some (.int .u32 x_118), fun w_125 => cellsAt w_125 ⟨a_116.block, a_116.off + 2, none⟩ 0 vs_117] w_122 <| runQ [.one .str] (fun w_126 => (convert 22 9 (.slice s_121.a s_121.len s_121.cap)).run Tryz.prog w_126) w_122 <| fun (x_127 : ByteArray) => newZ Tryz.prog 63 w_122 <| fun r_128 w_129 => held [fun w_130 => (convert 22 9 (.slice s_121.a s_121.len s_121.cap)).run Tryz.prog w_130 = Result.ok (.string x_127) w_130, fun w_131 => cellsAt w_131 ⟨r_1, 0, none⟩ 0 (HL.mk qbH t_120), fun w_132 => World.cell? w_132 ⟨r_1, 2, none⟩ = some (.int .u8 x_119), fun w_133 => World.cell? w_133 ⟨r_1, 1, none⟩ = some (.int .u32 x_118), fun w_134 => cellsAt w_134 ⟨a_116.block, a_116.off + 2, none⟩ 0 vs_117] w_129 <| call Tryz.prog 50 ([.agg (List.toArray vs_117), .int .u32 x_118, .int .u8 x_119, .string x_127]) ([.raw, .one (.int .i64)]) w_129 <| fun (t_135 : List Value × Int) w_136 => chk (List.length t_135.fst = 64) <| st ⟨r_128, 0, none⟩ t_135.fst w_136 <| fun w_137 => ldV 64 ⟨r_128, 0, none⟩ w_137 <| fun (vs_138 : List Value) => nn b <| fun a_139 => chk (List.length vs_138 = 64) <| st ⟨a_139.block, a_139.off + 2, none⟩ vs_138 w_137 <| fun w_140 => K (x_89 == t_135.snd) w_140) /\ (nn b <| fun a_141 => ldV 64 ⟨a_141.block, a_141.off + 2, none⟩ (World.drew w_90) <| fun (vs_142 : List Value) => ld (.int .u32) ⟨r_1, 1, none⟩ (World.drew w_90) <| fun (x_143 : Int) => ld (.int .u8) ⟨r_1, 2, none⟩ (World.drew w_90) <| fun (x_144 : Int) => ldA (qbH) ⟨r_1, 0, none⟩ (World.drew w_90) <| fun (t_145 : Int × Int × Int × Sl × Int × Sl) => newZ Tryz.prog 63 (World.drew w_90) <| fun r_146 w_147 => held [fun w_148 => cellsAt w_148 ⟨r_1, 0, none⟩ 0 (HL.mk qbH t_145), fun w_149 => World.cell? w_149 ⟨r_1, 2, none⟩ = some (.int .u8 x_144), fun w_150 => World.cell? w_150 ⟨r_1, 1, none⟩ = some (.int .u32 x_143), fun w_151 => cellsAt w_151 ⟨a_141.block, a_141.off + 2, none⟩ 0 vs_142] w_147 <| call Tryz.prog 47 ([.agg (List.toArray (HL.mk qbH t_145))]) ([.one .slice]) w_147 <| fun (s_152 : Sl) w_153 => held [fun w_154 => World.cell? w_154 ⟨r_1, 2, none⟩ = some (.int .u8 x_144), fun w_155 => World.cell? w_155 ⟨r_1, 1, none⟩ = some (.int .u32 x_143), fun w_156 => cellsAt w_156 ⟨a_141.block, a_141.off + 2, none⟩ 0 vs_142] w_153 <| runQ [.one .str] (fun w_157 => (convert 22 9 (.slice s_152.a s_152.len s_152.cap)).run Tryz.prog w_157) w_153 <| fun (x_158 : ByteArray) => call Tryz.prog 50 ([.agg (List.toArray vs_142), .int .u32 x_143, .int .u8 x_144, .string x_158]) ([.raw, .one (.int .i64)]) w_153 <| fun (t_159 : List Value × Int) w_160 => chk (List.length t_159.fst = 64) <| st ⟨r_146, 0, none⟩ t_159.fst w_160 <| fun w_161 => ldV 64 ⟨r_146, 0, none⟩ w_161 <| fun (vs_162 : List Value) => nn b <| fun a_163 => chk (List.length vs_162 = 64) <| st ⟨a_163.block, a_163.off + 2, none⟩ vs_162 w_161 <| fun w_164 => K (x_89 == t_159.snd) w_164))) (cond (Int.tmod x_3 12 == 2) (nn b <| fun a_165 => ld .ptr ⟨a_165.block, a_165.off + 1, none⟩ (World.drew w_2) <| fun (p_166 : Option Addr) => ld (.int .u32) ⟨r_1, 1, none⟩ (World.drew w_2) <| fun (x_167 : Int) => call Tryz.prog 13 ([.pointer p_166, .int .u32 x_167]) ([.one (.int .i64)]) (World.drew w_2) <| fun (x_168 : Int) w_169 => (nn b <| fun a_170 => ldV 64 ⟨a_170.block, a_170.off + 2, none⟩ (World.drew w_169) <| fun (vs_171 : List Value) => ld (.int .u32) ⟨r_1, 1, none⟩ (World.drew w_169) <| fun (x_172 : Int) => call Tryz.prog 51 ([.agg (List.toArray vs_171), .int .u32 x_172]) ([.raw, .one (.int .i64)]) (World.drew w_169) <| fun (t_173 : List Value × Int) w_174 => newZ Tryz.prog 63 w_174 <| fun r_175 w_176 => held [fun w_177 => World.cell? w_177 ⟨r_1, 1, none⟩ = some (.int .u32 x_172), fun w_178 => cellsAt w_178 ⟨a_170.block, a_170.off + 2, none⟩ 0 vs_171] w_176 <| chk (List.length t_173.fst = 64) <| st ⟨r_175, 0, none⟩ t_173.fst w_176 <| fun w_179 => ldV 64 ⟨r_175, 0, none⟩ w_179 <| fun (vs_180 : List Value) => nn b <| fun a_181 => chk (List.length vs_180 = 64) <| st ⟨a_181.block, a_181.off + 2, none⟩ vs_180 w_179 <| fun w_182 => K (x_168 == t_173.snd) w_182) /\ (nn b <| fun a_183 => ldV 64 ⟨a_183.block, a_183.off + 2, none⟩ (World.drew w_169) <| fun (vs_184 : List Value) => ld (.int .u32) ⟨r_1, 1, none⟩ (World.drew w_169) <| fun (x_185 : Int) => newZ Tryz.prog 63 (World.drew w_169) <| fun r_186 w_187 => held [fun w_188 => World.cell? w_188 ⟨r_1, 1, none⟩ = some (.int .u32 x_185), fun w_189 => cellsAt w_189 ⟨a_183.block, a_183.off + 2, none⟩ 0 vs_184] w_187 <| call Tryz.prog 51 ([.agg (List.toArray vs_184), .int .u32 x_185]) ([.raw, .one (.int .i64)]) w_187 <| fun (t_190 : List Value × Int) w_191 => chk (List.length t_190.fst = 64) <| st ⟨r_186, 0, none⟩ t_190.fst w_191 <| fun w_192 => ldV 64 ⟨r_186, 0, none⟩ w_192 <| fun (vs_193 : List Value) => nn b <| fun a_194 => chk (List.length vs_193 = 64) <| st ⟨a_194.block, a_194.off + 2, none⟩ vs_193 w_192 <| fun w_195 => K (x_168 == t_190.snd) w_195)) (cond (Int.tmod x_3 12 == 3) (nn b <| fun a_196 => ld .ptr ⟨a_196.block, a_196.off + 1, none⟩ (World.drew w_2) <| fun (p_197 : Option Addr) => ld (.int .u32) ⟨r_1, 1, none⟩ (World.drew w_2) <| fun (x_198 : Int) => call Tryz.prog 35 ([.pointer p_197, .int .u32 x_198]) ([.one (.int .u8), .one .slice, .one (.int .i64)]) (World.drew w_2) <| fun (t_199 : Int × Sl × Int) w_200 => nn b <| fun a_201 => ldV 64 ⟨a_201.block, a_201.off + 2, none⟩ (World.drew w_200) <| fun (vs_202 : List Value) => ld (.int .u32) ⟨r_1, 1, none⟩ (World.drew w_200) <| fun (x_203 : Int) => call Tryz.prog 52 ([.agg (List.toArray vs_202), .int .u32 x_203]) ([.one (.int .u8), .one .str, .one (.int .i64)]) (World.drew w_200) <| fun (t_204 : Int × ByteArray × Int) w_205 => cond (t_199.fst == t_204.fst) (runQ [.one .str] (fun w_206 => (convert 22 9 (.slice t_199.snd.fst.a t_199.snd.fst.len t_199.snd.fst.cap)).run Tryz.prog w_206) w_205 <| fun (x_207 : ByteArray) => cond (ByteArray.toList x_207 == ByteArray.toList t_204.snd.fst) (K (t_199.snd.snd == t_204.snd.snd) w_205) (K false w_205)) (K false w_205)) (ld (.int .u32) ⟨r_1, 1, none⟩ w_2 <| fun (x_208 : Int) => ld (.int .u8) ⟨r_1, 2, none⟩ w_2 <| fun (x_209 : Int) => ld (.int .u16) ⟨r_1, 4, none⟩ w_2 <| fun (x_210 : Int) => new (Obj.cells #[.int .u32 0, .int .u32 0, .int .u32 0] 42) w_2 <| fun r_211 w_212 => st ⟨r_211, 0, none⟩ ([.int .u32 x_208, .int .u32 (IntKind.wrap .u32 x_209), .int .u32 (IntKind.wrap .u32 x_210)]) w_212 <| fun w_213 => nn b <| fun a_214 => ld .ptr ⟨a_214.block, a_214.off + 1, none⟩ (World.drew w_213) <| fun (p_215 : Option Addr) => ld (.int .u32) ⟨r_1, 1, none⟩ (World.drew w_213) <| fun (x_216 : Int) => ldA (qj6) ⟨r_211, 0, none⟩ (World.drew w_213) <| fun (t_217 : Int × Int × Int) => call Tryz.prog 53 ([.pointer p_215, .int .i64 (IntKind.wrap .i64 (IntKind.wrap .i32 x_216)), .agg (List.toArray (HL.mk qj6 t_217))]) ([.one (.int .i64)]) (World.drew w_213) <| fun (x_218 : Int) w_219 => (nn b <| fun a_220 => ldV 64 ⟨a_220.block, a_220.off + 2, none⟩ (World.drew w_219) <| fun (vs_221 : List Value) => ld (.int .u32) ⟨r_1, 1, none⟩ (World.drew w_219) <| fun (x_222 : Int) => ldA (qj6) ⟨r_211, 0, none⟩ (World.drew w_219) <| fun (t_223 : Int × Int × Int) => call Tryz.prog 54 ([.agg (List.toArray vs_221), .int .i64 (IntKind.wrap .i64 (IntKind.wrap .i32 x_222)), .agg (List.toArray (HL.mk qj6 t_223))]) ([.raw, .one (.int .i64)]) (World.drew w_219) <| fun (t_224 : List Value × Int) w_225 => newZ Tryz.prog 63 w_225 <| fun r_226 w_227 => held [fun w_228 => cellsAt w_228 ⟨r_211, 0, none⟩ 0 (HL.mk qj6 t_223), fun w_229 => World.cell? w_229 ⟨r_1, 1, none⟩ = some (.int .u32 x_222), fun w_230 => cellsAt w_230 ⟨a_220.block, a_220.off + 2, none⟩ 0 vs_221] w_227 <| chk (List.length t_224.fst = 64) <| st ⟨r_226, 0, none⟩ t_224.fst w_227 <| fun w_231 => ldV 64 ⟨r_226, 0, none⟩ w_231 <| fun (vs_232 : List Value) => nn b <| fun a_233 => chk (List.length vs_232 = 64) <| st ⟨a_233.block, a_233.off + 2, none⟩ vs_232 w_231 <| fun w_234 => K (x_218 == t_224.snd) w_234) /\ (nn b <| fun a_235 => ldV 64 ⟨a_235.block, a_235.off + 2, none⟩ (World.drew w_219) <| fun (vs_236 : List Value) => ld (.int .u32) ⟨r_1, 1, none⟩ (World.drew w_219) <| fun (x_237 : Int) => ldA (qj6) ⟨r_211, 0, none⟩ (World.drew w_219) <| fun (t_238 : Int × Int × Int) => newZ Tryz.prog 63 (World.drew w_219) <| fun r_239 w_240 => held [fun w_241 => cellsAt w_241 ⟨r_211, 0, none⟩ 0 (HL.mk qj6 t_238), fun w_242 => World.cell? w_242 ⟨r_1, 1, none⟩ = some (.int .u32 x_237), fun w_243 => cellsAt w_243 ⟨a_235.block, a_235.off + 2, none⟩ 0 vs_236] w_240 <| call Tryz.prog 54 ([.agg (List.toArray vs_236), .int .i64 (IntKind.wrap .i64 (IntKind.wrap .i32 x_237)), .agg (List.toArray (HL.mk qj6 t_238))]) ([.raw, .one (.int .i64)]) w_240 <| fun (t_244 : List Value × Int) w_245 => chk (List.length t_244.fst = 64) <| st ⟨r_239, 0, none⟩ t_244.fst w_245 <| fun w_246 => ldV 64 ⟨r_239, 0, none⟩ w_246 <| fun (vs_247 : List Value) => nn b <| fun a_248 => chk (List.length vs_247 = 64) <| st ⟨a_248.block, a_248.off + 2, none⟩ vs_247 w_246 <| fun w_249 => K (x_218 == t_244.snd) w_249)))))
def qc0 : List Ann := [.n, .n, .n, .n, .n, .o [[0, 1, 2, 3, 4, 5, 6, 7, 8, 9, 10, 11, 12, 13]], .n, .o [[0, 1, 2, 3, 4, 5, 6, 7, 8, 9, 10, 11, 12, 13, 14, 15, 16, 17], [0, 1, 2, 3, 4, 5, 6, 7, 8, 14, 9, 10, 11, 12, 13, 15, 16, 17], [0, 1, 2, 3, 4, 5, 6, 14, 7, 8, 9, 10, 11, 12, 13, 15, 16, 17]], .n, .n, .n, .n, .o [[0, 1, 2, 3, 4, 5, 6, 7, 8, 9, 10, 11]], .n, .o [[0, 1, 2, 3, 4, 5, 6, 7, 8, 9, 10, 11, 12, 13, 14, 15, 16, 17], [0, 1, 2, 3, 4, 5, 6, 7, 8, 9, 10, 15, 11, 12, 13, 14, 16, 17], [0, 1, 2, 3, 4, 5, 6, 7, 8, 15, 9, 10, 11, 12, 13, 14, 16, 17]], .n, .n, .n, .n, .o [[0, 1, 2, 3, 4, 5, 6, 7]], .n, .o [[0, 1, 2, 3, 4, 5, 6, 7, 8, 9, 10, 11, 12], [0, 1, 2, 3, 4, 5, 10, 6, 7, 8, 9, 11, 12]], .n, .n, .n, .n, .o [[0, 1, 2, 3, 4, 5, 6, 7, 8, 9, 10, 11, 12, 13]], .n, .o [[0, 1, 2, 3, 4, 5, 6, 7, 8, 9, 10, 11, 12, 13]], .n, .n, .n, .o [[0, 1, 2, 3, 4, 5, 6, 7, 8, 9, 10]], .n, .o [[0, 1, 2, 3, 4, 5, 6, 7, 8, 9, 10, 11, 12, 13, 14, 15], [0, 1, 2, 3, 4, 5, 6, 7, 8, 13, 9, 10, 11, 12, 14, 15]], .n, .n]
theorem qfQ {b : Option Addr} {o0 : Int} {o1 : Int} {o2 : Int} {o3 : Sl} {o4 : Int} {o5 : Sl} {w : World} {K : Bool -> World -> Prop} (hF : qbx b o0 o1 o2 o3 o4 o5 K w) : call Tryz.prog 18 [.pointer b, .agg #[.int .u8 o0, .int .u32 o1, .int .u8 o2, .slice o3.a o3.len o3.cap, .int .u16 o4, .slice o5.a o5.len o5.cap]] [.one .bool] w K := qab (an := qc0) Tryz.func18 (by kernel_rfl) ((show fnPt (std Tryz.prog) Tryz.prog Tryz.f18 qc0 [.one .bool] [.pointer b, .agg #[.int .u8 o0, .int .u32 o1, .int .u8 o2, .slice o3.a o3.len o3.cap, .int .u16 o4, .slice o5.a o5.len o5.cap]] K w = qbx b o0 o1 o2 o3 o4 o5 K w by kernel_rfl).mpr hF)
end Go.Proofs.YtmbcedengdoamaaGreatDoor
end
