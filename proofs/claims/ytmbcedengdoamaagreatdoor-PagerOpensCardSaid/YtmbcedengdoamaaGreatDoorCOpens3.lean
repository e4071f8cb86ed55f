/- Texts FlB, FlC, FormsW, SuA, SuB, SuC, FormsG, PtS, PrA, PrB, PrC, PrD, PrE, PrF, PrG, FormsD, DkA, DkB, DkC, DkD, PmA, PrH, FlD: contracts of the program's functions, one behind the other. Conditions: those that stand in each line. -/
import Derived.Test.YtmbcedengdoamaaGreatDoorCOpens2
import Derived.Test.YtmbcedengdoamaaGreatDoorCOpens1
import Derived.Test.YtmbcedengdoamaaGreatDoorProg
import Derived.KernelRfl
import Derived.Laws.IdiomRangeMap
section
set_option linter.unusedVariables false
set_option linter.unusedSimpArgs false
namespace Go.Proofs.YtmbcedengdoamaaGreatDoor
open Go Go.Pt
attribute [local irreducible] ld ldA ldV fld fldA newZ st new idx idxS idxA slc slcS slcP mkS chk nn call callV inv run runQ runU join loop held ext rng undefer s2a IntKind.wrap
theorem qsa {A B : Int} (k : Nat) (hA : 0 <= A) (hm : A % 2 ^ k = 0) (hB : 0 <= B) (hBk : B < 2 ^ k) (hs : A + B < 4294967296) : bits .or .i64 A B = A + B := by
 obtain ⟨a, rfl⟩ : ∃ a : Nat, A = a := ⟨A.toNat, by omega⟩
 obtain ⟨b, rfl⟩ : ∃ b : Nat, B = b := ⟨B.toNat, by omega⟩
 have hm' : a % 2 ^ k = 0 := by
  have : ((a : Int) % ((2 ^ k : Nat) : Int)) = 0 := by rw [Int.natCast_pow]; exact hm
  omega
 have hb' : b < 2 ^ k := by
  have : (b : Int) < ((2 ^ k : Nat) : Int) := by rw [Int.natCast_pow]; exact hBk
  omega
 obtain ⟨q, rfl⟩ : ∃ q, a = 2 ^ k * q := ⟨a / 2 ^ k, by have := Nat.div_add_mod a (2 ^ k); omega⟩
 show IntKind.wrap .i64 ((BitVec.ofInt 64 ((2 ^ k * q : Nat) : Int) ||| BitVec.ofInt 64 (b : Int)).toNat : Nat) = _
 rw [BitVec.toNat_or, BitVec.ofInt_natCast, BitVec.ofInt_natCast, BitVec.toNat_ofNat, BitVec.toNat_ofNat, Nat.mod_eq_of_lt (show 2 ^ k * q < 2 ^ 64 by omega), Nat.mod_eq_of_lt (show b < 2 ^ 64 by omega), <- Nat.two_pow_add_eq_or_of_lt hb']
 rw [wi' _ (by omega)]
 omega
def cntV (l : List Int) : Int := l.getD 4 0 * 256 + l.getD 5 0
def numsV (l : List Int) (n : Nat) : List Int := (List.range n).map fun i => first4 (l.drop (6 + 4 * i))
def parseV (l : List Int) : Int × List Int × Int :=
 if l.length < 6 then (0, [], 2) else
 if first4 l = 1 \/ cntV l > 123 \/ (l.length : Int) ≠ 6 + 4 * cntV l then (0, [], 2) else
 if risesB 1 (numsV l (cntV l).toNat) then (first4 l, numsV l (cntV l).toNat, 0) else (0, [], 2)
theorem qrL {S : List Nat} {w : World} {s : Sl} {l : List Int} {K : Int × Sl × Int -> World -> Prop} (h : RdB S w s l) (hB : IsB l) (hl : l.length <= 100000)
  (hk : ∀ s' B w', BufU w' s' (parseV l).2.1 B -> Fr [] w w' -> (∀ b ∈ B, w.heap.size <= b) -> K ((parseV l).1, s', (parseV l).2.2) w') :
  call Tryz.prog 105 [.slice s.a s.len s.cap] [.one (.int .u32), .one .slice, .one (.int .i64)] w K := by
 refine qkC (body := s) ?_
 unfold qeE
 have hlen := h.1
 have bad : ∀ {e : Int} {w' : World}, parseV l = (0, [], e) -> Fr [] w w' -> K (0, ⟨none, 0, 0⟩, e) w' := by
  intro e w' he hf
  have := hk ⟨none, 0, 0⟩ [] w' (by rw [he]; exact .nil _ _ _) hf (by simp)
  rw [he] at this
  exact this
 refine qaa (fun hc => ?_) (fun hc => ?_)
 ·have := of_decide_eq_true hc
  exact bad (by rw [parseV, if_pos (by omega)]) (.refl _ _)
 have h6 : ¬ l.length < 6 := by have := of_decide_eq_false hc; omega
 have fd : Fr [] w w.drew := (Fr.refl _ _).drew
 have fdd : Fr [] w w.drew.drew := fd.drew
 obtain ⟨_, b4, o4, ha4, hS4, cs4, T4, fr4, hb4, hc4⟩ := Rds.at h 4 (getD_some (l := l) (n := 4) (by omega))
 obtain ⟨_, b5, o5, ha5, hS5, cs5, T5, fr5, hb5, hc5⟩ := Rds.at h 5 (getD_some (l := l) (n := 5) (by omega))
 have g4 : cs4[o4 + 4]? = some (.int .u8 (l.getD 4 0)) := by have := congrArg (·[0]?) hc4; simpa using this
 have g5 : cs5[o5 + 5]? = some (.int .u8 (l.getD 5 0)) := by have := congrArg (·[0]?) hc5; simpa using this
 have c4 : ∀ {w' : World}, Fr [] w w' -> w'.cell? ⟨b4, o4 + Int.toNat 4 * 1, none⟩ = some (.int .u8 (l.getD 4 0)) := fun f => by
  rw [qaj (by rw [f.block b4 (qac hb4) (by simp)]; exact hb4)]; exact g4
 have c5 : ∀ {w' : World}, Fr [] w w' -> w'.cell? ⟨b5, o5 + Int.toNat 5 * 1, none⟩ = some (.int .u8 (l.getD 5 0)) := fun f => by
  rw [qaj (by rw [f.block b5 (qac hb5) (by simp)]; exact hb5)]; exact g5
 refine qbj ha4 ⟨by omega, by omega⟩ ?_
 refine qnJ (c := .int .u8) (l.getD 4 0) (c4 fd) ?_
 refine qbj ha5 ⟨by omega, by omega⟩ ?_
 refine qnJ (c := .int .u8) (l.getD 5 0) (c5 fd) ?_
 refine qpX (w := w.drew) (S := S) h (by omega) ?_
 refine qaW (c5 fdd) (c4 fdd) ?_
 have r4 : 0 <= l.getD 4 0 /\ l.getD 4 0 < 256 := hB _ (List.mem_of_getElem? (getD_some (l := l) (n := 4) (by omega)))
 have r5 : 0 <= l.getD 5 0 /\ l.getD 5 0 < 256 := hB _ (List.mem_of_getElem? (getD_some (l := l) (n := 5) (by omega)))
 have ecnt : bits .or .i64 (IntKind.wrap .i64 (IntKind.wrap .i64 (l.getD 4 0) * 2 ^ 8)) (IntKind.wrap .i64 (l.getD 5 0)) = cntV l := by
  rw [wi' (l.getD 4 0) (by omega), wi' (l.getD 5 0) (by omega), wi' (l.getD 4 0 * 2 ^ 8) (by omega), qsa 8 (by omega) (by omega) (by omega) (by omega) (by omega)]
  rfl
 have rcnt : 0 <= cntV l /\ cntV l < 65536 := by unfold cntV; omega
 rw [ecnt]
 refine qae (fun b w' => b = decide (first4 l = 1 \/ cntV l > 123 \/ (l.length : Int) ≠ 6 + 4 * cntV l) /\ w' = w.drew.drew) ?_ ?_
 ·refine qaa (fun hc => ?_) (fun hc => ?_)
  ·exact ⟨by rw [decide_eq_true (Or.inl (by simpa using hc))], rfl⟩
  ·have hc' : ¬ first4 l = 1 := by simpa using hc
   refine qaa (fun hc2 => ?_) (fun hc2 => ?_)
   ·exact ⟨by rw [decide_eq_true (Or.inr (Or.inl (of_decide_eq_true hc2)))], rfl⟩
   ·have hc2' : ¬ cntV l > 123 := of_decide_eq_false hc2
    refine ⟨?_, rfl⟩
    rw [wi' (4 * cntV l) (by omega), wi' (6 + 4 * cntV l) (by omega), hlen]
    by_cases h3 : (l.length : Int) = 6 + 4 * cntV l <;> simp [hc', hc2', h3]
 rintro b w1 ⟨rfl, rfl⟩
 refine qaa (fun hc => bad (by rw [parseV, if_neg h6, if_pos (of_decide_eq_true hc)]) fdd) (fun hc => ?_)
 have hok := of_decide_eq_false hc
 have hcnt : cntV l <= 123 := by
  rcases Int.lt_or_le 123 (cntV l) with h | h
  ·exact absurd (Or.inr (Or.inl h)) hok
  ·exact h
 have hlc : (l.length : Int) = 6 + 4 * cntV l := Classical.byContradiction fun h => hok (Or.inr (Or.inr h))
 have pv : parseV l = if risesB 1 (numsV l (cntV l).toNat) then (first4 l, numsV l (cntV l).toNat, 0) else (0, [], 2) := by rw [parseV, if_neg h6, if_neg hok]
 obtain ⟨n, hn⟩ : ∃ n : Nat, cntV l = n := ⟨(cntV l).toNat, by omega⟩
 rw [hn] at hcnt hlc pv ⊢
 rw [Int.toNat_natCast] at pv
 refine qaf (fun x w' => ∃ (i : Nat) (B : List Nat), x.2 = i /\ i <= n /\ BufU w' x.1 (numsV l i) B /\ Fr [] w w' /\ ∀ b ∈ B, w.heap.size <= b) (fun x _ => ((n : Int) - x.2).toNat)
  ⟨0, [], rfl, by omega, .nil _ _ _, fdd, by simp⟩ ?_
 rintro ⟨s1, ii⟩ w2 ⟨i, B, hi0, hi, hb, f2, n2⟩ X hX
 simp only at hi0 hb
 subst hi0
 refine qaa (fun hc => ?_) (fun hc => ?_)
 ·have hil : i < n := by have := of_decide_eq_true hc; omega
  rw [wi' (4 * (i : Int)) (by omega), wi' (6 + 4 * (i : Int)) (by omega)]
  have h2 : RdB S w2 s l := h.frame0 f2
  refine Rds.part h2 (6 + 4 * i) l.length (by simp) (by rw [hlen]; rfl) (by omega) (by omega) fun s3 l3 r3 _ => ?_
  rw [List.take_length] at r3
  refine qpX r3 (by rw [List.length_drop]; omega) ?_
  have f2d : Fr [] w w2.drew := f2.drew
  refine qio (w := w2.drew) (B := B) hb (by simp [numsV]; omega) fun s4 B4 w4 g1 g2 g3 => ?_
  rw [wi' _ (by omega)]
  have hs2 := f2d.size
  refine hX _ _ ⟨i + 1, B4, by simp, by omega, ?_, f2d.trans' g2 (fun b hb => .inr (n2 b hb)), fun b hb => ?_⟩ (by dsimp only; omega)
  ·have : numsV l (i + 1) = numsV l i ++ [first4 (l.drop (6 + 4 * i))] := by simp [numsV, List.range_succ]
   rw [this]; exact g1
  ·rcases g3 b hb with h | h
   ·exact n2 b h
   ·omega
 ·have hil : i = n := by have := of_decide_eq_false hc; omega
  subst hil
  refine qoe (S := []) (hb.rds qas (by simp)) (by simp [numsV]; omega) ?_
  refine qaa (fun hr => ?_) (fun hr => ?_)
  ·have hr' : ¬ risesB 1 (numsV l i) = true := by simpa using hr
   exact bad (by rw [pv, if_neg hr']) f2
  ·have hr' : risesB 1 (numsV l i) = true := by simpa using hr
   have := hk s1 B w2 (by rw [pv, if_pos hr']; exact hb) f2 n2
   rw [pv, if_pos hr'] at this
   exact this
def encS : Sl -> List Value := fun s => [.slice s.a s.len s.cap]
theorem qoh : ∀ x, (encS x).length = 1 := fun _ => rfl
theorem qtO : ∃ i, Tryz.prog.info? 22 = some i /\ i.zero = some (.slice none 0 0) /\ i.size = 1 /\ i.bytes = 24 := qeX (by kernel_rfl)
def Bodies (S : List Nat) (w : World) (s : Sl) (ls : List (List Int)) (B : List Nat) : Prop :=
 ∃ sls : List Sl, Buf encS 1 w s sls B /\ sls.length = ls.length /\ ∀ (i : Nat) sl l, sls[i]? = some sl -> ls[i]? = some l -> RdB (S ++ B) w sl l
theorem Bodies.nil (S : List Nat) (w : World) : Bodies S w ⟨none, 0, 0⟩ [] [] := ⟨[], .nil _ _ _, rfl, fun i sl l h => by simp at h⟩
theorem Bodies.frame {S S' : List Nat} {w w' : World} {s : Sl} {ls : List (List Int)} {B : List Nat} (h : Bodies S w s ls B) (f : Fr S w w') (hS : ∀ b ∈ B, b ∉ S) (hS' : ∀ b ∈ S', b ∈ S \/ w.heap.size <= b) : Bodies S' w' s ls B := by
 obtain ⟨sls, h1, h2, h3⟩ := h
 refine ⟨sls, h1.frame f hS, h2, fun i sl l hi hl => (h3 i sl l hi hl).frame (f.mono fun b hb _ => List.mem_append_left _ hb) fun b hb => ?_⟩
 rcases List.mem_append.1 hb with hb | hb
 ·rcases hS' b hb with h | h
  ·exact .inl (List.mem_append_left _ h)
  ·exact .inr h
 ·exact .inl (List.mem_append_right _ hb)
theorem Bodies.push {S : List Nat} {w : World} {s sl : Sl} {ls : List (List Int)} {B : List Nat} {l : List Int} {T : TypeId} {K : Sl -> World -> Prop} (h : Bodies S w s ls B) (hr : RdB (S ++ B) w sl l) (hl : ls.length <= 1000000)
  (kk : ∀ s' B' w', Bodies S w' s' (ls ++ [l]) B' -> Fr B w w' -> (∀ b ∈ B', b ∈ B \/ w.heap.size <= b) -> K s' w') :
  Pt.new (.cells #[.slice sl.a sl.len sl.cap] T) w fun r w1 => Pt.run [Ty1.one Cell.slice] ((Builtin.append_ #[198, 198] 198 #[.slice s.a s.len s.cap, .slice (some ⟨r, 0, none⟩) 1 1]).run Tryz.prog w1) K := by
 obtain ⟨i, hi, hz, hsz, hby⟩ := qtO
 obtain ⟨sls, h1, h2, h3⟩ := h
 refine Buf.push (e := 22) (x := sl) h1 qoh (by simp [encS, Value.oneCell']) (by kernel_rfl) hi hz hsz rfl rfl (by rw [hby]; omega) (by omega) fun s' B' w' b' f' n' => ?_
 refine kk s' B' w' ⟨_, b', by simp [h2], fun j sj lj hj hlj => ?_⟩ f' n'
 have hw : ∀ b ∈ S ++ B', b ∈ S ++ B \/ w.heap.size <= b := fun b hb => by
  rcases List.mem_append.1 hb with hb | hb
  ·exact .inl (List.mem_append_left _ hb)
  ·rcases n' b hb with h | h
   ·exact .inl (List.mem_append_right _ h)
   ·exact .inr h
 have hf : Fr (S ++ B) w w' := f'.mono fun b hb _ => List.mem_append_right _ hb
 by_cases hjl : j < sls.length
 ·rw [List.getElem?_append_left hjl] at hj
  rw [List.getElem?_append_left (by omega)] at hlj
  exact (h3 j sj lj hj hlj).frame hf hw
 ·by_cases hje : j = sls.length
  ·subst hje
   rw [List.getElem?_append_right (Nat.le_refl _), Nat.sub_self] at hj
   rw [h2, List.getElem?_append_right (Nat.le_refl _), Nat.sub_self] at hlj
   simp at hj hlj
   subst hj hlj
   exact hr.frame hf hw
  ·rw [List.getElem?_eq_none (by rw [List.length_append]; simp; omega)] at hj
   cases hj
def bodyV (next : Int) (c : List Int) : List Int := be next 4 ++ [IntKind.wrap .u8 (Int.fdiv c.length (2 ^ 8)), IntKind.wrap .u8 c.length] ++ c.flatMap (be · 4)
def bodiesL (numbers pages : List Int) (k : Nat) : List (List Int) := (List.range k).map fun i => bodyV (pages.getD (i + 1) 0) ((numbers.drop (123 * i)).take 123)
def bodiesV (numbers pages : List Int) : List (List Int) × Int :=
 if risesB 1 numbers = false \/ numbers.length > 123 * pages.length then ([], 1) else if ∃ p ∈ pages, p < 2 then ([], 1) else (bodiesL numbers pages pages.length, 0)
theorem qr4 {w : World} {s : Sl} {n : Int} {K : Value -> World -> Prop} (hk : ∀ rp rl w', Fr [] w w' -> (∀ S w0 L, Own S w0 w L -> Own S w0 w' ((rp, .cells #[.int .i64 n] 3 (0, 0)) :: (rl, .cells #[.slice s.a s.len s.cap] 27 (0, 0)) :: L)) -> K (.func (.func 167) #[] #[.pointer (some ⟨rp, 0, none⟩), .pointer (some ⟨rl, 0, none⟩)]) w') :
  call Tryz.prog 144 [.slice s.a s.len s.cap, .int .i64 n] [.one .any] w K := by
 refine qkD (l := s) ?_
 unfold qej
 refine Pt.qjP ?_
 refine Pt.qjP ?_
 exact hk _ _ _ (((Fr.refl [] w).alloc _).alloc _) fun S w0 L h => (h.alloc _).alloc _
theorem qel : ∀ l : List Int, (l.flatMap (be · 4)).length = l.length * 4
 | [] => rfl
 | x :: l => by rw [List.flatMap_cons, List.length_append, qah, qel l, List.length_cons]; omega
theorem qta (a b : Int) : ([a, b] : List Int).length = 2 := rfl
theorem qqG {S G : List Nat} {w : World} {sn sp : Sl} {numbers pages : List Int} {K : Sl × Int -> World -> Prop} (hn : Rd S w sn numbers) (hp : Rd S w sp pages) (hnl : numbers.length <= 100000) (hpl : pages.length <= 100000) (hG : ∀ b ∈ G, b < w.heap.size)
  (hk : ∀ s' B w', Bodies G w' s' (bodiesV numbers pages).1 B -> Fr [] w w' -> (∀ b ∈ B, w.heap.size <= b) -> K (s', (bodiesV numbers pages).2) w') :
  call Tryz.prog 122 [.slice sn.a sn.len sn.cap, .slice sp.a sp.len sp.cap] [.one .slice, .one (.int .i64)] w K := by
 refine qjE (numbers := sn) (pages := sp) ?_
 unfold qdW
 have hln := hn.1
 have hlp := hp.1
 have bad : ∀ {w' : World}, bodiesV numbers pages = ([], 1) -> Fr [] w w' -> K (⟨none, 0, 0⟩, 1) w' := by
  intro w' he hf
  have := hk ⟨none, 0, 0⟩ [] w' (by rw [he]; exact .nil _ _) hf (by simp)
  rw [he] at this
  exact this
 refine Own.new' (Own.start [] w) fun r1 w1 e1 f1 ho => ?_
 have hn1 : Rd S w1 sn numbers := hn.frame0 ho.fr
 have hp1 : Rd S w1 sp pages := hp.frame0 ho.fr
 refine qae (fun b w' => b = decide (risesB 1 numbers = false \/ numbers.length > 123 * pages.length) /\ w' = w1) ?_ ?_
 ·refine qoe hn1 (by omega) ?_
  refine qaa (fun hc => ?_) (fun hc => ?_)
  ·have hr : risesB 1 numbers = false := by simpa using hc
   exact ⟨by rw [decide_eq_true (Or.inl hr)], rfl⟩
  ·have hr : risesB 1 numbers = true := by simpa using hc
   refine Own.ld (c := .slice) ho 0 rfl sp rfl ⟨?_, rfl⟩
   rw [wi' (123 * (sp.len : Int)) (by omega), hln, hlp]
   have e : decide ((numbers.length : Int) > 123 * (pages.length : Int)) = decide (numbers.length > 123 * pages.length) := by
    by_cases h : numbers.length > 123 * pages.length
    ·rw [decide_eq_true h, decide_eq_true]; omega
    ·rw [decide_eq_false h, decide_eq_false]; omega
   rw [e]
   by_cases h : numbers.length > 123 * pages.length <;> simp [hr, h]
 rintro b w2 ⟨rfl, rfl⟩
 refine qaa (fun hc => bad (by rw [bodiesV, if_pos (of_decide_eq_true hc)]) ho.fr) (fun hc => ?_)
 have hok := of_decide_eq_false hc
 refine Own.ld (c := .slice) ho 0 rfl sp rfl ?_
 refine qaf (fun x w' => w' = w2 /\ ∃ i : Nat, x.2.2 = i /\ i <= pages.length /\ ∀ p ∈ pages.take i, ¬ p < 2) (fun x _ => ((pages.length : Int) - x.2.2).toNat) ⟨rfl, 0, rfl, by omega, by simp⟩ ?_
 rintro ⟨sx, ex, ii⟩ w3 ⟨rfl, i, hi0, hi, hall⟩ X hX
 simp only at hi0
 subst hi0
 dsimp only
 refine qaa (fun hc => ?_) (fun hc => ?_)
 ·have hil : i < pages.length := by have := of_decide_eq_true hc; omega
  refine Rd.at hp1 i rfl (List.getElem?_eq_getElem hil) ?_
  refine qaa (fun hx => ?_) (fun hx => ?_)
  ·exact bad (by rw [bodiesV, if_neg hok, if_pos ⟨pages[i], List.getElem_mem hil, of_decide_eq_true hx⟩]) ho.fr
  ·rw [wi' _ (by omega)]
   refine hX _ _ ⟨rfl, i + 1, by simp, by omega, fun p hp => ?_⟩ (by dsimp only; omega)
   rw [List.take_succ_eq_append_getElem hil] at hp
   rcases List.mem_append.1 hp with hp | hp
   ·exact hall p hp
   ·simp at hp; subst hp; exact of_decide_eq_false hx
 have hil : i = pages.length := by have := of_decide_eq_false hc; omega
 subst hil
 rw [List.take_length] at hall
 have hbv : bodiesV numbers pages = (bodiesL numbers pages pages.length, 0) := by
  rw [bodiesV, if_neg hok, if_neg]
  rintro ⟨p, hp, h2⟩
  exact hall p hp h2
 rw [hbv] at hk
 refine Own.new' ho fun ro w4 eo fo ho => ?_
 refine Own.ld (c := .slice) ho 1 rfl sp rfl ?_
 refine qr4 fun rp rl w5 f5 hadd => ?_
 have ho5 := hadd _ _ _ ho
 refine Own.rng (lb := [.pointer (some ⟨rp, 0, none⟩), .pointer (some ⟨rl, 0, none⟩)]) ho5 rfl (by kernel_rfl) fun Dm l R Bz J E E0 w6 el eD f56 ho6 hy => ?_
 refine qiX ?_
 unfold qdd
 refine Own.ld (c := .int .i64) ho6 2 rfl sp.len rfl ?_
 refine qaf (fun x w' => ∃ (j : Nat) (cl so : Sl) (Bo : List Nat), x = j /\ j <= pages.length /\ Rd [] w cl (numbers.drop (123 * j)) /\ Bodies ([l, Dm, rp, rl, ro, r1] ++ G) w' so (bodiesL numbers pages j) Bo /\ (∀ b ∈ Bo, w.heap.size <= b /\ b ∉ [l, Dm, rp, rl, ro, r1]) /\
   Own [] w w' [(l, R), (Dm, .deferred (some [])), (rp, .cells #[.int .i64 sp.len] 3 (0, 0)), (rl, .cells #[.slice cl.a cl.len cl.cap] 27 (0, 0)), (ro, .cells #[.slice so.a so.len so.cap] 198 (0, 0)), (r1, .cells #[.slice sp.a sp.len sp.cap] 27 (0, 0))]) (fun x _ => ((pages.length : Int) - x).toNat)
  ⟨0, sn, ⟨none, 0, 0⟩, [], rfl, by omega, hn.weak (fun b hb => by cases hb), .nil _ _, by simp, ho6⟩ ?_
 rintro x w7 ⟨j, cl, so, Bo, rfl, hj, hcl, hbod, hBo, ho7⟩ X hX
 have hBoG : ∀ b ∈ Bo, b ∉ [l, Dm, rp, rl, ro, r1] ++ G := fun b hb hm => by
  rcases List.mem_append.1 hm with hm | hm
  ·exact (hBo b hb).2 hm
  ·have := hG b hm; have := (hBo b hb).1; omega
 have hlc := hcl.1
 rw [List.length_drop] at hlc
 refine qaa (fun hc => ?_) (fun hc => ?_)
 ·have hjl : j < pages.length := by have := of_decide_eq_true hc; omega
  refine Own.ld (c := .slice) ho7 3 rfl cl rfl ?_
  refine Own.ld (c := .slice) ho7 3 rfl cl rfl ?_
  obtain ⟨m, hm, hmle⟩ : ∃ m : Nat, (if (123 : Int) < (cl.len : Int) then 123 else (cl.len : Int)) = m /\ m = Nat.min 123 cl.len := by
   by_cases h : 123 < cl.len
   ·exact ⟨123, by rw [if_pos (by omega)]; rfl, (Nat.min_eq_left (by omega)).symm⟩
   ·exact ⟨cl.len, by rw [if_neg (by omega)], (Nat.min_eq_right (by omega)).symm⟩
  rw [hm]
  have hm123 : m <= 123 := by rw [hmle]; exact Nat.min_le_left _ _
  have hmcl : m <= cl.len := by rw [hmle]; exact Nat.min_le_right _ _
  refine Rds.part hcl 0 m rfl rfl (by omega) (by rw [List.length_drop]; omega) fun cs hcsl hcs _ => ?_
  rw [List.drop_zero] at hcs
  have hchunk : (numbers.drop (123 * j)).take m = (numbers.drop (123 * j)).take 123 := by
   by_cases h : 123 < cl.len
   ·rw [hmle]; congr 1; exact Nat.min_eq_left (by omega)
   ·have : m = cl.len := by rw [hmle]; exact Nat.min_eq_right (by omega)
    rw [this, List.take_of_length_le (by rw [List.length_drop]; omega), List.take_of_length_le (by rw [List.length_drop]; omega)]
  generalize hch : (numbers.drop (123 * j)).take m = chunk at hcs hchunk
  have hcl3 : chunk.length = m := by rw [<- hch, List.length_take, List.length_drop]; omega
  have hcs3 : cs.len = m := by omega
  refine hy ((j : Int), cs) w7 _ (ho7.at (i := 0) rfl) ?_
  dsimp only
  refine ⟨ho7.at (i := 0) rfl, ?_⟩
  have ho8 := ho7.upd (o' := Bz) 0 rfl
  have hbk := ho8.rebaseS []
  have hp8 : Rd [] (Pt.upd w7 l Bz) sp pages := (hp.weak (fun b hb => by cases hb)).frame0 ho8.fr
  have hbod8 : Bodies ([l, Dm, rp, rl, ro, r1] ++ G) (Pt.upd w7 l Bz) so (bodiesL numbers pages j) Bo := hbod.frame ((qb4 (qac (ho7.at (i := 0) rfl)) Bz).mono fun b hb _ => by simp at hb; subst hb; simp) hBoG (fun b hb => .inl hb)
  have hBlt := hbod.choose_spec.1.lt
  refine qae (fun x w' => x = pages.getD (j + 1) 0 /\ w' = Pt.upd w7 l Bz) ?_ ?_
  ·refine Own.ld (c := .slice) hbk 5 rfl sp rfl ?_
   rw [wi' ((j : Int) + 1) (by omega)]
   refine qaa (fun hc2 => ?_) (fun hc2 => ?_)
   ·have h2 : j + 1 < pages.length := by have := of_decide_eq_true hc2; omega
    refine Own.ld (c := .slice) hbk 5 rfl sp rfl ?_
    refine Rd.at hp8 (j + 1) (by omega) (getD_some h2) ?_
    exact ⟨rfl, rfl⟩
   ·have h2 : ¬ j + 1 < pages.length := by have := of_decide_eq_false hc2; omega
    exact ⟨by rw [List.getD_eq_getElem?_getD, List.getElem?_eq_none (by omega)]; rfl, rfl⟩
  rintro x w8 ⟨rfl, rfl⟩
  generalize hnx : pages.getD (j + 1) 0 = next
  have hW : (Pt.upd w7 l Bz).heap.size = w7.heap.size := qcm _ _ _
  generalize hW8 : Pt.upd w7 l Bz = w8 at ho8 hbk hp8 hW hbod8
  have hcs8 : Rd [] w8 cs chunk := hcs.frame0 ho8.fr
  have hLlt : ∀ p ∈ [l, Dm, rp, rl, ro, r1], p < w8.heap.size := fun p hp => by
   have hlt := fun (k : Nat) (q : Nat × Obj) (hq : _[k]? = some q) => qac (ho8.at (i := k) hq)
   simp only [List.mem_cons, List.not_mem_nil, or_false] at hp
   rcases hp with rfl | rfl | rfl | rfl | rfl | rfl
   ·exact hlt 0 _ rfl
   ·exact hlt 1 _ rfl
   ·exact hlt 2 _ rfl
   ·exact hlt 3 _ rfl
   ·exact hlt 4 _ rfl
   ·exact hlt 5 _ rfl
  obtain ⟨i5, hi5, hz5, hsz5, hby5⟩ := qnG
  refine qpW (s := ⟨none, 0, 0⟩) (l := []) (B := []) (.nil _ _ _) (by simp) fun s9 B9 w9 b9 f9 n9 => ?_
  rw [List.nil_append] at b9
  have hbk := hbk.frame0 f9
  refine Own.new' hbk fun r2 w10 e10 f10 hbk => ?_
  have n9' : ∀ b ∈ B9, w8.heap.size <= b := fun b hb => by rcases n9 b hb with h | h; cases h; exact h
  refine Buf.appSrc (ys := [IntKind.wrap .u8 (Int.fdiv chunk.length (2 ^ 8)), IntKind.wrap .u8 chunk.length]) (e := 5) (b9.frame0 f10) qaq (by kernel_rfl) hi5 hz5 hsz5 rfl (.ofSlice _ (e' := 5) (by kernel_rfl) _ 2 2 _ (by rw [qaL]; rfl) (fun q u hq => ?_) (fun u hu => ?_)) rfl (by rw [hby5, qah]; decide) (by rw [qah]; decide) fun s11 B11 w11 b11 f11 n11 _ => ?_
  ·rw [Addr.add_mk, qaj (hbk.at (i := 0) rfl), Nat.zero_add, hcs3, <- hcl3]
   rw [qaL] at hq
   rw [List.getElem?_toArray]
   exact hq
  ·rw [qaL] at hu
   obtain ⟨x, _, rfl⟩ := List.mem_map.1 hu
   rfl
  have hs9 := f9.size
  have hs10 := f10.size
  have hB9lt := b9.lt
  have hbk := (hbk.sub (List.sublist_cons_self _ _)).frame f11 (fun b hb => .inr (n9' b hb)) (fun p hp hb => by
   have h1 := hLlt p.1 (List.mem_map_of_mem (f := (·.1)) hp)
   have h2 := n9' _ hb
   omega)
  have n11' : ∀ b ∈ B11, w8.heap.size <= b := fun b hb => by rcases n11 b hb with h | h; exact n9' b h; omega
  refine qaf (fun x w' => ∃ (q : Nat) (Bq : List Nat), x.2 = q /\ q <= m /\ BufB w' x.1 (be next 4 ++ [IntKind.wrap .u8 (Int.fdiv chunk.length (2 ^ 8)), IntKind.wrap .u8 chunk.length] ++ (chunk.take q).flatMap (be · 4)) Bq /\ (∀ b ∈ Bq, w8.heap.size <= b) /\
    Own ([l, Dm, rp, rl, ro, r1] ++ []) w8 w' [(l, Bz), (Dm, .deferred (some [])), (rp, .cells #[.int .i64 sp.len] 3 (0, 0)), (rl, .cells #[.slice cl.a cl.len cl.cap] 27 (0, 0)), (ro, .cells #[.slice so.a so.len so.cap] 198 (0, 0)), (r1, .cells #[.slice sp.a sp.len sp.cap] 27 (0, 0))]) (fun x _ => ((m : Int) - x.2).toNat)
   ⟨0, B11, rfl, by omega, by simpa using b11, n11', hbk⟩ ?_
  rintro ⟨s12, qq⟩ w12 ⟨q, Bq, hq0, hqm, bq, nq, hq⟩ Y hY
  simp only at hq0 bq
  subst hq0
  dsimp only
  rw [hcs3]
  refine qaa (fun hc3 => ?_) (fun hc3 => ?_)
  ·have hqc : q < chunk.length := by have := of_decide_eq_true hc3; omega
   have hcs12 : Rd [] w12 cs chunk := hcs.frame0 (ho8.backS (T := []) (by simp) hq.fr)
   refine Rd.at hcs12 q rfl (List.getElem?_eq_getElem hqc) ?_
   have hbl : (be next 4 ++ [IntKind.wrap .u8 (Int.fdiv chunk.length (2 ^ 8)), IntKind.wrap .u8 chunk.length] ++ (chunk.take q).flatMap (be · 4)).length <= 1000000 := by
    rw [List.length_append, List.length_append, qah, qel, List.length_take, qta]; omega
   refine qpW bq hbl fun s13 B13 w13 b13 f13 n13 => ?_
   rw [wi' _ (by omega)]
   refine hY _ _ ⟨q + 1, B13, by simp, by omega, ?_, fun b hb => ?_, hq.frame f13 (fun b hb => .inr (nq b hb)) (fun p hp hb => ?_)⟩ (by dsimp only; omega)
   ·rw [List.take_succ_eq_append_getElem hqc, List.flatMap_append, List.flatMap_singleton, <- List.append_assoc]
    exact b13
   ·rcases n13 b hb with h | h
    ·exact nq b h
    ·exact Nat.le_trans hq.fr.size h
   ·have h1 := hLlt p.1 (List.mem_map_of_mem (f := (·.1)) hp)
    have h2 := nq _ hb
    omega
  ·have hqe : q = m := by have := of_decide_eq_false hc3; omega
   subst hqe
   rw [List.take_of_length_le (by omega)] at bq
   refine Own.ld (c := .slice) hq 4 rfl so rfl ?_
   have hrow : RdB (([l, Dm, rp, rl, ro, r1] ++ G) ++ Bo) w12 s12 (bodyV next chunk) := bq.rds qaq fun b hb hm => by
    have h2 := nq _ hb
    rcases List.mem_append.1 hm with hm | hm
    ·rcases List.mem_append.1 hm with hm | hm
     ·have := hLlt b hm; omega
     ·have := hG b hm; have := ho8.fr.size; omega
    ·have := hBlt b hm; omega
   have hbod12 : Bodies ([l, Dm, rp, rl, ro, r1] ++ G) w12 so (bodiesL numbers pages j) Bo := hbod8.frame (hq.fr.mono fun b hb _ => by rw [List.append_nil] at hb; exact List.mem_append_left _ hb) hBoG (fun b hb => .inl hb)
   refine Bodies.push hbod12 hrow (by rw [bodiesL, List.length_map, List.length_range]; omega) fun s13 B13 w13 b13 f13 n13 => ?_
   have hqb := (ho8.rejoin (T := []) (by simp) hq).frame f13 (fun b hb => .inr (hBo b hb).1) (fun p hp hb => (hBo _ hb).2 (List.mem_map_of_mem (f := (·.1)) hp))
   refine Own.st' hqb 4 rfl _ rfl rfl (Nat.le_of_ble_eq_true rfl) fun w14 hqb f14 => ?_
   refine ⟨hqb.at (i := 0) rfl, ?_⟩
   have hqc := hqb.upd (o' := R) 0 rfl
   refine cond_false rfl ?_
   refine Own.ld (c := .slice) hqc 3 rfl cl rfl ?_
   refine Rds.part hcl q (numbers.drop (123 * j)).length rfl (by rw [List.length_drop]; show (cl.len : Int) = _; omega) (by rw [List.length_drop]; omega) (Nat.le_refl _) fun cr hcrl hcr _ => ?_
   refine Own.st' hqc 3 rfl _ rfl rfl (Nat.le_of_ble_eq_true rfl) fun w15 hqd f15 => ?_
   rw [wi' _ (by omega)]
   have hB13 : ∀ b ∈ B13, w.heap.size <= b /\ b ∉ [l, Dm, rp, rl, ro, r1] := fun b hb => by
    rcases n13 b hb with h | h
    ·exact hBo b h
    ·have h1 := hq.fr.size
     refine ⟨?_, fun hm => ?_⟩
     ·have := ho8.fr.size; omega
     ·have := hLlt b hm; omega
   have ff : Fr [l, Dm, rp, rl, ro, r1] w13 w15 :=
    (f14.mono fun b hb _ => by simp at hb; subst hb; simp).trans' ((qb4 (qac (hqb.at (i := 0) rfl)) R).mono (T := [l, Dm, rp, rl, ro, r1]) fun b hb _ => by simp at hb; subst hb; simp) (fun b hb => .inl hb) |>.trans' (f15.mono (T := [l, Dm, rp, rl, ro, r1]) fun b hb _ => by simp at hb; subst hb; simp) (fun b hb => .inl hb)
   have hbod15 := b13.frame (ff.mono fun b hb _ => List.mem_append_left _ hb) (fun b hb hm => by
    rcases List.mem_append.1 hm with hm | hm
    ·exact (hB13 b hb).2 hm
    ·have := hG b hm; have := (hB13 b hb).1; omega) (fun b hb => .inl hb)
   have hcr2 : ((numbers.drop (123 * j)).take (numbers.drop (123 * j)).length).drop q = numbers.drop (123 * (j + 1)) := by
    rw [List.take_length, List.drop_drop]
    by_cases h : 123 < cl.len
    ·rw [show q = 123 by rw [hmle]; exact Nat.min_eq_left (by omega), Nat.mul_add]
    ·have : q = cl.len := by rw [hmle]; exact Nat.min_eq_right (by omega)
     rw [List.drop_eq_nil_of_le (by omega), List.drop_eq_nil_of_le (by omega)]
   rw [hcr2] at hcr
   have hbl : bodiesL numbers pages (j + 1) = bodiesL numbers pages j ++ [bodyV next chunk] := by
    rw [bodiesL, List.range_succ, List.map_append, List.map_singleton, hnx, <- hchunk]; rfl
   refine hX _ _ ⟨j + 1, cr, s13, B13, by simp, by omega, hcr, by rw [hbl]; exact hbod15, hB13, hqd⟩ (by omega)
 ·have hje : j = pages.length := by have := of_decide_eq_false hc; omega
  subst hje
  refine .inl ⟨ho7.at (i := 0) rfl, ?_⟩
  have ho8 := ho7.upd (o' := E0) 0 rfl
  refine Own.ld (c := .slice) ho8 4 rfl so rfl ?_
  refine Own.undefer ho8.rebase 1 rfl fun w13 hd => ?_
  have hb8 : Bodies ([l, Dm, rp, rl, ro, r1] ++ G) (Pt.upd w7 l E0) so (bodiesL numbers pages pages.length) Bo := hbod.frame ((qb4 (qac (ho7.at (i := 0) rfl)) E0).mono fun b hb _ => by simp at hb; subst hb; simp) hBoG (fun b hb => .inl hb)
  exact hk so Bo w13 (hb8.frame (S' := G) (hd.fr.mono fun b hb _ => List.mem_append_left _ hb) hBoG (fun b hb => .inl (List.mem_append_right _ hb))) (ho8.back (L' := []) hd.fr) (fun b hb => (hBo b hb).1)
end Go.Proofs.YtmbcedengdoamaaGreatDoor
end
section
set_option linter.unusedVariables false
set_option maxRecDepth 100000
namespace Go.Proofs.YtmbcedengdoamaaGreatDoor
open Go Go.Pt
@[reducible] def qtB : List Cell := [Cell.int IntKind.u32, Cell.int IntKind.u32, Cell.int IntKind.u32]
def qim (b : Sl) (n : Int) (K : Sl -> World -> Prop) (w : World) : Prop := new (Obj.cells #[.int .u8 (IntKind.wrap .u8 (Int.fdiv n (2 ^ 24))), .int .u8 (IntKind.wrap .u8 (Int.fdiv n (2 ^ 16))), .int .u8 (IntKind.wrap .u8 (Int.fdiv n (2 ^ 8))), .int .u8 (IntKind.wrap .u8 n)] 5) w <| fun r_1 w_2 => run [.one .slice] ((Builtin.append_ (#[22, 22]) 22 (#[.slice b.a b.len b.cap, .slice (some ⟨r_1, 0, none⟩) 4 4])).run Tryz.prog w_2) <| fun (s_3 : Sl) w_4 => K s_3 w_4
def qmj : List Ann := [.n, .n]
theorem qnV {b : Sl} {n : Int} {w : World} {K : Sl -> World -> Prop} (hF : qim b n K w) : call Tryz.prog 146 [.slice b.a b.len b.cap, .int .u32 n] [.one .slice] w K := qab (an := qmj) Tryz.func146 (by kernel_rfl) ((show fnPt (std Tryz.prog) Tryz.prog Tryz.f146 qmj [.one .slice] [.slice b.a b.len b.cap, .int .u32 n] K w = qim b n K w by kernel_rfl).mpr hF)
def qgA (s : List Value) (K : Sl -> World -> Prop) (w : World) : Prop := new (Obj.cells (List.toArray s) 58) w <| fun r_1 w_2 => ld (.int .u64) ⟨r_1, 0, none⟩ (World.drew w_2) <| fun (x_3 : Int) => ld (.int .u64) ⟨r_1, 0, none⟩ (World.drew w_2) <| fun (x_4 : Int) => call Tryz.prog 146 ([.slice none 0 0, .int .u32 (IntKind.wrap .u32 (Int.fdiv x_3 (2 ^ 32)))]) ([.one .slice]) (World.drew w_2) <| fun (s_5 : Sl) w_6 => held [fun w_7 => World.cell? w_7 ⟨r_1, 0, none⟩ = some (.int .u64 x_4)] w_6 <| call Tryz.prog 146 ([.slice s_5.a s_5.len s_5.cap, .int .u32 (IntKind.wrap .u32 x_4)]) ([.one .slice]) w_6 <| fun (s_8 : Sl) w_9 => ld (.int .u32) ⟨r_1, 1, none⟩ (World.drew w_9) <| fun (x_10 : Int) => ld (.int .u32) ⟨r_1, 2, none⟩ (World.drew w_9) <| fun (x_11 : Int) => ld (.int .u32) ⟨r_1, 3, none⟩ (World.drew w_9) <| fun (x_12 : Int) => call Tryz.prog 146 ([.slice s_8.a s_8.len s_8.cap, .int .u32 x_10]) ([.one .slice]) (World.drew w_9) <| fun (s_13 : Sl) w_14 => held [fun w_15 => World.cell? w_15 ⟨r_1, 3, none⟩ = some (.int .u32 x_12), fun w_16 => World.cell? w_16 ⟨r_1, 2, none⟩ = some (.int .u32 x_11)] w_14 <| call Tryz.prog 146 ([.slice s_13.a s_13.len s_13.cap, .int .u32 x_11]) ([.one .slice]) w_14 <| fun (s_17 : Sl) w_18 => held [fun w_19 => World.cell? w_19 ⟨r_1, 3, none⟩ = some (.int .u32 x_12)] w_18 <| call Tryz.prog 146 ([.slice s_17.a s_17.len s_17.cap, .int .u32 x_12]) ([.one .slice]) w_18 <| fun (s_20 : Sl) w_21 => ldV 24 ⟨r_1, 4, none⟩ w_21 <| fun (vs_22 : List Value) => loop (Sl × Int) (fun X_23 (t_24 : Sl × Int) w_25 => cond (decide (t_24.snd < 8)) (chk (0 <= t_24.snd /\ t_24.snd < (↑8 : Int)) <| fldA (qtB) vs_22 (Int.toNat t_24.snd * 3) <| fun (t_26 : Int × Int × Int) => new (Obj.cells #[.int .u32 0, .int .u32 0, .int .u32 0] 42) w_25 <| fun r_27 w_28 => st ⟨r_27, 0, none⟩ (HL.mk qtB t_26) w_28 <| fun w_29 => ld (.int .u32) ⟨r_27, 0, none⟩ (World.drew w_29) <| fun (x_30 : Int) => ld (.int .u32) ⟨r_27, 1, none⟩ (World.drew w_29) <| fun (x_31 : Int) => ld (.int .u32) ⟨r_27, 2, none⟩ (World.drew w_29) <| fun (x_32 : Int) => call Tryz.prog 146 ([.slice t_24.fst.a t_24.fst.len t_24.fst.cap, .int .u32 x_30]) ([.one .slice]) (World.drew w_29) <| fun (s_33 : Sl) w_34 => held [fun w_35 => World.cell? w_35 ⟨r_27, 2, none⟩ = some (.int .u32 x_32), fun w_36 => World.cell? w_36 ⟨r_27, 1, none⟩ = some (.int .u32 x_31)] w_34 <| call Tryz.prog 146 ([.slice s_33.a s_33.len s_33.cap, .int .u32 x_31]) ([.one .slice]) w_34 <| fun (s_37 : Sl) w_38 => held [fun w_39 => World.cell? w_39 ⟨r_27, 2, none⟩ = some (.int .u32 x_32)] w_38 <| call Tryz.prog 146 ([.slice s_37.a s_37.len s_37.cap, .int .u32 x_32]) ([.one .slice]) w_38 <| fun (s_40 : Sl) w_41 => X_23 ((s_40, IntKind.wrap .i64 (t_24.snd + 1))) w_41) (ld (.int .u64) ⟨r_1, 0, none⟩ w_25 <| fun (x_42 : Int) => call Tryz.prog 99 ([.int .u32 (IntKind.wrap .u32 (Int.tmod x_42 2)), .int .u8 1, .slice t_24.fst.a t_24.fst.len t_24.fst.cap]) ([.one .slice, .one (.int .i64)]) w_25 <| fun (t_43 : Sl × Int) w_44 => K t_43.fst w_44)) ((s_20, 0)) w_21
def qkc : List Ann := [.n, .n, .o [[0, 1, 2, 3, 5, 6, 7, 4, 8, 9]], .n, .o [[0, 1, 2, 4, 5, 7, 8, 3, 6, 9, 10]], .n, .n, .l [(3, .one .slice), (29, .one (.int .i64))], .n, .n, .n, .n, .o [[0, 1, 2, 4, 5, 7, 8, 3, 6, 9, 10]], .n, .n]
theorem qmw {s : List Value} {w : World} {K : Sl -> World -> Prop} (hF : qgA s K w) : call Tryz.prog 123 [.agg s.toArray] [.one .slice] w K := qab (an := qkc) Tryz.func123 (by kernel_rfl) ((show fnPt (std Tryz.prog) Tryz.prog Tryz.f123 qkc [.one .slice] [.agg s.toArray] K w = qgA s K w by kernel_rfl).mpr hF)
def qgU (b : Sl) (K : ((List Value)) -> World -> Prop) (w : World) : Prop := new (Obj.cells #[.slice b.a b.len b.cap] 22) w <| fun r_1 w_2 => newZ Tryz.prog 58 w_2 <| fun r_3 w_4 => newZ Tryz.prog 58 w_4 <| fun r_5 w_6 => callV Tryz.prog (Value.func (Fn.func 174) #[] #[.pointer (some ⟨r_1, 0, none⟩)]) [] ([.one (.int .u32)]) w_6 <| fun (x_7 : Int) w_8 => st ⟨r_5, 0, none⟩ ([.int .u64 (IntKind.wrap .u64 (IntKind.wrap .u64 x_7 * 2 ^ 32))]) w_8 <| fun w_9 => ld (.int .u64) ⟨r_5, 0, none⟩ (World.drew w_9) <| fun (x_10 : Int) => callV Tryz.prog (Value.func (Fn.func 174) #[] #[.pointer (some ⟨r_1, 0, none⟩)]) [] ([.one (.int .u32)]) (World.drew w_9) <| fun (x_11 : Int) w_12 => held [fun w_13 => World.cell? w_13 ⟨r_5, 0, none⟩ = some (.int .u64 x_10)] w_12 <| st ⟨r_5, 0, none⟩ ([.int .u64 (bits BinOp.or IntKind.u64 x_10 (IntKind.wrap .u64 x_11))]) w_12 <| fun w_14 => callV Tryz.prog (Value.func (Fn.func 174) #[] #[.pointer (some ⟨r_1, 0, none⟩)]) [] ([.one (.int .u32)]) w_14 <| fun (x_15 : Int) w_16 => st ⟨r_5, 1, none⟩ ([.int .u32 x_15]) w_16 <| fun w_17 => callV Tryz.prog (Value.func (Fn.func 174) #[] #[.pointer (some ⟨r_1, 0, none⟩)]) [] ([.one (.int .u32)]) w_17 <| fun (x_18 : Int) w_19 => st ⟨r_5, 2, none⟩ ([.int .u32 x_18]) w_19 <| fun w_20 => callV Tryz.prog (Value.func (Fn.func 174) #[] #[.pointer (some ⟨r_1, 0, none⟩)]) [] ([.one (.int .u32)]) w_20 <| fun (x_21 : Int) w_22 => st ⟨r_5, 3, none⟩ ([.int .u32 x_21]) w_22 <| fun w_23 => loop (Int) (fun X_24 (x_25 : Int) w_26 => cond (decide (x_25 < 8)) (chk (0 <= x_25 /\ x_25 < (↑8 : Int)) <| callV Tryz.prog (Value.func (Fn.func 174) #[] #[.pointer (some ⟨r_1, 0, none⟩)]) [] ([.one (.int .u32)]) w_26 <| fun (x_27 : Int) w_28 => st (Addr.add (Addr.add ⟨r_5, 4, none⟩ (Int.toNat x_25 * 3)) 0) ([.int .u32 x_27]) w_28 <| fun w_29 => callV Tryz.prog (Value.func (Fn.func 174) #[] #[.pointer (some ⟨r_1, 0, none⟩)]) [] ([.one (.int .u32)]) w_29 <| fun (x_30 : Int) w_31 => st (⟨(Addr.add (Addr.add ⟨r_5, 0, none⟩ 4) (Int.toNat x_25 * 3)).block, (Addr.add (Addr.add ⟨r_5, 0, none⟩ 4) (Int.toNat x_25 * 3)).off + 1, none⟩) ([.int .u32 x_30]) w_31 <| fun w_32 => callV Tryz.prog (Value.func (Fn.func 174) #[] #[.pointer (some ⟨r_1, 0, none⟩)]) [] ([.one (.int .u32)]) w_32 <| fun (x_33 : Int) w_34 => st (⟨(Addr.add (Addr.add ⟨r_5, 0, none⟩ 4) (Int.toNat x_25 * 3)).block, (Addr.add (Addr.add ⟨r_5, 0, none⟩ 4) (Int.toNat x_25 * 3)).off + 2, none⟩) ([.int .u32 x_33]) w_34 <| fun w_35 => X_24 (IntKind.wrap .i64 (x_25 + 1)) w_35) (ldV 28 ⟨r_5, 0, none⟩ w_26 <| fun (vs_36 : List Value) => chk (List.length vs_36 = 28) <| st ⟨r_3, 0, none⟩ vs_36 w_26 <| fun w_37 => ldV 28 ⟨r_3, 0, none⟩ w_37 <| fun (vs_38 : List Value) => K vs_38 w_37)) 0 w_23
def qjx : List Ann := [.n, .n, .n, .n, .n, .o [[0, 1, 2, 3, 4, 5, 6, 7]], .n, .n, .n, .n, .n, .l [(29, .one (.int .i64))], .n, .n, .n, .n, .n, .n, .n, .n]
theorem qmz {b : Sl} {w : World} {K : ((List Value)) -> World -> Prop} (hF : qgU b K w) : call Tryz.prog 158 [.slice b.a b.len b.cap] [.raw] w K := qab (an := qjx) Tryz.func158 (by kernel_rfl) ((show fnPt (std Tryz.prog) Tryz.prog Tryz.f158 qjx [.raw] [.slice b.a b.len b.cap] K w = qgU b K w by kernel_rfl).mpr hF)
def qei (cap0 : Addr) (K : Int -> World -> Prop) (w : World) : Prop := ld .slice cap0 (World.drew w) <| fun (s_1 : Sl) => idx s_1 0 1 <| fun a_2 => ld (.int .u8) a_2 (World.drew w) <| fun (x_3 : Int) => ld .slice cap0 (World.drew w) <| fun (s_4 : Sl) => idx s_4 1 1 <| fun a_5 => ld (.int .u8) a_5 (World.drew w) <| fun (x_6 : Int) => ld .slice cap0 (World.drew w) <| fun (s_7 : Sl) => idx s_7 2 1 <| fun a_8 => ld (.int .u8) a_8 (World.drew w) <| fun (x_9 : Int) => ld .slice cap0 (World.drew w) <| fun (s_10 : Sl) => idx s_10 3 1 <| fun a_11 => ld (.int .u8) a_11 (World.drew w) <| fun (x_12 : Int) => ld .slice cap0 (World.drew w) <| fun (s_13 : Sl) => slc s_13 (some 4) none none 1 <| fun (s_14 : Sl) => st cap0 ([.slice s_14.a s_14.len s_14.cap]) (World.drew w) <| fun w_15 => K (bits BinOp.or IntKind.u32 (bits BinOp.or IntKind.u32 (bits BinOp.or IntKind.u32 (IntKind.wrap .u32 (IntKind.wrap .u32 x_3 * 2 ^ 24)) (IntKind.wrap .u32 (IntKind.wrap .u32 x_6 * 2 ^ 16))) (IntKind.wrap .u32 (IntKind.wrap .u32 x_9 * 2 ^ 8))) (IntKind.wrap .u32 x_12)) w_15
def qg8 : List Ann := [.n, .n, .o [[0, 1, 2, 3, 4, 5, 6, 7, 8, 9, 10, 11, 12, 13, 14, 15, 16, 17, 18, 19, 20, 21, 22]], .n, .n]
theorem qkv {cap0 : Addr} {w : World} {K : Int -> World -> Prop} (hF : qei cap0 K w) : call Tryz.prog 174 [.pointer (some cap0)] [.one (.int .u32)] w K := qab (an := qg8) Tryz.func174 (by kernel_rfl) ((show fnPt (std Tryz.prog) Tryz.prog Tryz.f174 qg8 [.one (.int .u32)] [.pointer (some cap0)] K w = qei cap0 K w by kernel_rfl).mpr hF)
def qhu (place : Int) (b : Sl) (K : ((List Value) × Int) -> World -> Prop) (w : World) : Prop := newZ Tryz.prog 58 w <| fun r_1 w_2 => join (Bool) (fun X_3 => cond (!place == 0) (X_3 (!place == 1) w_2) (X_3 false w_2)) <| fun (b_4 : Bool) w_5 => cond b_4 (runQ [.raw] (fun w_6 => (Instr.build 58 #[]).run Tryz.prog w_6) w_5 <| fun (vs_7 : List Value) => chk (List.length vs_7 = 28) <| st ⟨r_1, 0, none⟩ vs_7 w_5 <| fun w_8 => ldV 28 ⟨r_1, 0, none⟩ w_8 <| fun (vs_9 : List Value) => K ((vs_9, 1)) w_8) (call Tryz.prog 85 ([.int .u32 (IntKind.wrap .u32 place), .slice b.a b.len b.cap]) ([.one (.int .u8), .one .slice, .one (.int .i64)]) w_5 <| fun (t_10 : Int × Sl × Int) w_11 => cond (!t_10.snd.snd == 0) (runQ [.raw] (fun w_12 => (Instr.build 58 #[]).run Tryz.prog w_12) w_11 <| fun (vs_13 : List Value) => chk (List.length vs_13 = 28) <| st ⟨r_1, 0, none⟩ vs_13 w_11 <| fun w_14 => ldV 28 ⟨r_1, 0, none⟩ w_14 <| fun (vs_15 : List Value) => K ((vs_15, t_10.snd.snd)) w_14) (join (Bool) (fun X_16 => cond (!t_10.fst == 1) (X_16 true w_11) (X_16 (!(↑t_10.snd.fst.len : Int) == 116) w_11)) <| fun (b_17 : Bool) w_18 => cond b_17 (runQ [.raw] (fun w_19 => (Instr.build 58 #[]).run Tryz.prog w_19) w_18 <| fun (vs_20 : List Value) => chk (List.length vs_20 = 28) <| st ⟨r_1, 0, none⟩ vs_20 w_18 <| fun w_21 => ldV 28 ⟨r_1, 0, none⟩ w_21 <| fun (vs_22 : List Value) => K ((vs_22, 2)) w_21) (call Tryz.prog 158 ([.slice t_10.snd.fst.a t_10.snd.fst.len t_10.snd.fst.cap]) [.raw] w_18 <| fun (vs_23 : List Value) w_24 => newZ Tryz.prog 58 w_24 <| fun r_25 w_26 => chk (List.length vs_23 = 28) <| st ⟨r_25, 0, none⟩ vs_23 w_26 <| fun w_27 => ld (.int .u64) ⟨r_25, 0, none⟩ w_27 <| fun (x_28 : Int) => cond (!Int.tmod x_28 2 == IntKind.wrap .u64 place) (runQ [.raw] (fun w_29 => (Instr.build 58 #[]).run Tryz.prog w_29) w_27 <| fun (vs_30 : List Value) => chk (List.length vs_30 = 28) <| st ⟨r_1, 0, none⟩ vs_30 w_27 <| fun w_31 => ldV 28 ⟨r_1, 0, none⟩ w_31 <| fun (vs_32 : List Value) => K ((vs_32, 2)) w_31) (ldV 28 ⟨r_25, 0, none⟩ w_27 <| fun (vs_33 : List Value) => chk (List.length vs_33 = 28) <| st ⟨r_1, 0, none⟩ vs_33 w_27 <| fun w_34 => ldV 28 ⟨r_1, 0, none⟩ w_34 <| fun (vs_35 : List Value) => K ((vs_35, 0)) w_34))))
def qkJ : List Ann := [.n, .n, .j [(15, .one .bool)], .n, .n, .n, .n, .n, .n, .j [(35, .one .bool)], .n, .n, .n, .n, .n, .n]
theorem qnw {place : Int} {b : Sl} {w : World} {K : ((List Value) × Int) -> World -> Prop} (hF : qhu place b K w) : call Tryz.prog 130 [.int .i64 place, .slice b.a b.len b.cap] [.raw, .one (.int .i64)] w K := qab (an := qkJ) Tryz.func130 (by kernel_rfl) ((show fnPt (std Tryz.prog) Tryz.prog Tryz.f130 qkJ [.raw, .one (.int .i64)] [.int .i64 place, .slice b.a b.len b.cap] K w = qhu place b K w by kernel_rfl).mpr hF)
def qfT (a : Sl) (b : Sl) (K : ((List Value) × Int) -> World -> Prop) (w : World) : Prop := newZ Tryz.prog 58 w <| fun r_1 w_2 => call Tryz.prog 130 ([.int .i64 0, .slice a.a a.len a.cap]) ([.raw, .one (.int .i64)]) w_2 <| fun (t_3 : List Value × Int) w_4 => newZ Tryz.prog 58 w_4 <| fun r_5 w_6 => chk (List.length t_3.fst = 28) <| st ⟨r_5, 0, none⟩ t_3.fst w_6 <| fun w_7 => call Tryz.prog 130 ([.int .i64 1, .slice b.a b.len b.cap]) ([.raw, .one (.int .i64)]) w_7 <| fun (t_8 : List Value × Int) w_9 => newZ Tryz.prog 58 w_9 <| fun r_10 w_11 => chk (List.length t_8.fst = 28) <| st ⟨r_10, 0, none⟩ t_8.fst w_11 <| fun w_12 => join (Bool) (fun X_13 => cond (!t_3.snd == 0) (X_13 (!t_8.snd == 0) w_12) (X_13 false w_12)) <| fun (b_14 : Bool) w_15 => cond b_14 (runQ [.raw] (fun w_16 => (Instr.build 58 #[]).run Tryz.prog w_16) w_15 <| fun (vs_17 : List Value) => chk (List.length vs_17 = 28) <| st ⟨r_1, 0, none⟩ vs_17 w_15 <| fun w_18 => ldV 28 ⟨r_1, 0, none⟩ w_18 <| fun (vs_19 : List Value) => K ((vs_19, 5)) w_18) (join (Bool) (fun X_20 => cond (!t_3.snd == 0) (X_20 true w_15) (cond (t_8.snd == 0) (ld (.int .u64) ⟨r_10, 0, none⟩ w_15 <| fun (x_21 : Int) => ld (.int .u64) ⟨r_5, 0, none⟩ w_15 <| fun (x_22 : Int) => X_20 (decide (x_21 > x_22)) w_15) (X_20 false w_15))) <| fun (b_23 : Bool) w_24 => cond b_23 (ldV 28 ⟨r_10, 0, none⟩ w_24 <| fun (vs_25 : List Value) => chk (List.length vs_25 = 28) <| st ⟨r_1, 0, none⟩ vs_25 w_24 <| fun w_26 => ldV 28 ⟨r_1, 0, none⟩ w_26 <| fun (vs_27 : List Value) => K ((vs_27, 0)) w_26) (ldV 28 ⟨r_5, 0, none⟩ w_24 <| fun (vs_28 : List Value) => chk (List.length vs_28 = 28) <| st ⟨r_1, 0, none⟩ vs_28 w_24 <| fun w_29 => ldV 28 ⟨r_1, 0, none⟩ w_29 <| fun (vs_30 : List Value) => K ((vs_30, 0)) w_29))
def qi8 : List Ann := [.n, .n, .n, .n, .j [(20, .one .bool)], .n, .j [(28, .one .bool)], .n, .n]
theorem qmt {a : Sl} {b : Sl} {w : World} {K : ((List Value) × Int) -> World -> Prop} (hF : qfT a b K w) : call Tryz.prog 104 [.slice a.a a.len a.cap, .slice b.a b.len b.cap] [.raw, .one (.int .i64)] w K := qab (an := qi8) Tryz.func104 (by kernel_rfl) ((show fnPt (std Tryz.prog) Tryz.prog Tryz.f104 qi8 [.raw, .one (.int .i64)] [.slice a.a a.len a.cap, .slice b.a b.len b.cap] K w = qfT a b K w by kernel_rfl).mpr hF)
end Go.Proofs.YtmbcedengdoamaaGreatDoor
end
section
set_option linter.unusedVariables false
set_option linter.unusedSimpArgs false
namespace Go.Proofs.YtmbcedengdoamaaGreatDoor
open Go Go.Pt
attribute [local irreducible] ld ldA ldV fld fldA newZ st new idx idxS idxA slc slcS slcP mkS chk nn call callV inv run runQ runU join loop held ext rng undefer s2a IntKind.wrap
def supV (q : Int) (t : List Int) : List Value := .int .u64 q :: t.map (Value.int .u32)
def superB (q : Int) (t : List Int) : List Int := be (IntKind.wrap .u32 (Int.fdiv q (2 ^ 32))) 4 ++ be (IntKind.wrap .u32 q) 4 ++ t.flatMap (be · 4)
theorem qcl {q : Int} {t : List Int} (ht : t.length = 27) : (superB q t).length = 116 := by
 rw [superB, List.length_append, List.length_append, qah, qah, qel, ht]
theorem qav {q : Int} {t : List Int} (ht : t.length = 27) : (supV q t).length = 28 := by simp [supV, ht]
theorem qcB {q : Int} {t : List Int} (n : Nat) (h : n < t.length) : (supV q t).toArray[n + 1]? = some (.int .u32 (t.getD n 0)) := by
 simp [supV, List.getD_eq_getElem?_getD, List.getElem?_eq_getElem h]
theorem qe0 (q : Int) (t : List Int) : ((supV q t).all Value.oneCell') = true := by
 rw [List.all_eq_true]
 intro v hv
 rcases List.mem_cons.1 hv with rfl | hv
 ·rfl
 ·obtain ⟨x, _, rfl⟩ := List.mem_map.1 hv; rfl
theorem qn0 {α : Type} {enc : α -> List Value} {k : Nat} {w : World} {s : Sl} {l : List α} {B : List Nat} (h : Buf enc k w s l B) : Buf enc k w.drew s l B := h
def Apart (w0 : World) (L : List (Nat × Obj)) (B : List Nat) : Prop := ∀ b ∈ B, w0.heap.size <= b /\ b ∉ L.map (·.1)
theorem Apart.cons {w0 : World} {L : List (Nat × Obj)} {B : List Nat} {r : Nat} {o : Obj} (h : Apart w0 L B) (hr : r ∉ B) : Apart w0 ((r, o) :: L) B := fun b hb => ⟨(h b hb).1, fun hm => by
 rcases List.mem_cons.1 hm with rfl | hm
 ·exact hr hb
 ·exact (h b hb).2 hm⟩
theorem Apart.tail {w0 : World} {L : List (Nat × Obj)} {B : List Nat} {p : Nat × Obj} (h : Apart w0 (p :: L) B) : Apart w0 L B := fun b hb => ⟨(h b hb).1, fun hm => (h b hb).2 (List.mem_cons_of_mem _ hm)⟩
theorem qqg {l : List Int} {j : Nat} (h : j + 3 <= l.length) : l.drop j = l.getD j 0 :: l.getD (j + 1) 0 :: l.getD (j + 2) 0 :: l.drop (j + 3) := by
 rw [List.drop_eq_getElem_cons (by omega), List.drop_eq_getElem_cons (i := j + 1) (by omega), List.drop_eq_getElem_cons (i := j + 1 + 1) (by omega)]
 simp only [List.getD_eq_getElem?_getD]
 rw [List.getElem?_eq_getElem (show j < l.length by omega), List.getElem?_eq_getElem (show j + 1 < l.length by omega), List.getElem?_eq_getElem (show j + 2 < l.length by omega)]
 rfl
theorem qtN {l : List Int} {j : Nat} (h : j + 3 <= l.length) : l.take (j + 3) = l.take j ++ [l.getD j 0, l.getD (j + 1) 0, l.getD (j + 2) 0] := by
 rw [List.take_add, qqg h]
 rfl
theorem qtV {l : List Int} {j : Nat} (h : j + 3 <= l.length) : (l.map (Value.int .u32)).extract j (j + 3) = [.int .u32 (l.getD j 0), .int .u32 (l.getD (j + 1) 0), .int .u32 (l.getD (j + 2) 0)] := by
 rw [List.extract_eq_take_drop, <- List.map_drop, qqg h, show j + 3 - j = 3 by omega]
 rfl
theorem qd7 {w0 w : World} {L : List (Nat × Obj)} {s : Sl} {l : List Int} {B : List Nat} {n : Int} {K : Sl -> World -> Prop} (ho : Own [] w0 w L) (h : BufB w s l B) (hB : Apart w0 L B) (hl : l.length <= 1000000)
  (hk : ∀ s' B' w', Own [] w0 w' L -> BufB w' s' (l ++ be n 4) B' -> Apart w0 L B' -> K s' w') :
  call Tryz.prog 146 [.slice s.a s.len s.cap, .int .u32 n] [.one .slice] w K := by
 refine qnV (b := s) ?_
 unfold qim
 refine qm1 h hl fun s' B' w' b' f' n' => ?_
 refine hk s' B' w' (ho.frame f' (fun b hb => .inr (hB b hb).1) (fun p hp hb => (hB _ hb).2 (List.mem_map_of_mem hp))) b' fun b hb => ?_
 rcases n' b hb with h1 | h1
 ·exact hB b h1
 ·refine ⟨Nat.le_trans ho.fr.size h1, fun hm => ?_⟩
  obtain ⟨p, hp, rfl⟩ := List.mem_map.1 hm
  have := qac (ho.blk p hp)
  omega
theorem qrJ {w : World} {q : Int} {t : List Int} {K : Sl -> World -> Prop} (hv : Hv w) (ht : t.length = 27)
  (hk : ∀ b T w', w'.heap[b]? = some (.cells (bytesA (sealV (IntKind.wrap .u32 (Int.tmod q 2)) 1 (superB q t))) T (0, 0)) -> Fr [] w w' -> w.heap.size <= b -> K ⟨some ⟨b, 0, none⟩, 512, 512⟩ w') :
  call Tryz.prog 123 [.agg (supV q t).toArray] [.one .slice] w K := by
 refine qmw (s := supV q t) ?_
 unfold qgA
 refine Own.new' (Own.start [] w) fun r1 w1 e1 f1 ho => ?_
 have c0 : (supV q t).toArray[0]? = some (.int .u64 q) := rfl
 have cn := fun n (h : n < 27) => qcB (q := q) (t := t) n (by omega)
 refine Own.ld (c := .int .u64) ho.drew 0 rfl q c0 ?_
 refine Own.ld (c := .int .u64) ho.drew 0 rfl q c0 ?_
 refine qd7 (s := ⟨none, 0, 0⟩) (l := []) (B := []) ho.drew (.nil _ _ _) (fun b hb => by cases hb) (by simp) fun s5 B5 w6 ho b5 n5 => ?_
 refine qar (ho.cell (off := 0) 0 rfl c0) ?_
 refine qd7 ho b5 n5 (by simp [qah]) fun s8 B8 w9 ho b8 n8 => ?_
 refine Own.ld (c := .int .u32) ho.drew 0 rfl (t.getD 0 0) (cn 0 (by decide)) ?_
 refine Own.ld (c := .int .u32) ho.drew 0 rfl (t.getD 1 0) (cn 1 (by decide)) ?_
 refine Own.ld (c := .int .u32) ho.drew 0 rfl (t.getD 2 0) (cn 2 (by decide)) ?_
 refine qd7 ho.drew (qn0 b8) n8 (by simp [qah]) fun s13 B13 w14 ho b13 n13 => ?_
 refine qaW (ho.cell (off := 3) 0 rfl (cn 2 (by decide))) (ho.cell (off := 2) 0 rfl (cn 1 (by decide))) ?_
 refine qd7 ho b13 n13 (by simp [qah]) fun s17 B17 w18 ho b17 n17 => ?_
 refine qar (ho.cell (off := 3) 0 rfl (cn 2 (by decide))) ?_
 refine qd7 ho b17 n17 (by simp [qah]) fun s20 B20 w21 ho b20 n20 => ?_
 have hr : ((supV q t).toArray.toList.drop 4).take 24 = (t.drop 3).map (Value.int .u32) := by
  show (List.drop 3 (t.map (Value.int .u32))).take 24 = _
  rw [List.map_drop, List.take_of_length_le (by rw [List.length_drop, List.length_map, ht]; decide)]
 refine qaw (ho.at (i := 0) rfl) ((t.drop 3).map (Value.int .u32)) (by rw [List.length_map, List.length_drop, ht]) hr ?_
 have hl3 : (t.drop 3).length = 24 := by rw [List.length_drop, ht]
 have ht3 : t = [t.getD 0 0, t.getD 1 0, t.getD 2 0] ++ t.drop 3 := by
  have := qqg (l := t) (j := 0) (by omega)
  rw [List.drop_zero] at this
  exact this
 have base : [] ++ be (IntKind.wrap .u32 (Int.fdiv q (2 ^ 32))) 4 ++ be (IntKind.wrap .u32 q) 4 ++ be (t.getD 0 0) 4 ++ be (t.getD 1 0) 4 ++ be (t.getD 2 0) 4 = be (IntKind.wrap .u32 (Int.fdiv q (2 ^ 32))) 4 ++ be (IntKind.wrap .u32 q) 4 ++ [t.getD 0 0, t.getD 1 0, t.getD 2 0].flatMap (be · 4) := by
  simp
 rw [base] at b20
 refine qaf (fun x w' => ∃ (i : Nat) (B : List Nat), x.2 = i /\ i <= 8 /\ BufB w' x.1 (be (IntKind.wrap .u32 (Int.fdiv q (2 ^ 32))) 4 ++ be (IntKind.wrap .u32 q) 4 ++ [t.getD 0 0, t.getD 1 0, t.getD 2 0].flatMap (be · 4) ++ ((t.drop 3).take (3 * i)).flatMap (be · 4)) B /\ Own [] w w' [(r1, .cells (supV q t).toArray 58 (0, 0))] /\ Apart w [(r1, .cells (supV q t).toArray 58 (0, 0))] B) (fun x _ => (8 - x.2).toNat)
  ⟨0, B20, rfl, by omega, by simpa using b20, ho, n20⟩ ?_
 rintro ⟨s, ii⟩ w2 ⟨i, B, hi0, hi8, bb, ho, nb⟩ X hX
 simp only at hi0 bb
 subst hi0
 dsimp only
 have hlen : (be (IntKind.wrap .u32 (Int.fdiv q (2 ^ 32))) 4 ++ be (IntKind.wrap .u32 q) 4 ++ [t.getD 0 0, t.getD 1 0, t.getD 2 0].flatMap (be · 4) ++ ((t.drop 3).take (3 * i)).flatMap (be · 4)).length <= 200 := by
  rw [List.length_append, List.length_append, List.length_append, qah, qah, qel, qel, List.length_take, hl3]
  show 4 + 4 + 3 * 4 + _ <= 200
  omega
 refine qaa (fun hc => ?_) (fun hc => ?_)
 ·have hi : i < 8 := by have := of_decide_eq_true hc; omega
  refine qan ⟨by omega, by omega⟩ ?_
  have h3 : 3 * i + 3 <= (t.drop 3).length := by omega
  refine qsz ((t.drop 3).getD (3 * i) 0, (t.drop 3).getD (3 * i + 1) 0, (t.drop 3).getD (3 * i + 2) 0) ?_ ?_
  ·have := qtV h3
   rw [show Int.toNat (i : Int) * 3 = 3 * i by simp; omega]
   exact this
  refine Own.new' ho fun r2 w3 e3 f3 ho2 => ?_
  refine Own.st' ho2 0 rfl _ rfl rfl (Nat.le_of_ble_eq_true rfl) fun w4 ho2 f4 => ?_
  have hlt := bb.lt
  have hr2 : r2 ∉ B := fun hb => by have := hlt _ hb; omega
  have bb := (bb.frame0 f3).frame f4 (fun b hb hm => by simp only [List.mem_singleton] at hm; subst hm; exact hr2 hb)
  refine Own.ld (c := .int .u32) ho2.drew 0 rfl ((t.drop 3).getD (3 * i) 0) rfl ?_
  refine Own.ld (c := .int .u32) ho2.drew 0 rfl ((t.drop 3).getD (3 * i + 1) 0) rfl ?_
  refine Own.ld (c := .int .u32) ho2.drew 0 rfl ((t.drop 3).getD (3 * i + 2) 0) rfl ?_
  refine qd7 ho2.drew (qn0 bb) (nb.cons hr2) (by omega) fun s5 B5 w5 ho2 b5 n5 => ?_
  refine qaW (ho2.cell (off := 2) 0 rfl rfl) (ho2.cell (off := 1) 0 rfl rfl) ?_
  refine qd7 ho2 b5 n5 (by rw [List.length_append, qah]; omega) fun s6 B6 w6 ho2 b6 n6 => ?_
  refine qar (ho2.cell (off := 2) 0 rfl rfl) ?_
  refine qd7 ho2 b6 n6 (by rw [List.length_append, List.length_append, qah, qah]; omega) fun s7 B7 w7 ho2 b7 n7 => ?_
  rw [wi' _ (by omega)]
  refine hX _ _ ⟨i + 1, B7, by simp, by omega, ?_, ho2.sub (List.sublist_cons_self _ _), n7.tail⟩ (by dsimp only; omega)
  rw [show 3 * (i + 1) = 3 * i + 3 by omega, qtN h3, List.flatMap_append]
  have e : ([(t.drop 3).getD (3 * i) 0, (t.drop 3).getD (3 * i + 1) 0, (t.drop 3).getD (3 * i + 2) 0] : List Int).flatMap (be · 4) = be ((t.drop 3).getD (3 * i) 0) 4 ++ be ((t.drop 3).getD (3 * i + 1) 0) 4 ++ be ((t.drop 3).getD (3 * i + 2) 0) 4 := by simp
  rw [e]
  simpa only [List.append_assoc] using b7
 ·obtain rfl : i = 8 := by have := of_decide_eq_false hc; omega
  rw [List.take_of_length_le (by omega), List.append_assoc, <- List.flatMap_append, <- ht3] at bb
  refine Own.ld (c := .int .u64) ho 0 rfl q c0 ?_
  have hb := bb.rds (S := []) qaq (by simp)
  refine qmG hb (hv.frame0 ho.fr) (by show (superB q t).length <= _; rw [qcl ht]; decide) (fun h => ?_) fun _ b T w5 h5 f5 n5 => ?_
  ·have h' : 500 < (superB q t).length := h
   rw [qcl ht] at h'
   exact absurd h' (by decide)
  ·exact hk b T w5 h5 (ho.fr.trans' f5 (by simp)) (Nat.le_trans ho.fr.size n5)
theorem qd4 {w0 w : World} {L : List (Nat × Obj)} {r : Nat} {s : Sl} {l : List Int} {K : Int -> World -> Prop} (ho : Own [] w0 w L) (i : Nat) (hi : L[i]? = some (r, .cells #[.slice s.a s.len s.cap] 22 (0, 0))) (h : RdB [] w0 s l) (hl : 4 <= l.length)
  (hk : ∀ s' w', RdB [] w0 s' (l.drop 4) -> Own [] w0 w' (L.set i (r, .cells #[.slice s'.a s'.len s'.cap] 22 (0, 0))) -> K (first4 l) w') :
  callV Tryz.prog (.func (.func 174) #[] #[.pointer (some ⟨r, 0, none⟩)]) [] [.one (.int .u32)] w K := by
 refine qqE (lb := [.pointer (some ⟨r, 0, none⟩)]) rfl (by kernel_rfl) ?_
 refine qkv ?_
 unfold qei
 have hd := ho.drew
 have hw : RdB [] w.drew s l := h.frame0 hd.fr
 refine Own.ld (c := .slice) hd i hi s rfl ?_
 refine RdB.at hw 0 rfl (getD_some (by omega)) ?_
 refine Own.ld (c := .slice) hd i hi s rfl ?_
 refine RdB.at hw 1 rfl (getD_some (by omega)) ?_
 refine Own.ld (c := .slice) hd i hi s rfl ?_
 refine RdB.at hw 2 rfl (getD_some (by omega)) ?_
 refine Own.ld (c := .slice) hd i hi s rfl ?_
 refine RdB.at hw 3 rfl (getD_some (by omega)) ?_
 refine Own.ld (c := .slice) hd i hi s rfl ?_
 refine Rds.drop h 4 rfl hl (by omega) fun s' h' => ?_
 refine Own.st hd i hi _ rfl rfl rfl fun w' ho' _ => ?_
 exact hk s' w' h' ho'
def parseQ (l : List Int) : Int := bits .or .u64 (IntKind.wrap .u64 (IntKind.wrap .u64 (first4 l) * 2 ^ 32)) (IntKind.wrap .u64 (first4 (l.drop 4)))
def parseT (l : List Int) : List Int := (List.range 27).map fun i => first4 (l.drop (8 + 4 * i))
theorem qaK (l : List Int) : (parseT l).length = 27 := by simp [parseT]
def supN (q : Int) (f : Nat -> Int) (n : Nat) : Array Value := (supV q ((List.range n).map f ++ zs (27 - n))).toArray
theorem qiw {q x y : Int} {A Z : List Int} : splice (supV q (A ++ x :: Z)).toArray (A.length + 1) [.int .u32 y] = (supV q (A ++ y :: Z)).toArray := by
 apply Array.ext'
 have := qgP (.int .u64 q :: A.map (Value.int .u32)) [Value.int .u32 x] [Value.int .u32 y] (Z.map (Value.int .u32)) rfl
 rw [qau _ _ _ (by simp [supV])]
 simpa [supV] using this
theorem qbL {q : Int} {f : Nat -> Int} {n : Nat} (h : n < 27) : splice (supN q f n) (n + 1) [.int .u32 (f n)] = supN q f (n + 1) := by
 have hz : zs (27 - n) = 0 :: zs (27 - (n + 1)) := by rw [show 27 - n = (27 - (n + 1)) + 1 by omega]; rfl
 have := qiw (q := q) (x := 0) (y := f n) (A := (List.range n).map f) (Z := zs (27 - (n + 1)))
 rw [List.length_map, List.length_range] at this
 rw [supN, hz, this, supN, List.range_succ, List.map_append, List.append_assoc]
 rfl
theorem qrb {q q' : Int} {f : Nat -> Int} {n : Nat} : splice (supN q f n) 0 [.int .u64 q'] = supN q' f n := by
 apply Array.ext'
 rw [qau _ _ _ (by simp [supN, supV])]
 simp [supN, supV]
theorem qdr {q : Int} {f : Nat -> Int} {n : Nat} (h : n <= 27) : (supN q f n).size = 28 := by
 simp [supN, supV, qaC]; omega
theorem qm0 {q : Int} {f : Nat -> Int} : supN q f 27 = (supV q ((List.range 27).map f)).toArray := by
 show (supV q ((List.range 27).map f ++ [])).toArray = _
 rw [List.append_nil]
theorem qq2 {S : List Nat} {w : World} {s : Sl} {l : List Int} {K : List Value -> World -> Prop} (h : RdB S w s l) (hl : l.length = 116)
  (hk : ∀ w', Fr [] w w' -> K (supV (parseQ l) (parseT l)) w') :
  call Tryz.prog 158 [.slice s.a s.len s.cap] [.raw] w K := by
 refine qmz (b := s) ?_
 unfold qgU
 have h0 : RdB [] w s l := h.weak (by simp)
 have hz : ((Tryz.prog.info? 58).bind (·.zero)).map (fun z => z.cells.toList) = some (supV 0 (zs 27)) := by kernel_rfl
 refine Own.new' (Own.start [] w) fun r1 w1 e1 f1 ho => ?_
 refine Own.newZ ho hz fun r3 w2 e3 ho => ?_
 refine Own.newZ ho hz fun r5 w3 e5 ho => ?_
 refine qd4 ho 2 rfl h0 (by omega) fun s1 w4 h1 ho => ?_
 have st0 : ∀ (q : Int), (supV q (zs 27)).toArray = supN q (fun i => first4 (l.drop (8 + 4 * i))) 0 := fun q => rfl
 refine Own.st' ho 0 rfl (supN (IntKind.wrap .u64 (IntKind.wrap .u64 (first4 l) * 2 ^ 32)) (fun i => first4 (l.drop (8 + 4 * i))) 0) ?_ rfl ?_ fun w5 ho _ => ?_
 ·rw [st0 0]; exact qrb
 ·exact Nat.le_of_ble_eq_true rfl
 refine Own.ld (c := .int .u64) ho.drew 0 rfl (IntKind.wrap .u64 (IntKind.wrap .u64 (first4 l) * 2 ^ 32)) rfl ?_
 refine qd4 ho.drew 2 rfl h1 (by rw [List.length_drop]; omega) fun s2 w6 h2 ho => ?_
 refine qar (ho.cell (off := 0) 0 rfl rfl) ?_
 refine Own.st' ho 0 rfl (supN (parseQ l) (fun i => first4 (l.drop (8 + 4 * i))) 0) qrb rfl (Nat.le_of_ble_eq_true rfl) fun w7 ho _ => ?_
 rw [List.drop_drop] at h2
 refine qd4 ho 2 rfl h2 (by rw [List.length_drop]; omega) fun s3 w8 h3 ho => ?_
 refine Own.st' ho 0 rfl (supN (parseQ l) (fun i => first4 (l.drop (8 + 4 * i))) 1) (qbL (by decide)) rfl (by show 1 + 1 <= _; rw [qdr (by decide)]; decide) fun w9 ho _ => ?_
 rw [List.drop_drop] at h3
 refine qd4 ho 2 rfl h3 (by rw [List.length_drop]; omega) fun s4 w10 h4 ho => ?_
 refine Own.st' ho 0 rfl (supN (parseQ l) (fun i => first4 (l.drop (8 + 4 * i))) 2) (qbL (by decide)) rfl (by show 2 + 1 <= _; rw [qdr (by decide)]; decide) fun w11 ho _ => ?_
 rw [List.drop_drop] at h4
 refine qd4 ho 2 rfl h4 (by rw [List.length_drop]; omega) fun s5 w12 h5 ho => ?_
 refine Own.st' ho 0 rfl (supN (parseQ l) (fun i => first4 (l.drop (8 + 4 * i))) 3) (qbL (by decide)) rfl (by show 3 + 1 <= _; rw [qdr (by decide)]; decide) fun w13 ho _ => ?_
 rw [List.drop_drop] at h5
 refine qaf (fun x w' => ∃ (i : Nat) (sx : Sl), x = i /\ i <= 8 /\ RdB [] w sx (l.drop (20 + 12 * i)) /\
   Own [] w w' [(r5, .cells (supN (parseQ l) (fun i => first4 (l.drop (8 + 4 * i))) (3 + 3 * i)) 58 (0, 0)), (r3, .cells (supV 0 (zs 27)).toArray 58 (0, 0)), (r1, .cells #[.slice sx.a sx.len sx.cap] 22 (0, 0))]) (fun x _ => (8 - x).toNat)
  ⟨0, s5, rfl, by omega, h5, ho⟩ ?_
 rintro x w14 ⟨i, sx, rfl, hi8, hx, ho⟩ X hX
 refine qaa (fun hc => ?_) (fun hc => ?_)
 ·have hi : i < 8 := by have := of_decide_eq_true hc; omega
  refine qan ⟨by omega, by omega⟩ ?_
  simp only [Addr.add_mk]
  have hti : Int.toNat (i : Int) = i := by omega
  refine qd4 ho 2 rfl hx (by rw [List.length_drop]; omega) fun s6 w15 h6 ho => ?_
  show Pt.st ⟨r5, 4 + Int.toNat (i : Int) * 3 + 0, none⟩ _ _ _
  refine Own.st' ho 0 rfl (supN (parseQ l) (fun i => first4 (l.drop (8 + 4 * i))) (3 + 3 * i + 1)) ?_ rfl ?_ fun w16 ho _ => ?_
  ·rw [show 20 + 12 * i = 8 + 4 * (3 + 3 * i) by omega, show 4 + Int.toNat (i : Int) * 3 + 0 = (3 + 3 * i) + 1 by omega]
   exact qbL (f := fun i => first4 (l.drop (8 + 4 * i))) (by omega)
  ·rw [qdr (by omega)]; show _ + 1 <= 28; omega
  rw [List.drop_drop] at h6
  refine qd4 ho 2 rfl h6 (by rw [List.length_drop]; omega) fun s7 w17 h7 ho => ?_
  show Pt.st ⟨r5, 0 + 4 + Int.toNat (i : Int) * 3 + 1, none⟩ _ _ _
  refine Own.st' ho 0 rfl (supN (parseQ l) (fun i => first4 (l.drop (8 + 4 * i))) (3 + 3 * i + 2)) ?_ rfl ?_ fun w18 ho _ => ?_
  ·rw [show 20 + 12 * i + 4 = 8 + 4 * (3 + 3 * i + 1) by omega]
   show splice _ (0 + 4 + Int.toNat (i : Int) * 3 + 1) _ = _
   rw [show 0 + 4 + Int.toNat (i : Int) * 3 + 1 = (3 + 3 * i + 1) + 1 by omega]
   exact qbL (f := fun i => first4 (l.drop (8 + 4 * i))) (by omega)
  ·rw [qdr (by omega)]; show 0 + 4 + Int.toNat (i : Int) * 3 + 1 + 1 <= 28; omega
  rw [List.drop_drop] at h7
  refine qd4 ho 2 rfl h7 (by rw [List.length_drop]; omega) fun s8 w19 h8 ho => ?_
  show Pt.st ⟨r5, 0 + 4 + Int.toNat (i : Int) * 3 + 2, none⟩ _ _ _
  refine Own.st' ho 0 rfl (supN (parseQ l) (fun i => first4 (l.drop (8 + 4 * i))) (3 + 3 * i + 3)) ?_ rfl ?_ fun w20 ho _ => ?_
  ·rw [show 20 + 12 * i + 4 + 4 = 8 + 4 * (3 + 3 * i + 2) by omega]
   show splice _ (0 + 4 + Int.toNat (i : Int) * 3 + 2) _ = _
   rw [show 0 + 4 + Int.toNat (i : Int) * 3 + 2 = (3 + 3 * i + 2) + 1 by omega]
   exact qbL (f := fun i => first4 (l.drop (8 + 4 * i))) (by omega)
  ·rw [qdr (by omega)]; show 0 + 4 + Int.toNat (i : Int) * 3 + 2 + 1 <= 28; omega
  rw [List.drop_drop] at h8
  rw [wi' _ (by omega)]
  refine hX _ _ ⟨i + 1, s8, by simp, by omega, ?_, ?_⟩ (by omega)
  ·rw [show 20 + 12 * (i + 1) = 20 + 12 * i + 4 + 4 + 4 by omega]; exact h8
  ·rw [show 3 + 3 * (i + 1) = 3 + 3 * i + 3 by omega]; exact ho
 ·obtain rfl : i = 8 := by have := of_decide_eq_false hc; omega
  rw [show 3 + 3 * 8 = 27 from rfl, qm0] at ho
  refine qaw (ho.at (i := 0) rfl) (supV (parseQ l) (parseT l)) (qav (qaK l)) (by rw [List.drop_zero]; exact List.take_of_length_le (Nat.le_of_eq (qav (qaK l)))) ?_
  refine qan (qav (qaK l)) ?_
  refine Own.st' ho 1 rfl (supV (parseQ l) (parseT l)).toArray ?_ (qe0 _ _) ?_ fun w15 ho _ => ?_
  ·apply Array.ext'
   rw [qau _ _ _ (by rw [qav (qaK l)]; decide), qav (qaK l), List.take_zero, List.nil_append, List.drop_of_length_le (by decide), List.append_nil]
  ·rw [qav (qaK l)]; decide
  refine qaw (ho.at (i := 1) rfl) (supV (parseQ l) (parseT l)) (qav (qaK l)) (by rw [List.drop_zero]; exact List.take_of_length_le (Nat.le_of_eq (qav (qaK l)))) ?_
  exact hk w15 ho.fr
theorem qbp : ((Tryz.prog.info? 58).bind (·.zero)).map (fun z => z.cells.toList) = some (supV 0 (zs 27)) := by kernel_rfl
theorem qmm {P : Program} {t : TypeId} {z : Value} {offs : Array (Nat × Nat)} (hz : (P.info? t).bind (·.zero) = some z) (hu : P.underlying t = some (.struct (fieldsOf P t))) (hpl : ∀ w, ((fieldsOf P t).mapM fun f => do pure (f.offset, <- sizeOf f.type) : Sem (Array (Nat × Nat))).run P w = .ok offs w) (w : World) :
  (Instr.build t #[]).run P w = .ok (.agg z.cells) w := by
 simp only [Instr.build, Sem.run_bind, qaT hz, Result.andThen_ok, run_underlying hu, hpl, Instr.fill, Sem.run_pure]
theorem qcy {w : World} {K : List Value -> Prop} (k : K (supV 0 (zs 27))) : runQ [Ty1.raw] (fun w' => (Instr.build 58 #[]).run Tryz.prog w') w K := by
 obtain ⟨z, hz, hzs⟩ := Option.map_eq_some_iff.1 qbp
 refine qay (ts := [Ty1.raw]) (supV 0 (zs 27)) ?_ k
 have := qmm (P := Tryz.prog) (t := 58) (offs := #[(0, 1), (1, 1), (2, 1), (3, 1), (4, 24)]) hz (by kernel_rfl) (fun w => by kernel_rfl) w
 rw [this]
 show Result.ok (Value.agg z.cells) w = .ok (Value.agg (supV 0 (zs 27)).toArray) w
 rw [<- hzs]
theorem qa5 {cs : Array Value} {vs : List Value} (h : vs.length = cs.size) : splice cs 0 vs = vs.toArray := by
 apply Array.ext'
 rw [qau _ _ _ (by omega), List.take_zero, List.nil_append, List.drop_of_length_le (by rw [Array.length_toList]; omega), List.append_nil]
theorem qc3 {q : Int} {t : List Int} (ht : t.length = 27) : (supV q t).toArray.size = 28 := by rw [List.size_toArray]; exact qav ht
theorem qbE {w : World} {r : Nat} {q : Int} {t : List Int} {T : TypeId} {fr : Nat × Nat} {K : List Value -> Prop} (hb : w.heap[r]? = some (.cells (supV q t).toArray T fr)) (ht : t.length = 27) (k : K (supV q t)) : ldV 28 ⟨r, 0, none⟩ w K :=
 qaw hb (supV q t) (qav ht) (by rw [List.drop_zero, List.take_of_length_le (Nat.le_of_eq (qav ht))]) k
theorem qdP {w0 w : World} {L : List (Nat × Obj)} {r : Nat} {q q0 : Int} {t t0 : List Int} {T : TypeId} {K : World -> Prop} (ho : Own [] w0 w L) (i : Nat) (hi : L[i]? = some (r, .cells (supV q0 t0).toArray T (0, 0))) (h0 : t0.length = 27) (ht : t.length = 27)
  (hk : ∀ w', Own [] w0 w' (L.set i (r, .cells (supV q t).toArray T (0, 0))) -> K w') : chk ((supV q t).length = 28) (st ⟨r, 0, none⟩ (supV q t) w K) := by
 refine qan (qav ht) ?_
 refine Own.st' ho i hi (supV q t).toArray (qa5 (by rw [qc3 h0, qav ht])) (qe0 _ _) (by rw [qc3 h0, qav ht]; decide) fun w' ho' _ => hk w' ho'
theorem qaU {w0 w : World} {L : List (Nat × Obj)} {r : Nat} {q q0 : Int} {t t0 : List Int} {T : TypeId} {K : List Value -> World -> Prop} (ho : Own [] w0 w L) (i : Nat) (hi : L[i]? = some (r, .cells (supV q0 t0).toArray T (0, 0))) (h0 : t0.length = 27) (ht : t.length = 27)
  (hk : ∀ w', Fr [] w0 w' -> K (supV q t) w') : chk ((supV q t).length = 28) (st ⟨r, 0, none⟩ (supV q t) w fun w' => ldV 28 ⟨r, 0, none⟩ w' fun vs => K vs w') := by
 refine qdP ho i hi h0 ht fun w' ho' => ?_
 have hil : i < L.length := by
  rcases Nat.lt_or_ge i L.length with h | h
  ·exact h
  ·rw [List.getElem?_eq_none h] at hi; cases hi
 exact qbE (ho'.at (i := i) (by rw [List.getElem?_set_self hil])) ht (hk w' ho'.fr)
abbrev Sup := Int × List Int
def supZero : Sup := (0, zs 27)
def readSV (place : Int) (l : List Int) : Sup × Int :=
 if (openV place l).2.2 ≠ 0 then (supZero, (openV place l).2.2)
 else if (openV place l).1 ≠ 1 \/ (openV place l).2.1.length ≠ 116 then (supZero, 2)
 else if Int.tmod (parseQ (openV place l).2.1) 2 ≠ place then (supZero, 2)
 else ((parseQ (openV place l).2.1, parseT (openV place l).2.1), 0)
theorem qaV (place : Int) (l : List Int) : (readSV place l).1.2.length = 27 := by
 unfold readSV
 split <;> (try rfl)
 split <;> (try rfl)
 split <;> rfl
def newestV (a b : List Int) : Sup × Int :=
 if (readSV 0 a).2 ≠ 0 /\ (readSV 1 b).2 ≠ 0 then (supZero, 5)
 else if (readSV 0 a).2 ≠ 0 \/ ((readSV 1 b).2 = 0 /\ (readSV 1 b).1.1 > (readSV 0 a).1.1) then ((readSV 1 b).1, 0)
 else ((readSV 0 a).1, 0)
theorem qhJ (a b : List Int) : (newestV a b).1.2.length = 27 := by
 unfold newestV
 split <;> (try rfl)
 split <;> exact qaV _ _
theorem qnY {S : List Nat} {w : World} {s : Sl} {l : List Int} {place : Int} {K : List Value × Int -> World -> Prop} (h : RdB S w s l) (hv : Hv w) (hB : IsB l) (hl : l.length <= 100000) (hp : place = 0 \/ place = 1)
  (hk : ∀ w', Fr [] w w' -> K (supV (readSV place l).1.1 (readSV place l).1.2, (readSV place l).2) w') :
  call Tryz.prog 130 [.int .i64 place, .slice s.a s.len s.cap] [.raw, .one (.int .i64)] w K := by
 refine qnw (place := place) (b := s) ?_
 unfold qhu
 refine Own.newZ (Own.start [] w) qbp fun r1 w1 e1 ho => ?_
 have hpw : IntKind.wrap .u32 place = place := by rcases hp with rfl | rfl <;> kernel_rfl
 have hpq : IntKind.wrap .u64 place = place := by rcases hp with rfl | rfl <;> kernel_rfl
 rw [hpw, hpq]
 refine qae (fun b w' => b = false /\ w' = w1) ?_ ?_
 ·rcases hp with rfl | rfl
  ·exact cond_false rfl ⟨rfl, rfl⟩
  ·exact cond_true rfl ⟨rfl, rfl⟩
 rintro b w2 ⟨rfl, rfl⟩
 refine cond_false rfl ?_
 have bad : ∀ {e : Int} {w' : World}, readSV place l = (supZero, e) -> Fr [] w w' -> K (supV 0 (zs 27), e) w' := by
  intro e w' he hf
  have := hk w' hf
  rw [he] at this
  exact this
 refine qmE (h.frame0 ho.fr) (hv.frame0 ho.fr) hB hl fun s3 B3 w3 b3 f3 n3 => ?_
 have ho := ho.frame0 f3
 refine qaa (fun hc => ?_) (fun hc => ?_)
 ·have he : (openV place l).2.2 ≠ 0 := by simpa using hc
  refine qcy ?_
  refine qaU ho 0 rfl rfl rfl fun w4 f4 => ?_
  exact bad (by rw [readSV, if_pos he]) f4
 have he : ¬ (openV place l).2.2 ≠ 0 := by simpa using hc
 refine qae (fun b w' => b = decide ((openV place l).1 ≠ 1 \/ (openV place l).2.1.length ≠ 116) /\ w' = w3) ?_ ?_
 ·refine qaa (fun hc => ?_) (fun hc => ?_)
  ·have h1 : (openV place l).1 ≠ 1 := by simpa using hc
   exact ⟨by simp [h1], rfl⟩
  ·have h1 : (openV place l).1 = 1 := by simpa using hc
   have hbl : s3.len = (openV place l).2.1.length := b3.len
   refine ⟨?_, rfl⟩
   dsimp only
   rw [hbl]
   by_cases hx : (openV place l).2.1.length = 116
   ·rw [hx]; simp [h1]
   ·have : ¬ (((openV place l).2.1.length : Int) = 116) := by omega
    simp [h1, hx, this]
 rintro b w4 ⟨rfl, rfl⟩
 refine qaa (fun hc => ?_) (fun hc => ?_)
 ·refine qcy ?_
  refine qaU ho 0 rfl rfl rfl fun w5 f5 => ?_
  exact bad (by rw [readSV, if_neg he, if_pos (of_decide_eq_true hc)]) f5
 have hk2 := of_decide_eq_false hc
 have hb116 : (openV place l).2.1.length = 116 := by
  rcases Nat.decEq (openV place l).2.1.length 116 with h | h
  ·exact absurd (Or.inr h) hk2
  ·exact h
 have hr3 := b3.rds (S := []) qaq (by simp)
 refine qq2 hr3 hb116 fun w5 f5 => ?_
 have ho := ho.frame0 f5
 refine Own.newZ ho qbp fun r6 w6 e6 ho => ?_
 refine qdP ho 0 rfl rfl (qaK _) fun w7 ho => ?_
 refine Own.ld (c := .int .u64) ho 0 rfl (parseQ (openV place l).2.1) rfl ?_
 refine qaa (fun hc => ?_) (fun hc => ?_)
 ·have hq : Int.tmod (parseQ (openV place l).2.1) 2 ≠ place := by simpa using hc
  refine qcy ?_
  refine qaU ho 1 rfl rfl rfl fun w8 f8 => ?_
  exact bad (by rw [readSV, if_neg he, if_neg hk2, if_pos hq]) f8
 ·have hq : ¬ Int.tmod (parseQ (openV place l).2.1) 2 ≠ place := by simpa using hc
  refine qbE (ho.at (i := 0) rfl) (qaK _) ?_
  refine qaU ho 1 rfl rfl (qaK _) fun w8 f8 => ?_
  have := hk w8 f8
  rw [readSV, if_neg he, if_neg hk2, if_neg hq] at this
  exact this
theorem qqI {S : List Nat} {w : World} {sa sb : Sl} {a b : List Int} {K : List Value × Int -> World -> Prop} (ha : RdB S w sa a) (hb : RdB S w sb b) (hv : Hv w) (hBa : IsB a) (hBb : IsB b) (hla : a.length <= 100000) (hlb : b.length <= 100000)
  (hk : ∀ w', Fr [] w w' -> K (supV (newestV a b).1.1 (newestV a b).1.2, (newestV a b).2) w') :
  call Tryz.prog 104 [.slice sa.a sa.len sa.cap, .slice sb.a sb.len sb.cap] [.raw, .one (.int .i64)] w K := by
 refine qmt (a := sa) (b := sb) ?_
 unfold qfT
 refine Own.newZ (Own.start [] w) qbp fun r1 w1 e1 ho => ?_
 refine qnY (ha.frame0 ho.fr) (hv.frame0 ho.fr) hBa hla (.inl rfl) fun w2 f2 => ?_
 have ho := ho.frame0 f2
 refine Own.newZ ho qbp fun r3 w3 e3 ho => ?_
 refine qdP ho 0 rfl rfl (qaV _ _) fun w4 ho => ?_
 refine qnY (hb.frame0 ho.fr) (hv.frame0 ho.fr) hBb hlb (.inr rfl) fun w5 f5 => ?_
 have ho := ho.frame0 f5
 refine Own.newZ ho qbp fun r6 w6 e6 ho => ?_
 refine qdP ho 0 rfl rfl (qaV _ _) fun w7 ho => ?_
 refine qae (fun c w' => c = decide ((readSV 0 a).2 ≠ 0 /\ (readSV 1 b).2 ≠ 0) /\ w' = w7) ?_ ?_
 ·refine qaa (fun hc => ?_) (fun hc => ?_)
  ·have h1 : (readSV 0 a).2 ≠ 0 := by simpa using hc
   refine ⟨?_, rfl⟩
   by_cases h2 : (readSV 1 b).2 = 0 <;> simp [h1, h2]
  ·have h1 : (readSV 0 a).2 = 0 := by simpa using hc
   exact ⟨by simp [h1], rfl⟩
 rintro c w8 ⟨rfl, rfl⟩
 refine qaa (fun hc => ?_) (fun hc => ?_)
 ·refine qcy ?_
  refine qaU ho 2 rfl rfl rfl fun w9 f9 => ?_
  have := hk w9 f9
  rw [newestV, if_pos (of_decide_eq_true hc)] at this
  exact this
 have hn := of_decide_eq_false hc
 refine qae (fun c w' => c = decide ((readSV 0 a).2 ≠ 0 \/ ((readSV 1 b).2 = 0 /\ (readSV 1 b).1.1 > (readSV 0 a).1.1)) /\ w' = w8) ?_ ?_
 ·refine qaa (fun hc => ?_) (fun hc => ?_)
  ·have h1 : (readSV 0 a).2 ≠ 0 := by simpa using hc
   exact ⟨by simp [h1], rfl⟩
  ·have h1 : (readSV 0 a).2 = 0 := by simpa using hc
   refine qaa (fun hc => ?_) (fun hc => ?_)
   ·have h2 : (readSV 1 b).2 = 0 := by simpa using hc
    refine Own.ld (c := .int .u64) ho 0 rfl (readSV 1 b).1.1 rfl ?_
    refine Own.ld (c := .int .u64) ho 1 rfl (readSV 0 a).1.1 rfl ?_
    refine ⟨?_, rfl⟩
    by_cases h3 : (readSV 1 b).1.1 > (readSV 0 a).1.1 <;> simp [h1, h2, h3]
   ·have h2 : (readSV 1 b).2 ≠ 0 := by simpa using hc
    exact ⟨by simp [h1, h2], rfl⟩
 rintro c w9 ⟨rfl, rfl⟩
 refine qaa (fun hc => ?_) (fun hc => ?_)
 ·refine qbE (ho.at (i := 0) rfl) (qaV _ _) ?_
  refine qaU ho 2 rfl rfl (qaV _ _) fun w10 f10 => ?_
  have := hk w10 f10
  rw [newestV, if_neg hn, if_pos (of_decide_eq_true hc)] at this
  exact this
 ·refine qbE (ho.at (i := 1) rfl) (qaV _ _) ?_
  refine qaU ho 2 rfl rfl (qaV _ _) fun w10 f10 => ?_
  have := hk w10 f10
  rw [newestV, if_neg hn, if_neg (of_decide_eq_false hc)] at this
  exact this
end Go.Proofs.YtmbcedengdoamaaGreatDoor
end
section
set_option linter.unusedVariables false
set_option maxRecDepth 100000
namespace Go.Proofs.YtmbcedengdoamaaGreatDoor
open Go Go.Pt
@[reducible] def qtC : List Cell := [Cell.int IntKind.u32, Cell.int IntKind.u32, Cell.int IntKind.u32]
def qdF (s : Sl) (seq : Value) (K : Sl -> World -> Prop) (w : World) : Prop := new (Obj.cells #[.slice s.a s.len s.cap] 27) w <| fun r_1 w_2 => rng Tryz.prog seq [.one (.int .u32)] (fun (x_3 : Int) (X_4 : World -> (World -> Prop) -> Prop) (X_5 : World -> Prop) X_6 w_7 => X_4 w_7 <| fun w_8 => ld .slice ⟨r_1, 0, none⟩ w_8 <| fun (s_9 : Sl) => new (Obj.cells #[.int .u32 x_3] 29) w_8 <| fun r_10 w_11 => run [.one .slice] ((Builtin.append_ (#[27, 27]) 27 (#[.slice s_9.a s_9.len s_9.cap, .slice (some ⟨r_10, 0, none⟩) 1 1])).run Tryz.prog w_11) <| fun (s_12 : Sl) w_13 => st ⟨r_1, 0, none⟩ ([.slice s_12.a s_12.len s_12.cap]) w_13 <| fun w_14 => X_5 w_14) (fun r_15 w_16 => ld .slice ⟨r_1, 0, none⟩ w_16 <| fun (s_17 : Sl) => undefer r_15 w_16 <| fun w_18 => K s_17 w_18) [] w_2
def qf8 : List Ann := [.n, .n, .n, .r [.one (.int .u32)], .n]
theorem qjn {s : Sl} {seq : Value} {w : World} {K : Sl -> World -> Prop} (hF : qdF s seq K w) : call Tryz.prog 139 [.slice s.a s.len s.cap, seq] [.one .slice] w K := qff (an := qf8) Tryz.func139 (by kernel_rfl) ((show fnPtS (std Tryz.prog) Tryz.prog Tryz.f139 qf8 [.one .slice] [.slice s.a s.len s.cap, seq] K w = qdF s seq K w by kernel_rfl).mpr hF)
def qeF (seq : Value) (K : Sl -> World -> Prop) (w : World) : Prop := call Tryz.prog 139 ([.slice none 0 0, seq]) ([.one .slice]) w <| fun (s_1 : Sl) w_2 => K s_1 w_2
def qhl : List Ann := [.n, .n]
theorem qkx {seq : Value} {w : World} {K : Sl -> World -> Prop} (hF : qeF seq K w) : call Tryz.prog 116 [seq] [.one .slice] w K := qab (an := qhl) Tryz.func116 (by kernel_rfl) ((show fnPt (std Tryz.prog) Tryz.prog Tryz.f116 qhl [.one .slice] [seq] K w = qeF seq K w by kernel_rfl).mpr hF)
def qe9 (seq : Value) (K : Sl -> World -> Prop) (w : World) : Prop := call Tryz.prog 116 [seq] ([.one .slice]) w <| fun (s_1 : Sl) w_2 => call Tryz.prog 91 ([.slice s_1.a s_1.len s_1.cap]) [] w_2 <| fun (x_3 : PUnit) w_4 => K s_1 w_4
def qh3 : List Ann := [.n, .n, .n, .n]
theorem qlB {seq : Value} {w : World} {K : Sl -> World -> Prop} (hF : qe9 seq K w) : call Tryz.prog 83 [seq] [.one .slice] w K := qab (an := qh3) Tryz.func83 (by kernel_rfl) ((show fnPt (std Tryz.prog) Tryz.prog Tryz.f83 qh3 [.one .slice] [seq] K w = qe9 seq K w by kernel_rfl).mpr hF)
def qdT (s : Sl) (v : Int) (K : Bool -> World -> Prop) (w : World) : Prop := call Tryz.prog 128 ([.slice s.a s.len s.cap, .int .u32 v]) ([.one (.int .i64)]) w <| fun (x_1 : Int) w_2 => K (decide (x_1 >= 0)) w_2
def qgI : List Ann := [.n, .n]
theorem qka {s : Sl} {v : Int} {w : World} {K : Bool -> World -> Prop} (hF : qdT s v K w) : call Tryz.prog 95 [.slice s.a s.len s.cap, .int .u32 v] [.one .bool] w K := qab (an := qgI) Tryz.func95 (by kernel_rfl) ((show fnPt (std Tryz.prog) Tryz.prog Tryz.f95 qgI [.one .bool] [.slice s.a s.len s.cap, .int .u32 v] K w = qdT s v K w by kernel_rfl).mpr hF)
def qfO (s : Sl) (v : Int) (K : Int -> World -> Prop) (w : World) : Prop := loop (Int) (fun X_1 (x_2 : Int) w_3 => cond (decide (x_2 < (↑s.len : Int))) (idx s x_2 1 <| fun a_4 => ld (.int .u32) a_4 w_3 <| fun (x_5 : Int) => cond (v == x_5) (K x_2 w_3) (X_1 (IntKind.wrap .i64 (x_2 + 1)) w_3)) (K (-1) w_3)) 0 w
def qi6 : List Ann := [.n, .n, .n, .l [(8, .one (.int .i64))], .n, .n, .n, .n, .n, .n, .n]
theorem qlU {s : Sl} {v : Int} {w : World} {K : Int -> World -> Prop} (hF : qfO s v K w) : call Tryz.prog 128 [.slice s.a s.len s.cap, .int .u32 v] [.one (.int .i64)] w K := qab (an := qi6) Tryz.func128 (by kernel_rfl) ((show fnPt (std Tryz.prog) Tryz.prog Tryz.f128 qi6 [.one (.int .i64)] [.slice s.a s.len s.cap, .int .u32 v] K w = qfO s v K w by kernel_rfl).mpr hF)
def qiR (m : Option Nat) (K : Value -> World -> Prop) (w : World) : Prop := new (Obj.cells #[.map m] 96) w <| fun r_1 w_2 => K (Value.func (Fn.func 117) #[] #[.pointer (some ⟨r_1, 0, none⟩)]) w_2
def qlK : List Ann := [.n, .n]
theorem qoZ {m : Option Nat} {w : World} {K : Value -> World -> Prop} (hF : qiR m K w) : call Tryz.prog 84 [.map m] [.one .any] w K := qab (an := qlK) Tryz.func84 (by kernel_rfl) ((show fnPt (std Tryz.prog) Tryz.prog Tryz.f84 qlK [.one .any] [.map m] K w = qiR m K w by kernel_rfl).mpr hF)
def qfX (yield : Value) (cap0 : Addr) (K : Unit -> World -> Prop) (w : World) : Prop := ld .map cap0 w <| fun (p_1 : Option Nat) => run [.one .any] ((Instr.range 96 (.map p_1)).run Tryz.prog w) <| fun (v_2 : Value) w_3 => loop (PUnit) (fun X_4 (x_5 : PUnit) w_6 => nxt ((Instr.next v_2 false 0).run Tryz.prog w_6) (fun w_7 => K () w_7) (fun (v_8 : Value) (v_9 : Value) w_10 => ent ((Instr.entry v_2).run Tryz.prog w_10) <| fun (v_11 : Value) (v_12 : Value) w_13 => callV Tryz.prog yield [v_11] ([.one .bool]) w_13 <| fun (b_14 : Bool) w_15 => cond (!b_14) (K () w_15) (X_4 () w_15))) () w_3
def qjh : List Ann := [.n, .l [], .n, .n, .n, .n]
theorem qlP {yield : Value} {cap0 : Addr} {w : World} {K : Unit -> World -> Prop} (hF : qfX yield cap0 K w) : call Tryz.prog 117 [yield, .pointer (some cap0)] [] w K := qab (an := qjh) Tryz.func117 (by kernel_rfl) ((show fnPt (std Tryz.prog) Tryz.prog Tryz.f117 qjh [] [yield, .pointer (some cap0)] K w = qfX yield cap0 K w by kernel_rfl).mpr hF)
def qfY (d : Option Addr) (K : Int -> World -> Prop) (w : World) : Prop := loop (Int) (fun X_1 (x_2 : Int) w_3 => cond (decide (x_2 < 2)) (mkS 5 ([.int .u8 0]) 1 1 512 512 w_3 <| fun (s_4 : Sl) w_5 => call Tryz.prog 28 ([.pointer d, .int .i64 x_2, .slice s_4.a s_4.len s_4.cap]) ([.one (.int .i64)]) w_5 <| fun (x_6 : Int) w_7 => cond (!x_6 == 0) (K x_6 w_7) (X_1 (IntKind.wrap .i64 (x_2 + 1)) w_7)) (call Tryz.prog 87 ([.pointer d]) ([.one (.int .i64)]) w_3 <| fun (x_8 : Int) w_9 => cond (!x_8 == 0) (K x_8 w_9) (loop (Sl × Int) (fun X_10 (t_11 : Sl × Int) w_12 => call Tryz.prog 63 ([.pointer d]) ([.one (.int .i64)]) w_12 <| fun (x_13 : Int) w_14 => cond (decide (t_11.snd < x_13)) (new (Obj.cells #[.int .u32 (IntKind.wrap .u32 t_11.snd)] 29) w_14 <| fun r_15 w_16 => run [.one .slice] ((Builtin.append_ (#[27, 27]) 27 (#[.slice t_11.fst.a t_11.fst.len t_11.fst.cap, .slice (some ⟨r_15, 0, none⟩) 1 1])).run Tryz.prog w_16) <| fun (s_17 : Sl) w_18 => X_10 ((s_17, IntKind.wrap .i64 (t_11.snd + 1))) w_18) (call Tryz.prog 88 ([.int .i64 (↑t_11.fst.len : Int)]) ([.one (.int .i64)]) w_14 <| fun (x_19 : Int) w_20 => slc t_11.fst (some x_19) none none 1 <| fun (s_21 : Sl) => slc t_11.fst none (some x_19) none 1 <| fun (s_22 : Sl) => call Tryz.prog 89 ([.pointer d, .slice s_21.a s_21.len s_21.cap, .slice s_22.a s_22.len s_22.cap]) ([.one (.int .i64)]) (World.drew w_20) <| fun (x_23 : Int) w_24 => cond (!x_23 == 0) (K x_23 w_24) (call Tryz.prog 63 ([.pointer d]) ([.one (.int .i64)]) w_24 <| fun (x_25 : Int) w_26 => runQ [.raw] (fun w_27 => (Instr.build 58 (#[(0, .int .u64 1), (1, .int .u32 (IntKind.wrap .u32 x_25)), (2, .int .u32 2), (3, .int .u32 (IntKind.wrap .u32 (IntKind.wrap .i64 ((↑t_11.fst.len : Int) - x_19))))])).run Tryz.prog w_27) w_26 <| fun (vs_28 : List Value) => call Tryz.prog 90 ([.pointer d, .agg (List.toArray vs_28)]) ([.one (.int .i64)]) w_26 <| fun (x_29 : Int) w_30 => K x_29 w_30))) (({ a := none, len := 0, cap := 0 }, 2)) w_9))) 0 w
def qji : List Ann := [.n, .n, .n, .l [(10, .one (.int .i64))], .n, .n, .n, .n, .n, .n, .n, .n, .n, .n, .n, .n, .n, .n, .l [(6, .one .slice), (7, .one (.int .i64))], .n, .n, .n, .n, .n, .n, .o [[0, 1, 2, 3, 4, 5, 6, 7, 8]], .n, .n, .n]
theorem qmk {d : Option Addr} {w : World} {K : Int -> World -> Prop} (hF : qfY d K w) : call Tryz.prog 39 [.pointer d] [.one (.int .i64)] w K := qab (an := qji) Tryz.func39 (by kernel_rfl) ((show fnPt (std Tryz.prog) Tryz.prog Tryz.f39 qji [.one (.int .i64)] [.pointer d] K w = qfY d K w by kernel_rfl).mpr hF)
def qfV (d : Option Addr) (K : ((List Value) × Int) -> World -> Prop) (w : World) : Prop := newZ Tryz.prog 58 w <| fun r_1 w_2 => call Tryz.prog 19 ([.pointer d, .int .i64 0]) ([.one .slice, .one (.int .i64)]) w_2 <| fun (t_3 : Sl × Int) w_4 => cond (!t_3.snd == 0) (runQ [.raw] (fun w_5 => (Instr.build 58 #[]).run Tryz.prog w_5) w_4 <| fun (vs_6 : List Value) => chk (List.length vs_6 = 28) <| st ⟨r_1, 0, none⟩ vs_6 w_4 <| fun w_7 => ldV 28 ⟨r_1, 0, none⟩ w_7 <| fun (vs_8 : List Value) => K ((vs_8, t_3.snd)) w_7) (call Tryz.prog 19 ([.pointer d, .int .i64 1]) ([.one .slice, .one (.int .i64)]) w_4 <| fun (t_9 : Sl × Int) w_10 => cond (!t_9.snd == 0) (runQ [.raw] (fun w_11 => (Instr.build 58 #[]).run Tryz.prog w_11) w_10 <| fun (vs_12 : List Value) => chk (List.length vs_12 = 28) <| st ⟨r_1, 0, none⟩ vs_12 w_10 <| fun w_13 => ldV 28 ⟨r_1, 0, none⟩ w_13 <| fun (vs_14 : List Value) => K ((vs_14, t_9.snd)) w_13) (call Tryz.prog 104 ([.slice t_3.fst.a t_3.fst.len t_3.fst.cap, .slice t_9.fst.a t_9.fst.len t_9.fst.cap]) ([.raw, .one (.int .i64)]) w_10 <| fun (t_15 : List Value × Int) w_16 => chk (List.length t_15.fst = 28) <| st ⟨r_1, 0, none⟩ t_15.fst w_16 <| fun w_17 => ldV 28 ⟨r_1, 0, none⟩ w_17 <| fun (vs_18 : List Value) => K ((vs_18, t_15.snd)) w_17))
def qi2 : List Ann := [.n, .n, .n, .n, .n, .n, .n, .n, .n, .n]
theorem ql2 {d : Option Addr} {w : World} {K : ((List Value) × Int) -> World -> Prop} (hF : qfV d K w) : call Tryz.prog 62 [.pointer d] [.raw, .one (.int .i64)] w K := qab (an := qi2) Tryz.func62 (by kernel_rfl) ((show fnPt (std Tryz.prog) Tryz.prog Tryz.f62 qi2 [.raw, .one (.int .i64)] [.pointer d] K w = qfV d K w by kernel_rfl).mpr hF)
def qhy (d : Option Addr) (K : ((Option Addr) × Int) -> World -> Prop) (w : World) : Prop := call Tryz.prog 62 ([.pointer d]) ([.raw, .one (.int .i64)]) w <| fun (t_1 : List Value × Int) w_2 => newZ Tryz.prog 58 w_2 <| fun r_3 w_4 => chk (List.length t_1.fst = 28) <| st ⟨r_3, 0, none⟩ t_1.fst w_4 <| fun w_5 => cond (!t_1.snd == 0) (K ((none, t_1.snd)) w_5) (ldV 28 ⟨r_3, 0, none⟩ w_5 <| fun (vs_6 : List Value) => runQ [.raw] (fun w_7 => (Instr.build 100 (#[(0, .pointer d), (1, .agg (List.toArray vs_6))])).run Tryz.prog w_7) w_5 <| fun (vs_8 : List Value) => new (Obj.cells (List.toArray vs_8) 100) w_5 <| fun r_9 w_10 => join (Bool) (fun X_11 => ld (.int .u32) ⟨r_3, 1, none⟩ (World.drew w_10) <| fun (x_12 : Int) => call Tryz.prog 63 ([.pointer d]) ([.one (.int .i64)]) (World.drew w_10) <| fun (x_13 : Int) w_14 => held [fun w_15 => World.cell? w_15 ⟨r_3, 1, none⟩ = some (.int .u32 x_12)] w_14 <| cond (!x_12 == IntKind.wrap .u32 x_13) (X_11 true w_14) (call Tryz.prog 64 ([.pointer (some ⟨r_9, 0, none⟩)]) ([.one .bool]) w_14 <| fun (b_16 : Bool) w_17 => X_11 (!b_16) w_17)) <| fun (b_18 : Bool) w_19 => cond b_18 (K ((none, 2)) w_19) (call Tryz.prog 58 ([.pointer (some ⟨r_9, 0, none⟩)]) [] w_19 <| fun (x_20 : PUnit) w_21 => K ((some ⟨r_9, 0, none⟩, 0)) w_21))
def qkQ : List Ann := [.n, .n, .n, .n, .n, .n, .n, .j [(29, .one .bool)], .o [[0, 1, 2, 3, 4, 5, 6, 7, 8, 9, 10]], .n, .n, .n]
theorem qnB {d : Option Addr} {w : World} {K : ((Option Addr) × Int) -> World -> Prop} (hF : qhy d K w) : call Tryz.prog 24 [.pointer d] [.one .ptr, .one (.int .i64)] w K := qab (an := qkQ) Tryz.func24 (by kernel_rfl) ((show fnPt (std Tryz.prog) Tryz.prog Tryz.f24 qkQ [.one .ptr, .one (.int .i64)] [.pointer d] K w = qhy d K w by kernel_rfl).mpr hF)
def qdH (p : Option Addr) (K : Bool -> World -> Prop) (w : World) : Prop := new (Obj.map #[] 0) w <| fun r_1 w_2 => nn p <| fun a_3 => ld (.int .u32) (⟨(Addr.add a_3 1).block, (Addr.add a_3 1).off + 2, none⟩) w_2 <| fun (x_4 : Int) => loop (Int) (fun X_5 (x_6 : Int) w_7 => cond (!x_6 == 0) (join (Bool) (fun X_8 => cond (decide (x_6 < 2)) (X_8 true w_7) (nn p <| fun a_9 => ld (.int .u32) (⟨(Addr.add a_9 1).block, (Addr.add a_9 1).off + 1, none⟩) w_7 <| fun (x_10 : Int) => cond (decide (x_6 >= x_10)) (X_8 true w_7) (runQ [.one (.int .i64)] (fun w_11 => (Instr.lookup 170 (.map (some r_1)) (.int .u32 x_6) false).run Tryz.prog w_11) w_7 <| fun (x_12 : Int) => X_8 (decide (x_12 > 0)) w_7))) <| fun (b_13 : Bool) w_14 => cond b_13 (K false w_14) (runU ((Instr.mapUpdate 170 (.map (some r_1)) (.int .u32 x_6) (.int .i64 1)).run Tryz.prog w_14) <| fun w_15 => nn p <| fun a_16 => ld .ptr a_16 w_15 <| fun (p_17 : Option Addr) => call Tryz.prog 19 ([.pointer p_17, .int .i64 (IntKind.wrap .i64 x_6)]) ([.one .slice, .one (.int .i64)]) w_15 <| fun (t_18 : Sl × Int) w_19 => cond (!t_18.snd == 0) (K false w_19) (call Tryz.prog 85 ([.int .u32 x_6, .slice t_18.fst.a t_18.fst.len t_18.fst.cap]) ([.one (.int .u8), .one .slice, .one (.int .i64)]) w_19 <| fun (t_20 : Int × Sl × Int) w_21 => join (Bool) (fun X_22 => cond (!t_20.snd.snd == 0) (X_22 true w_21) (X_22 (!t_20.fst == 2) w_21)) <| fun (b_23 : Bool) w_24 => cond b_23 (K false w_24) (call Tryz.prog 105 ([.slice t_20.snd.fst.a t_20.snd.fst.len t_20.snd.fst.cap]) ([.one (.int .u32), .one .slice, .one (.int .i64)]) w_24 <| fun (t_25 : Int × Sl × Int) w_26 => cond (!t_25.snd.snd == 0) (K false w_26) (nn p <| fun a_27 => ld .slice ⟨a_27.block, a_27.off + 29, none⟩ (World.drew w_26) <| fun (s_28 : Sl) => nn p <| fun a_29 => ld .slice ⟨a_29.block, a_29.off + 30, none⟩ (World.drew w_26) <| fun (s_30 : Sl) => new (Obj.cells #[.int .u32 x_6] 29) (World.drew w_26) <| fun r_31 w_32 => held [fun w_33 => World.cell? w_33 ⟨a_29.block, a_29.off + 30, none⟩ = some (.slice s_30.a s_30.len s_30.cap), fun w_34 => World.cell? w_34 ⟨a_27.block, a_27.off + 29, none⟩ = some (.slice s_28.a s_28.len s_28.cap)] w_32 <| run [.one .slice] ((Builtin.append_ (#[27, 27]) 27 (#[.slice s_28.a s_28.len s_28.cap, .slice (some ⟨r_31, 0, none⟩) 1 1])).run Tryz.prog w_32) <| fun (s_35 : Sl) w_36 => held [fun w_37 => World.cell? w_37 ⟨a_29.block, a_29.off + 30, none⟩ = some (.slice s_30.a s_30.len s_30.cap)] w_36 <| run [.one .slice] ((Builtin.append_ (#[27, 27]) 27 (#[.slice s_30.a s_30.len s_30.cap, .slice t_25.snd.fst.a t_25.snd.fst.len t_25.snd.fst.cap])).run Tryz.prog w_36) <| fun (s_38 : Sl) w_39 => nn p <| fun a_40 => st ⟨a_40.block, a_40.off + 29, none⟩ ([.slice s_35.a s_35.len s_35.cap]) w_39 <| fun w_41 => nn p <| fun a_42 => st ⟨a_42.block, a_42.off + 30, none⟩ ([.slice s_38.a s_38.len s_38.cap]) w_41 <| fun w_43 => X_5 t_25.fst w_43))))) (nn p <| fun a_44 => ld .slice ⟨a_44.block, a_44.off + 30, none⟩ w_7 <| fun (s_45 : Sl) => loop (Int × Int) (fun X_46 (t_47 : Int × Int) w_48 => cond (decide (t_47.snd < (↑s_45.len : Int))) (idx s_45 t_47.snd 1 <| fun a_49 => ld (.int .u32) a_49 w_48 <| fun (x_50 : Int) => join (Bool) (fun X_51 => cond (decide (x_50 <= t_47.fst)) (X_51 true w_48) (nn p <| fun a_52 => ld (.int .u32) (⟨(Addr.add a_52 1).block, (Addr.add a_52 1).off + 1, none⟩) w_48 <| fun (x_53 : Int) => cond (decide (x_50 >= x_53)) (X_51 true w_48) (runQ [.one (.int .i64)] (fun w_54 => (Instr.lookup 170 (.map (some r_1)) (.int .u32 x_50) false).run Tryz.prog w_54) w_48 <| fun (x_55 : Int) => X_51 (decide (x_55 > 0)) w_48))) <| fun (b_56 : Bool) w_57 => cond b_56 (K false w_57) (X_46 ((x_50, IntKind.wrap .i64 (t_47.snd + 1))) w_57)) (nn p <| fun a_58 => ld .slice ⟨a_58.block, a_58.off + 30, none⟩ (World.drew w_48) <| fun (s_59 : Sl) => nn p <| fun a_60 => ld (.int .u32) (⟨(Addr.add a_60 1).block, (Addr.add a_60 1).off + 3, none⟩) (World.drew w_48) <| fun (x_61 : Int) => K ((↑s_59.len : Int) == IntKind.wrap .i64 x_61) (World.drew w_48))) ((0, 0)) w_7)) x_4 w_2
def qf5 : List Ann := [.n, .n, .n, .n, .l [(4, .one (.int .u32))], .n, .n, .n, .j [(38, .one .bool)], .n, .n, .n, .n, .n, .n, .n, .n, .j [(65, .one .bool)], .n, .n, .n, .n, .n, .n, .o [[0, 1, 2, 3, 4, 5, 6, 9, 10, 11, 12, 13, 7, 8, 14, 15, 16, 17, 18, 19, 20]], .n, .n, .n, .l [(11, .one (.int .u32)), (99, .one (.int .i64))], .n, .n, .n, .n, .n, .j [(120, .one .bool)], .n, .n, .o [[0, 1, 2, 3, 4, 5, 6, 7, 8, 9, 10, 11, 12]]]
theorem qjp {p : Option Addr} {w : World} {K : Bool -> World -> Prop} (hF : qdH p K w) : call Tryz.prog 64 [.pointer p] [.one .bool] w K := qab (an := qf5) Tryz.func64 (by kernel_rfl) ((show fnPt (std Tryz.prog) Tryz.prog Tryz.f64 qf5 [.one .bool] [.pointer p] K w = qdH p K w by kernel_rfl).mpr hF)
def qdi (p : Option Addr) (K : Unit -> World -> Prop) (w : World) : Prop := nn p <| fun a_1 => ld (.int .i64) ⟨a_1.block, a_1.off + 31, none⟩ w <| fun (x_2 : Int) => nn p <| fun a_3 => st ⟨a_3.block, a_3.off + 31, none⟩ ([.int .i64 (IntKind.wrap .i64 (x_2 + 1))]) w <| fun w_4 => (nn p <| fun a_5 => ldV 24 (⟨(Addr.add a_5 1).block, (Addr.add a_5 1).off + 4, none⟩) (World.drew w_4) <| fun (vs_6 : List Value) => call Tryz.prog 100 [] ([.one .ptr]) (World.drew w_4) <| fun (p_7 : Option Addr) w_8 => held [fun w_9 => cellsAt w_9 (⟨(Addr.add a_5 1).block, (Addr.add a_5 1).off + 4, none⟩) 0 vs_6] w_8 <| call Tryz.prog 100 [] ([.one .ptr]) w_8 <| fun (p_10 : Option Addr) w_11 => held [fun w_12 => cellsAt w_12 (⟨(Addr.add a_5 1).block, (Addr.add a_5 1).off + 4, none⟩) 0 vs_6] w_11 <| new (Obj.map #[] 0) w_11 <| fun r_13 w_14 => held [fun w_15 => cellsAt w_15 (⟨(Addr.add a_5 1).block, (Addr.add a_5 1).off + 4, none⟩) 0 vs_6] w_14 <| runQ [.raw] (fun w_16 => (Instr.build 98 (#[(0, .pointer p_7), (1, .pointer p_10), (2, .map (some r_13)), (3, .agg (List.toArray vs_6))])).run Tryz.prog w_16) w_14 <| fun (vs_17 : List Value) => nn p <| fun a_18 => chk (List.length vs_17 = 27) <| st ⟨a_18.block, a_18.off + 33, none⟩ vs_17 w_14 <| fun w_19 => nn p <| fun a_20 => ld .slice ⟨a_20.block, a_20.off + 30, none⟩ w_19 <| fun (s_21 : Sl) => loop (Int) (fun X_22 (x_23 : Int) w_24 => cond (decide (x_23 < (↑s_21.len : Int))) (idx s_21 x_23 1 <| fun a_25 => ld (.int .u32) a_25 w_24 <| fun (x_26 : Int) => nn p <| fun a_27 => ld .ptr ⟨a_27.block, a_27.off + 33, none⟩ w_24 <| fun (p_28 : Option Addr) => call Tryz.prog 44 ([.pointer p_28, .int .u32 x_26]) ([.one .bool]) w_24 <| fun (b_29 : Bool) w_30 => X_22 (IntKind.wrap .i64 (x_23 + 1)) w_30) (K () w_24)) 0 w_19) /\ ((nn p <| fun a_31 => ldV 24 (⟨(Addr.add a_31 1).block, (Addr.add a_31 1).off + 4, none⟩) (World.drew w_4) <| fun (vs_32 : List Value) => call Tryz.prog 100 [] ([.one .ptr]) (World.drew w_4) <| fun (p_33 : Option Addr) w_34 => held [fun w_35 => cellsAt w_35 (⟨(Addr.add a_31 1).block, (Addr.add a_31 1).off + 4, none⟩) 0 vs_32] w_34 <| new (Obj.map #[] 0) w_34 <| fun r_36 w_37 => held [fun w_38 => cellsAt w_38 (⟨(Addr.add a_31 1).block, (Addr.add a_31 1).off + 4, none⟩) 0 vs_32] w_37 <| call Tryz.prog 100 [] ([.one .ptr]) w_37 <| fun (p_39 : Option Addr) w_40 => held [fun w_41 => cellsAt w_41 (⟨(Addr.add a_31 1).block, (Addr.add a_31 1).off + 4, none⟩) 0 vs_32] w_40 <| runQ [.raw] (fun w_42 => (Instr.build 98 (#[(0, .pointer p_33), (1, .pointer p_39), (2, .map (some r_36)), (3, .agg (List.toArray vs_32))])).run Tryz.prog w_42) w_40 <| fun (vs_43 : List Value) => nn p <| fun a_44 => chk (List.length vs_43 = 27) <| st ⟨a_44.block, a_44.off + 33, none⟩ vs_43 w_40 <| fun w_45 => nn p <| fun a_46 => ld .slice ⟨a_46.block, a_46.off + 30, none⟩ w_45 <| fun (s_47 : Sl) => loop (Int) (fun X_48 (x_49 : Int) w_50 => cond (decide (x_49 < (↑s_47.len : Int))) (idx s_47 x_49 1 <| fun a_51 => ld (.int .u32) a_51 w_50 <| fun (x_52 : Int) => nn p <| fun a_53 => ld .ptr ⟨a_53.block, a_53.off + 33, none⟩ w_50 <| fun (p_54 : Option Addr) => call Tryz.prog 44 ([.pointer p_54, .int .u32 x_52]) ([.one .bool]) w_50 <| fun (b_55 : Bool) w_56 => X_48 (IntKind.wrap .i64 (x_49 + 1)) w_56) (K () w_50)) 0 w_45) /\ (nn p <| fun a_57 => ldV 24 (⟨(Addr.add a_57 1).block, (Addr.add a_57 1).off + 4, none⟩) (World.drew w_4) <| fun (vs_58 : List Value) => new (Obj.map #[] 0) (World.drew w_4) <| fun r_59 w_60 => held [fun w_61 => cellsAt w_61 (⟨(Addr.add a_57 1).block, (Addr.add a_57 1).off + 4, none⟩) 0 vs_58] w_60 <| call Tryz.prog 100 [] ([.one .ptr]) w_60 <| fun (p_62 : Option Addr) w_63 => held [fun w_64 => cellsAt w_64 (⟨(Addr.add a_57 1).block, (Addr.add a_57 1).off + 4, none⟩) 0 vs_58] w_63 <| call Tryz.prog 100 [] ([.one .ptr]) w_63 <| fun (p_65 : Option Addr) w_66 => held [fun w_67 => cellsAt w_67 (⟨(Addr.add a_57 1).block, (Addr.add a_57 1).off + 4, none⟩) 0 vs_58] w_66 <| runQ [.raw] (fun w_68 => (Instr.build 98 (#[(0, .pointer p_62), (1, .pointer p_65), (2, .map (some r_59)), (3, .agg (List.toArray vs_58))])).run Tryz.prog w_68) w_66 <| fun (vs_69 : List Value) => nn p <| fun a_70 => chk (List.length vs_69 = 27) <| st ⟨a_70.block, a_70.off + 33, none⟩ vs_69 w_66 <| fun w_71 => nn p <| fun a_72 => ld .slice ⟨a_72.block, a_72.off + 30, none⟩ w_71 <| fun (s_73 : Sl) => loop (Int) (fun X_74 (x_75 : Int) w_76 => cond (decide (x_75 < (↑s_73.len : Int))) (idx s_73 x_75 1 <| fun a_77 => ld (.int .u32) a_77 w_76 <| fun (x_78 : Int) => nn p <| fun a_79 => ld .ptr ⟨a_79.block, a_79.off + 33, none⟩ w_76 <| fun (p_80 : Option Addr) => call Tryz.prog 44 ([.pointer p_80, .int .u32 x_78]) ([.one .bool]) w_76 <| fun (b_81 : Bool) w_82 => X_74 (IntKind.wrap .i64 (x_75 + 1)) w_82) (K () w_76)) 0 w_71))
def qft : List Ann := [.n, .n, .o [[0, 4, 5, 6, 7, 8, 1, 2, 3, 9, 10, 11, 12], [0, 4, 5, 6, 7, 8, 1, 3, 2, 9, 10, 11, 12], [0, 4, 5, 6, 7, 8, 3, 1, 2, 9, 10, 11, 12]], .n, .l [(28, .one (.int .i64))], .n, .n, .n, .n]
theorem qil {p : Option Addr} {w : World} {K : Unit -> World -> Prop} (hF : qdi p K w) : call Tryz.prog 58 [.pointer p] [] w K := qab (an := qft) Tryz.func58 (by kernel_rfl) ((show fnPt (std Tryz.prog) Tryz.prog Tryz.f58 qft [] [.pointer p] K w = qdi p K w by kernel_rfl).mpr hF)
def qdY (p : Option Addr) (K : Int -> World -> Prop) (w : World) : Prop := nn p <| fun a_1 => ld (.int .u64) ⟨a_1.block, a_1.off + 1, none⟩ w <| fun (x_2 : Int) => K x_2 w
def qgB : List Ann := [.n, .n]
theorem qjw {p : Option Addr} {w : World} {K : Int -> World -> Prop} (hF : qdY p K w) : call Tryz.prog 25 [.pointer p] [.one (.int .u64)] w K := qab (an := qgB) Tryz.func25 (by kernel_rfl) ((show fnPt (std Tryz.prog) Tryz.prog Tryz.f25 qgB [.one (.int .u64)] [.pointer p] K w = qdY p K w by kernel_rfl).mpr hF)
def qck (p : Option Addr) (t : Int) (r0 : Int) (r1 : Int) (r2 : Int) (K : Int -> World -> Prop) (w : World) : Prop := new (Obj.cells #[.int .u32 r0, .int .u32 r1, .int .u32 r2] 42) w <| fun r_1 w_2 => nn p <| fun a_3 => ld .bool ⟨a_3.block, a_3.off + 32, none⟩ w_2 <| fun (b_4 : Bool) => cond b_4 (K 7 w_2) (join (Bool) (fun X_5 => cond (decide (t < 0)) (X_5 true w_2) (X_5 (decide (t >= 8)) w_2)) <| fun (b_6 : Bool) w_7 => cond b_6 (K 4 w_7) (ldA (qtC) ⟨r_1, 0, none⟩ (World.drew w_7) <| fun (t_8 : Int × Int × Int) => nn p <| fun a_9 => chk (0 <= t /\ t < (↑8 : Int)) <| st (Addr.add ⟨(Addr.add a_9 33).block, (Addr.add a_9 33).off + 3, none⟩ (Int.toNat t * 3)) (HL.mk qtC t_8) (World.drew w_7) <| fun w_10 => K 0 w_10))
def qeg : List Ann := [.n, .n, .n, .n, .j [(12, .one .bool)], .n, .n, .o [[0, 1, 2, 3, 4, 5, 6, 7]], .n]
theorem qhH {p : Option Addr} {t : Int} {r0 : Int} {r1 : Int} {r2 : Int} {w : World} {K : Int -> World -> Prop} (hF : qck p t r0 r1 r2 K w) : call Tryz.prog 53 [.pointer p, .int .i64 t, .agg #[.int .u32 r0, .int .u32 r1, .int .u32 r2]] [.one (.int .i64)] w K := qab (an := qeg) Tryz.func53 (by kernel_rfl) ((show fnPt (std Tryz.prog) Tryz.prog Tryz.f53 qeg [.one (.int .i64)] [.pointer p, .int .i64 t, .agg #[.int .u32 r0, .int .u32 r1, .int .u32 r2]] K w = qck p t r0 r1 r2 K w by kernel_rfl).mpr hF)
def qdD (p : Option Addr) (n : Int) (K : Bool -> World -> Prop) (w : World) : Prop := join (Bool) (fun X_1 => cond (decide (n < 2)) (X_1 true w) (nn p <| fun a_2 => ld (.int .u32) (⟨(Addr.add a_2 1).block, (Addr.add a_2 1).off + 1, none⟩) w <| fun (x_3 : Int) => cond (decide (n >= x_3)) (X_1 true w) (nn p <| fun a_4 => ld .slice ⟨a_4.block, a_4.off + 29, none⟩ w <| fun (s_5 : Sl) => call Tryz.prog 95 ([.slice s_5.a s_5.len s_5.cap, .int .u32 n]) ([.one .bool]) w <| fun (b_6 : Bool) w_7 => cond b_6 (X_1 true w_7) (nn p <| fun a_8 => ld .ptr ⟨a_8.block, a_8.off + 33, none⟩ w_7 <| fun (p_9 : Option Addr) => call Tryz.prog 93 ([.pointer p_9, .int .u32 n]) ([.one .bool]) w_7 <| fun (b_10 : Bool) w_11 => cond b_10 (X_1 true w_11) (nn p <| fun a_12 => ld .ptr (⟨(Addr.add a_12 33).block, (Addr.add a_12 33).off + 1, none⟩) w_11 <| fun (p_13 : Option Addr) => call Tryz.prog 93 ([.pointer p_13, .int .u32 n]) ([.one .bool]) w_11 <| fun (b_14 : Bool) w_15 => X_1 b_14 w_15))))) <| fun (b_16 : Bool) w_17 => cond b_16 (K false w_17) (nn p <| fun a_18 => ld .map (⟨(Addr.add a_18 33).block, (Addr.add a_18 33).off + 2, none⟩) w_17 <| fun (p_19 : Option Nat) => runQ [.agg [.int .u8, .slice], .one .bool] (fun w_20 => (Instr.lookup 96 (.map p_19) (.int .u32 n) true).run Tryz.prog w_20) w_17 <| fun (t_21 : (Int × Sl) × Bool) => new (Obj.cells #[.int .u8 0, .slice none 0 0] 105) w_17 <| fun r_22 w_23 => st ⟨r_22, 0, none⟩ ([.int .u8 t_21.fst.fst, .slice t_21.fst.snd.a t_21.fst.snd.len t_21.fst.snd.cap]) w_23 <| fun w_24 => K (!t_21.snd) w_24)
def qf6 : List Ann := [.n, .n, .j [(43, .one .bool)], .n, .n, .n]
theorem qjo {p : Option Addr} {n : Int} {w : World} {K : Bool -> World -> Prop} (hF : qdD p n K w) : call Tryz.prog 45 [.pointer p, .int .u32 n] [.one .bool] w K := qab (an := qf6) Tryz.func45 (by kernel_rfl) ((show fnPt (std Tryz.prog) Tryz.prog Tryz.f45 qf6 [.one .bool] [.pointer p, .int .u32 n] K w = qdD p n K w by kernel_rfl).mpr hF)
def qdJ (p : Option Addr) (n : Int) (K : (Int × Sl × Int) -> World -> Prop) (w : World) : Prop := nn p <| fun a_1 => ld .bool ⟨a_1.block, a_1.off + 32, none⟩ w <| fun (b_2 : Bool) => cond b_2 (K ((0, { a := none, len := 0, cap := 0 }, 7)) w) (nn p <| fun a_3 => ld .map (⟨(Addr.add a_3 33).block, (Addr.add a_3 33).off + 2, none⟩) w <| fun (p_4 : Option Nat) => runQ [.agg [.int .u8, .slice], .one .bool] (fun w_5 => (Instr.lookup 96 (.map p_4) (.int .u32 n) true).run Tryz.prog w_5) w <| fun (t_6 : (Int × Sl) × Bool) => new (Obj.cells #[.int .u8 0, .slice none 0 0] 105) w <| fun r_7 w_8 => st ⟨r_7, 0, none⟩ ([.int .u8 t_6.fst.fst, .slice t_6.fst.snd.a t_6.fst.snd.len t_6.fst.snd.cap]) w_8 <| fun w_9 => cond t_6.snd (ld (.int .u8) ⟨r_7, 0, none⟩ (World.drew w_9) <| fun (x_10 : Int) => ld .slice ⟨r_7, 1, none⟩ (World.drew w_9) <| fun (s_11 : Sl) => call Tryz.prog 42 ([.slice s_11.a s_11.len s_11.cap]) ([.one .slice]) (World.drew w_9) <| fun (s_12 : Sl) w_13 => held [fun w_14 => World.cell? w_14 ⟨r_7, 0, none⟩ = some (.int .u8 x_10)] w_13 <| K ((x_10, s_12, 0)) w_13) (call Tryz.prog 45 ([.pointer p, .int .u32 n]) ([.one .bool]) w_9 <| fun (b_15 : Bool) w_16 => cond (!b_15) (K ((0, { a := none, len := 0, cap := 0 }, 10)) w_16) (nn p <| fun a_17 => ld .ptr a_17 w_16 <| fun (p_18 : Option Addr) => call Tryz.prog 19 ([.pointer p_18, .int .i64 (IntKind.wrap .i64 n)]) ([.one .slice, .one (.int .i64)]) w_16 <| fun (t_19 : Sl × Int) w_20 => cond (!t_19.snd == 0) (K ((0, { a := none, len := 0, cap := 0 }, t_19.snd)) w_20) (call Tryz.prog 85 ([.int .u32 n, .slice t_19.fst.a t_19.fst.len t_19.fst.cap]) ([.one (.int .u8), .one .slice, .one (.int .i64)]) w_20 <| fun (t_21 : Int × Sl × Int) w_22 => K t_21 w_22))))
def qgc : List Ann := [.n, .n, .n, .n, .n, .n, .n, .n, .o [[0, 1, 2, 3, 4, 5, 6, 7]], .n, .n, .n, .n, .n, .n, .n, .n]
theorem qjr {p : Option Addr} {n : Int} {w : World} {K : (Int × Sl × Int) -> World -> Prop} (hF : qdJ p n K w) : call Tryz.prog 35 [.pointer p, .int .u32 n] [.one (.int .u8), .one .slice, .one (.int .i64)] w K := qab (an := qgc) Tryz.func35 (by kernel_rfl) ((show fnPt (std Tryz.prog) Tryz.prog Tryz.f35 qgc [.one (.int .u8), .one .slice, .one (.int .i64)] [.pointer p, .int .u32 n] K w = qdJ p n K w by kernel_rfl).mpr hF)
def qdC (p : Option Addr) (kind : Int) (body : Sl) (K : (Int × Int) -> World -> Prop) (w : World) : Prop := nn p <| fun a_1 => ld .bool ⟨a_1.block, a_1.off + 32, none⟩ w <| fun (b_2 : Bool) => cond b_2 (K ((0, 7)) w) (cond (decide ((↑body.len : Int) > 500)) (K ((0, 3)) w) (nn p <| fun a_3 => ld .ptr ⟨a_3.block, a_3.off + 33, none⟩ w <| fun (p_4 : Option Addr) => call Tryz.prog 41 ([.pointer p_4]) ([.one (.int .u32), .one .bool]) w <| fun (t_5 : Int × Bool) w_6 => cond (!t_5.snd) (K ((0, 6)) w_6) (nn p <| fun a_7 => ld .map (⟨(Addr.add a_7 33).block, (Addr.add a_7 33).off + 2, none⟩) (World.drew w_6) <| fun (p_8 : Option Nat) => call Tryz.prog 42 ([.slice body.a body.len body.cap]) ([.one .slice]) (World.drew w_6) <| fun (s_9 : Sl) w_10 => held [fun w_11 => World.cell? w_11 (⟨(Addr.add a_7 33).block, (Addr.add a_7 33).off + 2, none⟩) = some (.map p_8)] w_10 <| runU ((Instr.mapUpdate 96 (.map p_8) (.int .u32 t_5.fst) (.agg #[.int .u8 kind, .slice s_9.a s_9.len s_9.cap])).run Tryz.prog w_10) <| fun w_12 => K ((t_5.fst, 0)) w_12)))
def qf9 : List Ann := [.n, .n, .n, .n, .n, .n, .n, .n, .n, .n, .n, .o [[0, 1, 2, 3, 4, 5, 6, 7, 8, 9, 10]], .n]
theorem qjt {p : Option Addr} {kind : Int} {body : Sl} {w : World} {K : (Int × Int) -> World -> Prop} (hF : qdC p kind body K w) : call Tryz.prog 10 [.pointer p, .int .u8 kind, .slice body.a body.len body.cap] [.one (.int .u32), .one (.int .i64)] w K := qab (an := qf9) Tryz.func10 (by kernel_rfl) ((show fnPt (std Tryz.prog) Tryz.prog Tryz.f10 qf9 [.one (.int .u32), .one (.int .i64)] [.pointer p, .int .u8 kind, .slice body.a body.len body.cap] K w = qdC p kind body K w by kernel_rfl).mpr hF)
def qdU (p : Option Addr) (n : Int) (kind : Int) (body : Sl) (K : Int -> World -> Prop) (w : World) : Prop := nn p <| fun a_1 => ld .bool ⟨a_1.block, a_1.off + 32, none⟩ w <| fun (b_2 : Bool) => cond b_2 (K 7 w) (nn p <| fun a_3 => ld .map (⟨(Addr.add a_3 33).block, (Addr.add a_3 33).off + 2, none⟩) w <| fun (p_4 : Option Nat) => runQ [.agg [.int .u8, .slice], .one .bool] (fun w_5 => (Instr.lookup 96 (.map p_4) (.int .u32 n) true).run Tryz.prog w_5) w <| fun (t_6 : (Int × Sl) × Bool) => new (Obj.cells #[.int .u8 0, .slice none 0 0] 105) w <| fun r_7 w_8 => st ⟨r_7, 0, none⟩ ([.int .u8 t_6.fst.fst, .slice t_6.fst.snd.a t_6.fst.snd.len t_6.fst.snd.cap]) w_8 <| fun w_9 => cond (!t_6.snd) (K 10 w_9) (cond (decide ((↑body.len : Int) > 500)) (K 3 w_9) (nn p <| fun a_10 => ld .map (⟨(Addr.add a_10 33).block, (Addr.add a_10 33).off + 2, none⟩) (World.drew w_9) <| fun (p_11 : Option Nat) => call Tryz.prog 42 ([.slice body.a body.len body.cap]) ([.one .slice]) (World.drew w_9) <| fun (s_12 : Sl) w_13 => held [fun w_14 => World.cell? w_14 (⟨(Addr.add a_10 33).block, (Addr.add a_10 33).off + 2, none⟩) = some (.map p_11)] w_13 <| runU ((Instr.mapUpdate 96 (.map p_11) (.int .u32 n) (.agg #[.int .u8 kind, .slice s_12.a s_12.len s_12.cap])).run Tryz.prog w_13) <| fun w_15 => K 0 w_15)))
def qgW : List Ann := [.n, .n, .n, .n, .n, .n, .n, .n, .n, .n, .n, .n, .o [[0, 1, 2, 3, 4, 5, 6, 7, 8, 9, 10]], .n]
theorem qj3 {p : Option Addr} {n : Int} {kind : Int} {body : Sl} {w : World} {K : Int -> World -> Prop} (hF : qdU p n kind body K w) : call Tryz.prog 49 [.pointer p, .int .u32 n, .int .u8 kind, .slice body.a body.len body.cap] [.one (.int .i64)] w K := qab (an := qgW) Tryz.func49 (by kernel_rfl) ((show fnPt (std Tryz.prog) Tryz.prog Tryz.f49 qgW [.one (.int .i64)] [.pointer p, .int .u32 n, .int .u8 kind, .slice body.a body.len body.cap] K w = qdU p n kind body K w by kernel_rfl).mpr hF)
def qdB (p : Option Addr) (n : Int) (K : Int -> World -> Prop) (w : World) : Prop := nn p <| fun a_1 => ld .bool ⟨a_1.block, a_1.off + 32, none⟩ w <| fun (b_2 : Bool) => cond b_2 (K 7 w) (nn p <| fun a_3 => ld .map (⟨(Addr.add a_3 33).block, (Addr.add a_3 33).off + 2, none⟩) w <| fun (p_4 : Option Nat) => runQ [.agg [.int .u8, .slice], .one .bool] (fun w_5 => (Instr.lookup 96 (.map p_4) (.int .u32 n) true).run Tryz.prog w_5) w <| fun (t_6 : (Int × Sl) × Bool) => new (Obj.cells #[.int .u8 0, .slice none 0 0] 105) w <| fun r_7 w_8 => st ⟨r_7, 0, none⟩ ([.int .u8 t_6.fst.fst, .slice t_6.fst.snd.a t_6.fst.snd.len t_6.fst.snd.cap]) w_8 <| fun w_9 => cond t_6.snd (nn p <| fun a_10 => ld .map (⟨(Addr.add a_10 33).block, (Addr.add a_10 33).off + 2, none⟩) w_9 <| fun (p_11 : Option Nat) => run [] ((Builtin.delete_ (#[96, 29]) 0 (#[.map p_11, .int .u32 n])).run Tryz.prog w_9) <| fun (x_12 : PUnit) w_13 => nn p <| fun a_14 => ld .ptr ⟨a_14.block, a_14.off + 33, none⟩ w_13 <| fun (p_15 : Option Addr) => call Tryz.prog 44 ([.pointer p_15, .int .u32 n]) ([.one .bool]) w_13 <| fun (b_16 : Bool) w_17 => K 0 w_17) (call Tryz.prog 45 ([.pointer p, .int .u32 n]) ([.one .bool]) w_9 <| fun (b_18 : Bool) w_19 => cond (!b_18) (K 10 w_19) (nn p <| fun a_20 => ld .ptr (⟨(Addr.add a_20 33).block, (Addr.add a_20 33).off + 1, none⟩) w_19 <| fun (p_21 : Option Addr) => call Tryz.prog 44 ([.pointer p_21, .int .u32 n]) ([.one .bool]) w_19 <| fun (b_22 : Bool) w_23 => K 0 w_23)))
def qgb : List Ann := [.n, .n, .n, .n, .n, .n, .n, .n, .n, .n, .n, .n, .n, .n, .n]
theorem qjk {p : Option Addr} {n : Int} {w : World} {K : Int -> World -> Prop} (hF : qdB p n K w) : call Tryz.prog 13 [.pointer p, .int .u32 n] [.one (.int .i64)] w K := qab (an := qgb) Tryz.func13 (by kernel_rfl) ((show fnPt (std Tryz.prog) Tryz.prog Tryz.f13 qgb [.one (.int .i64)] [.pointer p, .int .u32 n] K w = qdB p n K w by kernel_rfl).mpr hF)
def qdI (p : Option Addr) (K : (Sl × Sl × Bool) -> World -> Prop) (w : World) : Prop := nn p <| fun a_1 => ld .ptr ⟨a_1.block, a_1.off + 33, none⟩ w <| fun (p_2 : Option Addr) => call Tryz.prog 40 ([.pointer p_2]) ([.one .slice]) w <| fun (s_3 : Sl) w_4 => nn p <| fun a_5 => ld .ptr (⟨(Addr.add a_5 33).block, (Addr.add a_5 33).off + 1, none⟩) (World.drew w_4) <| fun (p_6 : Option Addr) => nn p <| fun a_7 => ld .slice ⟨a_7.block, a_7.off + 29, none⟩ (World.drew w_4) <| fun (s_8 : Sl) => call Tryz.prog 40 ([.pointer p_6]) ([.one .slice]) (World.drew w_4) <| fun (s_9 : Sl) w_10 => held [fun w_11 => World.cell? w_11 ⟨a_7.block, a_7.off + 29, none⟩ = some (.slice s_8.a s_8.len s_8.cap)] w_10 <| run [.one .slice] ((Builtin.append_ (#[27, 27]) 27 (#[.slice s_9.a s_9.len s_9.cap, .slice s_8.a s_8.len s_8.cap])).run Tryz.prog w_10) <| fun (s_12 : Sl) w_13 => call Tryz.prog 88 ([.int .i64 (IntKind.wrap .i64 ((↑s_3.len : Int) + (↑s_12.len : Int)))]) ([.one (.int .i64)]) w_13 <| fun (x_14 : Int) w_15 => cond (decide (x_14 > (↑s_3.len : Int))) (K (({ a := none, len := 0, cap := 0 }, { a := none, len := 0, cap := 0 }, false)) w_15) (slc s_3 (some x_14) none none 1 <| fun (s_16 : Sl) => run [.one .slice] ((Builtin.append_ (#[27, 27]) 27 (#[.slice s_12.a s_12.len s_12.cap, .slice s_16.a s_16.len s_16.cap])).run Tryz.prog w_15) <| fun (s_17 : Sl) w_18 => call Tryz.prog 91 ([.slice s_17.a s_17.len s_17.cap]) [] w_18 <| fun (x_19 : PUnit) w_20 => slc s_3 none (some x_14) (some x_14) 1 <| fun (s_21 : Sl) => K ((s_21, s_17, true)) w_20)
def qf4 : List Ann := [.n, .n, .n, .o [[0, 1, 2, 3, 4, 6, 7, 8, 9, 5, 10, 11]], .n, .n, .n, .n, .n, .n, .n]
theorem qjm {p : Option Addr} {w : World} {K : (Sl × Sl × Bool) -> World -> Prop} (hF : qdI p K w) : call Tryz.prog 56 [.pointer p] [.one .slice, .one .slice, .one .bool] w K := qab (an := qf4) Tryz.func56 (by kernel_rfl) ((show fnPt (std Tryz.prog) Tryz.prog Tryz.f56 qf4 [.one .slice, .one .slice, .one .bool] [.pointer p] K w = qdI p K w by kernel_rfl).mpr hF)
def qcO (p : Option Addr) (K : Int -> World -> Prop) (w : World) : Prop := nn p <| fun a_1 => ld .bool ⟨a_1.block, a_1.off + 32, none⟩ w <| fun (b_2 : Bool) => cond b_2 (K 7 w) (join (Bool) (fun X_3 => nn p <| fun a_4 => ld .map (⟨(Addr.add a_4 33).block, (Addr.add a_4 33).off + 2, none⟩) (World.drew w) <| fun (p_5 : Option Nat) => runQ [.one (.int .i64)] (fun w_6 => (Builtin.len_ #[96] 3 (#[.map p_5])).run Tryz.prog w_6) (World.drew w) <| fun (x_7 : Int) => cond (x_7 == 0) (nn p <| fun a_8 => ld .ptr (⟨(Addr.add a_8 33).block, (Addr.add a_8 33).off + 1, none⟩) (World.drew w) <| fun (p_9 : Option Addr) => call Tryz.prog 43 ([.pointer p_9]) ([.one (.int .i64)]) (World.drew w) <| fun (x_10 : Int) w_11 => cond (x_10 == 0) (nn p <| fun a_12 => ldV 24 (⟨(Addr.add a_12 33).block, (Addr.add a_12 33).off + 3, none⟩) w_11 <| fun (vs_13 : List Value) => nn p <| fun a_14 => ldV 24 (⟨(Addr.add a_14 1).block, (Addr.add a_14 1).off + 4, none⟩) w_11 <| fun (vs_15 : List Value) => runQ [.one .bool] (fun w_16 => (do eqGuard BinOp.eql 43 (Operand.tmp 33) (Operand.tmp 38) (.agg (List.toArray vs_13)) (.agg (List.toArray vs_15)); binOp BinOp.eql 43 (.agg (List.toArray vs_13)) (.agg (List.toArray vs_15))).run Tryz.prog w_16) w_11 <| fun (b_17 : Bool) => X_3 b_17 w_11) (X_3 false w_11)) (X_3 false (World.drew w))) <| fun (b_18 : Bool) w_19 => cond b_18 (K 0 w_19) (call Tryz.prog 56 ([.pointer p]) ([.one .slice, .one .slice, .one .bool]) w_19 <| fun (t_20 : Sl × Sl × Bool) w_21 => cond (!t_20.snd.snd) (K 6 w_21) (nn p <| fun a_22 => ld (.int .u64) ⟨a_22.block, a_22.off + 1, none⟩ (World.drew w_21) <| fun (x_23 : Int) => nn p <| fun a_24 => ld (.int .u32) (⟨(Addr.add a_24 1).block, (Addr.add a_24 1).off + 1, none⟩) (World.drew w_21) <| fun (x_25 : Int) => nn p <| fun a_26 => ldV 24 (⟨(Addr.add a_26 33).block, (Addr.add a_26 33).off + 3, none⟩) (World.drew w_21) <| fun (vs_27 : List Value) => runQ [.raw] (fun w_28 => (Instr.build 58 (#[(0, .int .u64 (IntKind.wrap .u64 (x_23 + 1))), (1, .int .u32 x_25), (3, .int .u32 (IntKind.wrap .u32 (↑t_20.snd.fst.len : Int))), (4, .agg (List.toArray vs_27))])).run Tryz.prog w_28) (World.drew w_21) <| fun (vs_29 : List Value) => newZ Tryz.prog 58 (World.drew w_21) <| fun r_30 w_31 => held [fun w_32 => cellsAt w_32 (⟨(Addr.add a_26 33).block, (Addr.add a_26 33).off + 3, none⟩) 0 vs_27, fun w_33 => World.cell? w_33 (⟨(Addr.add a_24 1).block, (Addr.add a_24 1).off + 1, none⟩) = some (.int .u32 x_25), fun w_34 => World.cell? w_34 ⟨a_22.block, a_22.off + 1, none⟩ = some (.int .u64 x_23)] w_31 <| chk (List.length vs_29 = 28) <| st ⟨r_30, 0, none⟩ vs_29 w_31 <| fun w_35 => join (PUnit) (fun X_36 => cond (decide ((↑t_20.fst.len : Int) > 0)) (idx t_20.fst 0 1 <| fun a_37 => ld (.int .u32) a_37 w_35 <| fun (x_38 : Int) => st ⟨r_30, 2, none⟩ ([.int .u32 x_38]) w_35 <| fun w_39 => X_36 () w_39) (X_36 () w_35)) <| fun (x_40 : PUnit) w_41 => ldV 28 ⟨r_30, 0, none⟩ w_41 <| fun (vs_42 : List Value) => call Tryz.prog 57 ([.pointer p, .slice t_20.fst.a t_20.fst.len t_20.fst.cap, .slice t_20.snd.fst.a t_20.snd.fst.len t_20.snd.fst.cap, .agg (List.toArray vs_42)]) ([.one (.int .i64)]) w_41 <| fun (x_43 : Int) w_44 => cond (!x_43 == 0) (runQ [.raw] (fun w_45 => (Instr.build 100 (#[(5, .bool true)])).run Tryz.prog w_45) w_44 <| fun (vs_46 : List Value) => nn p <| fun a_47 => chk (List.length vs_46 = 60) <| st a_47 vs_46 w_44 <| fun w_48 => call Tryz.prog 58 ([.pointer p]) [] w_48 <| fun (x_49 : PUnit) w_50 => K x_43 w_50) (ldV 28 ⟨r_30, 0, none⟩ w_44 <| fun (vs_51 : List Value) => nn p <| fun a_52 => chk (List.length vs_51 = 28) <| st ⟨a_52.block, a_52.off + 1, none⟩ vs_51 w_44 <| fun w_53 => nn p <| fun a_54 => st ⟨a_54.block, a_54.off + 29, none⟩ ([.slice t_20.fst.a t_20.fst.len t_20.fst.cap]) w_53 <| fun w_55 => nn p <| fun a_56 => st ⟨a_56.block, a_56.off + 30, none⟩ ([.slice t_20.snd.fst.a t_20.snd.fst.len t_20.snd.fst.cap]) w_55 <| fun w_57 => call Tryz.prog 58 ([.pointer p]) [] w_57 <| fun (x_58 : PUnit) w_59 => K 0 w_59))))
def qeJ : List Ann := [.n, .n, .n, .n, .n, .j [(40, .one .bool)], .o [[0, 1, 2, 3, 4, 5, 6, 7, 8, 9, 10, 11, 12, 13, 14, 15, 16, 17, 18, 19, 20, 21, 22, 23, 24, 25, 26, 27, 28]], .n, .n, .n, .n, .n, .n, .o [[0, 1, 2, 3, 4, 5, 6, 7, 8, 9, 10, 11, 12, 13, 14, 15, 16, 17, 18, 19, 20, 21]], .j [], .n, .n, .n, .n, .n, .n, .n, .n, .n, .n]
theorem qhU {p : Option Addr} {w : World} {K : Int -> World -> Prop} (hF : qcO p K w) : call Tryz.prog 20 [.pointer p] [.one (.int .i64)] w K := qab (an := qeJ) Tryz.func20 (by kernel_rfl) ((show fnPt (std Tryz.prog) Tryz.prog Tryz.f20 qeJ [.one (.int .i64)] [.pointer p] K w = qcO p K w by kernel_rfl).mpr hF)
def qc5 (p : Option Addr) (pages : Sl) (named : Sl) (next : List Value) (K : Int -> World -> Prop) (w : World) : Prop := new (Obj.cells (List.toArray next) 58) w <| fun r_1 w_2 => call Tryz.prog 34 ([.pointer p]) ([.one .slice]) w_2 <| fun (s_3 : Sl) w_4 => loop (Int) (fun X_5 (x_6 : Int) w_7 => cond (decide (x_6 < (↑s_3.len : Int))) (idx s_3 x_6 1 <| fun a_8 => ld (.int .u32) a_8 w_7 <| fun (x_9 : Int) => nn p <| fun a_10 => ld .map (⟨(Addr.add a_10 33).block, (Addr.add a_10 33).off + 2, none⟩) (World.drew w_7) <| fun (p_11 : Option Nat) => runQ [.agg [.int .u8, .slice]] (fun w_12 => (Instr.lookup 96 (.map p_11) (.int .u32 x_9) false).run Tryz.prog w_12) (World.drew w_7) <| fun (t_13 : Int × Sl) => nn p <| fun a_14 => ld .map (⟨(Addr.add a_14 33).block, (Addr.add a_14 33).off + 2, none⟩) (World.drew w_7) <| fun (p_15 : Option Nat) => runQ [.agg [.int .u8, .slice]] (fun w_16 => (Instr.lookup 96 (.map p_15) (.int .u32 x_9) false).run Tryz.prog w_16) (World.drew w_7) <| fun (t_17 : Int × Sl) => call Tryz.prog 99 ([.int .u32 x_9, .int .u8 t_13.fst, .slice t_17.snd.a t_17.snd.len t_17.snd.cap]) ([.one .slice, .one (.int .i64)]) (World.drew w_7) <| fun (t_18 : Sl × Int) w_19 => nn p <| fun a_20 => ld .ptr a_20 w_19 <| fun (p_21 : Option Addr) => call Tryz.prog 28 ([.pointer p_21, .int .i64 (IntKind.wrap .i64 x_9), .slice t_18.fst.a t_18.fst.len t_18.fst.cap]) ([.one (.int .i64)]) w_19 <| fun (x_22 : Int) w_23 => cond (!x_22 == 0) (K x_22 w_23) (X_5 (IntKind.wrap .i64 (x_6 + 1)) w_23)) (nn p <| fun a_24 => ld .ptr a_24 w_7 <| fun (p_25 : Option Addr) => call Tryz.prog 89 ([.pointer p_25, .slice named.a named.len named.cap, .slice pages.a pages.len pages.cap]) ([.one (.int .i64)]) w_7 <| fun (x_26 : Int) w_27 => cond (!x_26 == 0) (K x_26 w_27) (nn p <| fun a_28 => ld .ptr a_28 (World.drew w_27) <| fun (p_29 : Option Addr) => ldV 28 ⟨r_1, 0, none⟩ (World.drew w_27) <| fun (vs_30 : List Value) => call Tryz.prog 90 ([.pointer p_29, .agg (List.toArray vs_30)]) ([.one (.int .i64)]) (World.drew w_27) <| fun (x_31 : Int) w_32 => K x_31 w_32))) 0 w_4
def qfw : List Ann := [.n, .n, .n, .l [(18, .one (.int .i64))], .n, .n, .n, .n, .n, .o [[0, 1, 2, 3, 4, 5, 6, 7, 8, 9, 10, 11, 12, 13, 14, 15, 16, 17, 18, 19, 20, 21, 22]], .n, .n, .n, .n, .n, .n, .n, .n, .o [[0, 1, 2, 3, 4, 5, 6]]]
theorem qin {p : Option Addr} {pages : Sl} {named : Sl} {next : List Value} {w : World} {K : Int -> World -> Prop} (hF : qc5 p pages named next K w) : call Tryz.prog 57 [.pointer p, .slice pages.a pages.len pages.cap, .slice named.a named.len named.cap, .agg next.toArray] [.one (.int .i64)] w K := qab (an := qfw) Tryz.func57 (by kernel_rfl) ((show fnPt (std Tryz.prog) Tryz.prog Tryz.f57 qfw [.one (.int .i64)] [.pointer p, .slice pages.a pages.len pages.cap, .slice named.a named.len named.cap, .agg next.toArray] K w = qc5 p pages named next K w by kernel_rfl).mpr hF)
def qdE (p : Option Addr) (K : Sl -> World -> Prop) (w : World) : Prop := nn p <| fun a_1 => ld .ptr ⟨a_1.block, a_1.off + 33, none⟩ w <| fun (p_2 : Option Addr) => call Tryz.prog 40 ([.pointer p_2]) ([.one .slice]) w <| fun (s_3 : Sl) w_4 => K s_3 w_4
def qga : List Ann := [.n, .n]
theorem qjs {p : Option Addr} {w : World} {K : Sl -> World -> Prop} (hF : qdE p K w) : call Tryz.prog 9 [.pointer p] [.one .slice] w K := qab (an := qga) Tryz.func9 (by kernel_rfl) ((show fnPt (std Tryz.prog) Tryz.prog Tryz.f9 qga [.one .slice] [.pointer p] K w = qdE p K w by kernel_rfl).mpr hF)
def qc1 (p : Option Addr) (K : Sl -> World -> Prop) (w : World) : Prop := nn p <| fun a_1 => ld .slice ⟨a_1.block, a_1.off + 29, none⟩ w <| fun (s_2 : Sl) => call Tryz.prog 82 ([.slice s_2.a s_2.len s_2.cap]) ([.one .slice]) w <| fun (s_3 : Sl) w_4 => K s_3 w_4
def qfx : List Ann := [.n, .n]
theorem qiT {p : Option Addr} {w : World} {K : Sl -> World -> Prop} (hF : qc1 p K w) : call Tryz.prog 32 [.pointer p] [.one .slice] w K := qab (an := qfx) Tryz.func32 (by kernel_rfl) ((show fnPt (std Tryz.prog) Tryz.prog Tryz.f32 qfx [.one .slice] [.pointer p] K w = qc1 p K w by kernel_rfl).mpr hF)
def qc7 (p : Option Addr) (K : Sl -> World -> Prop) (w : World) : Prop := nn p <| fun a_1 => ld .map (⟨(Addr.add a_1 33).block, (Addr.add a_1 33).off + 2, none⟩) w <| fun (p_2 : Option Nat) => call Tryz.prog 84 ([.map p_2]) ([.one .any]) w <| fun (v_3 : Value) w_4 => call Tryz.prog 83 [v_3] ([.one .slice]) w_4 <| fun (s_5 : Sl) w_6 => K s_5 w_6
def qfq : List Ann := [.n, .n]
theorem qip {p : Option Addr} {w : World} {K : Sl -> World -> Prop} (hF : qc7 p K w) : call Tryz.prog 34 [.pointer p] [.one .slice] w K := qab (an := qfq) Tryz.func34 (by kernel_rfl) ((show fnPt (std Tryz.prog) Tryz.prog Tryz.f34 qfq [.one .slice] [.pointer p] K w = qc7 p K w by kernel_rfl).mpr hF)
def qfL (d : Option Addr) (numbers : Sl) (pages : Sl) (K : Int -> World -> Prop) (w : World) : Prop := call Tryz.prog 122 ([.slice numbers.a numbers.len numbers.cap, .slice pages.a pages.len pages.cap]) ([.one .slice, .one (.int .i64)]) w <| fun (t_1 : Sl × Int) w_2 => cond (!t_1.snd == 0) (K t_1.snd w_2) (loop (Int) (fun X_3 (x_4 : Int) w_5 => cond (decide (x_4 < (↑t_1.fst.len : Int))) (idx t_1.fst x_4 1 <| fun a_6 => ld .slice a_6 w_5 <| fun (s_7 : Sl) => idx pages x_4 1 <| fun a_8 => ld (.int .u32) a_8 w_5 <| fun (x_9 : Int) => call Tryz.prog 99 ([.int .u32 x_9, .int .u8 2, .slice s_7.a s_7.len s_7.cap]) ([.one .slice, .one (.int .i64)]) w_5 <| fun (t_10 : Sl × Int) w_11 => idx pages x_4 1 <| fun a_12 => ld (.int .u32) a_12 w_11 <| fun (x_13 : Int) => call Tryz.prog 28 ([.pointer d, .int .i64 (IntKind.wrap .i64 x_13), .slice t_10.fst.a t_10.fst.len t_10.fst.cap]) ([.one (.int .i64)]) w_11 <| fun (x_14 : Int) w_15 => cond (!x_14 == 0) (K x_14 w_15) (X_3 (IntKind.wrap .i64 (x_4 + 1)) w_15)) (call Tryz.prog 87 ([.pointer d]) ([.one (.int .i64)]) w_5 <| fun (x_16 : Int) w_17 => K x_16 w_17)) 0 w_2)
def qjb : List Ann := [.n, .n, .n, .n, .n, .n, .n, .l [(25, .one (.int .i64))], .n, .n, .n, .n, .n, .n, .n, .n, .n]
theorem qmn {d : Option Addr} {numbers : Sl} {pages : Sl} {w : World} {K : Int -> World -> Prop} (hF : qfL d numbers pages K w) : call Tryz.prog 89 [.pointer d, .slice numbers.a numbers.len numbers.cap, .slice pages.a pages.len pages.cap] [.one (.int .i64)] w K := qab (an := qjb) Tryz.func89 (by kernel_rfl) ((show fnPt (std Tryz.prog) Tryz.prog Tryz.f89 qjb [.one (.int .i64)] [.pointer d, .slice numbers.a numbers.len numbers.cap, .slice pages.a pages.len pages.cap] K w = qfL d numbers pages K w by kernel_rfl).mpr hF)
def qhw (d : Option Addr) (s : List Value) (K : Int -> World -> Prop) (w : World) : Prop := new (Obj.cells (List.toArray s) 58) w <| fun r_1 w_2 => ld (.int .u64) ⟨r_1, 0, none⟩ (World.drew w_2) <| fun (x_3 : Int) => ldV 28 ⟨r_1, 0, none⟩ (World.drew w_2) <| fun (vs_4 : List Value) => call Tryz.prog 123 ([.agg (List.toArray vs_4)]) ([.one .slice]) (World.drew w_2) <| fun (s_5 : Sl) w_6 => held [fun w_7 => World.cell? w_7 ⟨r_1, 0, none⟩ = some (.int .u64 x_3)] w_6 <| call Tryz.prog 28 ([.pointer d, .int .i64 (IntKind.wrap .i64 (Int.tmod x_3 2)), .slice s_5.a s_5.len s_5.cap]) ([.one (.int .i64)]) w_6 <| fun (x_8 : Int) w_9 => cond (!x_8 == 0) (K x_8 w_9) (call Tryz.prog 87 ([.pointer d]) ([.one (.int .i64)]) w_9 <| fun (x_10 : Int) w_11 => K x_10 w_11)
def qk3 : List Ann := [.n, .n, .n, .o [[0, 1, 2, 3, 4, 5, 6, 7, 8]], .n, .n, .n]
theorem qnE {d : Option Addr} {s : List Value} {w : World} {K : Int -> World -> Prop} (hF : qhw d s K w) : call Tryz.prog 90 [.pointer d, .agg s.toArray] [.one (.int .i64)] w K := qab (an := qk3) Tryz.func90 (by kernel_rfl) ((show fnPt (std Tryz.prog) Tryz.prog Tryz.f90 qk3 [.one (.int .i64)] [.pointer d, .agg s.toArray] K w = qhw d s K w by kernel_rfl).mpr hF)
end Go.Proofs.YtmbcedengdoamaaGreatDoor
end
section
set_option linter.unusedVariables false
set_option linter.unusedSimpArgs false
set_option linter.unusedSectionVars false
namespace Go.Pt
open Go
section
variable {α : Type} [DecidableEq α] {P : Program} {w : World} {kt : TypeId} {kv : α -> Value}
def MapS (kv : α -> Value) (w : World) (b : Nat) (f : List (α × Value)) : Prop :=
 ∃ es c, w.heap[b]? = some (.map es c) /\ Ents kv es.toList f /\ (es.toList.map (·.born)).Pairwise (· < ·) /\ ∀ e ∈ es.toList, e.born < c
theorem MapS.at {b : Nat} {f : List (α × Value)} (h : MapS kv w b f) : MapAt kv w b f := by
 obtain ⟨es, c, hb, he, _⟩ := h
 exact ⟨es, c, hb, he⟩
theorem MapS.frame {w' : World} {b : Nat} {S : List Nat} {f : List (α × Value)} (h : MapS kv w b f) (k : Fr S w w') (h1 : b ∉ S) : MapS kv w' b f := by
 obtain ⟨es, c, hb, he⟩ := h
 exact ⟨es, c, by rw [k.block b (qac hb) h1]; exact hb, he⟩
theorem MapS.lt {b : Nat} {f : List (α × Value)} (h : MapS kv w b f) : b < w.heap.size := by
 obtain ⟨es, c, hb, _⟩ := h
 exact qac hb
theorem MapS.empty {b : Nat} (hb : w.heap[b]? = some (.map #[] 0)) : MapS kv w b [] := ⟨#[], 0, hb, rfl, by simp, by simp⟩
theorem MapS.new {t et : TypeId} {v : Value} (ht : P.underlying t = some (.map kt et)) (K : KeyOk P kt kv) {b : Nat} {f : List (α × Value)} (h : MapS kv w b f) (x : α) (hx : posOf x f = none) :
  ∃ o, (Instr.mapUpdate t (.map (some b)) (kv x) v).run P w = .ok () (upd w b o) /\ MapS kv (upd w b o) b (f ++ [(x, v)]) := by
 obtain ⟨es, c, hb, he, hs, hc⟩ := h
 refine ⟨.map (es.push ⟨kv x, v, c⟩) (c + 1), ?_, es.push ⟨kv x, v, c⟩, c + 1, ?_, ?_, ?_, ?_⟩
 ·simp [Instr.mapUpdate, run_underlying ht, Go.MapKept.run_getObj_map hb, K.check, qaP K he, hx, Go.MapKept.run_setObj_map _ hb]
  rfl
 ·rw [qaD _ _ _ _ (qac hb), if_pos rfl]
 ·simp only [Ents] at he ⊢
  simp [he]
 ·rw [Array.toList_push, List.map_append, List.pairwise_append]
  refine ⟨hs, by simp, fun a ha b hb' => ?_⟩
  obtain ⟨e, he', rfl⟩ := List.mem_map.1 ha
  simp at hb'
  subst hb'
  exact hc e he'
 ·intro e he'
  rw [Array.toList_push] at he'
  rcases List.mem_append.1 he' with h1 | h1
  ·exact Nat.lt_succ_of_lt (hc e h1)
  ·simp at h1; subst h1; exact Nat.lt_succ_self _
theorem MapS.del {t et ty : TypeId} (ht : P.underlying t = some (.map kt et)) (K : KeyOk P kt kv) {b : Nat} {f : List (α × Value)} (h : MapS kv w b f) (x : α) :
  ∃ o, (Builtin.delete_ #[t, kt] ty #[.map (some b), kv x]).run P w = .ok (.tuple #[]) (upd w b o) /\ MapS kv (upd w b o) b (match posOf x f with | some q => f.eraseIdx q.1 | none => f) := by
 obtain ⟨es, c, hb, he, hs, hc⟩ := h
 cases hp : posOf x f with
 | none =>
  refine ⟨.map es c, ?_, es, c, ?_, he, hs, hc⟩
  ·simp [Builtin.delete_, run_underlying ht, Go.MapKept.run_getObj_map hb, K.check, qaP K he, hp, Go.MapKept.run_setObj_map _ hb]
   rfl
  ·rw [qaD _ _ _ _ (qac hb), if_pos rfl]
 | some q =>
  have h1 : (es.eraseIdxIfInBounds q.1).toList = es.toList.eraseIdx q.1 := by simp
  refine ⟨.map (es.eraseIdxIfInBounds q.1) c, ?_, es.eraseIdxIfInBounds q.1, c, ?_, ?_, ?_, ?_⟩
  ·simp [Builtin.delete_, run_underlying ht, Go.MapKept.run_getObj_map hb, K.check, qaP K he, hp, Go.MapKept.run_setObj_map _ hb]
   rfl
  ·rw [qaD _ _ _ _ (qac hb), if_pos rfl]
  ·rw [h1]
   simp only [Ents] at he ⊢
   rw [qbO, he, <- qbO]
  ·rw [h1, qbO]
   exact hs.sublist (List.eraseIdx_sublist _ _)
  ·rw [h1]
   exact fun e he' => hc e (List.mem_of_mem_eraseIdx he')
theorem qqU {t et : TypeId} (ht : P.underlying t = some (.map kt et)) {b : Nat} {es : Array MapEntry} {c : Nat} (hb : w.heap[b]? = some (.map es c)) :
  (Instr.range t (.map (some b))).run P w = .ok (.pointer (some ⟨w.heap.size, 0, none⟩)) (w.alloc (.mapIter (some b) c #[] c)) :=
 run_range_map w t kt et b es c ht hb
theorem qtj {b it c : Nat} {es : Array MapEntry} {seen : Array Nat} {ty : TypeId} {Ke : World -> Prop} {Ks : Value -> Value -> World -> Prop} (hb : w.heap[b]? = some (.map es c)) (hi : w.heap[it]? = some (.mapIter (some b) c seen c)) (hc : ∀ e ∈ es.toList, e.born < c)
  (ke : (∀ e ∈ es.toList, e.born ∈ seen.toList) -> Ke w)
  (ks : ∀ e ∈ es.toList, e.born ∉ seen.toList -> ∀ w', Same w w' -> Ks e.key e.val (upd w' it (.mapIter (some b) c (seen.push e.born) c))) :
  nxt ((Instr.next (.pointer (some ⟨it, 0, none⟩)) false ty).run P w) Ke Ks := by
 have htest : (!seen.isEmpty && !es.isEmpty && es.all (fun x => decide (x.born >= c))) = false := next_test_false seen es c c hc (Nat.le_refl _)
 have hlt := qac hi
 let L := leftOf es seen
 have hmem : ∀ x ∈ L.toList, x ∈ es.toList /\ x.born ∉ seen.toList := by
  intro x hx
  have : x ∈ es.toList.filter (fun e => !seen.contains e.born) := by simpa [L, leftOf] using hx
  have h2 := List.mem_filter.1 this
  exact ⟨h2.1, by simpa using h2.2⟩
 have e1 : L.filter (fun x => decide (x.born < c)) = L := by
  apply Array.toList_inj.1
  rw [Array.toList_filter]
  exact List.filter_eq_self.2 fun x hx => decide_eq_true (hc x (hmem x hx).1)
 have e2 : L.filter (fun x => decide (x.born >= c)) = #[] := by
  apply Array.toList_inj.1
  rw [Array.toList_filter]
  exact List.filter_eq_nil_iff.2 fun x hx => by have := hc x (hmem x hx).1; simp; omega
 have hL : es.filter (fun e => !seen.contains e.born) = L := rfl
 have hsz : ∀ x ∈ es.toList, x.born ∉ seen.toList -> x ∈ L.toList := fun x hx hn => by
  have : x ∈ es.toList.filter (fun e => !seen.contains e.born) := List.mem_filter.2 ⟨hx, by simpa using hn⟩
  simpa [L, leftOf] using this
 clear_value L
 unfold nxt
 by_cases h0 : L.size = 0
 ·left
  have hE : L = #[] := Array.eq_empty_of_size_eq_zero h0
  refine ⟨w, ?_, ke fun e he => Classical.byContradiction fun hn => ?_⟩
  ·simp only [Instr.next, getObj, Sem.run_bind, Sem.run, hi, hb, Result.andThen, htest, Bool.false_eq_true, if_false, hL, e1, e2, Array.append_empty]
   subst hE
   simp [choose, Sem.run, Question.forced]
  ·have := hsz e he hn
   rw [hE] at this
   simp at this
 ·right
  have hne : L.isEmpty = false := by simp [Array.isEmpty, h0]
  have hch : ∃ (j : Nat) (w1 : World), j < L.size /\ Same w w1 /\ (choose (Question.mapNext L.size)).run P w = .ok j w1 := by
   by_cases hf : L.size <= 1
   ·exact ⟨0, w, by omega, .refl _, by simp [choose, Sem.run, Question.forced, hf]⟩
   ·exact ⟨_, w.drew, Nat.mod_lt _ (by omega), (Same.refl w).drew, by
     simp only [choose, Sem.run, Question.forced, decide_eq_true_eq, hf, if_false, Question.cut]
     rfl⟩
  obtain ⟨j, w1, hj, hal, hrun⟩ := hch
  have hmj := hmem L[j] (by simp)
  have hi1 : w1.heap[it]? = some (.mapIter (some b) c seen c) := by rw [hal.heap]; exact hi
  refine ⟨_, _, _, ?_, ks L[j] hmj.1 hmj.2 w1 hal⟩
  simp only [Instr.next, getObj, Sem.run_bind, Sem.run, hi, hb, Result.andThen, htest, Bool.false_eq_true, if_false, hL, e1, e2, Array.append_empty, hne, Array.empty_append, Array.size_map, hrun, Array.getElem?_map, Array.getElem?_eq_getElem hj, Option.map_some, setObj, hi1]
  rfl
theorem qtk {b it c s : Nat} {es : Array MapEntry} {seen : Array Nat} {e : MapEntry} {K : Value -> Value -> World -> Prop} (hb : w.heap[b]? = some (.map es c)) (hi : w.heap[it]? = some (.mapIter (some b) s (seen.push e.born) c)) (he : e ∈ es.toList) (hs : (es.toList.map (·.born)).Pairwise (· < ·))
  (k : K e.key e.val w) : ent ((Instr.entry (.pointer (some ⟨it, 0, none⟩))).run P w) K := by
 have hn : (es.toList.map (·.born)).Nodup := hs.imp (fun h => Nat.ne_of_lt h)
 refine ⟨e.key, e.val, w, ?_, k⟩
 have hf : es.find? (·.born == e.born) = some e := by rw [<- Array.find?_toList]; exact find_born e es.toList hn he
 simp [Instr.entry, getObj, Sem.run, hi, hb, hf, Result.andThen]
end
end Go.Pt
end
section
set_option linter.unusedVariables false
set_option linter.unusedSimpArgs false
namespace Go.Proofs.YtmbcedengdoamaaGreatDoor
open Go Go.Pt
attribute [local irreducible] ld ldA ldV fld fldA newZ st new idx idxS idxA slc slcS slcP mkS chk nn call callV inv run runQ runU join loop held ext rng undefer s2a nxt ent IntKind.wrap
abbrev PGT : TypeId := 100
abbrev MLT : TypeId := 96
def look {β : Type} (n : Int) : List (Int × β) -> Option (Nat × β)
 | [] => none
 | p :: r => if n = p.1 then some (0, p.2) else (look n r).map fun q => (q.1 + 1, q.2)
def setL {β : Type} (n : Int) (v : β) (l : List (Int × β)) : List (Int × β) := match look n l with | some q => l.set q.1 (n, v) | none => l ++ [(n, v)]
def delL {β : Type} (n : Int) (l : List (Int × β)) : List (Int × β) := match look n l with | some q => l.eraseIdx q.1 | none => l
theorem qdp {β γ : Type} (g : β -> γ) (n : Int) : ∀ l : List (Int × β), look n (l.map fun e => (e.1, g e.2)) = (look n l).map fun q => (q.1, g q.2)
 | [] => rfl
 | p :: r => by
  simp only [List.map_cons, look]
  by_cases h : n = p.1
  ·simp [h]
  ·rw [if_neg h, if_neg h, qdp g n r]
   cases look n r <;> rfl
theorem qcg (n : Int) : ∀ l : List (Int × Value), posOf n l = look n l
 | [] => rfl
 | p :: r => by simp only [posOf, look, qcg n r]
theorem qaJ {β : Type} {n : Int} : ∀ {l : List (Int × β)} {q : Nat × β}, look n l = some q -> l[q.1]? = some (n, q.2) /\ (n, q.2) ∈ l
 | p :: r, q, h => by
  simp only [look] at h
  by_cases hp : n = p.1
  ·rw [if_pos hp] at h
   cases h
   subst hp
   exact ⟨rfl, by simp⟩
  ·rw [if_neg hp] at h
   obtain ⟨x, hx, rfl⟩ := Option.map_eq_some_iff.1 h
   obtain ⟨h1, h2⟩ := qaJ hx
   exact ⟨by simpa using h1, List.mem_cons_of_mem _ h2⟩
theorem qdk {β : Type} {n : Int} : ∀ {l : List (Int × β)}, look n l = none ↔ n ∉ l.map (·.1)
 | [] => by simp [look]
 | p :: r => by
  simp only [look, List.map_cons, List.mem_cons, not_or]
  by_cases hp : n = p.1
  ·simp [hp]
  ·rw [if_neg hp, Option.map_eq_none_iff, qdk (l := r)]
   simp [hp]
theorem qiH {β γ : Type} (g : β -> γ) (n : Int) (v : β) (l : List (Int × β)) : (setL n v l).map (fun e => (e.1, g e.2)) = setL n (g v) (l.map fun e => (e.1, g e.2)) := by
 unfold setL
 rw [qdp]
 cases look n l with
 | none => simp
 | some q => simp [List.map_set]
theorem qnM {β γ : Type} (g : β -> γ) (n : Int) (l : List (Int × β)) : (delL n l).map (fun e => (e.1, g e.2)) = delL n (l.map fun e => (e.1, g e.2)) := by
 unfold delL
 rw [qdp]
 cases look n l with
 | none => rfl
 | some q => simp only [Option.map_some]; exact qbO _ l q.1
theorem qis {β : Type} {n : Int} {v : β} {l : List (Int × β)} {e : Int × β} (h : e ∈ setL n v l) : e ∈ l \/ e = (n, v) := by
 unfold setL at h
 split at h
 ·exact List.mem_or_eq_of_mem_set h
 ·rcases List.mem_append.1 h with h | h
  ·exact .inl h
  ·exact .inr (by simpa using h)
theorem qnQ {β : Type} {n : Int} {l : List (Int × β)} {e : Int × β} (h : e ∈ delL n l) : e ∈ l := by
 unfold delL at h
 split at h
 ·exact List.mem_of_mem_eraseIdx h
 ·exact h
theorem qiS {t et : TypeId} {v : Value} {w : World} (ht : Tryz.prog.underlying t = some (.map 29 et)) {b : Nat} {f : List (Int × Value)} (h : MapS u32V w b f) (x : Int) :
  ∃ o, (Instr.mapUpdate t (.map (some b)) (u32V x) v).run Tryz.prog w = .ok () (upd w b o) /\ MapS u32V (upd w b o) b (setL x v f) := by
 have K := qds
 cases hp : posOf x f with
 | none =>
  obtain ⟨o, h1, h2⟩ := MapS.new ht K h x (v := v) hp
  refine ⟨o, h1, ?_⟩
  rw [qcg] at hp
  rw [setL, hp]
  exact h2
 | some q =>
  obtain ⟨es, c, hb, he, hs, hc⟩ := h
  have hq := hp
  rw [qcg] at hq
  obtain ⟨h1, _⟩ := qaJ hq
  have he' := he
  simp only [Ents] at he'
  have hi : es[q.1]?.map (·.key) = some (u32V x) := by
   have := congrArg (·[q.1]?) he'
   simp only [List.getElem?_map, h1, Option.map_some] at this
   rw [<- Array.getElem?_toList]
   cases hh : es.toList[q.1]? with
   | none => rw [hh] at this; cases this
   | some e => rw [hh] at this; simp at this; simp [this.1]
  refine ⟨.map (es.modify q.1 fun e => { e with key := u32V x, val := v }) c, ?_, es.modify q.1 fun e => { e with key := u32V x, val := v }, c, ?_, ?_, ?_, ?_⟩
  ·simp [Instr.mapUpdate, run_underlying ht, Go.MapKept.run_getObj_map hb, K.check, qaP K he, hp, hi, Instr.keyThatStays, Instr.sameBits, Go.MapKept.run_setObj_map _ hb]
   rfl
  ·rw [qaD _ _ _ _ (qac hb), if_pos rfl]
  ·rw [setL, hq]
   show ((es.modify q.1 _).toList).map _ = (f.set q.1 (x, v)).map _
   rw [Array.toList_modify]
   apply List.ext_getElem?
   intro j
   have hj := congrArg (·[j]?) he'
   simp only [List.getElem?_map] at hj
   rw [List.getElem?_map, List.getElem?_map, List.getElem?_modify, List.getElem?_set]
   by_cases hqj : q.1 = j
   ·subst hqj
    have hlt := (List.getElem?_eq_some_iff.1 h1).1
    rw [h1] at hj
    cases hh : es.toList[q.1]? with
    | none => rw [hh] at hj; cases hj
    | some e => simp [hlt]
   ·simp only [hqj, if_false]
    rw [<- hj]
    cases es.toList[j]? <;> rfl
  ·have e : (es.modify q.1 fun e => { e with key := u32V x, val := v }).toList.map (·.born) = es.toList.map (·.born) := by
    rw [Array.toList_modify]
    apply List.ext_getElem?
    intro j
    rw [List.getElem?_map, List.getElem?_map, List.getElem?_modify]
    by_cases hqj : q.1 = j
    ·subst hqj; cases es.toList[q.1]? <;> simp
    ·simp [hqj]
   rw [e]; exact hs
  ·intro e he2
   rw [Array.toList_modify] at he2
   obtain ⟨j, hj⟩ := List.mem_iff_getElem?.1 he2
   rw [List.getElem?_modify] at hj
   by_cases hqj : q.1 = j
   ·subst hqj
    cases hh : es.toList[q.1]? with
    | none => rw [hh] at hj; simp at hj
    | some e0 =>
     rw [hh] at hj
     simp at hj
     subst hj
     exact hc e0 (List.mem_of_getElem? hh)
   ·simp [hqj] at hj
    exact hc e (List.mem_of_getElem? (by rw [Array.getElem?_toList]; exact hj))
section
structure PgM where
 sup : Sup
 lists : List Int
 named : List Int
 turn : Int
 over : Bool
 free : List Int
 deferred : List Int
 fresh : List (Int × Int × List Int)
 roots : List Int
abbrev Leaf := Int × Sl × List Int
def leafV (x : Leaf) : Value := .agg #[.int .u8 x.1, .slice x.2.1.a x.2.1.len x.2.1.cap]
def pgRest (sl sn : Sl) (turn : Int) (over : Bool) (fb defb mb : Nat) : List Value :=
 [.slice sl.a sl.len sl.cap, .slice sn.a sn.len sn.cap, .int .i64 turn, .bool over, .pointer (some ⟨fb, 0, none⟩), .pointer (some ⟨defb, 0, none⟩), .map (some mb)]
def pgCells (db : Option Addr) (sup : Sup) (sl sn : Sl) (turn : Int) (over : Bool) (fb defb mb : Nat) (roots : List Int) : Array Value :=
 ((.pointer db :: supV sup.1 sup.2) ++ pgRest sl sn turn over fb defb mb ++ roots.map (Value.int .u32)).toArray
section
variable {db : Option Addr} {sup : Sup} {sl sn : Sl} {turn : Int} {over : Bool} {fb defb mb : Nat} {roots : List Int}
theorem qbd (hl : sup.2.length = 27) : (Value.pointer db :: supV sup.1 sup.2).length = 29 := by rw [List.length_cons, qav hl]
theorem qsR (hl : sup.2.length = 27) : (pgCells db sup sl sn turn over fb defb mb roots).size = 36 + roots.length := by
 rw [pgCells, List.size_toArray, List.length_append, List.length_append, qbd hl, List.length_map]; rfl
theorem qqd : (pgCells db sup sl sn turn over fb defb mb roots)[0]? = some (.pointer db) := rfl
theorem qot : (pgCells db sup sl sn turn over fb defb mb roots)[1]? = some (.int .u64 sup.1) := rfl
theorem qoN (hl : sup.2.length = 27) (n : Nat) (h : n < 27) : (pgCells db sup sl sn turn over fb defb mb roots)[n + 2]? = some (.int .u32 (sup.2.getD n 0)) := by
 rw [pgCells, List.getElem?_toArray, List.append_assoc, List.getElem?_append_left (by rw [qbd hl]; omega), List.getElem?_cons_succ]
 have := qcB (q := sup.1) (t := sup.2) n (by omega)
 rw [List.getElem?_toArray] at this
 exact this
theorem qkr (hl : sup.2.length = 27) (j : Nat) (h : j < 7) : (pgCells db sup sl sn turn over fb defb mb roots)[29 + j]? = (pgRest sl sn turn over fb defb mb)[j]? := by
 rw [pgCells, List.getElem?_toArray, List.append_assoc, List.getElem?_append_right (by rw [qbd hl]; omega), qbd hl, Nat.add_sub_cancel_left, List.getElem?_append_left (by exact h)]
theorem qiV (hl : sup.2.length = 27) : (pgCells db sup sl sn turn over fb defb mb roots)[29]? = some (.slice sl.a sl.len sl.cap) := qkr hl 0 (by decide)
theorem qso (hl : sup.2.length = 27) : (pgCells db sup sl sn turn over fb defb mb roots)[30]? = some (.slice sn.a sn.len sn.cap) := qkr hl 1 (by decide)
theorem qgt (hl : sup.2.length = 27) : (pgCells db sup sl sn turn over fb defb mb roots)[32]? = some (.bool over) := qkr hl 3 (by decide)
theorem qgq (hl : sup.2.length = 27) : (pgCells db sup sl sn turn over fb defb mb roots)[33]? = some (.pointer (some ⟨fb, 0, none⟩)) := qkr hl 4 (by decide)
theorem ql3 (hl : sup.2.length = 27) : (pgCells db sup sl sn turn over fb defb mb roots)[34]? = some (.pointer (some ⟨defb, 0, none⟩)) := qkr hl 5 (by decide)
theorem qb3 (hl : sup.2.length = 27) : (pgCells db sup sl sn turn over fb defb mb roots)[35]? = some (.map (some mb)) := qkr hl 6 (by decide)
end
structure Rows (F : List Nat) (w : World) (sl sn : Sl) (lists named : List Int) (fs : List (Int × Leaf)) : Prop where
 lists : Rd F w sl lists
 named : Rd F w sn named
 bodies : ∀ e ∈ fs, RdB F w e.2.2.1 e.2.2.2
theorem Rows.frame {F F' : List Nat} {w w' : World} {sl sn : Sl} {lists named : List Int} {fs : List (Int × Leaf)} (h : Rows F w sl sn lists named fs) (f : Fr F w w') (hF : ∀ b ∈ F', b ∈ F \/ w.heap.size <= b) : Rows F' w' sl sn lists named fs :=
 ⟨h.lists.frame f hF, h.named.frame f hF, fun e he => (h.bodies e he).frame f hF⟩
structure PgX (w : World) (X : List Nat) (pb : Nat) (db : Option Addr) (M : PgM) (fb defb mb : Nat) (sl sn : Sl) (F1 F2 : List Nat) (fs : List (Int × Leaf)) : Prop where
 cell : w.heap[pb]? = some (.cells (pgCells db M.sup sl sn M.turn M.over fb defb mb M.roots) PGT (0, 0))
 free : PoolAt w fb F1 M.free
 deferred : PoolAt w defb F2 M.deferred
 map : MapS u32V w mb (fs.map fun e => (e.1, leafV e.2))
 fresh : M.fresh = fs.map fun e => (e.1, e.2.1, e.2.2.2)
 rows : Rows (X ++ pb :: mb :: (F1 ++ F2)) w sl sn M.lists M.named fs
 xlt : ∀ b ∈ X, b < w.heap.size
 xsep : ∀ b ∈ X, b ∉ pb :: mb :: (F1 ++ F2)
 sep : pb ≠ mb /\ (∀ b ∈ F1, b ≠ pb /\ b ≠ mb /\ b ∉ F2) /\ (∀ b ∈ F2, b ≠ pb /\ b ≠ mb)
 suplen : M.sup.2.length = 27
 rootlen : M.roots.length = 24
def PagerAt (w : World) (X : List Nat) (pb : Nat) (db : Option Addr) (F : List Nat) (M : PgM) : Prop :=
 ∃ fb defb mb sl sn F1 F2 fs, F = pb :: mb :: (F1 ++ F2) /\ PgX w X pb db M fb defb mb sl sn F1 F2 fs
theorem PgX.lt_mb {w : World} {X : List Nat} {pb : Nat} {db : Option Addr} {M : PgM} {fb defb mb : Nat} {sl sn : Sl} {F1 F2 : List Nat} {fs : List (Int × Leaf)} (h : PgX w X pb db M fb defb mb sl sn F1 F2 fs) : mb < w.heap.size := by
 exact h.map.lt
theorem PgX.lt {w : World} {X : List Nat} {pb : Nat} {db : Option Addr} {M : PgM} {fb defb mb : Nat} {sl sn : Sl} {F1 F2 : List Nat} {fs : List (Int × Leaf)} (h : PgX w X pb db M fb defb mb sl sn F1 F2 fs) : ∀ b ∈ pb :: mb :: (F1 ++ F2), b < w.heap.size := by
 intro b hb
 rcases List.mem_cons.1 hb with rfl | hb
 ·exact qac h.cell
 rcases List.mem_cons.1 hb with rfl | hb
 ·exact h.lt_mb
 rcases List.mem_append.1 hb with hb | hb
 ·exact h.free.lt b hb
 ·exact h.deferred.lt b hb
theorem PagerAt.lt {w : World} {X : List Nat} {pb : Nat} {db : Option Addr} {F : List Nat} {M : PgM} (h : PagerAt w X pb db F M) : ∀ b ∈ F, b < w.heap.size := by
 obtain ⟨fb, defb, mb, sl, sn, F1, F2, fs, rfl, hx⟩ := h
 exact hx.lt
theorem PgX.frame {w w' : World} {S X : List Nat} {pb : Nat} {db : Option Addr} {M : PgM} {fb defb mb : Nat} {sl sn : Sl} {F1 F2 : List Nat} {fs : List (Int × Leaf)} (h : PgX w X pb db M fb defb mb sl sn F1 F2 fs) (f : Fr S w w') (hS : ∀ b ∈ pb :: mb :: (F1 ++ F2), b ∉ S)
  (hr : Rows (X ++ pb :: mb :: (F1 ++ F2)) w' sl sn M.lists M.named fs) : PgX w' X pb db M fb defb mb sl sn F1 F2 fs where
 cell := by rw [f.block pb (qac h.cell) (hS pb (by simp))]; exact h.cell
 free := h.free.frame f fun b hb => hS b (by simp [hb])
 deferred := h.deferred.frame f fun b hb => hS b (by simp [hb])
 map := h.map.frame f (hS mb (by simp))
 fresh := h.fresh
 rows := hr
 xlt := fun b hb => Nat.lt_of_lt_of_le (h.xlt b hb) f.size
 xsep := h.xsep
 sep := h.sep
 suplen := h.suplen
 rootlen := h.rootlen
theorem PgX.frame0 {w w' : World} {X : List Nat} {pb : Nat} {db : Option Addr} {M : PgM} {fb defb mb : Nat} {sl sn : Sl} {F1 F2 : List Nat} {fs : List (Int × Leaf)} (h : PgX w X pb db M fb defb mb sl sn F1 F2 fs) (f : Fr [] w w') : PgX w' X pb db M fb defb mb sl sn F1 F2 fs :=
 h.frame f (by simp) (h.rows.frame (f.mono (fun b hb => by cases hb)) (fun b hb => .inl hb))
theorem PagerAt.frame0 {w w' : World} {X : List Nat} {pb : Nat} {db : Option Addr} {F : List Nat} {M : PgM} (h : PagerAt w X pb db F M) (f : Fr [] w w') : PagerAt w' X pb db F M := by
 obtain ⟨fb, defb, mb, sl, sn, F1, F2, fs, rfl, hx⟩ := h
 exact ⟨fb, defb, mb, sl, sn, F1, F2, fs, rfl, hx.frame0 f⟩
theorem qnI {w : World} {pb mb : Nat} {F1 F1' F2 : List Nat} (n1 : ∀ b ∈ F1', b ∈ F1 \/ w.heap.size <= b) : ∀ b ∈ pb :: mb :: (F1' ++ F2), b ∈ pb :: mb :: (F1 ++ F2) \/ w.heap.size <= b := fun b hb => by
 simp only [List.mem_cons, List.mem_append] at hb ⊢
 rcases hb with hb | hb | hb | hb
 ·exact .inl (.inl hb)
 ·exact .inl (.inr (.inl hb))
 ·rcases n1 b hb with h1 | h1
  ·exact .inl (.inr (.inr (.inl h1)))
  ·exact .inr h1
 ·exact .inl (.inr (.inr (.inr hb)))
theorem qqF {w : World} {pb mb : Nat} {F1 F2 F2' : List Nat} (n1 : ∀ b ∈ F2', b ∈ F2 \/ w.heap.size <= b) : ∀ b ∈ pb :: mb :: (F1 ++ F2'), b ∈ pb :: mb :: (F1 ++ F2) \/ w.heap.size <= b := fun b hb => by
 simp only [List.mem_cons, List.mem_append] at hb ⊢
 rcases hb with hb | hb | hb | hb
 ·exact .inl (.inl hb)
 ·exact .inl (.inr (.inl hb))
 ·exact .inl (.inr (.inr (.inl hb)))
 ·rcases n1 b hb with h1 | h1
  ·exact .inl (.inr (.inr (.inr h1)))
  ·exact .inr h1
theorem qoI {w : World} {X F F' : List Nat} (n : ∀ b ∈ F', b ∈ F \/ w.heap.size <= b) : ∀ b ∈ X ++ F', b ∈ X ++ F \/ w.heap.size <= b := fun b hb => by
 rcases List.mem_append.1 hb with h | h
 ·exact .inl (List.mem_append_left _ h)
 ·rcases n b h with h | h
  ·exact .inl (List.mem_append_right _ h)
  ·exact .inr h
theorem qsr {w : World} {X F F' : List Nat} (hl : ∀ b ∈ X, b < w.heap.size) (hs : ∀ b ∈ X, b ∉ F) (n : ∀ b ∈ F', b ∈ F \/ w.heap.size <= b) : ∀ b ∈ X, b ∉ F' := fun b hb h => by
 rcases n b h with h | h
 ·exact hs b hb h
 ·have := hl b hb; omega
theorem PgX.setFree {w w' : World} {X : List Nat} {pb : Nat} {db : Option Addr} {M : PgM} {fb defb mb : Nat} {sl sn : Sl} {F1 F1' F2 : List Nat} {fs : List (Int × Leaf)} {l : List Int} (h : PgX w X pb db M fb defb mb sl sn F1 F2 fs) (f : Fr F1 w w') (hp : PoolAt w' fb F1' l) (hn : ∀ b ∈ F1', b ∈ F1 \/ w.heap.size <= b) :
  PgX w' X pb db { M with free := l } fb defb mb sl sn F1' F2 fs where
 cell := by rw [f.block pb (qac h.cell) (fun hb => (h.sep.2.1 pb hb).1 rfl)]; exact h.cell
 free := hp
 deferred := h.deferred.frame f fun b hb hb1 => (h.sep.2.1 b hb1).2.2 hb
 map := h.map.frame f (fun hb => (h.sep.2.1 mb hb).2.1 rfl)
 fresh := h.fresh
 rows := h.rows.frame (f.mono fun b hb _ => by simp [hb]) (qoI (qnI hn))
 xlt := fun b hb => Nat.lt_of_lt_of_le (h.xlt b hb) f.size
 xsep := qsr h.xlt h.xsep (qnI hn)
 sep := ⟨h.sep.1, fun b hb => by
  rcases hn b hb with h1 | h1
  ·exact h.sep.2.1 b h1
  ·have l1 := qac h.cell
   have l2 := h.lt_mb
   exact ⟨by omega, by omega, fun h2 => by have := h.deferred.lt b h2; omega⟩, h.sep.2.2⟩
 suplen := h.suplen
 rootlen := h.rootlen
theorem PgX.setDef {w w' : World} {X : List Nat} {pb : Nat} {db : Option Addr} {M : PgM} {fb defb mb : Nat} {sl sn : Sl} {F1 F2 F2' : List Nat} {fs : List (Int × Leaf)} {l : List Int} (h : PgX w X pb db M fb defb mb sl sn F1 F2 fs) (f : Fr F2 w w') (hp : PoolAt w' defb F2' l) (hn : ∀ b ∈ F2', b ∈ F2 \/ w.heap.size <= b) :
  PgX w' X pb db { M with deferred := l } fb defb mb sl sn F1 F2' fs where
 cell := by rw [f.block pb (qac h.cell) (fun hb => (h.sep.2.2 pb hb).1 rfl)]; exact h.cell
 free := h.free.frame f fun b hb hb1 => (h.sep.2.1 b hb).2.2 hb1
 deferred := hp
 map := h.map.frame f (fun hb => (h.sep.2.2 mb hb).2 rfl)
 fresh := h.fresh
 rows := h.rows.frame (f.mono fun b hb _ => by simp [hb]) (qoI (qqF hn))
 xlt := fun b hb => Nat.lt_of_lt_of_le (h.xlt b hb) f.size
 xsep := qsr h.xlt h.xsep (qqF hn)
 sep := ⟨h.sep.1, fun b hb => ⟨(h.sep.2.1 b hb).1, (h.sep.2.1 b hb).2.1, fun h2 => by
  rcases hn b h2 with h1 | h1
  ·exact (h.sep.2.1 b hb).2.2 h1
  ·have := h.free.lt b hb; omega⟩, fun b hb => by
  rcases hn b hb with h1 | h1
  ·exact h.sep.2.2 b h1
  ·have l1 := qac h.cell
   have l2 := h.lt_mb
   exact ⟨by omega, by omega⟩⟩
 suplen := h.suplen
 rootlen := h.rootlen
theorem PgX.setMap {w : World} {o : Obj} {X : List Nat} {pb : Nat} {db : Option Addr} {M : PgM} {fb defb mb : Nat} {sl sn : Sl} {F1 F2 : List Nat} {fs fs' : List (Int × Leaf)} (h : PgX w X pb db M fb defb mb sl sn F1 F2 fs) (hm : MapS u32V (upd w mb o) mb (fs'.map fun e => (e.1, leafV e.2)))
  (hb : ∀ e ∈ fs', e ∈ fs \/ RdB (X ++ pb :: mb :: (F1 ++ F2)) w e.2.2.1 e.2.2.2) :
  PgX (upd w mb o) X pb db { M with fresh := fs'.map fun e => (e.1, e.2.1, e.2.2.2) } fb defb mb sl sn F1 F2 fs' := by
 have f : Fr [mb] w (upd w mb o) := qgM h.lt_mb o
 have f' : Fr (X ++ pb :: mb :: (F1 ++ F2)) w (upd w mb o) := f.mono fun b hb _ => by simp only [List.mem_singleton] at hb; subst hb; simp
 have hr := h.rows.frame f' (F' := X ++ pb :: mb :: (F1 ++ F2)) (fun b hb => .inl hb)
 exact {
  cell := by rw [f.block pb (qac h.cell) (by simpa using h.sep.1)]; exact h.cell
  free := h.free.frame f fun b hb => by simpa using (h.sep.2.1 b hb).2.1
  deferred := h.deferred.frame f fun b hb => by simpa using (h.sep.2.2 b hb).2
  map := hm
  fresh := rfl
  rows := ⟨hr.lists, hr.named, fun e he => by
   rcases hb e he with h1 | h1
   ·exact hr.bodies e h1
   ·exact h1.frame f' (fun b hb => .inl hb)⟩
  xlt := fun b hb => Nat.lt_of_lt_of_le (h.xlt b hb) f.size
  xsep := h.xsep
  sep := h.sep
  suplen := h.suplen
  rootlen := h.rootlen }
theorem PagerAt.frameX {w w' : World} {X X' : List Nat} {pb : Nat} {db : Option Addr} {F : List Nat} {M : PgM} (h : PagerAt w X pb db F M) (f : Fr X w w') (hx : ∀ b ∈ X', b < w'.heap.size) (hX : ∀ b ∈ X', b ∈ X \/ w.heap.size <= b) : PagerAt w' X' pb db F M := by
 obtain ⟨fb, defb, mb, sl, sn, F1, F2, fs, rfl, h⟩ := h
 have hF : ∀ b ∈ pb :: mb :: (F1 ++ F2), b ∉ X := fun b hb hx => h.xsep b hx hb
 have hx1 := h.frame (w' := w') f hF (h.rows.frame (f.mono fun b hb _ => List.mem_append_left _ hb) (fun b hb => .inl hb))
 refine ⟨fb, defb, mb, sl, sn, F1, F2, fs, rfl, { hx1 with rows := h.rows.frame (f.mono fun b hb _ => List.mem_append_left _ hb) (fun b hb => ?_), xlt := hx, xsep := fun b hb hm => ?_ }⟩
 ·rcases List.mem_append.1 hb with hb | hb
  ·rcases hX b hb with hb | hb
   ·exact .inl (List.mem_append_left _ hb)
   ·exact .inr hb
  ·exact .inl (List.mem_append_right _ hb)
 ·rcases hX b hb with hb | hb
  ·exact h.xsep b hb hm
  ·have := h.lt b hm; omega
theorem PagerAt.sep {w : World} {X : List Nat} {pb : Nat} {db : Option Addr} {F : List Nat} {M : PgM} (h : PagerAt w X pb db F M) : ∀ b ∈ X, b ∉ F := by
 obtain ⟨fb, defb, mb, sl, sn, F1, F2, fs, rfl, h⟩ := h
 exact h.xsep
end
section
theorem qrO {S : List Nat} {w : World} {s : Sl} {l : List Int} {n : Int} {K : Int -> World -> Prop} (h : Rd S w s l) (hl : l.length <= 1000000) (hk : ∀ x : Int, (decide (x >= 0) = decide (n ∈ l)) -> K x w) :
  call Tryz.prog 128 [.slice s.a s.len s.cap, .int .u32 n] [.one (.int .i64)] w K := by
 refine qlU (s := s) ?_
 unfold qfO
 have hlen := h.1
 refine qaf (fun x w' => w' = w /\ ∃ i : Nat, x = i /\ i <= l.length /\ n ∉ l.take i) (fun x _ => ((l.length : Int) - x).toNat) ⟨rfl, 0, rfl, by omega, by simp⟩ ?_
 rintro x w' ⟨rfl, i, rfl, hi, hno⟩ X hX
 refine qaa (fun hc => ?_) (fun hc => ?_)
 ·have hil : i < l.length := by have := of_decide_eq_true hc; omega
  refine Rd.at h i rfl (List.getElem?_eq_getElem hil) ?_
  refine qaa (fun hc => ?_) (fun hc => ?_)
  ·have e : n = l[i] := by simpa using hc
   refine hk _ ?_
   rw [decide_eq_true (show (i : Int) >= 0 by omega), decide_eq_true (by rw [e]; exact List.getElem_mem hil)]
  ·have e : n ≠ l[i] := by simpa using hc
   rw [wi' _ (by omega)]
   refine hX _ _ ⟨rfl, i + 1, by simp, by omega, ?_⟩ (by omega)
   rw [List.take_succ_eq_append_getElem hil]
   simp only [List.mem_append, List.mem_singleton, not_or]
   exact ⟨hno, e⟩
 ·have : i = l.length := by have := of_decide_eq_false hc; omega
  subst this
  rw [List.take_length] at hno
  refine hk _ ?_
  rw [decide_eq_false (by decide), decide_eq_false hno]
theorem qpo {S : List Nat} {w : World} {s : Sl} {l : List Int} {n : Int} {K : Bool -> World -> Prop} (h : Rd S w s l) (hl : l.length <= 1000000) (hk : K (decide (n ∈ l)) w) :
  call Tryz.prog 95 [.slice s.a s.len s.cap, .int .u32 n] [.one .bool] w K := by
 refine qka (s := s) ?_
 unfold qdT
 refine qrO h hl fun x hx => ?_
 rw [hx]
 exact hk
theorem qtw : ∀ w, (zeroValue 105).run Tryz.prog w = .ok (.agg #[.int .u8 0, .slice none 0 0]) w := fun w => by kernel_rfl
theorem qmA : Tryz.prog.underlying MLT = some (.map 29 105) := by kernel_rfl
theorem qkt {w : World} {mb : Nat} {fs : List (Int × Leaf)} {n : Int} {K : ((Int × Sl) × Bool) -> Prop} (h : MapAt u32V w mb (fs.map fun e => (e.1, leafV e.2)))
  (hs : ∀ q, look n fs = some q -> K ((q.2.1, q.2.2.1), true)) (hn : look n fs = none -> K ((0, ⟨none, 0, 0⟩), false)) :
  runQ [Ty1.agg [Cell.int .u8, Cell.slice], Ty1.one Cell.bool] (fun w' => (Instr.lookup MLT (.map (some mb)) (.int .u32 n) true).run Tryz.prog w') w K := by
 have := qou (P := Tryz.prog) qmA qtw qds h n
 rw [qcg, qdp] at this
 cases hl : look n fs with
 | none =>
  rw [hl] at this
  exact qay (ts := [Ty1.agg [Cell.int .u8, Cell.slice], Ty1.one Cell.bool]) ((0, ⟨none, 0, 0⟩), false) this (hn hl)
 | some q =>
  rw [hl] at this
  exact qay (ts := [Ty1.agg [Cell.int .u8, Cell.slice], Ty1.one Cell.bool]) ((q.2.1, q.2.2.1), true) this (hs q hl)
section
variable {w : World} {X : List Nat} {pb : Nat} {db : Option Addr} {F : List Nat} {M : PgM}
theorem qpS {K : Int -> World -> Prop} (h : PagerAt w X pb db F M) (hk : K M.sup.1 w) : call Tryz.prog 25 [.pointer (some ⟨pb, 0, none⟩)] [.one (.int .u64)] w K := by
 obtain ⟨fb, defb, mb, sl, sn, F1, F2, fs, rfl, hx⟩ := h
 refine qjw (p := some ⟨pb, 0, none⟩) ?_
 unfold qdY
 exact qad (qag (c := .int .u64) hx.cell M.sup.1 qot hk)
theorem qlk {K : Sl -> World -> Prop} (h : PagerAt w X pb db F M) (hl : M.free.length <= 1000000) (hk : ∀ s w', Told w w' s M.free -> Fr [] w w' -> K s w') : call Tryz.prog 9 [.pointer (some ⟨pb, 0, none⟩)] [.one .slice] w K := by
 obtain ⟨fb, defb, mb, sl, sn, F1, F2, fs, rfl, hx⟩ := h
 refine qjs (p := some ⟨pb, 0, none⟩) ?_
 unfold qdE
 refine qad (qag (c := .ptr) hx.cell (some ⟨fb, 0, none⟩) (qgq hx.suplen) ?_)
 exact qmR hx.free hl hk
def usedV (M : PgM) (n : Int) : Bool := !(decide (n < 2) || decide (n >= M.sup.2.getD 0 0) || decide (n ∈ M.lists) || decide (n ∈ M.free) || decide (n ∈ M.deferred)) && (look n M.fresh).isNone
theorem qom {n : Int} {K : Bool -> World -> Prop} (h : PagerAt w X pb db F M) (hl : M.lists.length <= 1000000) (hk : ∀ w', Fr [] w w' -> K (usedV M n) w') : call Tryz.prog 45 [.pointer (some ⟨pb, 0, none⟩), .int .u32 n] [.one .bool] w K := by
 obtain ⟨fb, defb, mb, sl, sn, F1, F2, fs, rfl, hx⟩ := h
 refine qjo (p := some ⟨pb, 0, none⟩) ?_
 unfold qdD
 refine qae (fun b w' => b = (decide (n < 2) || decide (n >= M.sup.2.getD 0 0) || decide (n ∈ M.lists) || decide (n ∈ M.free) || decide (n ∈ M.deferred)) /\ w' = w) ?_ ?_
 ·refine qaa (fun hc => ⟨by rw [hc]; rfl, rfl⟩) (fun hc => ?_)
  refine qad ?_
  simp only [Addr.add_mk]
  refine qag (c := .int .u32) hx.cell (M.sup.2.getD 0 0) (qoN hx.suplen 0 (by decide)) ?_
  refine qaa (fun hc2 => ⟨by rw [hc, hc2]; rfl, by trivial⟩) (fun hc2 => ?_)
  refine qad (qag (c := .slice) hx.cell sl (qiV hx.suplen) ?_)
  refine qpo hx.rows.lists hl ?_
  refine qaa (fun hc3 => ⟨by rw [hc, hc2, hc3]; rfl, by trivial⟩) (fun hc3 => ?_)
  refine qad (qag (c := .ptr) hx.cell (some ⟨fb, 0, none⟩) (qgq hx.suplen) ?_)
  refine qox hx.free ?_
  refine qaa (fun hc4 => ⟨by rw [hc, hc2, hc3, hc4]; rfl, by trivial⟩) (fun hc4 => ?_)
  refine qad ?_
  refine qag (c := .ptr) hx.cell (some ⟨defb, 0, none⟩) (ql3 hx.suplen) ?_
  refine qox hx.deferred ⟨by rw [hc, hc2, hc3, hc4]; rfl, by trivial⟩
 rintro b w' ⟨rfl, rfl⟩
 have hfr : (look n M.fresh).isNone = (look n fs).isNone := by
  rw [hx.fresh, qdp (fun x : Leaf => (x.1, x.2.2))]
  cases look n fs <;> rfl
 refine qaa (fun hc => ?_) (fun hc => ?_)
 ·have := hk w' (.refl _ _)
  rw [usedV, hc] at this
  exact this
 refine qad ?_
 simp only [Addr.add_mk]
 refine qag (c := .map) hx.cell (some mb) (qb3 hx.suplen) ?_
 refine qkt hx.map.at (fun q hq => ?_) (fun hq => ?_)
 ·refine Own.new' (Own.start [] w') fun r w1 e1 f1 ho => ?_
  refine Own.st ho 0 rfl _ rfl rfl rfl fun w2 ho _ => ?_
  have := hk w2 ho.fr
  rw [usedV, hc, hfr, hq] at this
  exact this
 ·refine Own.new' (Own.start [] w') fun r w1 e1 f1 ho => ?_
  refine Own.st ho 0 rfl _ rfl rfl rfl fun w2 ho _ => ?_
  have := hk w2 ho.fr
  rw [usedV, hc, hfr, hq] at this
  exact this
def makeV (M : PgM) (kind : Int) (body : List Int) : (Int × Int) × PgM :=
 if M.over then ((0, 7), M) else if body.length > 500 then ((0, 3), M) else
 match M.free with
 | [] => ((0, 6), M)
 | n :: r => ((n, 0), { M with free := r, fresh := setL n (kind, body) M.fresh })
theorem qoO {kind : Int} {s : Sl} {body : List Int} {K : Int × Int -> World -> Prop} (h : PagerAt w X pb db F M) (hb : RdB (X ++ F) w s body) (hl : body.length <= 100000) (hf : M.free.length <= 1000000)
  (hk : ∀ F' w', PagerAt w' X pb db F' (makeV M kind body).2 -> Fr F w w' -> (∀ b ∈ F', b ∈ F \/ w.heap.size <= b) -> K (makeV M kind body).1 w') :
  call Tryz.prog 10 [.pointer (some ⟨pb, 0, none⟩), .int .u8 kind, .slice s.a s.len s.cap] [.one (.int .u32), .one (.int .i64)] w K := by
 have h0 := h
 obtain ⟨fb, defb, mb, sl, sn, F1, F2, fs, rfl, hx⟩ := h
 have hlen := hb.1
 refine qjt (p := some ⟨pb, 0, none⟩) (body := s) ?_
 unfold qdC
 have same : ∀ {e : Int}, makeV M kind body = ((0, e), M) -> K (0, e) w := by
  intro e he
  have := hk _ w (by rw [he]; exact h0) (.refl _ _) (fun b hb => .inl hb)
  rw [he] at this
  exact this
 refine qad (qag (c := .bool) hx.cell M.over (qgt hx.suplen) ?_)
 refine qaa (fun hc => same (by rw [makeV, if_pos hc])) (fun hc => ?_)
 have ho : ¬ M.over = true := by rw [hc]; decide
 refine qaa (fun hc => ?_) (fun hc => ?_)
 ·have := of_decide_eq_true hc
  exact same (by rw [makeV, if_neg ho, if_pos (by omega)])
 have hb5 : ¬ body.length > 500 := by have := of_decide_eq_false hc; omega
 refine qad (qag (c := .ptr) hx.cell (some ⟨fb, 0, none⟩) (qgq hx.suplen) ?_)
 refine qs3 hx.free hf fun F1' w1 hp1 f1 n1 => ?_
 have hx1 := hx.setFree f1 hp1 n1
 have fF : Fr (pb :: mb :: (F1 ++ F2)) w w1 := f1.mono fun b hb _ => by simp [hb]
 have nF := qnI (w := w) (pb := pb) (mb := mb) (F2 := F2) n1
 cases hfr : M.free with
 | nil =>
  have hmv : makeV M kind body = ((0, 6), M) := by rw [makeV, if_neg ho, if_neg hb5, hfr]
  rw [hfr] at hp1 hx1
  refine cond_true rfl ?_
  have hM : { M with free := (takeV []).2 } = M := by
   show { M with free := [] } = M
   rw [<- hfr]
  rw [hM] at hx1
  have := hk _ w1 (by rw [hmv]; exact ⟨fb, defb, mb, sl, sn, F1', F2, fs, rfl, hx1⟩) fF nF
  rw [hmv] at this
  exact this
 | cons n r =>
  have hmv : makeV M kind body = ((n, 0), { M with free := r, fresh := setL n (kind, body) M.fresh }) := by rw [makeV, if_neg ho, if_neg hb5, hfr]
  rw [hfr] at hp1 hx1
  refine cond_false rfl ?_
  refine qad ?_
  simp only [Addr.add_mk]
  have c1 : w1.heap[pb]? = _ := hx1.cell
  refine qag (w := w1.drew) (c := .map) c1 (some mb) (qb3 hx.suplen) ?_
  have hb1 : RdB (X ++ pb :: mb :: (F1' ++ F2)) w1.drew s body := hb.frame (fF.drew.mono fun b hb _ => List.mem_append_right _ hb) (qoI nF)
  refine qbB hb1 (by omega) fun s2 B2 w2 b2 f2 n2 _ _ => ?_
  have f12 : Fr [] w1 w2 := ((Fr.refl [] w1).drew).trans f2
  have hx2 := hx1.frame0 f12
  refine qar (by rw [qaj hx2.cell]; exact qb3 hx.suplen) ?_
  obtain ⟨o, hr, hm⟩ := qiS (v := leafV (kind, s2, body)) qmA hx2.map n
  refine qkp _ hr ?_
  have hm' : MapS u32V (upd w2 mb o) mb ((setL n (kind, s2, body) fs).map fun e => (e.1, leafV e.2)) := by rw [qiH leafV]; exact hm
  have hx3 := hx2.setMap hm' fun e he => by
   rcases qis he with h1 | h1
   ·exact .inl h1
   ·subst h1
    refine .inr (b2.rds qaq fun b hb hb2 => ?_)
    have l2 : w1.heap.size <= b := n2 b hb
    rcases List.mem_append.1 hb2 with hb2 | hb2
    ·have := hx1.xlt b hb2; omega
    ·have := hx1.lt b hb2; omega
  have hM : (setL n (kind, s2, body) fs).map (fun e => (e.1, e.2.1, e.2.2.2)) = setL n (kind, body) M.fresh := by
   rw [hx.fresh]; exact qiH (fun x : Leaf => (x.1, x.2.2)) n (kind, s2, body) fs
  rw [hM] at hx3
  have f3 : Fr (pb :: mb :: (F1 ++ F2)) w (upd w2 mb o) := (fF.trans' f12 (by simp)).trans' (qgM hx2.lt_mb o) fun b hb => by simp only [List.mem_singleton] at hb; subst hb; exact .inl (by simp)
  have := hk _ (upd w2 mb o) (by rw [hmv]; exact ⟨fb, defb, mb, sl, sn, F1', F2, _, rfl, hx3⟩) f3 nF
  rw [hmv] at this
  exact this
end
end
section
theorem PgX.fresh_look {w : World} {X : List Nat} {pb : Nat} {db : Option Addr} {M : PgM} {fb defb mb : Nat} {sl sn : Sl} {F1 F2 : List Nat} {fs : List (Int × Leaf)} (h : PgX w X pb db M fb defb mb sl sn F1 F2 fs) (n : Int) : look n M.fresh = (look n fs).map fun q => (q.1, q.2.1, q.2.2.2) := by
 rw [h.fresh, qdp (fun x : Leaf => (x.1, x.2.2))]
section
variable {w : World} {X : List Nat} {pb : Nat} {db : Option Addr} {F : List Nat} {M : PgM}
def putV (M : PgM) (n kind : Int) (body : List Int) : Int × PgM :=
 if M.over then (7, M) else match look n M.fresh with
 | none => (10, M)
 | some _ => if body.length > 500 then (3, M) else (0, { M with fresh := setL n (kind, body) M.fresh })
theorem qtc {n kind : Int} {s : Sl} {body : List Int} {K : Int -> World -> Prop} (h : PagerAt w X pb db F M) (hb : RdB (X ++ F) w s body) (hl : body.length <= 100000)
  (hk : ∀ w', PagerAt w' X pb db F (putV M n kind body).2 -> Fr F w w' -> K (putV M n kind body).1 w') :
  call Tryz.prog 49 [.pointer (some ⟨pb, 0, none⟩), .int .u32 n, .int .u8 kind, .slice s.a s.len s.cap] [.one (.int .i64)] w K := by
 have h0 := h
 obtain ⟨fb, defb, mb, sl, sn, F1, F2, fs, rfl, hx⟩ := h
 have hlen := hb.1
 refine qj3 (p := some ⟨pb, 0, none⟩) (body := s) ?_
 unfold qdU
 have same : ∀ {e : Int} {w' : World}, putV M n kind body = (e, M) -> Fr [] w w' -> K e w' := by
  intro e w' he hf
  have := hk w' (by rw [he]; exact h0.frame0 hf) (hf.mono (fun b hb => by cases hb))
  rw [he] at this
  exact this
 have hfl := hx.fresh_look n
 refine qad (qag (c := .bool) hx.cell M.over (qgt hx.suplen) ?_)
 refine qaa (fun hc => same (by rw [putV, if_pos hc]) (.refl _ _)) (fun hc => ?_)
 have ho : ¬ M.over = true := by rw [hc]; decide
 refine qad ?_
 simp only [Addr.add_mk]
 refine qag (c := .map) hx.cell (some mb) (qb3 hx.suplen) ?_
 refine qkt hx.map.at (fun q hq => ?_) (fun hq => ?_)
 ·rw [hq] at hfl
  refine Own.new' (Own.start [] w) fun r w1 e1 f1 ho1 => ?_
  refine Own.st ho1 0 rfl _ rfl rfl rfl fun w2 ho1 _ => ?_
  refine cond_false rfl ?_
  refine qaa (fun hc => ?_) (fun hc => ?_)
  ·have := of_decide_eq_true hc
   exact same (by rw [putV, if_neg ho, hfl]; dsimp only [Option.map_some]; rw [if_pos (by omega)]) ho1.fr
  have hb5 : ¬ body.length > 500 := by have := of_decide_eq_false hc; omega
  have hmv : putV M n kind body = (0, { M with fresh := setL n (kind, body) M.fresh }) := by rw [putV, if_neg ho, hfl]; dsimp only [Option.map_some]; rw [if_neg hb5]
  have hx2 := hx.frame0 ho1.drew.fr
  refine qad ?_
  refine qag (w := w2.drew) (c := .map) hx2.cell (some mb) (qb3 hx.suplen) ?_
  refine qbB (hb.frame0 ho1.drew.fr) (by omega) fun s2 B2 w3 b2 f2 n2 _ _ => ?_
  have f03 : Fr [] w w3 := ho1.drew.fr.trans f2
  have hx3 := hx.frame0 f03
  refine qar (by simp only [Addr.add_mk]; rw [qaj hx3.cell]; exact qb3 hx.suplen) ?_
  obtain ⟨o, hr, hm⟩ := qiS (v := leafV (kind, s2, body)) qmA hx3.map n
  refine qkp _ hr ?_
  have hm' : MapS u32V (upd w3 mb o) mb ((setL n (kind, s2, body) fs).map fun e => (e.1, leafV e.2)) := by rw [qiH leafV]; exact hm
  have hx4 := hx3.setMap hm' fun e he => by
   rcases qis he with h1 | h1
   ·exact .inl h1
   ·subst h1
    refine .inr (b2.rds qaq fun b hb hb2 => ?_)
    have l2 : w2.drew.heap.size <= b := n2 b hb
    rcases List.mem_append.1 hb2 with hb2 | hb2
    ·have : b < w2.heap.size := hx2.xlt b hb2
     have : w2.drew.heap.size = w2.heap.size := rfl
     omega
    ·have : b < w2.heap.size := hx2.lt b hb2
     have : w2.drew.heap.size = w2.heap.size := rfl
     omega
  have hM : (setL n (kind, s2, body) fs).map (fun e => (e.1, e.2.1, e.2.2.2)) = setL n (kind, body) M.fresh := by
   rw [hx.fresh]; exact qiH (fun x : Leaf => (x.1, x.2.2)) n (kind, s2, body) fs
  rw [hM] at hx4
  have f4 : Fr (pb :: mb :: (F1 ++ F2)) w (upd w3 mb o) := (f03.mono (T := pb :: mb :: (F1 ++ F2)) (fun b hb => by cases hb)).trans' (qgM hx3.lt_mb o) fun b hb => by simp only [List.mem_singleton] at hb; subst hb; exact .inl (by simp)
  have := hk (upd w3 mb o) (by rw [hmv]; exact ⟨fb, defb, mb, sl, sn, F1, F2, _, rfl, hx4⟩) f4
  rw [hmv] at this
  exact this
 ·rw [hq] at hfl
  refine Own.new' (Own.start [] w) fun r w1 e1 f1 ho1 => ?_
  refine Own.st ho1 0 rfl _ rfl rfl rfl fun w2 ho1 _ => ?_
  refine cond_true rfl ?_
  exact same (by rw [putV, if_neg ho, hfl]; rfl) ho1.fr
def dropV (M : PgM) (n : Int) : Int × PgM :=
 if M.over then (7, M) else match look n M.fresh with
 | some _ => (0, { M with fresh := delL n M.fresh, free := ins n M.free })
 | none => if usedV M n then (0, { M with deferred := ins n M.deferred }) else (10, M)
theorem qsi {n : Int} {K : Int -> World -> Prop} (h : PagerAt w X pb db F M) (hl : M.lists.length <= 1000000) (hf : M.free.length <= 1000000) (hd : M.deferred.length <= 1000000)
  (hk : ∀ F' w', PagerAt w' X pb db F' (dropV M n).2 -> Fr F w w' -> (∀ b ∈ F', b ∈ F \/ w.heap.size <= b) -> K (dropV M n).1 w') :
  call Tryz.prog 13 [.pointer (some ⟨pb, 0, none⟩), .int .u32 n] [.one (.int .i64)] w K := by
 have h0 := h
 obtain ⟨fb, defb, mb, sl, sn, F1, F2, fs, rfl, hx⟩ := h
 refine qjk (p := some ⟨pb, 0, none⟩) ?_
 unfold qdB
 have same : ∀ {e : Int} {w' : World}, dropV M n = (e, M) -> Fr [] w w' -> K e w' := by
  intro e w' he hf
  have := hk _ w' (by rw [he]; exact h0.frame0 hf) (hf.mono (fun b hb => by cases hb)) (fun b hb => .inl hb)
  rw [he] at this
  exact this
 have hfl := hx.fresh_look n
 refine qad (qag (c := .bool) hx.cell M.over (qgt hx.suplen) ?_)
 refine qaa (fun hc => same (by rw [dropV, if_pos hc]) (.refl _ _)) (fun hc => ?_)
 have ho : ¬ M.over = true := by rw [hc]; decide
 refine qad ?_
 simp only [Addr.add_mk]
 refine qag (c := .map) hx.cell (some mb) (qb3 hx.suplen) ?_
 refine qkt hx.map.at (fun q hq => ?_) (fun hq => ?_)
 ·rw [hq] at hfl
  refine Own.new' (Own.start [] w) fun r w1 e1 f1 ho1 => ?_
  refine Own.st ho1 0 rfl _ rfl rfl rfl fun w2 ho1 _ => ?_
  refine cond_true rfl ?_
  have hmv : dropV M n = (0, { M with fresh := delL n M.fresh, free := ins n M.free }) := by rw [dropV, if_neg ho, hfl]; rfl
  have hx2 := hx.frame0 ho1.fr
  refine qad ?_
  refine qag (c := .map) hx2.cell (some mb) (qb3 hx.suplen) ?_
  obtain ⟨o, hr, hm⟩ := MapS.del (ty := 0) qmA qds hx2.map n
  refine qoE (ts := []) () _ hr ?_
  have hm' : MapS u32V (upd w2 mb o) mb ((delL n fs).map fun e => (e.1, leafV e.2)) := by
   rw [qnM leafV]
   rw [qcg] at hm
   unfold delL
   cases hl : look n (fs.map fun e => (e.1, leafV e.2)) with
   | none => rw [hl] at hm; exact hm
   | some q => rw [hl] at hm; exact hm
  have hx3 := hx2.setMap hm' fun e he => .inl (qnQ he)
  have hM : (delL n fs).map (fun e => (e.1, e.2.1, e.2.2.2)) = delL n M.fresh := by
   rw [hx.fresh]; exact qnM (fun x : Leaf => (x.1, x.2.2)) n fs
  rw [hM] at hx3
  have f3 : Fr (pb :: mb :: (F1 ++ F2)) w (upd w2 mb o) := (ho1.fr.mono (T := pb :: mb :: (F1 ++ F2)) (fun b hb => by cases hb)).trans' (qgM hx2.lt_mb o) fun b hb => by simp only [List.mem_singleton] at hb; subst hb; exact .inl (by simp)
  refine qad (qag (c := .ptr) hx3.cell (some ⟨fb, 0, none⟩) (qgq hx.suplen) ?_)
  refine qoU hx3.free hf fun F1' w4 hp4 f4 n4 => ?_
  have hx4 := hx3.setFree f4 hp4 n4
  have hs : w.heap.size <= (upd w2 mb o).heap.size := by rw [qcm]; exact ho1.fr.size
  have := hk _ w4 (by rw [hmv]; exact ⟨fb, defb, mb, sl, sn, F1', F2, _, rfl, hx4⟩) (f3.trans' f4 fun b hb => .inl (by simp [hb])) fun b hb => by
   rcases qnI n4 b hb with h1 | h1
   ·exact .inl h1
   ·exact .inr (Nat.le_trans hs h1)
  rw [hmv] at this
  exact this
 ·rw [hq] at hfl
  refine Own.new' (Own.start [] w) fun r w1 e1 f1 ho1 => ?_
  refine Own.st ho1 0 rfl _ rfl rfl rfl fun w2 ho1 _ => ?_
  refine cond_false rfl ?_
  refine qom (h0.frame0 ho1.fr) hl fun w3 f3 => ?_
  have f03 := ho1.fr.trans f3
  refine qaa (fun hc => ?_) (fun hc => ?_)
  ·have hu : usedV M n = false := by simpa using hc
   exact same (by rw [dropV, if_neg ho, hfl]; show (if usedV M n then _ else _) = _; rw [hu]; rfl) f03
  have hu : usedV M n = true := by simpa using hc
  have hmv : dropV M n = (0, { M with deferred := ins n M.deferred }) := by
   rw [dropV, if_neg ho, hfl]; show (if usedV M n then _ else _) = _; rw [hu]; rfl
  have hx3 := hx.frame0 f03
  refine qad (qag (c := .ptr) hx3.cell (some ⟨defb, 0, none⟩) (ql3 hx.suplen) ?_)
  refine qoU hx3.deferred hd fun F2' w4 hp4 f4 n4 => ?_
  have hx4 := hx3.setDef f4 hp4 n4
  have := hk _ w4 (by rw [hmv]; exact ⟨fb, defb, mb, sl, sn, F1, F2', _, rfl, hx4⟩) ((f03.mono (T := pb :: mb :: (F1 ++ F2)) (fun b hb => by cases hb)).trans' f4 fun b hb => .inl (by simp [hb])) fun b hb => by
   rcases qqF n4 b hb with h1 | h1
   ·exact .inl h1
   ·exact .inr (Nat.le_trans f03.size h1)
  rw [hmv] at this
  exact this
end
end
def keyI (e : MapEntry) : Int := match e.key with | .int _ n => n | _ => 0
theorem qr7 {es : List MapEntry} {f : List (Int × Value)} (h : Ents u32V es f) : es.map keyI = f.map (·.1) /\ ∀ e ∈ es, e.key = u32V (keyI e) := by
 induction es generalizing f with
 | nil => cases f with
  | nil => exact ⟨rfl, by simp⟩
  | cons p f => simp [Ents] at h
 | cons e es ih => cases f with
  | nil => simp [Ents] at h
  | cons p f =>
   simp only [Ents, List.map_cons, List.cons.injEq, Prod.mk.injEq] at h
   obtain ⟨⟨h1, h2⟩, h3⟩ := h
   obtain ⟨i1, i2⟩ := ih h3
   have hk : keyI e = p.1 := by unfold keyI; rw [h1]
   refine ⟨by rw [List.map_cons, List.map_cons, hk, i1], fun e' he => ?_⟩
   rcases List.mem_cons.1 he with rfl | he
   ·rw [hk]; exact h1
   ·exact i2 e' he
theorem qnf {β : Type} {g : β -> Nat} : ∀ {l : List β} {e : β}, (l.map g).Pairwise (· < ·) -> e ∈ l -> l.Perm (e :: l.filter fun x => !(g x == g e))
 | x :: l, e, hs, he => by
  rw [List.map_cons, List.pairwise_cons] at hs
  rcases List.mem_cons.1 he with rfl | he
  ·have : (e :: l).filter (fun x => !(g x == g e)) = l := by
    rw [List.filter_cons_of_neg (by simp)]
    exact List.filter_eq_self.2 fun y hy => by
     have := hs.1 (g y) (List.mem_map_of_mem hy)
     have hne : g y ≠ g e := by omega
     simp [hne]
   rw [this]
  ·have hlt := hs.1 (g e) (List.mem_map_of_mem he)
   have hne : g x ≠ g e := by omega
   rw [List.filter_cons_of_pos (by simp [hne])]
   exact ((qnf hs.2 he).cons x).trans (List.Perm.swap e x _)
def left (es : Array MapEntry) (seen : Array Nat) : List MapEntry := es.toList.filter fun e => !seen.toList.contains e.born
theorem qq9 {es : Array MapEntry} {seen : Array Nat} {e : MapEntry} (hs : (es.toList.map (·.born)).Pairwise (· < ·)) (he : e ∈ es.toList) (hn : e.born ∉ seen.toList) : (left es seen).Perm (e :: left es (seen.push e.born)) := by
 have h1 : left es (seen.push e.born) = (left es seen).filter fun x => !(x.born == e.born) := by
  rw [left, left, List.filter_filter]
  congr 1
  funext x
  rw [Array.toList_push]
  by_cases h : x.born = e.born <;> simp [h]
 rw [h1]
 refine qnf (g := fun x : MapEntry => x.born) ?_ (List.mem_filter.2 ⟨he, by simpa using hn⟩)
 exact hs.sublist (List.filter_sublist.map _)
def seenAt (w : World) (it : Nat) : Nat := match w.heap[it]? with | some (.mapIter _ _ seen _) => seen.size | _ => 0
theorem qnr {w : World} {it : Nat} {a : Option Nat} {b c : Nat} {seen : Array Nat} (h : w.heap[it]? = some (.mapIter a b seen c)) : seenAt w it = seen.size := by unfold seenAt; rw [h]
theorem qnz {w : World} {mb rk : Nat} {f : List (Int × Value)} {T : TypeId} {K : Sl -> World -> Prop} (hm : MapS u32V w mb f) (hrk : w.heap[rk]? = some (.cells #[.map (some mb)] T (0, 0))) (hf : f.length <= 100000)
  (hk : ∀ s' B l' w', BufU w' s' l' B -> l'.Perm (f.map (·.1)) -> Fr [] w w' -> (∀ b ∈ B, w.heap.size <= b) -> K s' w') :
  call Tryz.prog 139 [.slice none 0 0, .func (.func 117) #[] #[.pointer (some ⟨rk, 0, none⟩)]] [.one .slice] w K := by
 refine qjn (s := ⟨none, 0, 0⟩) ?_
 unfold qdF
 obtain ⟨es, c, hb, he, hs, hc⟩ := hm
 obtain ⟨hkm, hkey⟩ := qr7 he
 have hesl : es.toList.length = f.length := by have := congrArg List.length hkm; simpa using this
 have hbW : ∀ {w' : World}, Fr [] w w' -> w'.heap[mb]? = some (.map es c) := fun f => by rw [f.block mb (qac hb) (by simp)]; exact hb
 have hrW : ∀ {w' : World}, Fr [] w w' -> w'.heap[rk]? = some (.cells #[.map (some mb)] T (0, 0)) := fun f => by rw [f.block rk (qac hrk) (by simp)]; exact hrk
 refine Own.new' (Own.start [] w) fun r1 w1 e1 f1 ho => ?_
 refine Own.rng (lb := [.pointer (some ⟨rk, 0, none⟩)]) ho rfl (by kernel_rfl) fun Dm l R Bz J E E0 w6 el eD f56 ho6 hy => ?_
 refine qlP ?_
 unfold qfX
 refine qag (c := .map) (hrW ho6.fr) (some mb) rfl ?_
 refine qoE (ts := [.one .any]) _ _ (qqU qmA (hbW ho6.fr)) ?_
 have ho7 := ho6.alloc (.mapIter (some mb) c #[] c)
 generalize hit : w6.heap.size = it at ho7
 refine qaf (fun _ w' => ∃ (seen : Array Nat) (so : Sl) (xs : List Int) (Bo : List Nat),
   Own [] w w' [(it, .mapIter (some mb) c seen c), (l, R), (Dm, .deferred (some [])), (r1, .cells #[.slice so.a so.len so.cap] 27 (0, 0))] /\ (xs ++ (left es seen).map keyI).Perm (f.map (·.1)) /\ xs.length = seen.size /\ BufU w' so xs Bo /\
   ∀ b ∈ Bo, w.heap.size <= b /\ b ∉ [it, l, Dm, r1]) (fun _ w' => f.length - seenAt w' it)
  ⟨#[], ⟨none, 0, 0⟩, [], [], ho7, ?_, rfl, .nil _ _ _, by simp⟩ ?_
 ·have : left es #[] = es.toList := by unfold left; exact List.filter_eq_self.2 (by simp)
  rw [this, hkm]
  exact .refl _
 rintro _ w8 ⟨seen, so, xs, Bo, ho8, hperm, hxl, hbu, hBo⟩ X hX
 have hxs : xs.length + (left es seen).length = f.length := by have := hperm.length_eq; simpa using this
 refine qtj (hbW ho8.fr) (ho8.at (i := 0) rfl) hc (fun hall => ?_) (fun e hem hne w9 hsame => ?_)
 ·have hl0 : left es seen = [] := List.filter_eq_nil_iff.2 fun e he => by simpa using hall e he
  rw [hl0, List.map_nil, List.append_nil] at hperm
  refine .inl ⟨ho8.at (i := 1) rfl, ?_⟩
  have ho9 := ho8.upd (o' := E0) 1 rfl
  have hbu9 := hbu.frame (qb4 (qac (ho8.at (i := 1) rfl)) E0) (fun b hb hm => by simp only [List.mem_singleton] at hm; subst hm; exact (hBo _ hb).2 (by simp))
  refine Own.ld (c := .slice) ho9 3 rfl so rfl ?_
  refine Own.undefer ho9.rebase 2 rfl fun w10 hd => ?_
  exact hk so Bo xs w10 (hbu9.frame hd.fr (fun b hb => (hBo b hb).2)) hperm (ho9.back (L' := []) hd.fr) (fun b hb => (hBo b hb).1)
 ·have ho9 := (ho8.frame0 (.of_same hsame)).upd (o' := .mapIter (some mb) c (seen.push e.born) c) 0 rfl
  have hbu9 : BufU (Pt.upd w9 it (.mapIter (some mb) c (seen.push e.born) c)) so xs Bo := (hbu.frame0 (.of_same hsame)).frame (qb4 (qac ((ho8.frame0 (.of_same hsame)).at (i := 0) rfl)) _) (fun b hb hm => by simp only [List.mem_singleton] at hm; subst hm; exact (hBo _ hb).2 (by simp))
  generalize hw10 : Pt.upd w9 it (.mapIter (some mb) c (seen.push e.born) c) = w10 at ho9 hbu9
  refine qtk (hbW ho9.fr) (ho9.at (i := 0) rfl) hem hs ?_
  rw [hkey e hem]
  refine hy (keyI e) w10 _ (ho9.at (i := 1) rfl) ?_
  dsimp only
  refine ⟨ho9.at (i := 1) rfl, ?_⟩
  have hoA := ho9.upd (o' := Bz) 1 rfl
  have hbuA := hbu9.frame (qb4 (qac (ho9.at (i := 1) rfl)) Bz) (fun b hb hm => by simp only [List.mem_singleton] at hm; subst hm; exact (hBo _ hb).2 (by simp))
  refine Own.ld (c := .slice) hoA 3 rfl so rfl ?_
  refine qio hbuA (by omega) fun s11 B11 w11 b11 f11 n11 => ?_
  have hLlt : ∀ p ∈ [it, l, Dm, r1], p < (Pt.upd w10 l Bz).heap.size := fun p hp => by
   have hlt := fun (k : Nat) (q : Nat × Obj) (hq : _[k]? = some q) => qac (hoA.at (i := k) hq)
   simp only [List.mem_cons, List.not_mem_nil, or_false] at hp
   rcases hp with rfl | rfl | rfl | rfl
   ·exact hlt 0 _ rfl
   ·exact hlt 1 _ rfl
   ·exact hlt 2 _ rfl
   ·exact hlt 3 _ rfl
  have hB11 : ∀ b ∈ B11, w.heap.size <= b /\ b ∉ [it, l, Dm, r1] := fun b hb => by
   rcases n11 b hb with h | h
   ·exact hBo b h
   ·refine ⟨Nat.le_trans hoA.fr.size h, fun hm => ?_⟩
    exact Nat.lt_irrefl _ (Nat.lt_of_lt_of_le (hLlt b hm) h)
  have hoB := hoA.frame f11 (fun b hb => .inr (hBo b hb).1) (fun p hp hb => (hBo _ hb).2 (List.mem_map_of_mem (f := (·.1)) hp))
  refine Own.st' hoB 3 rfl _ rfl rfl (Nat.le_of_ble_eq_true rfl) fun w12 hoC f12 => ?_
  refine ⟨hoC.at (i := 1) rfl, ?_⟩
  have hoD := hoC.upd (o' := R) 1 rfl
  have b12 := (b11.frame f12 (fun b hb hm => by simp only [List.mem_singleton] at hm; subst hm; exact (hB11 _ hb).2 (by simp))).frame (qb4 (qac (hoC.at (i := 1) rfl)) R) (fun b hb hm => by simp only [List.mem_singleton] at hm; subst hm; exact (hB11 _ hb).2 (by simp))
  refine cond_false rfl ?_
  have hpk := qq9 hs hem hne
  refine hX _ _ ⟨seen.push e.born, s11, xs ++ [keyI e], B11, hoD, ?_, by simp [hxl], b12, hB11⟩ ?_
  ·refine List.Perm.trans ?_ hperm
   rw [List.append_assoc]
   exact (hpk.symm.map keyI).append_left xs
  ·have h1 := qnr (ho8.at (i := 0) rfl)
   have h2 : seenAt (Pt.upd w12 l R) it = (seen.push e.born).size := qnr (hoD.at (i := 0) rfl)
   have h3 := hpk.length_eq
   rw [List.length_cons] at h3
   show f.length - seenAt (Pt.upd w12 l R) it < f.length - seenAt w8 it
   rw [h1, h2, Array.size_push]
   omega
end Go.Proofs.YtmbcedengdoamaaGreatDoor
end
section
set_option linter.unusedVariables false
set_option linter.unusedSimpArgs false
namespace Go.Proofs.YtmbcedengdoamaaGreatDoor
open Go Go.Pt Go.Sort
attribute [local irreducible] ld ldA ldV fld fldA newZ st new idx idxS idxA slc slcS slcP mkS chk nn call callV inv run runQ runU join loop held ext rng undefer s2a nxt ent IntKind.wrap
theorem qgJ (l : List Int) : l.flatMap encU = l.map (Value.int .u32) := by
 induction l with
 | nil => rfl
 | cons a l ih => rw [List.flatMap_cons, ih]; rfl
theorem qn3 {w : World} {s : Sl} {l : List Int} {B : List Nat} {K : Unit -> World -> Prop} (h : BufU w s l B) (hl : l.length <= 1000000)
  (hk : ∀ l' w', BufU w' s l' B -> l'.Perm l -> l'.Pairwise (· <= ·) -> Fr B w w' -> K () w') :
  call Tryz.prog 91 [.slice s.a s.len s.cap] [] w K := by
 rcases h with ⟨rfl, rfl, rfl⟩ | ⟨b, o, cs, T, rfl, rfl, ha, hb, h1, h2, h3, h4⟩
 ·exact qob (hk [] w (.nil _ _ _) (.refl _) .nil (.refl _ _))
 ·obtain ⟨a, len, cap⟩ := s
  simp only at ha h1 h2 h3 h4
  subst ha h1
  rw [List.drop_zero, Nat.mul_one, qgJ] at h4
  rw [Nat.zero_add, Nat.mul_one] at h3
  have hcs : cs = u32s l.toArray ++ (cs.toList.drop l.length).toArray := by
   apply Array.ext'
   rw [Array.toList_append, u32s, Array.toList_map, <- h4, List.take_append_drop]
  have harr : Arr b ⟨T, some (cs.toList.drop l.length).toArray⟩ w w l.toArray := ⟨.refl _ _, by rw [hb]; show _ = some (Obj.cells (u32s l.toArray ++ (cs.toList.drop l.length).toArray) T (0, 0)); rw [<- hcs]⟩
  refine qpR (len := l.length) harr ⟨by simp, by omega⟩ fun d' w' s1 s2 s3 => ?_
  have hsz : d'.size = l.length := by have := s1.1; simpa using this
  have hp : d'.toList.Perm l := by
   have := qdQ s1
   rw [List.take_of_length_le (by rw [Array.length_toList]; omega)] at this
   simpa using this
  have hdl : d'.toList.length = l.length := by rw [<- hsz]; rfl
  have hcl : cs.toList.length = cs.size := rfl
  refine hk d'.toList w' (.inr ⟨b, 0, _, T, rfl, rfl, rfl, s3.blk, ?_, ?_, ?_, ?_⟩) hp ?_ s3.fr
  ·show l.length = d'.toList.length
   exact hdl.symm
  ·exact h2
  ·show 0 + cap * 1 <= (u32s d' ++ (cs.toList.drop l.length).toArray).size
   have e : (cs.toList.drop l.length).toArray.size = cs.size - l.length := by simp
   rw [Array.size_append, qd9, e, hsz]
   omega
  ·show ((u32s d' ++ (cs.toList.drop l.length).toArray).toList.drop 0).take _ = _
   rw [List.drop_zero, Nat.mul_one, Array.toList_append, u32s, Array.toList_map, List.take_append_of_le_length (by rw [List.length_map]; exact Nat.le_refl _), List.take_of_length_le (by rw [List.length_map]; exact Nat.le_refl _), qgJ]
  ·rw [List.pairwise_iff_getElem]
   intro i j hi hj hij
   have hi : i < d'.size := hi
   have hj : j < d'.size := hj
   have := s2 i j (Nat.zero_le _) hij (by omega)
   rw [getElem!_pos d' i hi, getElem!_pos d' j hj] at this
   simp [ltInt] at this
   simpa using this
theorem qol {w : World} {mb : Nat} {f : List (Int × Value)} {K : Sl -> World -> Prop} (hm : MapS u32V w mb f) (hf : f.length <= 100000)
  (hk : ∀ s' B l' w', BufU w' s' l' B -> l'.Perm (f.map (·.1)) -> l'.Pairwise (· <= ·) -> Fr [] w w' -> (∀ b ∈ B, w.heap.size <= b) -> K s' w') :
  call Tryz.prog 84 [.map (some mb)] [.one .any] w fun v w' =>
   call Tryz.prog 83 [v] [.one .slice] w' fun s w' => K s w' := by
 refine qoZ (m := some mb) ?_
 unfold qiR
 refine Own.new' (Own.start [] w) fun rk w1 e1 f1 ho => ?_
 refine qlB ?_
 unfold qe9
 refine qkx ?_
 unfold qeF
 refine qnz (hm.frame f1 (by simp)) (ho.at (i := 0) rfl) hf fun s' B l' w2 b2 p2 f2 n2 => ?_
 have hl : l'.length = f.length := by have := p2.length_eq; simpa using this
 refine qn3 b2 (by omega) fun l2 w3 b3 p3 s3 f3 => ?_
 have hs := f1.size
 exact hk s' B l2 w3 b3 (p3.trans p2) s3 ((f1.trans f2).trans' f3 fun b hb => .inr (Nat.le_trans hs (n2 b hb))) fun b hb => Nat.le_trans hs (n2 b hb)
section
variable {w : World} {X : List Nat} {pb : Nat} {db : Option Addr} {F : List Nat} {M : PgM}
theorem qqZ {K : Sl -> World -> Prop} (h : PagerAt w X pb db F M) (hl : M.fresh.length <= 100000) (hk : ∀ s B l w', BufU w' s l B -> l.Perm (M.fresh.map (·.1)) -> l.Pairwise (· <= ·) -> Fr [] w w' -> (∀ b ∈ B, w.heap.size <= b) -> K s w') :
  call Tryz.prog 34 [.pointer (some ⟨pb, 0, none⟩)] [.one .slice] w K := by
 obtain ⟨fb, defb, mb, sl, sn, F1, F2, fs, rfl, hx⟩ := h
 refine qip (p := some ⟨pb, 0, none⟩) ?_
 unfold qc7
 refine qad ?_
 simp only [Addr.add_mk]
 refine qag (c := .map) hx.cell (some mb) (qb3 hx.suplen) ?_
 have hlf : fs.length <= 100000 := by rw [hx.fresh] at hl; simpa using hl
 refine qol hx.map (by simpa using hlf) fun s B l w' b p o f n => ?_
 refine hk s B l w' b ?_ o f n
 rw [hx.fresh]
 simpa [Function.comp_def] using p
end
end Go.Proofs.YtmbcedengdoamaaGreatDoor
end
section
set_option linter.unusedVariables false
set_option linter.unusedSimpArgs false
namespace Go.Proofs.YtmbcedengdoamaaGreatDoor
open Go Go.Pt
attribute [local irreducible] ld ldA ldV fld fldA newZ st new idx idxS idxA slc slcS slcP mkS chk nn call callV inv run runQ runU join loop held ext rng undefer s2a nxt ent IntKind.wrap
theorem qat {A X Y Z : List Value} (h : X.length = Y.length) : splice (A ++ X ++ Z).toArray A.length Y = (A ++ Y ++ Z).toArray := by
 apply Array.ext'
 rw [qau _ _ _ (by rw [List.size_toArray]; simp only [List.length_append]; omega)]
 exact qgP A X Y Z h
theorem qam {offs : Array (Nat × Nat)} {cells : Array Value} {i o s : Nat} {v : Value} {rest : List (Nat × Value)} (h : offs[i]? = some (o, s)) (hv : v.cells.size = s) (hb : o + s <= cells.size) :
  Instr.fill (offs[·]?) cells ((i, v) :: rest) = Instr.fill (offs[·]?) (splice cells o v.cells.toList) rest := by
 have h1 := qiq o v.cells cells
 simp only [Instr.fill, h]
 rw [if_neg (by simp [hv]; omega), h1]
theorem qba {P : Program} {t : TypeId} {z : Value} {parts : List (Nat × Value)} {offs : Array (Nat × Nat)} {cs : Array Value} (hz : (P.info? t).bind (·.zero) = some z) (hu : P.underlying t = some (.struct (fieldsOf P t))) (hpl : ∀ w, ((fieldsOf P t).mapM fun f => do pure (f.offset, <- sizeOf f.type) : Sem (Array (Nat × Nat))).run P w = .ok offs w)
  (hf : Instr.fill (offs[·]?) z.cells parts = some cs) (w : World) : (Instr.build t parts.toArray).run P w = .ok (.agg cs) w := by
 simp only [Instr.build, Sem.run_bind, qaT hz, Result.andThen_ok, run_underlying hu, hpl, hf, Sem.run_pure]
abbrev WKT : TypeId := 98
def workV (x y : Option Addr) (m : Option Nat) (roots : List Int) : List Value := [.pointer x, .pointer y, .map m] ++ roots.map (Value.int .u32)
theorem qdl {x y : Option Addr} {m : Option Nat} {roots : List Int} (h : roots.length = 24) : (workV x y m roots).length = 27 := by simp [workV, h]
theorem qtK : (Tryz.prog.info? WKT).bind (·.zero) = some (.agg (workV none none none (zs 24)).toArray) := by kernel_rfl
theorem qqL {x y : Option Addr} {m : Option Nat} {roots : List Int} (h : roots.length = 24) (w : World) :
  (Instr.build WKT #[(0, .pointer x), (1, .pointer y), (2, .map m), (3, .agg (roots.map (Value.int .u32)).toArray)]).run Tryz.prog w = .ok (.agg (workV x y m roots).toArray) w := by
 refine qba (parts := [(0, .pointer x), (1, .pointer y), (2, .map m), (3, .agg (roots.map (Value.int .u32)).toArray)]) (offs := #[(0, 1), (1, 1), (2, 1), (3, 24)]) qtK (by kernel_rfl) (fun w => by kernel_rfl) ?_ w
 have hs : (Value.agg (roots.map (Value.int .u32)).toArray).cells.size = 24 := by show (roots.map (Value.int .u32)).toArray.size = 24; simp [h]
 rw [qam (o := 0) (s := 1) rfl rfl (Nat.le_of_ble_eq_true rfl), qam (o := 1) (s := 1) rfl rfl (Nat.le_of_ble_eq_true rfl), qam (o := 2) (s := 1) rfl rfl (Nat.le_of_ble_eq_true rfl), qam (o := 3) (s := 24) rfl hs (Nat.le_of_ble_eq_true rfl)]
 show some _ = _
 congr 1
 exact qat (A := [.pointer x, .pointer y, .map m]) (X := (zs 24).map (Value.int .u32)) (Z := []) (Y := roots.map (Value.int .u32)) (by simp [h, qaC]) |>.trans (by rw [List.append_nil]; rfl)
def pgRaw (db : Option Addr) (sup : Sup) (sl sn : Sl) (turn : Int) (over : Bool) (wk : List Value) : Array Value :=
 ((Value.pointer db :: supV sup.1 sup.2) ++ ([.slice sl.a sl.len sl.cap, .slice sn.a sn.len sn.cap, .int .i64 turn, .bool over] : List Value) ++ wk).toArray
theorem qhB {db : Option Addr} {sup : Sup} {sl sn : Sl} {turn : Int} {over : Bool} {fb defb mb : Nat} {roots : List Int} :
  pgRaw db sup sl sn turn over (workV (some ⟨fb, 0, none⟩) (some ⟨defb, 0, none⟩) (some mb) roots) = pgCells db sup sl sn turn over fb defb mb roots := by
 simp [pgRaw, pgCells, pgRest, workV]
section
variable {db : Option Addr} {sup : Sup} {sl sn : Sl} {turn : Int} {over : Bool} {wk : List Value}
theorem qbU (hl : sup.2.length = 27) : (pgRaw db sup sl sn turn over wk).size = 33 + wk.length := by
 rw [pgRaw, List.size_toArray, List.length_append, List.length_append, qbd hl]; rfl
theorem qfI (hl : sup.2.length = 27) (j : Nat) (h : j < 4) : (pgRaw db sup sl sn turn over wk)[29 + j]? = ([.slice sl.a sl.len sl.cap, .slice sn.a sn.len sn.cap, .int .i64 turn, .bool over] : List Value)[j]? := by
 rw [pgRaw, List.getElem?_toArray, List.append_assoc, List.getElem?_append_right (by rw [qbd hl]; omega), qbd hl, Nat.add_sub_cancel_left, List.getElem?_append_left (by exact h)]
theorem qtI : (pgRaw db sup sl sn turn over wk)[0]? = some (.pointer db) := rfl
theorem qks (hl : sup.2.length = 27) (n : Nat) (h : n < 27) : (pgRaw db sup sl sn turn over wk)[n + 2]? = some (.int .u32 (sup.2.getD n 0)) := by
 rw [pgRaw, List.getElem?_toArray, List.append_assoc, List.getElem?_append_left (by rw [qbd hl]; omega), List.getElem?_cons_succ]
 have := qcB (q := sup.1) (t := sup.2) n (by omega)
 rw [List.getElem?_toArray] at this
 exact this
theorem qjS (hl : sup.2.length = 27) : ((pgRaw db sup sl sn turn over wk).toList.drop 5).take 24 = (sup.2.drop 3).map (Value.int .u32) := by
 have hm : ((sup.2.drop 3).map (Value.int .u32)).length = 24 := by rw [List.length_map, List.length_drop, hl]
 have e : (pgRaw db sup sl sn turn over wk).toList.drop 5 = (sup.2.drop 3).map (Value.int .u32) ++ ([.slice sl.a sl.len sl.cap, .slice sn.a sn.len sn.cap, .int .i64 turn, .bool over] ++ wk) := by
  show List.drop 3 ((sup.2.map (Value.int .u32)) ++ [_, _, _, _] ++ wk) = _
  rw [List.append_assoc, List.drop_append_of_le_length (by rw [List.length_map, hl]; decide), List.map_drop]
 rw [e, List.take_append_of_le_length (Nat.le_of_eq hm.symm), List.take_of_length_le (Nat.le_of_eq hm)]
theorem qrP (hl : sup.2.length = 27) {turn' : Int} : splice (pgRaw db sup sl sn turn over wk) 31 [.int .i64 turn'] = pgRaw db sup sl sn turn' over wk := by
 have h : ((Value.pointer db :: supV sup.1 sup.2) ++ ([.slice sl.a sl.len sl.cap, .slice sn.a sn.len sn.cap] : List Value)).length = 31 := by rw [List.length_append, qbd hl]; rfl
 have := qat (A := (Value.pointer db :: supV sup.1 sup.2) ++ ([.slice sl.a sl.len sl.cap, .slice sn.a sn.len sn.cap] : List Value)) (X := [.int .i64 turn]) (Y := [.int .i64 turn']) (Z := .bool over :: wk) rfl
 rw [h] at this
 simpa [pgRaw] using this
theorem qsh (hl : sup.2.length = 27) {wk' : List Value} (hw : wk.length = wk'.length) : splice (pgRaw db sup sl sn turn over wk) 33 wk' = pgRaw db sup sl sn turn over wk' := by
 have h : ((Value.pointer db :: supV sup.1 sup.2) ++ ([.slice sl.a sl.len sl.cap, .slice sn.a sn.len sn.cap, .int .i64 turn, .bool over] : List Value)).length = 33 := by rw [List.length_append, qbd hl]; rfl
 have := qat (A := (Value.pointer db :: supV sup.1 sup.2) ++ ([.slice sl.a sl.len sl.cap, .slice sn.a sn.len sn.cap, .int .i64 turn, .bool over] : List Value)) (X := wk) (Y := wk') (Z := []) hw
 rw [h, List.append_nil, List.append_nil] at this
 exact this
end
end Go.Proofs.YtmbcedengdoamaaGreatDoor
end
section
set_option linter.unusedVariables false
set_option maxRecDepth 100000
namespace Go.Proofs.YtmbcedengdoamaaGreatDoor
open Go Go.Pt
def qjN (blocks : Int) (K : ((Option Addr) × Int) -> World -> Prop) (w : World) : Prop := join (Bool) (fun X_1 => cond (decide (blocks < 8)) (X_1 true w) (X_1 (decide (blocks > 4096)) w)) <| fun (b_2 : Bool) w_3 => cond b_2 (K ((none, 1)) w_3) (mkS 128 ([.int .u8 0, .int .u8 0, .int .u8 0, .int .u8 0, .int .u8 0, .int .u8 0, .int .u8 0, .int .u8 0, .int .u8 0, .int .u8 0, .int .u8 0, .int .u8 0, .int .u8 0, .int .u8 0, .int .u8 0, .int .u8 0, .int .u8 0, .int .u8 0, .int .u8 0, .int .u8 0, .int .u8 0, .int .u8 0, .int .u8 0, .int .u8 0, .int .u8 0, .int .u8 0, .int .u8 0, .int .u8 0, .int .u8 0, .int .u8 0, .int .u8 0, .int .u8 0, .int .u8 0, .int .u8 0, .int .u8 0, .int .u8 0, .int .u8 0, .int .u8 0, .int .u8 0, .int .u8 0, .int .u8 0, .int .u8 0, .int .u8 0, .int .u8 0, .int .u8 0, .int .u8 0, .int .u8 0, .int .u8 0, .int .u8 0, .int .u8 0, .int .u8 0, .int .u8 0, .int .u8 0, .int .u8 0, .int .u8 0, .int .u8 0, .int .u8 0, .int .u8 0, .int .u8 0, .int .u8 0, .int .u8 0, .int .u8 0, .int .u8 0, .int .u8 0, .int .u8 0, .int .u8 0, .int .u8 0, .int .u8 0, .int .u8 0, .int .u8 0, .int .u8 0, .int .u8 0, .int .u8 0, .int .u8 0, .int .u8 0, .int .u8 0, .int .u8 0, .int .u8 0, .int .u8 0, .int .u8 0, .int .u8 0, .int .u8 0, .int .u8 0, .int .u8 0, .int .u8 0, .int .u8 0, .int .u8 0, .int .u8 0, .int .u8 0, .int .u8 0, .int .u8 0, .int .u8 0, .int .u8 0, .int .u8 0, .int .u8 0, .int .u8 0, .int .u8 0, .int .u8 0, .int .u8 0, .int .u8 0, .int .u8 0, .int .u8 0, .int .u8 0, .int .u8 0, .int .u8 0, .int .u8 0, .int .u8 0, .int .u8 0, .int .u8 0, .int .u8 0, .int .u8 0, .int .u8 0, .int .u8 0, .int .u8 0, .int .u8 0, .int .u8 0, .int .u8 0, .int .u8 0, .int .u8 0, .int .u8 0, .int .u8 0, .int .u8 0, .int .u8 0, .int .u8 0, .int .u8 0, .int .u8 0, .int .u8 0, .int .u8 0, .int .u8 0, .int .u8 0, .int .u8 0, .int .u8 0, .int .u8 0, .int .u8 0, .int .u8 0, .int .u8 0, .int .u8 0, .int .u8 0, .int .u8 0, .int .u8 0, .int .u8 0, .int .u8 0, .int .u8 0, .int .u8 0, .int .u8 0, .int .u8 0, .int .u8 0, .int .u8 0, .int .u8 0, .int .u8 0, .int .u8 0, .int .u8 0, .int .u8 0, .int .u8 0, .int .u8 0, .int .u8 0, .int .u8 0, .int .u8 0, .int .u8 0, .int .u8 0, .int .u8 0, .int .u8 0, .int .u8 0, .int .u8 0, .int .u8 0, .int .u8 0, .int .u8 0, .int .u8 0, .int .u8 0, .int .u8 0, .int .u8 0, .int .u8 0, .int .u8 0, .int .u8 0, .int .u8 0, .int .u8 0, .int .u8 0, .int .u8 0, .int .u8 0, .int .u8 0, .int .u8 0, .int .u8 0, .int .u8 0, .int .u8 0, .int .u8 0, .int .u8 0, .int .u8 0, .int .u8 0, .int .u8 0, .int .u8 0, .int .u8 0, .int .u8 0, .int .u8 0, .int .u8 0, .int .u8 0, .int .u8 0, .int .u8 0, .int .u8 0, .int .u8 0, .int .u8 0, .int .u8 0, .int .u8 0, .int .u8 0, .int .u8 0, .int .u8 0, .int .u8 0, .int .u8 0, .int .u8 0, .int .u8 0, .int .u8 0, .int .u8 0, .int .u8 0, .int .u8 0, .int .u8 0, .int .u8 0, .int .u8 0, .int .u8 0, .int .u8 0, .int .u8 0, .int .u8 0, .int .u8 0, .int .u8 0, .int .u8 0, .int .u8 0, .int .u8 0, .int .u8 0, .int .u8 0, .int .u8 0, .int .u8 0, .int .u8 0, .int .u8 0, .int .u8 0, .int .u8 0, .int .u8 0, .int .u8 0, .int .u8 0, .int .u8 0, .int .u8 0, .int .u8 0, .int .u8 0, .int .u8 0, .int .u8 0, .int .u8 0, .int .u8 0, .int .u8 0, .int .u8 0, .int .u8 0, .int .u8 0, .int .u8 0, .int .u8 0, .int .u8 0, .int .u8 0, .int .u8 0, .int .u8 0, .int .u8 0, .int .u8 0, .int .u8 0, .int .u8 0, .int .u8 0, .int .u8 0, .int .u8 0, .int .u8 0, .int .u8 0, .int .u8 0, .int .u8 0, .int .u8 0, .int .u8 0, .int .u8 0, .int .u8 0, .int .u8 0, .int .u8 0, .int .u8 0, .int .u8 0, .int .u8 0, .int .u8 0, .int .u8 0, .int .u8 0, .int .u8 0, .int .u8 0, .int .u8 0, .int .u8 0, .int .u8 0, .int .u8 0, .int .u8 0, .int .u8 0, .int .u8 0, .int .u8 0, .int .u8 0, .int .u8 0, .int .u8 0, .int .u8 0, .int .u8 0, .int .u8 0, .int .u8 0, .int .u8 0, .int .u8 0, .int .u8 0, .int .u8 0, .int .u8 0, .int .u8 0, .int .u8 0, .int .u8 0, .int .u8 0, .int .u8 0, .int .u8 0, .int .u8 0, .int .u8 0, .int .u8 0, .int .u8 0, .int .u8 0, .int .u8 0, .int .u8 0, .int .u8 0, .int .u8 0, .int .u8 0, .int .u8 0, .int .u8 0, .int .u8 0, .int .u8 0, .int .u8 0, .int .u8 0, .int .u8 0, .int .u8 0, .int .u8 0, .int .u8 0, .int .u8 0, .int .u8 0, .int .u8 0, .int .u8 0, .int .u8 0, .int .u8 0, .int .u8 0, .int .u8 0, .int .u8 0, .int .u8 0, .int .u8 0, .int .u8 0, .int .u8 0, .int .u8 0, .int .u8 0, .int .u8 0, .int .u8 0, .int .u8 0, .int .u8 0, .int .u8 0, .int .u8 0, .int .u8 0, .int .u8 0, .int .u8 0, .int .u8 0, .int .u8 0, .int .u8 0, .int .u8 0, .int .u8 0, .int .u8 0, .int .u8 0, .int .u8 0, .int .u8 0, .int .u8 0, .int .u8 0, .int .u8 0, .int .u8 0, .int .u8 0, .int .u8 0, .int .u8 0, .int .u8 0, .int .u8 0, .int .u8 0, .int .u8 0, .int .u8 0, .int .u8 0, .int .u8 0, .int .u8 0, .int .u8 0, .int .u8 0, .int .u8 0, .int .u8 0, .int .u8 0, .int .u8 0, .int .u8 0, .int .u8 0, .int .u8 0, .int .u8 0, .int .u8 0, .int .u8 0, .int .u8 0, .int .u8 0, .int .u8 0, .int .u8 0, .int .u8 0, .int .u8 0, .int .u8 0, .int .u8 0, .int .u8 0, .int .u8 0, .int .u8 0, .int .u8 0, .int .u8 0, .int .u8 0, .int .u8 0, .int .u8 0, .int .u8 0, .int .u8 0, .int .u8 0, .int .u8 0, .int .u8 0, .int .u8 0, .int .u8 0, .int .u8 0, .int .u8 0, .int .u8 0, .int .u8 0, .int .u8 0, .int .u8 0, .int .u8 0, .int .u8 0, .int .u8 0, .int .u8 0, .int .u8 0, .int .u8 0, .int .u8 0, .int .u8 0, .int .u8 0, .int .u8 0, .int .u8 0, .int .u8 0, .int .u8 0, .int .u8 0, .int .u8 0, .int .u8 0, .int .u8 0, .int .u8 0, .int .u8 0, .int .u8 0, .int .u8 0, .int .u8 0, .int .u8 0, .int .u8 0, .int .u8 0, .int .u8 0, .int .u8 0, .int .u8 0, .int .u8 0, .int .u8 0, .int .u8 0, .int .u8 0, .int .u8 0, .int .u8 0, .int .u8 0, .int .u8 0, .int .u8 0, .int .u8 0, .int .u8 0, .int .u8 0, .int .u8 0, .int .u8 0, .int .u8 0, .int .u8 0, .int .u8 0, .int .u8 0, .int .u8 0, .int .u8 0, .int .u8 0, .int .u8 0, .int .u8 0, .int .u8 0, .int .u8 0, .int .u8 0, .int .u8 0, .int .u8 0, .int .u8 0, .int .u8 0, .int .u8 0, .int .u8 0, .int .u8 0, .int .u8 0, .int .u8 0, .int .u8 0, .int .u8 0, .int .u8 0, .int .u8 0, .int .u8 0, .int .u8 0, .int .u8 0, .int .u8 0, .int .u8 0, .int .u8 0, .int .u8 0, .int .u8 0, .int .u8 0, .int .u8 0, .int .u8 0, .int .u8 0, .int .u8 0, .int .u8 0, .int .u8 0, .int .u8 0, .int .u8 0, .int .u8 0, .int .u8 0, .int .u8 0, .int .u8 0, .int .u8 0, .int .u8 0, .int .u8 0, .int .u8 0, .int .u8 0, .int .u8 0, .int .u8 0, .int .u8 0, .int .u8 0, .int .u8 0]) 512 512 blocks blocks w_3 <| fun (s_4 : Sl) w_5 => new (Obj.cells #[.slice s_4.a s_4.len s_4.cap, .slice none 0 0, .int .i64 (-1), .bool false, .int .i64 0] 112) w_5 <| fun r_6 w_7 => K ((some ⟨r_6, 0, none⟩, 0)) w_7)
def qnu : List Ann := [.n, .n, .j [(9, .one .bool)], .n, .n]
theorem qpu {blocks : Int} {w : World} {K : ((Option Addr) × Int) -> World -> Prop} (hF : qjN blocks K w) : call Tryz.prog 38 [.int .i64 blocks] [.one .ptr, .one (.int .i64)] w K := qab (an := qnu) Tryz.func38 (by kernel_rfl) ((show fnPt (std Tryz.prog) Tryz.prog Tryz.f38 qnu [.one .ptr, .one (.int .i64)] [.int .i64 blocks] K w = qjN blocks K w by kernel_rfl).mpr hF)
def qdG (d : Option Addr) (K : Int -> World -> Prop) (w : World) : Prop := nn d <| fun a_1 => ld .slice a_1 w <| fun (s_2 : Sl) => K (↑s_2.len : Int) w
def qf7 : List Ann := [.n, .n]
theorem qjq {d : Option Addr} {w : World} {K : Int -> World -> Prop} (hF : qdG d K w) : call Tryz.prog 63 [.pointer d] [.one (.int .i64)] w K := qab (an := qf7) Tryz.func63 (by kernel_rfl) ((show fnPt (std Tryz.prog) Tryz.prog Tryz.f63 qf7 [.one (.int .i64)] [.pointer d] K w = qdG d K w by kernel_rfl).mpr hF)
def qem (d : Option Addr) (n : Int) (K : (Sl × Int) -> World -> Prop) (w : World) : Prop := new (Obj.cells #[.int .i64 n] 3) w <| fun r_1 w_2 => new (Obj.cells #[.slice none 0 0] 22) w_2 <| fun r_3 w_4 => new (Obj.cells #[.int .i64 0] 30) w_4 <| fun r_5 w_6 => nn d <| fun a_7 => ld .bool ⟨a_7.block, a_7.off + 3, none⟩ w_6 <| fun (b_8 : Bool) => cond b_8 (st ⟨r_3, 0, none⟩ ([.slice none 0 0]) w_6 <| fun w_9 => st ⟨r_5, 0, none⟩ ([.int .i64 7]) w_9 <| fun w_10 => ld .slice ⟨r_3, 0, none⟩ w_10 <| fun (s_11 : Sl) => ld (.int .i64) ⟨r_5, 0, none⟩ w_10 <| fun (x_12 : Int) => K ((s_11, x_12)) w_10) (join (Bool) (fun X_13 => ld (.int .i64) ⟨r_1, 0, none⟩ (World.drew w_6) <| fun (x_14 : Int) => cond (decide (x_14 < 0)) (X_13 true (World.drew w_6)) (ld (.int .i64) ⟨r_1, 0, none⟩ (World.drew w_6) <| fun (x_15 : Int) => nn d <| fun a_16 => ld .slice a_16 (World.drew w_6) <| fun (s_17 : Sl) => X_13 (decide (x_15 >= (↑s_17.len : Int))) (World.drew w_6))) <| fun (b_18 : Bool) w_19 => cond b_18 (st ⟨r_3, 0, none⟩ ([.slice none 0 0]) w_19 <| fun w_20 => st ⟨r_5, 0, none⟩ ([.int .i64 4]) w_20 <| fun w_21 => ld .slice ⟨r_3, 0, none⟩ w_21 <| fun (s_22 : Sl) => ld (.int .i64) ⟨r_5, 0, none⟩ w_21 <| fun (x_23 : Int) => K ((s_22, x_23)) w_21) (nn d <| fun a_24 => ld .slice ⟨a_24.block, a_24.off + 1, none⟩ w_19 <| fun (s_25 : Sl) => call Tryz.prog 55 ([.slice s_25.a s_25.len s_25.cap]) ([.one .any]) w_19 <| fun (v_26 : Value) w_27 => rng Tryz.prog v_26 [.one (.int .i64), .raw] (fun (t_28 : Int × List Value) (X_29 : World -> (World -> Prop) -> Prop) (X_30 : World -> Prop) X_31 w_32 => newZ Tryz.prog 130 w_32 <| fun r_33 w_34 => chk (List.length t_28.snd = 513) <| st ⟨r_33, 0, none⟩ t_28.snd w_34 <| fun w_35 => X_29 w_35 <| fun w_36 => ld (.int .i64) ⟨r_33, 0, none⟩ w_36 <| fun (x_37 : Int) => ld (.int .i64) ⟨r_1, 0, none⟩ w_36 <| fun (x_38 : Int) => cond (x_37 == x_38) (slcP ⟨r_33, 1, none⟩ 512 none none none 1 <| fun (s_39 : Sl) => call Tryz.prog 42 ([.slice s_39.a s_39.len s_39.cap]) ([.one .slice]) w_36 <| fun (s_40 : Sl) w_41 => st ⟨r_3, 0, none⟩ ([.slice s_40.a s_40.len s_40.cap]) w_41 <| fun w_42 => st ⟨r_5, 0, none⟩ ([.int .i64 0]) w_42 <| fun w_43 => X_31 0 w_43) (X_30 w_36)) (fun r_44 w_45 => nn d <| fun a_46 => ld .slice a_46 (World.drew w_45) <| fun (s_47 : Sl) => ld (.int .i64) ⟨r_1, 0, none⟩ (World.drew w_45) <| fun (x_48 : Int) => idx s_47 x_48 512 <| fun a_49 => slcP a_49 512 none none none 1 <| fun (s_50 : Sl) => call Tryz.prog 42 ([.slice s_50.a s_50.len s_50.cap]) ([.one .slice]) (World.drew w_45) <| fun (s_51 : Sl) w_52 => st ⟨r_3, 0, none⟩ ([.slice s_51.a s_51.len s_51.cap]) w_52 <| fun w_53 => st ⟨r_5, 0, none⟩ ([.int .i64 0]) w_53 <| fun w_54 => undefer r_44 w_54 <| fun w_55 => ld .slice ⟨r_3, 0, none⟩ w_55 <| fun (s_56 : Sl) => ld (.int .i64) ⟨r_5, 0, none⟩ w_55 <| fun (x_57 : Int) => K ((s_56, x_57)) w_55) [fun r_58 w_59 => undefer r_58 w_59 <| fun w_60 => ld .slice ⟨r_3, 0, none⟩ w_60 <| fun (s_61 : Sl) => ld (.int .i64) ⟨r_5, 0, none⟩ w_60 <| fun (x_62 : Int) => K ((s_61, x_62)) w_60] w_27))
def qhn : List Ann := [.n, .n, .n, .n, .j [(13, .one .bool)], .o [[0, 1, 2, 3, 4, 5, 6, 7, 8, 9, 10, 11]], .n, .n, .n, .r [.one (.int .i64), .raw], .n, .n, .n, .o [[0, 1, 2, 3, 4, 5, 6, 7, 8, 9]]]
theorem qkB {d : Option Addr} {n : Int} {w : World} {K : (Sl × Int) -> World -> Prop} (hF : qem d n K w) : call Tryz.prog 19 [.pointer d, .int .i64 n] [.one .slice, .one (.int .i64)] w K := qff (an := qhn) Tryz.func19 (by kernel_rfl) ((show fnPtS (std Tryz.prog) Tryz.prog Tryz.f19 qhn [.one .slice, .one (.int .i64)] [.pointer d, .int .i64 n] K w = qem d n K w by kernel_rfl).mpr hF)
def qfi (d : Option Addr) (K : Bool -> World -> Prop) (w : World) : Prop := nn d <| fun a_1 => ld (.int .i64) ⟨a_1.block, a_1.off + 2, none⟩ w <| fun (x_2 : Int) => cond (x_2 == 0) (nn d <| fun a_3 => st ⟨a_3.block, a_3.off + 3, none⟩ ([.bool true]) w <| fun w_4 => K true w_4) (join (PUnit) (fun X_5 => nn d <| fun a_6 => ld (.int .i64) ⟨a_6.block, a_6.off + 2, none⟩ w <| fun (x_7 : Int) => cond (decide (x_7 > 0)) (nn d <| fun a_8 => ld (.int .i64) ⟨a_8.block, a_8.off + 2, none⟩ w <| fun (x_9 : Int) => nn d <| fun a_10 => st ⟨a_10.block, a_10.off + 2, none⟩ ([.int .i64 (IntKind.wrap .i64 (x_9 - 1))]) w <| fun w_11 => X_5 () w_11) (X_5 () w)) <| fun (x_12 : PUnit) w_13 => K false w_13)
def qia : List Ann := [.n, .n, .n, .n, .n, .j [], .n, .n]
theorem qk7 {d : Option Addr} {w : World} {K : Bool -> World -> Prop} (hF : qfi d K w) : call Tryz.prog 75 [.pointer d] [.one .bool] w K := qab (an := qia) Tryz.func75 (by kernel_rfl) ((show fnPt (std Tryz.prog) Tryz.prog Tryz.f75 qia [.one .bool] [.pointer d] K w = qfi d K w by kernel_rfl).mpr hF)
def qdV (d : Option Addr) (n : Int) (b : Sl) (K : Int -> World -> Prop) (w : World) : Prop := nn d <| fun a_1 => ld .bool ⟨a_1.block, a_1.off + 3, none⟩ w <| fun (b_2 : Bool) => cond b_2 (K 7 w) (join (Bool) (fun X_3 => cond (decide (n < 0)) (X_3 true w) (nn d <| fun a_4 => ld .slice a_4 w <| fun (s_5 : Sl) => X_3 (decide (n >= (↑s_5.len : Int))) w)) <| fun (b_6 : Bool) w_7 => cond b_6 (K 4 w_7) (cond (!(↑b.len : Int) == 512) (K 1 w_7) (nn d <| fun a_8 => ld .slice ⟨a_8.block, a_8.off + 1, none⟩ (World.drew w_7) <| fun (s_9 : Sl) => s2a b 512 <| fun a_10 => ldV 512 a_10 (World.drew w_7) <| fun (vs_11 : List Value) => runQ [.raw] (fun w_12 => (Instr.build 130 (#[(0, .int .i64 n), (1, .agg (List.toArray vs_11))])).run Tryz.prog w_12) (World.drew w_7) <| fun (vs_13 : List Value) => chk (List.length vs_13 = 513) <| new (Obj.cells (List.toArray vs_13) 130) (World.drew w_7) <| fun r_14 w_15 => held [fun w_16 => World.cell? w_16 ⟨a_8.block, a_8.off + 1, none⟩ = some (.slice s_9.a s_9.len s_9.cap)] w_15 <| run [.one .slice] ((Builtin.append_ (#[110, 110]) 110 (#[.slice s_9.a s_9.len s_9.cap, .slice (some ⟨r_14, 0, none⟩) 1 1])).run Tryz.prog w_15) <| fun (s_17 : Sl) w_18 => nn d <| fun a_19 => st ⟨a_19.block, a_19.off + 1, none⟩ ([.slice s_17.a s_17.len s_17.cap]) w_18 <| fun w_20 => nn d <| fun a_21 => ld (.int .i64) ⟨a_21.block, a_21.off + 4, none⟩ w_20 <| fun (x_22 : Int) => nn d <| fun a_23 => st ⟨a_23.block, a_23.off + 4, none⟩ ([.int .i64 (IntKind.wrap .i64 (x_22 + 1))]) w_20 <| fun w_24 => call Tryz.prog 75 ([.pointer d]) ([.one .bool]) w_24 <| fun (b_25 : Bool) w_26 => cond b_25 (K 7 w_26) (K 0 w_26))))
def qgR : List Ann := [.n, .n, .n, .n, .j [(12, .one .bool)], .n, .n, .n, .n, .o [[0, 1, 2, 3, 4, 5, 6, 7, 8, 9, 10, 11, 12, 13, 14]], .n, .n, .n, .n, .n]
theorem qjL {d : Option Addr} {n : Int} {b : Sl} {w : World} {K : Int -> World -> Prop} (hF : qdV d n b K w) : call Tryz.prog 28 [.pointer d, .int .i64 n, .slice b.a b.len b.cap] [.one (.int .i64)] w K := qab (an := qgR) Tryz.func28 (by kernel_rfl) ((show fnPt (std Tryz.prog) Tryz.prog Tryz.f28 qgR [.one (.int .i64)] [.pointer d, .int .i64 n, .slice b.a b.len b.cap] K w = qdV d n b K w by kernel_rfl).mpr hF)
def qex (d : Option Addr) (K : Int -> World -> Prop) (w : World) : Prop := join (Bool) (fun X_1 => nn d <| fun a_2 => ld .bool ⟨a_2.block, a_2.off + 3, none⟩ w <| fun (b_3 : Bool) => cond b_3 (X_1 true w) (call Tryz.prog 75 ([.pointer d]) ([.one .bool]) w <| fun (b_4 : Bool) w_5 => X_1 b_4 w_5)) <| fun (b_6 : Bool) w_7 => cond b_6 (K 7 w_7) (nn d <| fun a_8 => ld .slice ⟨a_8.block, a_8.off + 1, none⟩ w_7 <| fun (s_9 : Sl) => loop (Int) (fun X_10 (x_11 : Int) w_12 => cond (decide (x_11 < (↑s_9.len : Int))) (idx s_9 x_11 513 <| fun a_13 => ldV 513 a_13 w_12 <| fun (vs_14 : List Value) => newZ Tryz.prog 130 w_12 <| fun r_15 w_16 => chk (List.length vs_14 = 513) <| st ⟨r_15, 0, none⟩ vs_14 w_16 <| fun w_17 => nn d <| fun a_18 => ld .slice a_18 (World.drew w_17) <| fun (s_19 : Sl) => ld (.int .i64) ⟨r_15, 0, none⟩ (World.drew w_17) <| fun (x_20 : Int) => ldV 512 ⟨r_15, 1, none⟩ (World.drew w_17) <| fun (vs_21 : List Value) => idx s_19 x_20 512 <| fun a_22 => chk (List.length vs_21 = 512) <| st a_22 vs_21 (World.drew w_17) <| fun w_23 => X_10 (IntKind.wrap .i64 (x_11 + 1)) w_23) (nn d <| fun a_24 => st ⟨a_24.block, a_24.off + 1, none⟩ ([.slice none 0 0]) w_12 <| fun w_25 => K 0 w_25)) 0 w_7)
def qhf : List Ann := [.n, .n, .j [(12, .one .bool)], .n, .n, .n, .l [(18, .one (.int .i64))], .n, .n, .n, .n, .o [[0, 1, 2, 3, 4, 5, 6, 7, 8, 9]], .n, .n]
theorem qkz {d : Option Addr} {w : World} {K : Int -> World -> Prop} (hF : qex d K w) : call Tryz.prog 87 [.pointer d] [.one (.int .i64)] w K := qab (an := qhf) Tryz.func87 (by kernel_rfl) ((show fnPt (std Tryz.prog) Tryz.prog Tryz.f87 qhf [.one (.int .i64)] [.pointer d] K w = qex d K w by kernel_rfl).mpr hF)
def qdX (s : Sl) (K : Value -> World -> Prop) (w : World) : Prop := new (Obj.cells #[.slice s.a s.len s.cap] 110) w <| fun r_1 w_2 => K (Value.func (Fn.func 98) #[] #[.pointer (some ⟨r_1, 0, none⟩)]) w_2
def qgz : List Ann := [.n, .n]
theorem qj8 {s : Sl} {w : World} {K : Value -> World -> Prop} (hF : qdX s K w) : call Tryz.prog 55 [.slice s.a s.len s.cap] [.one .any] w K := qab (an := qgz) Tryz.func55 (by kernel_rfl) ((show fnPt (std Tryz.prog) Tryz.prog Tryz.f55 qgz [.one .any] [.slice s.a s.len s.cap] K w = qdX s K w by kernel_rfl).mpr hF)
def qcD (yield : Value) (cap0 : Addr) (K : Unit -> World -> Prop) (w : World) : Prop := ld .slice cap0 w <| fun (s_1 : Sl) => loop (Int) (fun X_2 (x_3 : Int) w_4 => cond (decide (x_3 >= 0)) (ld .slice cap0 w_4 <| fun (s_5 : Sl) => idx s_5 x_3 513 <| fun a_6 => ldV 513 a_6 w_4 <| fun (vs_7 : List Value) => callV Tryz.prog yield ([.int .i64 x_3, .agg (List.toArray vs_7)]) ([.one .bool]) w_4 <| fun (b_8 : Bool) w_9 => cond (!b_8) (K () w_9) (X_2 (IntKind.wrap .i64 (x_3 - 1)) w_9)) (K () w_4)) (IntKind.wrap .i64 ((↑s_1.len : Int) - 1)) w
def qeL : List Ann := [.n, .l [(3, .one (.int .i64))], .n, .n, .n, .n]
theorem qhK {yield : Value} {cap0 : Addr} {w : World} {K : Unit -> World -> Prop} (hF : qcD yield cap0 K w) : call Tryz.prog 98 [yield, .pointer (some cap0)] [] w K := qab (an := qeL) Tryz.func98 (by kernel_rfl) ((show fnPt (std Tryz.prog) Tryz.prog Tryz.f98 qeL [] [yield, .pointer (some cap0)] K w = qcD yield cap0 K w by kernel_rfl).mpr hF)
end Go.Proofs.YtmbcedengdoamaaGreatDoor
end
section
set_option linter.unusedVariables false
set_option linter.unusedSimpArgs false
namespace Go.Proofs.YtmbcedengdoamaaGreatDoor
open Go Go.Pt
attribute [local irreducible] ld ldA ldV fld fldA newZ st new idx idxS idxA slc slcS slcP mkS chk nn call callV inv run runQ runU join loop held ext rng undefer s2a IntKind.wrap
abbrev Blk := {l : List Int // l.length = 512}
def encK (b : Blk) : List Value := b.1.map (Value.int .u8)
theorem qbg (b : Blk) : (encK b).length = 512 := by rw [encK, List.length_map, b.2]
def encW (x : Int × Blk) : List Value := Value.int .i64 x.1 :: encK x.2
theorem qci (x : Int × Blk) : (encW x).length = 513 := by rw [encW, List.length_cons, qbg]
def Blk.zero : Blk := ⟨zs 512, qaC 512⟩
structure DiskM where
 safe : List Blk
 waits : List (Int × Blk)
 fuse : Int
 down : Bool
 writes : Int
structure DiskM.Ok (D : DiskM) : Prop where
 at_ : ∀ x ∈ D.waits, 0 <= x.1 /\ x.1 < D.safe.length
 fuse : -1 <= D.fuse /\ D.fuse <= 1000000000
 safe : D.safe.length <= 4096
 waits : D.waits.length <= 1000000
 writes : 0 <= D.writes /\ D.writes <= 1000000000
 bytesS : ∀ b ∈ D.safe, IsB b.1
 bytesW : ∀ x ∈ D.waits, IsB x.2.1
abbrev DT : TypeId := 112
def dCells (D : DiskM) (sb : Nat) (wsl : Sl) : Array Value := #[.slice (some ⟨sb, 0, none⟩) D.safe.length D.safe.length, .slice wsl.a wsl.len wsl.cap, .int .i64 D.fuse, .bool D.down, .int .i64 D.writes]
def DiskAt (w : World) (db : Nat) (F : List Nat) (D : DiskM) : Prop :=
 ∃ (sb : Nat) (T : TypeId) (wsl : Sl) (B : List Nat), F = db :: sb :: B /\ (db :: sb :: B).Nodup /\ w.heap[db]? = some (.cells (dCells D sb wsl) DT (0, 0)) /\ w.heap[sb]? = some (.cells (D.safe.flatMap encK).toArray T (0, 0)) /\ Buf encW 513 w wsl D.waits B
theorem DiskAt.frame {w w' : World} {db : Nat} {F S : List Nat} {D : DiskM} (h : DiskAt w db F D) (f : Fr S w w') (hd : ∀ b ∈ F, b ∉ S) : DiskAt w' db F D := by
 obtain ⟨sb, T, wsl, B, rfl, hn, h1, h2, h3⟩ := h
 exact ⟨sb, T, wsl, B, rfl, hn, by rw [f.block db (qac h1) (hd _ (by simp))]; exact h1, by rw [f.block sb (qac h2) (hd _ (by simp))]; exact h2, h3.frame f (fun b hb => hd b (by simp [hb]))⟩
theorem DiskAt.frame0 {w w' : World} {db : Nat} {F : List Nat} {D : DiskM} (h : DiskAt w db F D) (f : Fr [] w w') : DiskAt w' db F D := h.frame f (fun _ _ h => by cases h)
theorem DiskAt.lt {w : World} {db : Nat} {F : List Nat} {D : DiskM} (h : DiskAt w db F D) : ∀ b ∈ F, b < w.heap.size := by
 obtain ⟨sb, T, wsl, B, rfl, hn, h1, h2, h3⟩ := h
 intro b hb
 simp only [List.mem_cons] at hb
 rcases hb with rfl | rfl | hb
 ·exact qac h1
 ·exact qac h2
 ·exact h3.lt b hb
theorem DiskAt.cell {w : World} {db : Nat} {F : List Nat} {D : DiskM} (h : DiskAt w db F D) : ∃ sb wsl, w.heap[db]? = some (.cells (dCells D sb wsl) DT (0, 0)) := by
 obtain ⟨sb, T, wsl, B, rfl, hn, h1, h2, h3⟩ := h
 exact ⟨sb, wsl, h1⟩
theorem DiskAt.mem {w : World} {db : Nat} {F : List Nat} {D : DiskM} (h : DiskAt w db F D) : db ∈ F := by
 obtain ⟨sb, T, wsl, B, rfl, _⟩ := h
 simp
theorem DiskAt.turn {w w' : World} {db : Nat} {F : List Nat} {D D' : DiskM} {sb : Nat} {wsl : Sl} (h : DiskAt w db F D) (hc : w.heap[db]? = some (.cells (dCells D sb wsl) DT (0, 0))) (f : Fr [db] w w') (hs : D'.safe = D.safe) (hw : D'.waits = D.waits) (hc' : w'.heap[db]? = some (.cells (dCells D' sb wsl) DT (0, 0))) : DiskAt w' db F D' := by
 obtain ⟨sb', T, wsl', B, rfl, hn, h1, h2, h3⟩ := h
 have he : sb' = sb /\ wsl' = wsl := by
  have q := h1.symm.trans hc
  have q0 := congrArg (fun o => match o with | some (Obj.cells cs _ _) => (match cs[0]? with | some (Value.slice (some a) _ _) => a.block | _ => 0) | _ => 0) q
  have q1 := congrArg (fun o => match o with | some (Obj.cells cs _ _) => cs[1]? | _ => none) q
  refine ⟨q0, ?_⟩
  have q2 : Value.slice wsl'.a wsl'.len wsl'.cap = Value.slice wsl.a wsl.len wsl.cap := Option.some.inj q1
  cases wsl
  cases wsl'
  simp only [Value.slice.injEq] at q2
  obtain ⟨rfl, rfl, rfl⟩ := q2
  rfl
 obtain ⟨rfl, rfl⟩ := he
 have hsb : sb' ≠ db := fun e => by rw [e] at hn; simp at hn
 have hB : ∀ b ∈ B, b ∉ [db] := fun b hb he => by simp at he; subst he; simp at hn; exact hn.1.2 hb
 exact ⟨sb', T, wsl', B, rfl, hn, hc', by rw [hs, f.block sb' (qac h2) (by simpa using hsb)]; exact h2, by rw [hw]; exact h3.frame f hB⟩
theorem qjH {w : World} {db : Nat} {F : List Nat} {D : DiskM} {K : Int -> World -> Prop} (h : DiskAt w db F D) (hk : K D.safe.length w) : call Tryz.prog 63 [.pointer (some ⟨db, 0, none⟩)] [.one (.int .i64)] w K := by
 refine qjq (d := some ⟨db, 0, none⟩) ?_
 unfold qdG
 obtain ⟨sb, wsl, hc⟩ := h.cell
 refine qad (qag (c := .slice) hc ⟨some ⟨sb, 0, none⟩, D.safe.length, D.safe.length⟩ rfl ?_)
 exact hk
def newM (blocks : Nat) : DiskM := ⟨List.replicate blocks .zero, [], -1, false, 0⟩
theorem qsM {n : Nat} (h : n <= 4096) : (newM n).Ok :=
 ⟨fun _ h => (by cases h), ⟨by show (-1 : Int) <= -1; decide, by show (-1 : Int) <= 1000000000; decide⟩, by rw [newM]; simpa using h, by simp [newM], by simp [newM], fun b hb => by rw [List.eq_of_mem_replicate hb]; exact IsB.zs 512, fun _ h => (by cases h)⟩
theorem qpl (n : Nat) (b : Blk) : (List.replicate n (encK b)).flatten = (List.replicate n b).flatMap encK := by
 rw [List.flatMap_def, List.map_replicate]
set_option maxRecDepth 100000 in
theorem qsJ {w : World} {blocks : Int} {K : Option Addr × Int -> World -> Prop} (hbad : (blocks < 8 \/ blocks > 4096) -> K (none, 1) w)
  (hk : 8 <= blocks -> blocks <= 4096 -> ∀ db F w', DiskAt w' db F (newM blocks.toNat) -> Fr [] w w' -> (∀ b ∈ F, w.heap.size <= b) -> K (some ⟨db, 0, none⟩, 0) w') :
  call Tryz.prog 38 [.int .i64 blocks] [.one .ptr, .one (.int .i64)] w K := by
 refine qpu ?_
 unfold qjN
 refine qae (fun b w' => b = decide (blocks < 8 \/ blocks > 4096) /\ w' = w) ?_ ?_
 ·refine qaa (fun hc => ?_) (fun hc => ?_)
  ·exact ⟨by rw [decide_eq_true (Or.inl (of_decide_eq_true hc))], rfl⟩
  ·have := of_decide_eq_false hc
   exact ⟨by simp [this], rfl⟩
 rintro b w1 ⟨rfl, rfl⟩
 refine qaa (fun hc => hbad (of_decide_eq_true hc)) (fun hc => ?_)
 have hr := of_decide_eq_false hc
 have h8 : 8 <= blocks := by omega
 have h4 : blocks <= 4096 := by omega
 obtain ⟨n, rfl⟩ : ∃ n : Nat, blocks = n := ⟨blocks.toNat, by omega⟩
 refine Own.mkN (zero := encK Blk.zero) (Own.start [] w1) (qbg _) (by omega) (by omega) (by omega) (by omega) fun sb w2 e2 ho => ?_
 refine Own.new ho fun db w3 e3 s3 ho => ?_
 have hlit : (List.replicate (n : Int).toNat (encK Blk.zero)).flatten = ((newM n).safe).flatMap encK := by rw [Int.toNat_natCast]; exact qpl n _
 refine hk h8 h4 db [db, sb] w3 ⟨sb, 128, ⟨none, 0, 0⟩, [], rfl, ?_, ?_, ?_, .nil _ _ _⟩ ho.fr (fun b hb => ?_)
 ·have := ho.nodup; simpa using this
 ·have := ho.at (i := 0) rfl
  rw [this]
  simp [dCells, newM]
 ·have := ho.at (i := 1) rfl
  rw [this, Int.toNat_natCast, <- hlit, Int.toNat_natCast]
 ·simp at hb
  have := ho.own
  rcases hb with rfl | rfl
  ·have := ho.own (b, _) (List.mem_of_getElem? (i := 0) rfl)
   simpa using this
  ·have := ho.own (b, _) (List.mem_of_getElem? (i := 1) rfl)
   simpa using this
def actM (D : DiskM) : DiskM × Bool := if D.fuse = 0 then ({ D with down := true }, true) else if D.fuse > 0 then ({ D with fuse := D.fuse - 1 }, false) else (D, false)
theorem qrw {w : World} {db : Nat} {F : List Nat} {D : DiskM} {K : Bool -> World -> Prop} (h : DiskAt w db F D) (hD : D.fuse <= 1000000000) (hk : ∀ w', DiskAt w' db F (actM D).1 -> Fr [db] w w' -> K (actM D).2 w') :
  call Tryz.prog 75 [.pointer (some ⟨db, 0, none⟩)] [.one .bool] w K := by
 refine qk7 (d := some ⟨db, 0, none⟩) ?_
 unfold qfi
 obtain ⟨sb, wsl, hc⟩ := h.cell
 have ho : Own [db] w w [(db, .cells (dCells D sb wsl) DT (0, 0))] := ⟨by simpa using hc, by simp, .refl _ _, by simp⟩
 refine qad (Own.ld (c := .int .i64) ho 0 rfl D.fuse rfl ?_)
 refine qaa (fun hz => ?_) (fun hz => ?_)
 ·have hz' : D.fuse = 0 := by simpa using hz
  refine qad ?_
  refine Own.st ho 0 rfl _ rfl rfl rfl fun w1 ho _ => ?_
  have := hk w1 (by rw [actM, if_pos hz']; exact h.turn hc ho.fr rfl rfl (ho.at (i := 0) rfl)) ho.fr
  rw [actM, if_pos hz'] at this
  exact this
 ·have hz' : ¬ D.fuse = 0 := by simpa using hz
  refine qae (fun _ w' => DiskAt w' db F (actM D).1 /\ Fr [db] w w') ?_ ?_
  ·refine qad (Own.ld (c := .int .i64) ho 0 rfl D.fuse rfl ?_)
   refine qaa (fun hp => ?_) (fun hp => ?_)
   ·have hp' : D.fuse > 0 := of_decide_eq_true hp
    refine qad (Own.ld (c := .int .i64) ho 0 rfl D.fuse rfl ?_)
    refine qad ?_
    rw [wi' _ (by omega)]
    refine Own.st ho 0 rfl _ rfl rfl rfl fun w1 ho _ => ?_
    refine ⟨?_, ho.fr⟩
    rw [actM, if_neg hz', if_pos hp']
    exact h.turn hc ho.fr rfl rfl (ho.at (i := 0) rfl)
   ·have hp' : ¬ D.fuse > 0 := of_decide_eq_false hp
    refine ⟨?_, .refl _ _⟩
    rw [actM, if_neg hz', if_neg hp']
    exact h
  ·rintro _ w1 ⟨h1, h2⟩
   have := hk w1 h1 h2
   have e : (actM D).2 = false := by rw [actM, if_neg hz']; split <;> rfl
   rw [e] at this
   exact this
theorem qsv : ∃ i, Tryz.prog.info? 130 = some i /\ (∃ z, i.zero = some z /\ z.cells.size = 513) /\ i.size = 513 /\ i.bytes = 520 := by
 have h : (Tryz.prog.info? 130).map (fun i => (i.zero.map (fun z => z.cells.size), i.size, i.bytes)) = some (some 513, 513, 520) := by kernel_rfl
 obtain ⟨i, hi, he⟩ := Option.map_eq_some_iff.1 h
 simp only [Prod.mk.injEq] at he
 obtain ⟨z, hz, hzs⟩ := Option.map_eq_some_iff.1 he.1
 exact ⟨i, hi, ⟨z, hz, hzs⟩, he.2.1, he.2.2⟩
def addW (D : DiskM) (n : Int) (b : Blk) : DiskM := { D with waits := D.waits ++ [(n, b)], writes := D.writes + 1 }
def writeM (D : DiskM) (n : Int) (l : List Int) : DiskM × Int :=
 if D.down then (D, 7) else if n < 0 \/ n >= D.safe.length then (D, 4) else
 if h : l.length = 512 then ((actM (addW D n ⟨l, h⟩)).1, if (actM (addW D n ⟨l, h⟩)).2 then 7 else 0) else (D, 1)
theorem qph (n : Int) (b : Blk) (w : World) : (Instr.build 130 #[(0, .int .i64 n), (1, .agg (encK b).toArray)]).run Tryz.prog w = .ok (.agg (encW (n, b)).toArray) w := by
 obtain ⟨z, hz, hzs⟩ : ∃ z, (Tryz.prog.info? 130).bind (·.zero) = some z /\ z.cells.size = 513 := by
  obtain ⟨i, hi, ⟨z, hz, hzs⟩, _⟩ := qsv
  exact ⟨z, by rw [hi]; exact hz, hzs⟩
 have := qqf (P := Tryz.prog) (a := .int .i64 n) (b := .agg (encK b).toArray) (o1 := 1) (s0 := 1) (s1 := 512) hz (by kernel_rfl) (fun w => by kernel_rfl) rfl (by show (encK b).toArray.size = 512; rw [List.size_toArray, qbg]) rfl hzs w
 exact this
theorem qky (l : List Int) : ((l.map (Value.int .u8)).all Value.oneCell') = true := by
 rw [List.all_eq_true]
 intro v hv
 obtain ⟨x, _, rfl⟩ := List.mem_map.1 hv
 rfl
theorem qn8 (b : Blk) : ((encK b).all Value.oneCell') = true := qky _
theorem qk9 (x : Int × Blk) : ((encW x).all Value.oneCell') = true := by
 rw [encW, List.all_cons, qn8]; rfl
theorem qrq {S : List Nat} {w : World} {s : Sl} {l : List Int} (h : RdB S w s l) (hl : l ≠ []) : ∃ b o cs T fr, s.a = some ⟨b, o, none⟩ /\ w.heap[b]? = some (.cells cs T fr) /\ b ∉ S /\ (cs.toList.drop o).take l.length = l.map (Value.int .u8) := by
 rcases h.2.2 with h3 | ⟨b, o, cs, T, fr, ha, hb, hS, hc⟩
 ·exact absurd h3 hl
 ·refine ⟨b, o, cs, T, fr, ha, hb, hS, ?_⟩
  apply List.ext_getElem?
  intro i
  rw [List.getElem?_take, List.getElem?_map]
  by_cases hi : i < l.length
  ·rw [if_pos hi, List.getElem?_drop, List.getElem?_eq_getElem hi]
   have := hc i l[i] (List.getElem?_eq_getElem hi)
   rw [Nat.mul_one] at this
   have := congrArg (·[0]?) this
   simpa using this
  ·rw [if_neg hi, List.getElem?_eq_none (by omega)]
   rfl
theorem qjR {S : List Nat} {w : World} {db : Nat} {F : List Nat} {D : DiskM} {n : Int} {s : Sl} {l : List Int} {K : Int -> World -> Prop} (h : DiskAt w db F D) (hD : D.Ok) (hs : RdB S w s l)
  (hk : ∀ F' w', DiskAt w' db F' (writeM D n l).1 -> Fr F w w' -> (∀ b ∈ F', b ∈ F \/ w.heap.size <= b) -> K (writeM D n l).2 w') :
  call Tryz.prog 28 [.pointer (some ⟨db, 0, none⟩), .int .i64 n, .slice s.a s.len s.cap] [.one (.int .i64)] w K := by
 refine qjL (d := some ⟨db, 0, none⟩) (b := s) ?_
 unfold qdV
 have hlen := hs.1
 have hdb := h.mem
 obtain ⟨sb, T, wsl, B, hF, hn, hc, hsb, hbuf⟩ := h
 have h : DiskAt w db F D := ⟨sb, T, wsl, B, hF, hn, hc, hsb, hbuf⟩
 have ho : Own F w w [(db, .cells (dCells D sb wsl) DT (0, 0))] := ⟨by simpa using hc, by simp, .refl _ _, by simp [hdb]⟩
 refine qad (Own.ld (c := .bool) ho 0 rfl D.down rfl ?_)
 have same : ∀ {e : Int}, writeM D n l = (D, e) -> ∀ {w'}, w' = w -> K e w' := by
  rintro e he w' rfl
  have := hk F w' (by rw [he]; exact h) (.refl _ _) (fun b hb => .inl hb)
  rw [he] at this
  exact this
 refine qaa (fun hd => same (by rw [writeM, if_pos hd]) rfl) (fun hd => ?_)
 refine qae (fun b w' => b = decide (n < 0 \/ n >= D.safe.length) /\ w' = w) ?_ ?_
 ·refine qaa (fun hc => ?_) (fun hc => ?_)
  ·exact ⟨by rw [decide_eq_true (Or.inl (of_decide_eq_true hc))], rfl⟩
  ·refine qad (Own.ld (c := .slice) ho 0 rfl ⟨some ⟨sb, 0, none⟩, D.safe.length, D.safe.length⟩ rfl ⟨?_, rfl⟩)
   have := of_decide_eq_false hc
   by_cases h2 : n >= D.safe.length <;> simp [this, h2]
 rintro b w1 ⟨rfl, rfl⟩
 refine qaa (fun hr => same (by rw [writeM, if_neg (by simpa using hd), if_pos (of_decide_eq_true hr)]) rfl) (fun hr => ?_)
 have hr' := of_decide_eq_false hr
 refine qaa (fun hq => same ?_ rfl) (fun hq => ?_)
 ·have : ¬ l.length = 512 := by simp at hq; omega
  rw [writeM, if_neg (by simpa using hd), if_neg hr', dif_neg this]
 have h512 : l.length = 512 := by simp at hq; omega
 obtain ⟨blk, hblk⟩ : ∃ blk : Blk, blk.1 = l := ⟨⟨l, h512⟩, rfl⟩
 have hw : writeM D n l = ((actM (addW D n blk)).1, if (actM (addW D n blk)).2 then 7 else 0) := by
  rw [writeM, if_neg (by simpa using hd), if_neg hr', dif_pos h512]
  have : blk = ⟨l, h512⟩ := Subtype.ext hblk
  rw [this]
 rw [hw] at hk
 have hd1 := ho.drew
 refine qad (Own.ld (c := .slice) hd1 0 rfl wsl rfl ?_)
 obtain ⟨sbk, so, scs, sT, sfr, hsa, hsbk, hsS, hscs⟩ := qrq hs (by rw [<- List.length_pos_iff]; omega)
 obtain ⟨sa, slen, scap⟩ := s
 simp only at hsa hlen
 subst hsa
 refine qtx (by omega) ?_
 refine qaw (n := 512) (w := w1.drew) hsbk (encK blk) (qbg _) (by rw [<- h512, hscs, encK, hblk]) ?_
 refine qay (ts := [.raw]) (encW (n, blk)) (qph n blk _) ?_
 refine qan (qci _) ?_
 refine Own.new' hd1 fun r w2 er fr2 ho2 => ?_
 refine qar (ho2.cell (off := 1) 1 rfl rfl) ?_
 obtain ⟨iW, hi, ⟨z, hz, hzs⟩, hsz, hby⟩ := qsv
 have hwl := hD.waits
 have hwr := hD.writes
 have hfz := hD.fuse
 have fr2' : Fr [] w1 w2 := (Fr.refl [] w1).drew.trans fr2
 have hbuf2 : Buf encW 513 w2 wsl D.waits B := hbuf.frame0 fr2'
 have hsb2 : w2.heap[sb]? = some (.cells (D.safe.flatMap encK).toArray T (0, 0)) := by rw [fr2'.block sb (qac hsb) (by simp)]; exact hsb
 have hBF : ∀ b ∈ B, b ∈ F := fun b hb => by rw [hF]; simp [hb]
 have hdbB : ∀ b ∈ B, b ≠ db := fun b hb e => by subst e; simp at hn; exact hn.1.2 hb
 have hsbB : ∀ b ∈ B, b ≠ sb := fun b hb e => by subst e; simp at hn; exact hn.2.1 hb
 have hrB : ∀ b ∈ B, b ≠ r := fun b hb e => by have := hbuf.lt b hb; have e1 : w1.drew.heap.size = w1.heap.size := rfl; omega
 refine Buf.appSrc (ys := [(n, blk)]) (e := 130) hbuf2 qci (by kernel_rfl) hi hz hsz hzs (.ofSlice _ (e' := 130) (by kernel_rfl) _ 1 1 _ ?_ ?_ ?_) rfl (by rw [hby]; omega) (by omega) fun s' B' w3 g1 g2 g3 _ => ?_
 ·simp [qci]
 ·intro j u hj
  rw [Addr.add_mk, qaj (ho2.at (i := 0) rfl), Nat.zero_add]
  have : (encW (n, blk))[j]? = some u := by simpa using hj
  simpa using this
 ·intro u hu
  have : u ∈ encW (n, blk) := by simpa using hu
  exact List.all_eq_true.1 (qk9 (n, blk)) u this
 have ho3 : Own F w1 w3 [(r, .cells (encW (n, blk)).toArray 130 (0, 0)), (db, .cells (dCells D sb wsl) DT (0, 0))] :=
  ho2.frame g2 (fun b hb => .inl (hBF b hb)) (fun p hp => by simp at hp; rcases hp with rfl | rfl; exact fun hb => hrB _ hb rfl; exact fun hb => hdbB _ hb rfl)
 have hsb3 : w3.heap[sb]? = some (.cells (D.safe.flatMap encK).toArray T (0, 0)) := by rw [g2.block sb (qac hsb2) (fun hb => hsbB _ hb rfl)]; exact hsb2
 have hc3 := ho3.at (i := 1) rfl
 refine qad ?_
 refine qcU hc3 (dCells { D with waits := D.waits ++ [(n, blk)] } sb s') rfl rfl (Nat.le_of_ble_eq_true rfl) fun w4 hc4 f4 => ?_
 refine qad (qag (c := .int .i64) hc4 D.writes rfl ?_)
 refine qad ?_
 rw [wi' (D.writes + 1) (by omega)]
 refine qcU hc4 (dCells (addW D n blk) sb s') rfl rfl (Nat.le_of_ble_eq_true rfl) fun w5 hc5 f5 => ?_
 have hs2 := fr2'.size
 have hs3 := g2.size
 have hne : sb ≠ db := fun e => by rw [e] at hn; simp at hn
 have f35 : Fr [db] w3 w5 := f4.trans f5
 have hB'db : ∀ b ∈ B', b ≠ db := fun b hb e => by
  rcases g3 b hb with h' | h'
  ·exact hdbB b h' e
  ·have := qac hc; omega
 have hB'sb : ∀ b ∈ B', b ≠ sb := fun b hb e => by
  rcases g3 b hb with h' | h'
  ·exact hsbB b h' e
  ·have := qac hsb; omega
 have hB'n : B'.Nodup := by
  rcases g1 with ⟨_, _, rfl⟩ | ⟨b', o', cs', T', rfl, _⟩
  ·simp
  ·simp
 have h5 : DiskAt w5 db (db :: sb :: B') (addW D n blk) := by
  refine ⟨sb, T, s', B', rfl, ?_, hc5, ?_, ?_⟩
  ·simp only [List.nodup_cons, List.mem_cons, not_or]
   exact ⟨⟨fun e => hne e.symm, fun hb => hB'db _ hb rfl⟩, fun hb => hB'sb _ hb rfl, hB'n⟩
  ·rw [f35.block sb (qac hsb3) (by simpa using hne)]
   exact hsb3
  ·exact g1.frame f35 (fun b hb => by simpa using hB'db b hb)
 have hF' : ∀ b ∈ db :: sb :: B', b ∈ F \/ w1.heap.size <= b := fun b hb => by
  simp only [List.mem_cons] at hb
  rcases hb with rfl | rfl | hb
  ·exact .inl hdb
  ·exact .inl (by rw [hF]; simp)
  ·rcases g3 b hb with h' | h'
   ·exact .inl (hBF b h')
   ·exact .inr (by omega)
 have f15 : Fr F w1 w5 := ((fr2'.mono (fun i hi _ => by cases hi)).trans' g2 (fun b hb => .inl (hBF b hb))).trans' f35 (fun b hb => by simp at hb; subst hb; exact .inl hdb)
 refine qrw h5 (by show D.fuse <= _; omega) fun w6 h6 f6 => ?_
 have := hk (db :: sb :: B') w6 h6 (f15.trans' f6 (fun b hb => by simp at hb; subst hb; exact .inl hdb)) hF'
 refine qaa (fun ha => ?_) (fun ha => ?_)
 ·rw [ha] at this; exact this
 ·rw [ha] at this; exact this
def laySafe (s : List Blk) (x : Int × Blk) : List Blk := s.set x.1.toNat x.2
theorem qcz (l : List (Int × Blk)) : ∀ s : List Blk, (l.foldl laySafe s).length = s.length := by
 induction l with
 | nil => intro s; rfl
 | cons x l ih => intro s; rw [List.foldl_cons, ih, laySafe, List.length_set]
def syncM (D : DiskM) : DiskM × Int :=
 if D.down then (D, 7) else if (actM D).2 then ((actM D).1, 7) else ({ (actM D).1 with safe := D.waits.foldl laySafe D.safe, waits := [] }, 0)
theorem qfA (D : DiskM) : (actM D).1.safe = D.safe /\ (actM D).1.waits = D.waits := by
 unfold actM
 split
 ·exact ⟨rfl, rfl⟩
 ·split <;> exact ⟨rfl, rfl⟩
theorem qoS {w : World} {db : Nat} {F : List Nat} {D : DiskM} {K : Int -> World -> Prop} (h : DiskAt w db F D) (hD : D.Ok)
  (hk : ∀ F' w', DiskAt w' db F' (syncM D).1 -> Fr F w w' -> (∀ b ∈ F', b ∈ F) -> K (syncM D).2 w') :
  call Tryz.prog 87 [.pointer (some ⟨db, 0, none⟩)] [.one (.int .i64)] w K := by
 refine qkz (d := some ⟨db, 0, none⟩) ?_
 unfold qex
 have hdb := h.mem
 have hfz := hD.fuse
 refine qae (fun b w' => (D.down = true /\ b = true /\ w' = w) \/ (D.down = false /\ b = (actM D).2 /\ DiskAt w' db F (actM D).1 /\ Fr [db] w w')) ?_ ?_
 ·obtain ⟨sb, wsl, hc⟩ := h.cell
  refine qad (qag (c := .bool) hc D.down rfl ?_)
  refine qaa (fun hd => .inl ⟨hd, rfl, rfl⟩) (fun hd => ?_)
  exact qrw h (by omega) fun w1 h1 f1 => .inr ⟨hd, rfl, h1, f1⟩
 rintro b w1 (⟨hd, rfl, rfl⟩ | ⟨hd, rfl, h1, f1⟩)
 ·refine cond_true rfl ?_
  have := hk F w1 (by rw [syncM, if_pos hd]; exact h) (.refl _ _) (fun b hb => hb)
  rw [syncM, if_pos hd] at this
  exact this
 have fF : Fr F w w1 := f1.mono (fun i hi _ => by simp at hi; subst hi; exact hdb)
 refine qaa (fun ha => ?_) (fun ha => ?_)
 ·have := hk F w1 (by rw [syncM, if_neg (by simp [hd]), if_pos ha]; exact h1) fF (fun b hb => hb)
  rw [syncM, if_neg (by simp [hd]), if_pos ha] at this
  exact this
 have hsm : syncM D = ({ (actM D).1 with safe := D.waits.foldl laySafe D.safe, waits := [] }, 0) := by rw [syncM, if_neg (by simp [hd]), if_neg (by simp [ha])]
 rw [hsm] at hk
 obtain ⟨hss, hww⟩ := qfA D
 generalize (actM D).1 = D1 at h1 hss hww hk
 obtain ⟨sb, T, wsl, B, hF, hn, hc, hsb, hbuf⟩ := h1
 rw [hss] at hsb
 rw [hww] at hbuf
 have hne : sb ≠ db := fun e => by rw [e] at hn; simp at hn
 have hB : ∀ b ∈ B, b ∉ [sb] := fun b hb he => by simp at he; subst he; simp at hn; exact hn.2.1 hb
 have hwl := hbuf.len
 have hwmax := hD.waits
 have hsmax := hD.safe
 refine qad (qag (c := .slice) hc wsl rfl ?_)
 refine qaf (fun x w' => ∃ i : Nat, x = i /\ i <= D.waits.length /\ w'.heap[sb]? = some (.cells (((D.waits.take i).foldl laySafe D.safe).flatMap encK).toArray T (0, 0)) /\ Fr [sb] w1 w') (fun x _ => ((D.waits.length : Int) - x).toNat)
  ⟨0, rfl, by omega, hsb, .refl _ _⟩ ?_
 rintro x w2 ⟨i, rfl, hi, hs2, f2⟩ X hX
 have hc2 : w2.heap[db]? = some (.cells (dCells D1 sb wsl) DT (0, 0)) := by rw [f2.block db (qac hc) (by simpa using fun e => hne e.symm)]; exact hc
 refine qaa (fun hcnd => ?_) (fun hcnd => ?_)
 ·have hil : i < D.waits.length := by have := of_decide_eq_true hcnd; omega
  have hr2 : Rds encW 513 [] w2 wsl D.waits := (hbuf.frame f2 hB).rds qci (by simp)
  have hget := List.getElem?_eq_getElem hil
  have hat := hD.at_ D.waits[i] (List.getElem_mem hil)
  refine hr2.getV qci i rfl hget ?_
  refine Own.newFill (Own.start [] w2) (by kernel_rfl) (qci _) (qk9 _) fun r w3 er ho => ?_
  have hs3 : w3.heap[sb]? = some (.cells (((D.waits.take i).foldl laySafe D.safe).flatMap encK).toArray T (0, 0)) := by rw [ho.fr.block sb (qac hs2) (by simp)]; exact hs2
  have hc3 : w3.heap[db]? = some (.cells (dCells D1 sb wsl) DT (0, 0)) := by rw [ho.fr.block db (qac hc2) (by simp)]; exact hc2
  refine qad (qag (c := .slice) (w := w3.drew) hc3 ⟨some ⟨sb, 0, none⟩, D1.safe.length, D1.safe.length⟩ rfl ?_)
  have hr3 := ho.at (i := 0) rfl
  refine qag (c := .int .i64) (w := w3.drew) hr3 D.waits[i].1 rfl ?_
  refine qaw (n := 512) (w := w3.drew) hr3 (encK D.waits[i].2) (qbg _) (by rw [show (encW D.waits[i]).toArray.toList.drop 1 = encK D.waits[i].2 from rfl, List.take_of_length_le (by rw [qbg]; exact Nat.le_refl _)]) ?_
  have hlenF := qcz (D.waits.take i) D.safe
  refine qfg (by omega) (by rw [hss]; omega) ?_
  refine qan (qbg _) ?_
  have hbound : 0 + Int.toNat D.waits[i].1 * 512 + (encK D.waits[i].2).length <= (((D.waits.take i).foldl laySafe D.safe).flatMap encK).toArray.size := by
   rw [List.size_toArray, qbs qbg, qbg, hlenF]
   omega
  refine qcU (w := w3.drew) hs3 (((((D.waits.take i).foldl laySafe D.safe).set D.waits[i].1.toNat D.waits[i].2).flatMap encK).toArray) (by rw [Nat.zero_add]; exact qhI qbg ((D.waits.take i).foldl laySafe D.safe) D.waits[i].1.toNat D.waits[i].2 (by rw [hlenF]; omega)) (qn8 _) hbound fun w4 hs4 f4 => ?_
  rw [wi' _ (by omega)]
  refine hX _ _ ⟨i + 1, by simp, by omega, ?_, ?_⟩ (by omega)
  ·rw [List.take_succ_eq_append_getElem hil, List.foldl_append]
   exact hs4
  ·have f23 : Fr [sb] w2 w3.drew := ho.fr.drew.mono (fun i hi _ => by cases hi)
   exact f2.trans (f23.trans f4)
 ·have hil : i = D.waits.length := by have := of_decide_eq_false hcnd; omega
  subst hil
  rw [List.take_length] at hs2
  refine qad ?_
  have hlenF := qcz D.waits D.safe
  refine qcU hc2 (dCells { D1 with safe := D.waits.foldl laySafe D.safe, waits := [] } sb ⟨none, 0, 0⟩) (by simp [splice, dCells, hlenF, hss]) rfl (Nat.le_of_ble_eq_true rfl) fun w3 hc3 f3 => ?_
  have f13 : Fr F w w3 := (fF.trans (f2.mono (fun i hi _ => by simp at hi; subst hi; rw [hF]; simp))).trans (f3.mono (fun i hi _ => by simp at hi; subst hi; exact hdb))
  refine hk [db, sb] w3 ⟨sb, T, ⟨none, 0, 0⟩, [], rfl, by simpa using fun e => hne e.symm, hc3, ?_, .nil _ _ _⟩ f13 (fun b hb => by rw [hF]; simp at hb; rcases hb with rfl | rfl <;> simp)
  rw [f3.block sb (qac hs2) (by simpa using hne)]
  exact hs2
def lastW (n : Int) : List (Int × Blk) -> Option Blk
 | [] => none
 | x :: r => match lastW n r with | some b => some b | none => if x.1 = n then some x.2 else none
theorem qmZ {n : Int} : ∀ (l : List (Int × Blk)) (i : Nat) (h : i < l.length), lastW n (l.drop (i + 1)) = none -> l[i].1 = n -> lastW n l = some l[i].2
 | x :: l, 0, h, hn, he => by
  simp only [Nat.zero_add, List.drop_succ_cons, List.drop_zero] at hn
  simp only [List.getElem_cons_zero] at he ⊢
  simp [lastW, hn, he]
 | x :: l, i + 1, h, hn, he => by
  have := qmZ l i (by simpa using h) (by simpa using hn) (by simpa using he)
  simp only [lastW, this, List.getElem_cons_succ]
theorem qqq {n : Int} : ∀ (l : List (Int × Blk)) (i : Nat) (h : i < l.length), lastW n (l.drop (i + 1)) = none -> l[i].1 ≠ n -> lastW n (l.drop i) = none := by
 intro l i h hn hne
 rw [List.drop_eq_getElem_cons h, lastW, hn]
 simp [hne]
def readV (D : DiskM) (n : Int) : List Int × Int :=
 if D.down then ([], 7) else if n < 0 \/ n >= D.safe.length then ([], 4) else
 match lastW n D.waits with | some b => (b.1, 0) | none => ((D.safe.getD n.toNat .zero).1, 0)
theorem qoH {b o n : Nat} {size : Nat} {K : Sl -> Prop} (hn : 0 < n) (k : K ⟨some ⟨b, o, none⟩, n, n⟩) : slcP ⟨b, o, none⟩ n none none none size K := by
 unfold slcP
 refine ⟨by simp, ?_⟩
 simp only [Option.getD_none, Int.toNat_natCast, Int.toNat_zero, Nat.sub_zero, Nat.zero_mul]
 rw [if_neg (by omega), qj4]
 exact k
theorem qn4 {S : List Nat} {w : World} {b o : Nat} {cs : Array Value} {T : TypeId} {fr : Nat × Nat} {x : Blk} (hb : w.heap[b]? = some (.cells cs T fr)) (hc : (cs.toList.drop o).take 512 = encK x) (hS : b ∉ S) : RdB S w ⟨some ⟨b, o, none⟩, 512, 512⟩ x.1 := by
 refine ⟨x.2.symm, Nat.le_refl _, .inr ⟨b, o, cs, T, fr, rfl, hb, hS, fun i v hv => ?_⟩⟩
 have hi := (List.getElem?_eq_some_iff.1 hv).1
 rw [x.2] at hi
 rw [Nat.mul_one]
 have h1 : (encK x)[i]? = some (.int .u8 v) := by rw [encK, List.getElem?_map, hv]; rfl
 rw [<- hc, List.getElem?_take, if_pos hi, List.getElem?_drop] at h1
 apply List.ext_getElem?
 intro j
 rw [List.getElem?_take, List.getElem?_drop]
 match j with
 | 0 => simpa using h1
 | j + 1 => simp
theorem qpa {w : World} {s : Sl} {K : Value -> World -> Prop} (hk : ∀ rb w', (∀ S w0 L, Own S w0 w L -> Own S w0 w' ((rb, .cells #[.slice s.a s.len s.cap] 110 (0, 0)) :: L)) -> K (.func (.func 98) #[] #[.pointer (some ⟨rb, 0, none⟩)]) w') :
  call Tryz.prog 55 [.slice s.a s.len s.cap] [.one .any] w K := by
 refine qj8 (s := s) ?_
 unfold qdX
 exact Pt.qjP (hk _ _ fun S w0 L h => h.alloc _)
theorem qiJ {w : World} {db : Nat} {F : List Nat} {D : DiskM} {n : Int} {K : Sl × Int -> World -> Prop} (h : DiskAt w db F D) (hD : D.Ok)
  (hk : ∀ s' B w', BufB w' s' (readV D n).1 B -> Fr [] w w' -> (∀ b ∈ B, w.heap.size <= b) -> K (s', (readV D n).2) w') :
  call Tryz.prog 19 [.pointer (some ⟨db, 0, none⟩), .int .i64 n] [.one .slice, .one (.int .i64)] w K := by
 refine qkB (d := some ⟨db, 0, none⟩) ?_
 unfold qem
 refine Own.new' (Own.start [] w) fun r1 w1 e1 f1 ho => ?_
 refine Own.new' ho fun r3 w2 e2 f2 ho => ?_
 refine Own.new' ho fun r5 w3 e3 f3 ho => ?_
 obtain ⟨sb, T, wsl, B, hF, hn, hc, hsb, hbuf⟩ := h
 have hcW : ∀ {w' : World}, Fr [] w w' -> w'.heap[db]? = some (.cells (dCells D sb wsl) DT (0, 0)) := fun f => by rw [f.block db (qac hc) (by simp)]; exact hc
 have hsbW : ∀ {w' : World}, Fr [] w w' -> w'.heap[sb]? = some (.cells (D.safe.flatMap encK).toArray T (0, 0)) := fun f => by rw [f.block sb (qac hsb) (by simp)]; exact hsb
 have bad : ∀ {e : Int} {w' : World} {L'}, readV D n = ([], e) -> Own [] w w' L' -> L'[1]? = some (r3, .cells #[.slice none 0 0] 22 (0, 0)) -> L'[0]? = some (r5, .cells #[.int .i64 e] 30 (0, 0)) -> ld Cell.slice ⟨r3, 0, none⟩ w' fun s => ld (.int .i64) ⟨r5, 0, none⟩ w' fun x => K (s, x) w' := by
  intro e w' L' he ho h1 h0
  refine Own.ld (c := .slice) ho 1 h1 ⟨none, 0, 0⟩ rfl ?_
  refine Own.ld (c := .int .i64) ho 0 h0 e rfl ?_
  have := hk ⟨none, 0, 0⟩ [] w' (by rw [he]; exact .nil _ _ _) ho.fr (by simp)
  rw [he] at this
  exact this
 refine qad (qag (c := .bool) (hcW ho.fr) D.down rfl ?_)
 refine qaa (fun hd => ?_) (fun hd => ?_)
 ·refine Own.st ho 1 rfl _ rfl rfl rfl fun w4 ho _ => ?_
  refine Own.st ho 0 rfl _ rfl rfl rfl fun w5 ho _ => ?_
  exact bad (by rw [readV, if_pos hd]) ho rfl rfl
 refine qae (fun b w' => b = decide (n < 0 \/ n >= D.safe.length) /\ w' = w3.drew) ?_ ?_
 ·refine Own.ld (c := .int .i64) ho.drew 2 rfl n rfl ?_
  refine qaa (fun hc => ?_) (fun hc' => ?_)
  ·exact ⟨by rw [decide_eq_true (Or.inl (of_decide_eq_true hc))], rfl⟩
  ·refine Own.ld (c := .int .i64) ho.drew 2 rfl n rfl ?_
   refine qad (qag (c := .slice) (hcW ho.drew.fr) ⟨some ⟨sb, 0, none⟩, D.safe.length, D.safe.length⟩ rfl ⟨?_, rfl⟩)
   have := of_decide_eq_false hc'
   by_cases h2 : n >= D.safe.length <;> simp [this, h2]
 rintro b w4 ⟨rfl, rfl⟩
 refine qaa (fun hr => ?_) (fun hr => ?_)
 ·refine Own.st ho.drew 1 rfl _ rfl rfl rfl fun w4 ho _ => ?_
  refine Own.st ho 0 rfl _ rfl rfl rfl fun w5 ho _ => ?_
  exact bad (by rw [readV, if_neg (by simpa using hd), if_pos (of_decide_eq_true hr)]) ho rfl rfl
 have hr' := of_decide_eq_false hr
 have hn0 : 0 <= n := by omega
 have hnl : n < D.safe.length := by omega
 have hwmax := hD.waits
 have hsmax := hD.safe
 have hwl := hbuf.len
 have hrv : readV D n = match lastW n D.waits with | some b => (b.1, 0) | none => ((D.safe.getD n.toNat .zero).1, 0) := by
  rw [readV, if_neg (by simpa using hd), if_neg hr']
 refine qad (qag (c := .slice) (hcW ho.drew.fr) wsl rfl ?_)
 refine qpa fun rb w5 hrb => ?_
 have ho5 := hrb _ _ _ ho.drew
 refine Own.rng (lb := [.pointer (some ⟨rb, 0, none⟩)]) ho5 rfl (by kernel_rfl) fun Dm l R Bz J E E0 w6 el eD f56 ho6 hy => ?_
 refine qhK ?_
 unfold qcD
 refine Own.ld (c := .slice) ho6 2 rfl wsl rfl ?_
 rw [wi' _ (by omega)]
 have fin : ∀ {bl : Blk} {s7 : Sl} {Bf : List Nat} {w10 wz : World} {L10 : List (Nat × Obj)}, readV D n = (bl.1, 0) -> Own [] w w10 L10 -> BufB w10 s7 bl.1 Bf -> (∀ b ∈ Bf, w.heap.size <= b) -> (∀ b ∈ Bf, b ∉ L10.map (·.1)) -> Fr (L10.map (·.1)) w10 wz -> K (s7, 0) wz := by
  intro bl s7 Bf w10 wz L10 he h10 hb7 hnew hdis fz
  have := hk s7 Bf wz (by rw [he]; exact hb7.frame fz hdis) (h10.back (L' := []) fz) hnew
  rw [he] at this
  exact this
 refine qaf (fun x w' => ∃ i : Nat, x = (i : Int) - 1 /\ i <= D.waits.length /\ lastW n (D.waits.drop i) = none /\ Own [] w w' [(l, R), (Dm, .deferred (some [])), (rb, .cells #[.slice wsl.a wsl.len wsl.cap] 110 (0, 0)), (r5, .cells #[.int .i64 0] 30 (0, 0)), (r3, .cells #[.slice none 0 0] 22 (0, 0)), (r1, .cells #[.int .i64 n] 3 (0, 0))]) (fun x _ => (x + 1).toNat)
  ⟨D.waits.length, by rw [hwl], Nat.le_refl _, by rw [List.drop_length]; rfl, ho6⟩ ?_
 rintro x w7 ⟨i, rfl, hi, hno, ho7⟩ X hX
 refine qaa (fun hc1 => ?_) (fun hc1 => ?_)
 ·have hge := of_decide_eq_true hc1
  obtain ⟨i, rfl⟩ : ∃ k, i = k + 1 := ⟨i - 1, by omega⟩
  have hil : i < D.waits.length := by omega
  refine Own.ld (c := .slice) ho7 2 rfl wsl rfl ?_
  have hr7 : Rds encW 513 [] w7 wsl D.waits := (hbuf.frame0 ho7.fr).rds qci (by simp)
  refine hr7.getV qci i (by omega) (List.getElem?_eq_getElem hil) ?_
  refine hy ((((i + 1 : Nat) : Int) - 1), encW D.waits[i]) w7 _ (ho7.at (i := 0) rfl) ?_
  dsimp only
  refine Own.newFill ho7 (by kernel_rfl) (qci _) (qk9 _) fun r w8 er ho8 => ?_
  refine ⟨ho8.at (i := 1) rfl, ?_⟩
  have ho9 := ho8.upd (o' := Bz) 1 rfl
  refine Own.ld (c := .int .i64) ho9 0 rfl D.waits[i].1 rfl ?_
  refine Own.ld (c := .int .i64) ho9 6 rfl n rfl ?_
  refine qaa (fun hm => ?_) (fun hm => ?_)
  ·have hm' : D.waits[i].1 = n := by simpa using hm
   have hlast := qmZ D.waits i hil hno hm'
   have hrv2 : readV D n = (D.waits[i].2.1, 0) := by rw [hrv, hlast]
   refine qoH (by decide) ?_
   have hrd : RdB [] (Pt.upd w8 l Bz) ⟨some ⟨r, 1, none⟩, 512, 512⟩ D.waits[i].2.1 :=
    qn4 (x := D.waits[i].2) (ho9.at (i := 0) rfl) (by rw [show (encW D.waits[i]).toArray.toList.drop 1 = encK D.waits[i].2 from rfl, List.take_of_length_le (by rw [qbg]; exact Nat.le_refl _)]) (by simp)
   refine qbB (s := ⟨some ⟨r, 1, none⟩, 512, 512⟩) hrd (by rw [D.waits[i].2.2]; decide) fun s7 Bf w10 hb7 f10 n10 _ _ => ?_
   have ho10 := ho9.frame0 f10
   have hbk := ho10.rebase
   have hnew : ∀ b ∈ Bf, w.heap.size <= b := fun b hb => by have h1 : (Pt.upd w8 l Bz).heap.size <= b := n10 b hb; have := ho9.fr.size; omega
   have hdis : ∀ b ∈ Bf, b ∉ [r, l, Dm, rb, r5, r3, r1] := fun b hb hm => by
    have h1 : (Pt.upd w8 l Bz).heap.size <= b := n10 b hb
    have h2 : ∀ p ∈ [r, l, Dm, rb, r5, r3, r1], p < (Pt.upd w8 l Bz).heap.size := fun p hp => by
     have hlt := fun (k : Nat) (q : Nat × Obj) (hq : _[k]? = some q) => qac (ho9.at (i := k) hq)
     simp only [List.mem_cons, List.not_mem_nil, or_false] at hp
     rcases hp with rfl | rfl | rfl | rfl | rfl | rfl | rfl
     ·exact hlt 0 _ rfl
     ·exact hlt 1 _ rfl
     ·exact hlt 2 _ rfl
     ·exact hlt 3 _ rfl
     ·exact hlt 4 _ rfl
     ·exact hlt 5 _ rfl
     ·exact hlt 6 _ rfl
    have := h2 b hm
    omega
   refine Own.st hbk 5 rfl _ rfl rfl rfl fun w11 hbk _ => ?_
   refine Own.st hbk 4 rfl _ rfl rfl rfl fun w12 hbk _ => ?_
   refine ⟨hbk.at (i := 1) rfl, ?_⟩
   have hbk := hbk.upd (o' := J 0) 1 rfl
   refine cond_true rfl ?_
   refine .inr ⟨0, _, rfl, hbk.at (i := 1) rfl, ?_⟩
   have hbk := hbk.upd (o' := E 0) 1 rfl
   refine Own.undefer hbk 2 rfl fun w13 hbk => ?_
   refine Own.ld (c := .slice) hbk 5 rfl s7 rfl ?_
   refine Own.ld (c := .int .i64) hbk 4 rfl 0 rfl ?_
   exact fin hrv2 ho10 hb7 hnew hdis hbk.fr
  ·have hm' : D.waits[i].1 ≠ n := by simpa using hm
   refine ⟨ho9.at (i := 1) rfl, ?_⟩
   have hoA := ho9.upd (o' := R) 1 rfl
   refine cond_false rfl ?_
   rw [wi' _ (by omega)]
   refine hX _ _ ⟨i, by omega, by omega, qqq D.waits i hil hno hm', hoA.sub (List.sublist_cons_self _ _)⟩ (by omega)
 ·have hlt := of_decide_eq_false hc1
  obtain rfl : i = 0 := by omega
  rw [List.drop_zero] at hno
  refine .inl ⟨ho7.at (i := 0) rfl, ?_⟩
  have ho8 := (ho7.upd (o' := E0) 0 rfl).drew
  have hrv2 : readV D n = ((D.safe.getD n.toNat .zero).1, 0) := by rw [hrv, hno]
  have hnl' : n.toNat < D.safe.length := by omega
  have hgd : D.safe[n.toNat]? = some (D.safe.getD n.toNat .zero) := by rw [List.getD_eq_getElem?_getD, List.getElem?_eq_getElem hnl']; rfl
  refine qad (qag (c := .slice) (hcW ho8.fr) ⟨some ⟨sb, 0, none⟩, D.safe.length, D.safe.length⟩ rfl ?_)
  refine Own.ld (c := .int .i64) ho8 5 rfl n rfl ?_
  refine qfg hn0 hnl ?_
  refine qoH (by decide) ?_
  have hrd : RdB [] (Pt.upd w7 l E0).drew ⟨some ⟨sb, 0 + n.toNat * 512, none⟩, 512, 512⟩ (D.safe.getD n.toNat .zero).1 :=
   qn4 (hsbW ho8.fr) (by rw [Nat.zero_add]; exact qiO qbg D.safe n.toNat _ hgd) (by simp)
  refine qbB (s := ⟨some ⟨sb, 0 + n.toNat * 512, none⟩, 512, 512⟩) hrd (by rw [(D.safe.getD n.toNat .zero).2]; decide) fun s7 Bf w10 hb7 f10 n10 _ _ => ?_
  have ho10 := ho8.frame0 f10
  have hbk := ho10.rebase
  have hnew : ∀ b ∈ Bf, w.heap.size <= b := fun b hb => by have h1 : (Pt.upd w7 l E0).drew.heap.size <= b := n10 b hb; have := ho8.fr.size; omega
  have hdis : ∀ b ∈ Bf, b ∉ [l, Dm, rb, r5, r3, r1] := fun b hb hm => by
   have h1 : (Pt.upd w7 l E0).drew.heap.size <= b := n10 b hb
   have h2 : ∀ p ∈ [l, Dm, rb, r5, r3, r1], p < (Pt.upd w7 l E0).drew.heap.size := fun p hp => by
    have hlt := fun (k : Nat) (q : Nat × Obj) (hq : _[k]? = some q) => qac (ho8.at (i := k) hq)
    simp only [List.mem_cons, List.not_mem_nil, or_false] at hp
    rcases hp with rfl | rfl | rfl | rfl | rfl | rfl
    ·exact hlt 0 _ rfl
    ·exact hlt 1 _ rfl
    ·exact hlt 2 _ rfl
    ·exact hlt 3 _ rfl
    ·exact hlt 4 _ rfl
    ·exact hlt 5 _ rfl
   have := h2 b hm
   omega
  refine Own.st hbk 4 rfl _ rfl rfl rfl fun w11 hbk _ => ?_
  refine Own.st hbk 3 rfl _ rfl rfl rfl fun w12 hbk _ => ?_
  refine Own.undefer hbk 1 rfl fun w13 hbk => ?_
  refine Own.ld (c := .slice) hbk 4 rfl s7 rfl ?_
  refine Own.ld (c := .int .i64) hbk 3 rfl 0 rfl ?_
  exact fin hrv2 ho10 hb7 hnew hdis hbk.fr
end Go.Proofs.YtmbcedengdoamaaGreatDoor
end
section
set_option linter.unusedVariables false
set_option linter.unusedSimpArgs false
namespace Go.Proofs.YtmbcedengdoamaaGreatDoor
open Go Go.Pt
attribute [local irreducible] ld ldA ldV fld fldA newZ st new idx idxS idxA slc slcS slcP mkS chk nn call callV inv run runQ runU join loop held ext rng undefer s2a nxt ent IntKind.wrap
def insAll (l : List Int) : List Int := l.foldl (fun a n => ins n a) []
theorem qmL (n : Int) : ∀ l : List Int, (ins n l).length <= l.length + 1
 | [] => by simp [ins]
 | a :: l => by
  have := qmL n l
  simp only [ins]
  split
  ·simp
  ·split
   ·simp
   ·simp only [List.length_cons]; omega
theorem qo9 {l : List Int} {i : Nat} (h : i < l.length) : insAll (l.take (i + 1)) = ins l[i] (insAll (l.take i)) := by
 rw [insAll, List.take_succ_eq_append_getElem h, List.foldl_append]
 rfl
theorem qmp (l : List Int) : (insAll l).length <= l.length := by
 unfold insAll
 have : ∀ (l a : List Int), (l.foldl (fun a n => ins n a) a).length <= a.length + l.length := by
  intro l
  induction l with
  | nil => intro a; simp
  | cons x l ih =>
   intro a
   have h1 := ih (ins x a)
   have h2 := qmL x a
   rw [List.foldl_cons, List.length_cons]
   omega
 simpa using this l []
theorem qdu (l : List Int) : ∀ a : List Int, a.Pairwise (· < ·) -> (l.foldl (fun a n => ins n a) a).Pairwise (· < ·) := by
 induction l with
 | nil => intro a h; exact h
 | cons x l ih => intro a h; exact ih _ (qep h)
theorem qkb (l : List Int) : ∀ a : List Int, (a ++ l).Nodup -> (l.foldl (fun a n => ins n a) a).Perm (a ++ l) := by
 induction l with
 | nil => intro a h; rw [List.append_nil]; exact .refl _
 | cons x l ih =>
  intro a h
  have hx : x ∉ a := fun hm => by
   rw [List.nodup_append] at h
   exact h.2.2 x hm x (by simp) rfl
  have hp := qgL hx
  have hp2 : (ins x a ++ l).Perm (a ++ x :: l) := (hp.append_right l).trans (List.perm_middle.symm)
  exact (ih (ins x a) (hp2.nodup_iff.2 h)).trans hp2
theorem qdS (l : List Int) : (insAll l).Pairwise (· < ·) := qdu l [] .nil
theorem qkI {l : List Int} (h : l.Nodup) : (insAll l).Perm l := by
 have := qkb l [] (by simpa using h)
 simpa [insAll] using this
theorem qqC {l : List Int} (h : l.Pairwise (· < ·)) : l.Pairwise (· <= ·) := h.imp Int.le_of_lt
theorem qgx {l : List Int} (h : l.Pairwise (· < ·)) : l.Nodup := h.imp (fun h => Int.ne_of_lt h)
theorem qdx {l l' : List Int} (h : l'.Perm l) (hs : l'.Pairwise (· <= ·)) (hn : l.Nodup) : l' = insAll l :=
 qeZ (h.trans (qkI hn).symm) hs (qqC (qdS l))
theorem qjI {l : List Int} (h : l.Pairwise (· < ·)) : insAll l = l := (qdx (.refl _) (qqC h) (qgx h)).symm
theorem qpI {x y : Int} : ∀ {l : List Int}, y ∈ ins x l ↔ y = x \/ y ∈ l
 | [] => by simp [ins]
 | a :: l => by
  have := qpI (x := x) (y := y) (l := l)
  simp only [ins]
  split
  ·simp
  ·split
   ·rename_i h; subst h; simp
   ·simp only [List.mem_cons, this]
    constructor
    ·rintro (h | h | h)
     ·exact .inr (.inl h)
     ·exact .inl h
     ·exact .inr (.inr h)
    ·rintro (h | h | h)
     ·exact .inr (.inl h)
     ·exact .inl h
     ·exact .inr (.inr h)
theorem qiK {y : Int} {l : List Int} : y ∈ insAll l ↔ y ∈ l := by
 have : ∀ (l a : List Int), y ∈ l.foldl (fun a n => ins n a) a ↔ y ∈ a \/ y ∈ l := by
  intro l
  induction l with
  | nil => intro a; simp
  | cons x l ih =>
   intro a
   rw [List.foldl_cons, ih, qpI, List.mem_cons]
   constructor
   ·rintro ((h | h) | h)
    ·exact .inr (.inl h)
    ·exact .inl h
    ·exact .inr (.inr h)
   ·rintro (h | h | h)
    ·exact .inl (.inr h)
    ·exact .inl (.inl h)
    ·exact .inr h
 rw [insAll, this]; simp
def andThen (r : DiskM × Int) (f : DiskM -> DiskM × Int) : DiskM × Int := if r.2 = 0 then f r.1 else r
def writesM : List (Int × List Int) -> DiskM -> DiskM × Int
 | [], D => (D, 0)
 | x :: r, D => andThen (writeM D x.1 x.2) (writesM r)
def spreadM (D : DiskM) (numbers pages : List Int) : DiskM × Int :=
 if (bodiesV numbers pages).2 ≠ 0 then (D, (bodiesV numbers pages).2)
 else andThen (writesM ((pages.zip (bodiesV numbers pages).1).map fun x => (x.1, sealV x.1 2 x.2)) D) syncM
def superP (s : Sup) : Int × List Int := (Int.tmod s.1 2, sealV (IntKind.wrap .u32 (Int.tmod s.1 2)) 1 (superB s.1 s.2))
def sealM (D : DiskM) (s : Sup) : DiskM × Int := andThen (writeM D (superP s).1 (superP s).2) syncM
def allV (n : Nat) : List Int := (List.range (n - 2)).map fun (i : Nat) => (i : Int) + 2
def fmtSup (n : Nat) : Sup := (1, [IntKind.wrap .u32 n, 2, IntKind.wrap .u32 ((allV n).length - needP (allV n).length : Int)] ++ zs 24)
def formatM (D : DiskM) : DiskM × Int :=
 andThen (writeM D 0 (zs 512)) fun D => andThen (writeM D 1 (zs 512)) fun D => andThen (syncM D) fun D =>
 andThen (spreadM D ((allV D.safe.length).drop (needP (allV D.safe.length).length)) ((allV D.safe.length).take (needP (allV D.safe.length).length))) fun D => sealM D (fmtSup D.safe.length)
def walkM (D : DiskM) (blocks : Int) : Nat -> Int -> List Int -> List Int -> Option (List Int × List Int)
 | 0, _, _, _ => none
 | f + 1, a, lists, named =>
  if a = 0 then some (lists, named) else
  if a < 2 \/ a >= blocks \/ a ∈ lists then none else
  if (readV D a).2 ≠ 0 then none else
  if (openV a (readV D a).1).2.2 ≠ 0 \/ (openV a (readV D a).1).1 ≠ 2 then none else
  if (parseV (openV a (readV D a).1).2.1).2.2 ≠ 0 then none else
  walkM D blocks f (parseV (openV a (readV D a).1).2.1).1 (lists ++ [a]) (named ++ (parseV (openV a (readV D a).1).2.1).2.1)
def namedB (blocks : Int) (lists : List Int) : Int -> List Int -> Bool
 | _, [] => true
 | last, n :: r => !(decide (n <= last) || decide (n >= blocks) || decide (n ∈ lists)) && namedB blocks lists n r
def loadM (D : DiskM) (s : Sup) : Option (List Int × List Int) :=
 match walkM D (s.2.getD 0 0) ((s.2.getD 0 0).toNat + 1) (s.2.getD 1 0) [] [] with
 | none => none
 | some x => if namedB (s.2.getD 0 0) x.1 0 x.2 = true /\ (x.2.length : Int) = s.2.getD 2 0 then some x else none
def begunM (sup : Sup) (lists named : List Int) (turn : Int) (over : Bool) (free : List Int) : PgM := ⟨sup, lists, named, turn, over, free, [], [], sup.2.drop 3⟩
def openM (D : DiskM) : Option PgM × Int :=
 if (readV D 0).2 ≠ 0 then (none, (readV D 0).2) else
 if (readV D 1).2 ≠ 0 then (none, (readV D 1).2) else
 if (newestV (readV D 0).1 (readV D 1).1).2 ≠ 0 then (none, (newestV (readV D 0).1 (readV D 1).1).2) else
 if (newestV (readV D 0).1 (readV D 1).1).1.2.getD 0 0 ≠ D.safe.length then (none, 2) else
 match loadM D (newestV (readV D 0).1 (readV D 1).1).1 with
 | none => (none, 2)
 | some x => (some (begunM (newestV (readV D 0).1 (readV D 1).1).1 x.1 x.2 1 false x.2), 0)
def planM (M : PgM) : Option (List Int × List Int) :=
 if needP (M.free.length + (M.deferred ++ M.lists).length) > M.free.length then none
 else some (M.free.take (needP (M.free.length + (M.deferred ++ M.lists).length)), insAll ((M.deferred ++ M.lists) ++ M.free.drop (needP (M.free.length + (M.deferred ++ M.lists).length))))
def leafOf (fresh : List (Int × Int × List Int)) (n : Int) : Int × List Int := match look n fresh with | some q => q.2 | none => (0, [])
def freshW (fresh : List (Int × Int × List Int)) : List (Int × List Int) := (insAll (fresh.map (·.1))).map fun n => (n, sealV n (leafOf fresh n).1 (leafOf fresh n).2)
def flushM (D : DiskM) (fresh : List (Int × Int × List Int)) (pages named : List Int) (next : Sup) : DiskM × Int :=
 andThen (writesM (freshW fresh) D) fun D => andThen (spreadM D named pages) fun D => sealM D next
def nextS (M : PgM) (pages named : List Int) : Sup := (IntKind.wrap .u64 (M.sup.1 + 1), [M.sup.2.getD 0 0, pages.headD 0, IntKind.wrap .u32 named.length] ++ M.roots)
def overM : PgM := begunM supZero [] [] 1 true []
def commitM (D : DiskM) (M : PgM) : (DiskM × PgM) × Int :=
 if M.over then ((D, M), 7) else
 if M.fresh = [] /\ M.deferred = [] /\ M.roots = M.sup.2.drop 3 then ((D, M), 0) else
 match planM M with
 | none => ((D, M), 6)
 | some x =>
  if (flushM D M.fresh x.1 x.2 (nextS M x.1 x.2)).2 ≠ 0 then (((flushM D M.fresh x.1 x.2 (nextS M x.1 x.2)).1, overM), (flushM D M.fresh x.1 x.2 (nextS M x.1 x.2)).2)
  else (((flushM D M.fresh x.1 x.2 (nextS M x.1 x.2)).1, begunM (nextS M x.1 x.2) x.1 x.2 (M.turn + 1) false x.2), 0)
def beginTail (pb : Nat) (x y : Option Addr) (mb : Nat) (vs : List Value) (K : Unit -> World -> Prop) (w : World) : Prop :=
 runQ [Ty1.raw] (fun (w' : Go.World) => (Instr.build WKT (#[(0, Value.pointer x), (1, Value.pointer y), (2, Value.map (some mb)), (3, Value.agg (List.toArray vs))])).run Tryz.prog w') w <|
 fun (vs_17 : List Value) =>
 nn (some ⟨pb, 0, none⟩) <|
 fun (a_18 : Addr) =>
 chk (List.length vs_17 = 27) <|
 st ({ block := a_18.block, off := a_18.off + 33 }) vs_17 w <|
 fun (w_19 : World) =>
 nn (some ⟨pb, 0, none⟩) <|
 fun (a_20 : Addr) =>
 ld Cell.slice ({ block := a_20.block, off := a_20.off + 30 }) w_19 <|
 fun (s_21 : Sl) =>
 loop (Int) (fun (X_22 : Int -> World -> Prop) (x_23 : Int) (w_24 : World) =>
  cond (decide (x_23 < (↑s_21.len : Int)))
   (idx s_21 x_23 1 <|
   fun (a_25 : Addr) =>
   ld (Cell.int IntKind.u32) a_25 w_24 <|
   fun (x_26 : Int) =>
   nn (some ⟨pb, 0, none⟩) <|
   fun (a_27 : Addr) =>
   ld Cell.ptr ({ block := a_27.block, off := a_27.off + 33 }) w_24 <|
   fun (p_28 : Option Addr) =>
   call Tryz.prog 44 ([Value.pointer p_28, Value.int IntKind.u32 x_26]) ([Ty1.one Cell.bool]) w_24 <|
   fun (b_29 : Bool) (w_30 : World) =>
   X_22 (IntKind.wrap IntKind.i64 (x_23 + 1)) w_30)
   (K () w_24)) 0 w_19
theorem qqB {w w3 : World} {X : List Nat} {pb fb defb mb : Nat} {db : Option Addr} {sup : Sup} {sl sn : Sl} {turn : Int} {over : Bool} {wk : List Value} {lists named : List Int} {F1 F2 : List Nat} {K : Unit -> World -> Prop}
  (hs : sup.2.length = 27) (hw : wk.length = 27) (hX : ∀ b ∈ X, b < w.heap.size /\ b ≠ pb) (hlists : Rd (X ++ [pb]) w sl lists) (hnamed : Rd (X ++ [pb]) w sn named) (hn : named.length <= 100000)
  (ho : Own [pb] w w3 [(pb, .cells (pgRaw db sup sl sn turn over wk) PGT (0, 0))]) (h1 : PoolAt w3 fb F1 []) (h2 : PoolAt w3 defb F2 []) (h3 : MapS u32V w3 mb [])
  (n1 : ∀ b ∈ F1, w.heap.size <= b) (n2 : ∀ b ∈ F2, w.heap.size <= b) (n3 : w.heap.size <= mb) (hpb : pb < w.heap.size) (sp1 : mb ∉ F1) (sp2 : mb ∉ F2) (sp3 : ∀ b ∈ F1, b ∉ F2)
  (hk : ∀ F' w', PagerAt w' X pb db F' (begunM sup lists named turn over (insAll named)) -> Fr [pb] w w' -> (∀ b ∈ F', b = pb \/ w.heap.size <= b) -> K () w') :
  beginTail pb (some ⟨fb, 0, none⟩) (some ⟨defb, 0, none⟩) mb ((sup.2.drop 3).map (Value.int .u32)) K w3 := by
 have hr24 : (sup.2.drop 3).length = 24 := by rw [List.length_drop, hs]
 unfold beginTail
 refine qay (ts := [Ty1.raw]) (workV (some ⟨fb, 0, none⟩) (some ⟨defb, 0, none⟩) (some mb) (sup.2.drop 3)) (qqL hr24 w3) ?_
 refine qad ?_
 refine qan (qdl hr24) ?_
 have hone : (workV (some ⟨fb, 0, none⟩) (some ⟨defb, 0, none⟩) (some mb) (sup.2.drop 3)).all Value.oneCell' = true := by
  rw [List.all_eq_true]
  intro v hv
  simp only [workV, List.mem_append, List.mem_cons, List.mem_map, List.not_mem_nil, or_false] at hv
  rcases hv with (rfl | rfl | rfl) | ⟨x, _, rfl⟩ <;> rfl
 refine Own.st' ho 0 rfl (pgCells db sup sl sn turn over fb defb mb (sup.2.drop 3)) (by rw [<- qhB]; exact qsh hs (by rw [hw, qdl hr24])) hone (by rw [qbU hs, qdl hr24, hw]; exact Nat.le_of_ble_eq_true rfl) fun w4 ho4 f4 => ?_
 have hpF1 : ∀ b ∈ F1, b ≠ pb := fun b hb e => by have := n1 b hb; omega
 have hpF2 : ∀ b ∈ F2, b ≠ pb := fun b hb e => by have := n2 b hb; omega
 have hS : ∀ b ∈ pb :: mb :: (F1 ++ F2), b ∈ [pb] \/ w.heap.size <= b := fun b hb => by
  simp only [List.mem_cons, List.mem_append] at hb
  rcases hb with rfl | rfl | hb | hb
  ·exact .inl (by simp)
  ·exact .inr n3
  ·exact .inr (n1 b hb)
  ·exact .inr (n2 b hb)
 have hx : PgX w4 X pb db (begunM sup lists named turn over []) fb defb mb sl sn F1 F2 [] := {
  cell := ho4.at (i := 0) rfl
  free := h1.frame f4 fun b hb => by simpa using hpF1 b hb
  deferred := h2.frame f4 fun b hb => by simpa using hpF2 b hb
  map := h3.frame f4 (by simp; omega)
  fresh := rfl
  rows := by
   have hf : Fr (X ++ [pb]) w w4 := ho4.fr.mono fun b hb _ => List.mem_append_right _ hb
   exact ⟨hlists.frame hf (qoI hS), hnamed.frame hf (qoI hS), fun e he => by cases he⟩
  xlt := fun b hb => Nat.lt_of_lt_of_le (hX b hb).1 ho4.fr.size
  xsep := qsr (fun b hb => (hX b hb).1) (fun b hb => by simpa using (hX b hb).2) hS
  sep := ⟨by omega, fun b hb => ⟨hpF1 b hb, fun e => sp1 (e ▸ hb), sp3 b hb⟩, fun b hb => ⟨hpF2 b hb, fun e => sp2 (e ▸ hb)⟩⟩
  suplen := hs
  rootlen := hr24 }
 refine qad (qag (c := .slice) hx.cell sn (qso hs) ?_)
 have hnl := hnamed.1
 refine qaf (fun x w' => ∃ (i : Nat) (F1' : List Nat), x = i /\ i <= named.length /\ PgX w' X pb db (begunM sup lists named turn over (insAll (named.take i))) fb defb mb sl sn F1' F2 [] /\ Fr [pb] w w' /\ ∀ b ∈ F1', w.heap.size <= b) (fun x _ => ((named.length : Int) - x).toNat)
  ⟨0, F1, rfl, by omega, hx, ho4.fr, n1⟩ ?_
 rintro x w5 ⟨i, F1', rfl, hi, hx5, f5, n5⟩ Z hZ
 refine qaa (fun hc => ?_) (fun hc => ?_)
 ·have hil : i < named.length := by have := of_decide_eq_true hc; omega
  refine Rd.at hx5.rows.named i rfl (List.getElem?_eq_getElem hil) ?_
  refine qad (qag (c := .ptr) hx5.cell (some ⟨fb, 0, none⟩) (qgq hs) ?_)
  have hl5 := qmp (named.take i)
  rw [List.length_take] at hl5
  refine qoU hx5.free (by show (insAll (named.take i)).length <= _; omega) fun F1'' w6 hp6 f6 n6 => ?_
  have hx6 := hx5.setFree f6 hp6 n6
  rw [wi' _ (by omega)]
  refine hZ _ _ ⟨i + 1, F1'', by simp, by omega, ?_, f5.trans' f6 (fun b hb => .inr (n5 b hb)), fun b hb => ?_⟩ (by omega)
  ·rw [qo9 hil]; exact hx6
  ·rcases n6 b hb with h | h
   ·exact n5 b h
   ·exact Nat.le_trans f5.size h
 ·have : i = named.length := by have := of_decide_eq_false hc; omega
  subst this
  rw [List.take_length] at hx5
  refine hk _ w5 ⟨fb, defb, mb, sl, sn, F1', F2, [], rfl, hx5⟩ f5 fun b hb => ?_
  simp only [List.mem_cons, List.mem_append] at hb
  rcases hb with rfl | rfl | hb | hb
  ·exact .inl rfl
  ·exact .inr n3
  ·exact .inr (n5 b hb)
  ·exact .inr (n2 b hb)
theorem qjF {w : World} {X : List Nat} {pb : Nat} {db : Option Addr} {sup : Sup} {sl sn : Sl} {turn : Int} {over : Bool} {wk : List Value} {lists named : List Int} {K : Unit -> World -> Prop}
  (hc : w.heap[pb]? = some (.cells (pgRaw db sup sl sn turn over wk) PGT (0, 0))) (hs : sup.2.length = 27) (hw : wk.length = 27) (ht : 0 <= turn /\ turn <= 1000000000) (hX : ∀ b ∈ X, b < w.heap.size /\ b ≠ pb) (hlists : Rd (X ++ [pb]) w sl lists) (hnamed : Rd (X ++ [pb]) w sn named) (hn : named.length <= 100000)
  (hk : ∀ F' w', PagerAt w' X pb db F' (begunM sup lists named (turn + 1) over (insAll named)) -> Fr [pb] w w' -> (∀ b ∈ F', b = pb \/ w.heap.size <= b) -> K () w') :
  call Tryz.prog 58 [.pointer (some ⟨pb, 0, none⟩)] [] w K := by
 have hpb := qac hc
 have ho : Own [pb] w w [(pb, .cells (pgRaw db sup sl sn turn over wk) PGT (0, 0))] := ⟨by simpa using hc, by simp, .refl _ _, by simp⟩
 refine qil (p := some ⟨pb, 0, none⟩) ?_
 unfold qdi
 refine qad (Own.ld (c := .int .i64) ho 0 rfl turn (qfI hs 2 (by decide)) ?_)
 rw [wi' _ (by omega)]
 refine qad (Own.st' ho 0 rfl (pgRaw db sup sl sn (turn + 1) over wk) (qrP hs) rfl (by rw [qbU hs, hw]; exact Nat.le_of_ble_eq_true rfl) fun w1 ho f1 => ?_)
 have hrl : ((sup.2.drop 3).map (Value.int .u32)).length = 24 := by rw [List.length_map, List.length_drop, hs]
 have hcA : ∀ {w' : World}, w'.heap[pb]? = some (.cells (pgRaw db sup sl sn (turn + 1) over wk) PGT (0, 0)) -> cellsAt w' ⟨pb, 5, none⟩ 0 ((sup.2.drop 3).map (Value.int .u32)) := fun h => qaQ h _ 5 0 (by rw [hrl]; exact qjS hs)
 have tail := fun {w3 : World} {fb defb mb : Nat} {F1 F2 : List Nat} => qqB (w := w) (w3 := w3) (X := X) (pb := pb) (fb := fb) (defb := defb) (mb := mb) (F1 := F1) (F2 := F2) hs hw hX hlists hnamed hn (K := K) (turn := turn + 1) (over := over) (wk := wk) (db := db)
 have hs1 := f1.size
 have ho' := ho.drew
 generalize w1.drew = wd at ho'
 have hld : ∀ {K' : List Value -> Prop}, K' ((sup.2.drop 3).map (Value.int .u32)) -> ldV 24 ⟨pb, 5, none⟩ wd K' := fun k => qaw (ho'.at (i := 0) rfl) _ hrl (qjS hs) k
 have hsd : w.heap.size <= wd.heap.size := ho'.fr.size
 have fin : ∀ {w3 : World} {fb defb mb : Nat} {F1 F2 : List Nat}, Fr [] wd w3 -> PoolAt w3 fb F1 [] -> PoolAt w3 defb F2 [] -> MapS u32V w3 mb [] -> (∀ b ∈ F1, wd.heap.size <= b) -> (∀ b ∈ F2, wd.heap.size <= b) -> wd.heap.size <= mb -> mb ∉ F1 -> mb ∉ F2 -> (∀ b ∈ F1, b ∉ F2) ->
   beginTail pb (some ⟨fb, 0, none⟩) (some ⟨defb, 0, none⟩) mb ((sup.2.drop 3).map (Value.int .u32)) K w3 := fun f p1 p2 p3 n1 n2 n3 s1 s2 s3 =>
  tail (ho'.frame0 f) p1 p2 p3 (fun b hb => Nat.le_trans hsd (n1 b hb)) (fun b hb => Nat.le_trans hsd (n2 b hb)) (Nat.le_trans hsd n3) hpb s1 s2 s3 hk
 refine ⟨?_, ?_, ?_⟩
 ·refine qad ?_
  simp only [Addr.add_mk]
  refine hld ?_
  refine qhM fun fb F1 w2 p1 f2 n1 => ?_
  refine qar (hcA ((ho'.frame0 f2).at (i := 0) rfl)) ?_
  refine qhM fun defb F2 w3 p2 f3 n2 => ?_
  refine qar (hcA ((ho'.frame0 (f2.trans f3)).at (i := 0) rfl)) ?_
  refine Own.new' (ho'.frame0 (f2.trans f3)) fun mb w4 e4 f4 ho4 => ?_
  refine qar (hcA (ho4.at (i := 1) rfl)) ?_
  refine fin ((f2.trans f3).trans f4) (p1.frame (f3.trans f4) (by simp)) (p2.frame f4 (by simp)) (.empty (ho4.at (i := 0) rfl)) n1 (fun b hb => Nat.le_trans f2.size (n2 b hb)) (by rw [e4]; exact (f2.trans f3).size) (fun hm => ?_) (fun hm => ?_) (fun b hb hb2 => ?_)
  ·have := (p1.frame f3 (by simp)).lt mb hm; omega
  ·have := p2.lt mb hm; omega
  ·have := p1.lt b hb; have := n2 b hb2; omega
 ·refine qad ?_
  simp only [Addr.add_mk]
  refine hld ?_
  refine qhM fun fb F1 w2 p1 f2 n1 => ?_
  refine qar (hcA ((ho'.frame0 f2).at (i := 0) rfl)) ?_
  refine Own.new' (ho'.frame0 f2) fun mb w3 e3 f3 ho3 => ?_
  refine qar (hcA (ho3.at (i := 1) rfl)) ?_
  refine qhM fun defb F2 w4 p2 f4 n2 => ?_
  have ho4 := ho3.frame0 f4
  refine qar (hcA (ho4.at (i := 1) rfl)) ?_
  have hmb := qac (ho3.at (i := 0) rfl)
  refine fin ((f2.trans f3).trans f4) (p1.frame (f3.trans f4) (by simp)) p2 (.empty (ho4.at (i := 0) rfl)) n1 (fun b hb => Nat.le_trans (f2.trans f3).size (n2 b hb)) (by rw [e3]; exact f2.size) (fun hm => ?_) (fun hm => ?_) (fun b hb hb2 => ?_)
  ·have := p1.lt mb hm; omega
  ·have := n2 mb hm; omega
  ·have := (p1.frame f3 (by simp)).lt b hb; have := n2 b hb2; omega
 ·refine qad ?_
  simp only [Addr.add_mk]
  refine hld ?_
  refine Own.new' ho' fun mb w2 e2 f2 ho2 => ?_
  refine qar (hcA (ho2.at (i := 1) rfl)) ?_
  have hmb := qac (ho2.at (i := 0) rfl)
  refine qhM fun fb F1 w3 p1 f3 n1 => ?_
  have ho3 := ho2.frame0 f3
  refine qar (hcA (ho3.at (i := 1) rfl)) ?_
  refine qhM fun defb F2 w4 p2 f4 n2 => ?_
  have ho4 := ho3.frame0 f4
  refine qar (hcA (ho4.at (i := 1) rfl)) ?_
  refine fin ((f2.trans f3).trans f4) (p1.frame f4 (by simp)) p2 (.empty (ho4.at (i := 0) rfl)) (fun b hb => Nat.le_trans f2.size (n1 b hb)) (fun b hb => Nat.le_trans (f2.trans f3).size (n2 b hb)) (by rw [e2]; exact Nat.le_refl _) (fun hm => ?_) (fun hm => ?_) (fun b hb hb2 => ?_)
  ·have := n1 mb hm; omega
  ·have := n2 mb hm; have := f3.size; omega
  ·have := p1.lt b hb; have := n2 b hb2; omega
abbrev U32 (n : Int) : Prop := 0 <= n /\ n < 4294967296
theorem qhd {n : Int} (h : U32 n) (r : List Int) : first4 (be n 4 ++ r) = n := by
 rw [be4 h.1]
 exact qr5 h
theorem qm4 : ∀ (c : List Int) (i : Nat), (c.flatMap (be · 4)).drop (4 * i) = (c.drop i).flatMap (be · 4)
 | [], i => by simp
 | a :: c, 0 => by simp
 | a :: c, i + 1 => by
  rw [List.flatMap_cons, List.drop_succ_cons, <- qm4 c i, List.drop_append, qah, List.drop_eq_nil_of_le (by rw [qah]; omega), List.nil_append]
  congr 1
theorem qlu (c : List Int) : (c.flatMap (be · 4)).length = 4 * c.length := by
 induction c with
 | nil => rfl
 | cons a c ih => rw [List.flatMap_cons, List.length_append, qah, ih, List.length_cons]; omega
theorem qk6 {c : List Int} {i : Nat} (h : i < c.length) (hr : ∀ x ∈ c, U32 x) : first4 ((c.flatMap (be · 4)).drop (4 * i)) = c[i] := by
 rw [qm4, List.drop_eq_getElem_cons h, List.flatMap_cons]
 exact qhd (hr _ (List.getElem_mem h)) _
theorem qfE (next : Int) (c : List Int) : (bodyV next c).length = 6 + 4 * c.length := by
 rw [bodyV, List.length_append, List.length_append, qah, qlu]
 rfl
theorem qoK (c : List Int) : IsB (c.flatMap (be · 4)) := by
 induction c with
 | nil => exact fun x h => by cases h
 | cons a c ih => rw [List.flatMap_cons]; exact (qb5 _ _).append ih
theorem qs4 (x : Int) : 0 <= IntKind.wrap .u8 x /\ IntKind.wrap .u8 x < 256 := by rw [wu8]; omega
theorem qjJ (next : Int) (c : List Int) : IsB (bodyV next c) := by
 refine ((qb5 _ _).append fun x hx => ?_).append (qoK c)
 simp only [List.mem_cons, List.not_mem_nil, or_false] at hx
 rcases hx with rfl | rfl <;> exact qs4 _
theorem qos {next : Int} {c : List Int} (hn : U32 next) (h1 : next ≠ 1) (hc : ∀ x ∈ c, U32 x) (hr : risesB 1 c = true) (hl : c.length <= 123) : parseV (bodyV next c) = (next, c, 0) := by
 have hlen := qfE next c
 have e : bodyV next c = be next 4 ++ ([IntKind.wrap .u8 (Int.fdiv c.length (2 ^ 8)), IntKind.wrap .u8 c.length] ++ c.flatMap (be · 4)) := by rw [bodyV, List.append_assoc]
 have hf : first4 (bodyV next c) = next := by rw [e]; exact qhd hn _
 have hcnt : cntV (bodyV next c) = c.length := by
  have h4 : (bodyV next c).getD 4 0 = IntKind.wrap .u8 (Int.fdiv c.length (2 ^ 8)) := by rw [e, be4 hn.1]; rfl
  have h5 : (bodyV next c).getD 5 0 = IntKind.wrap .u8 c.length := by rw [e, be4 hn.1]; rfl
  have hd : Int.fdiv (c.length : Int) (2 ^ 8) = 0 := by rw [Int.fdiv_eq_ediv_of_nonneg _ (by decide)]; omega
  rw [cntV, h4, h5, wu8, wu8, hd]
  omega
 have hnums : numsV (bodyV next c) c.length = c := by
  apply List.ext_getElem
  ·simp [numsV]
  intro i h1 h2
  have : (bodyV next c).drop (6 + 4 * i) = (c.flatMap (be · 4)).drop (4 * i) := by
   have h6 : (bodyV next c).drop 6 = c.flatMap (be · 4) := by rw [e, be4 hn.1]; rfl
   rw [<- h6, List.drop_drop]
  simp only [numsV, List.getElem_map, List.getElem_range, this]
  exact qk6 h2 hc
 rw [parseV, if_neg (by omega), if_neg (by rw [hf, hcnt]; omega), hcnt, Int.toNat_natCast, hnums, if_pos hr, hf]
theorem qeu (x : Int) (h : 0 <= x /\ x < 18446744073709551616) : IntKind.wrap .u64 x = x := by
 unfold IntKind.wrap
 have : (IntKind.u64.signed) = false := rfl
 simp only [this, Bool.false_and, Bool.false_eq_true, if_false]
 exact Int.emod_eq_of_lt h.1 h.2
theorem qnc {A B : Int} (k : Nat) (hA : 0 <= A) (hm : A % 2 ^ k = 0) (hB : 0 <= B) (hBk : B < 2 ^ k) (hs : A + B < 18446744073709551616) : bits .or .u64 A B = A + B := by
 obtain ⟨a, rfl⟩ : ∃ a : Nat, A = a := ⟨A.toNat, by omega⟩
 obtain ⟨b, rfl⟩ : ∃ b : Nat, B = b := ⟨B.toNat, by omega⟩
 have hm' : a % 2 ^ k = 0 := by
  have : ((a : Int) % ((2 ^ k : Nat) : Int)) = 0 := by rw [Int.natCast_pow]; exact hm
  omega
 have hb' : b < 2 ^ k := by
  have : (b : Int) < ((2 ^ k : Nat) : Int) := by rw [Int.natCast_pow]; exact hBk
  omega
 obtain ⟨q, rfl⟩ : ∃ q, a = 2 ^ k * q := ⟨a / 2 ^ k, by have := Nat.div_add_mod a (2 ^ k); omega⟩
 show IntKind.wrap .u64 ((BitVec.ofInt 64 ((2 ^ k * q : Nat) : Int) ||| BitVec.ofInt 64 (b : Int)).toNat : Nat) = _
 rw [BitVec.toNat_or, BitVec.ofInt_natCast, BitVec.ofInt_natCast, BitVec.toNat_ofNat, BitVec.toNat_ofNat, Nat.mod_eq_of_lt (show 2 ^ k * q < 2 ^ 64 by omega), Nat.mod_eq_of_lt (show b < 2 ^ 64 by omega), <- Nat.two_pow_add_eq_or_of_lt hb']
 rw [qeu _ (by omega)]
 omega
abbrev U64 (n : Int) : Prop := 0 <= n /\ n < 18446744073709551616
theorem qeB {q : Int} {t : List Int} : superB q t = be (IntKind.wrap .u32 (Int.fdiv q (2 ^ 32))) 4 ++ (be (IntKind.wrap .u32 q) 4 ++ t.flatMap (be · 4)) := by rw [superB, List.append_assoc]
theorem qi3 {q : Int} {t : List Int} (hq : U64 q) : parseQ (superB q t) = q := by
 have hd : Int.fdiv q (2 ^ 32) = q / 4294967296 := by rw [Int.fdiv_eq_ediv_of_nonneg _ (by decide)]; rfl
 have h0 : first4 (superB q t) = q / 4294967296 := by
  rw [qeB, hd, qaI _ (by omega)]
  exact qhd (by constructor <;> omega) _
 have h4 : (superB q t).drop 4 = be (IntKind.wrap .u32 q) 4 ++ t.flatMap (be · 4) := by
  rw [qeB, List.drop_append, qah, List.drop_eq_nil_of_le (by rw [qah]; exact Nat.le_refl _)]; rfl
 have hw : IntKind.wrap .u32 q = q % 4294967296 := by
  unfold IntKind.wrap
  have : (IntKind.u32.signed) = false := rfl
  simp only [this, Bool.false_and, Bool.false_eq_true, if_false]
  rfl
 have h1 : first4 ((superB q t).drop 4) = q % 4294967296 := by
  rw [h4, hw]
  exact qhd (by constructor <;> omega) _
 rw [parseQ, h0, h1, qeu (q / 4294967296) (by omega), qeu (q % 4294967296) (by omega), qeu (q / 4294967296 * 2 ^ 32) (by omega)]
 rw [qnc 32 (by omega) (by omega) (by omega) (by omega) (by omega)]
 omega
theorem qme (q : Int) (t : List Int) : IsB (superB q t) := by
 rw [qeB]
 exact (qb5 _ _).append ((qb5 _ _).append (qoK t))
theorem qnA {q : Int} {t : List Int} (ht : t.length = 27) (hr : ∀ x ∈ t, U32 x) : parseT (superB q t) = t := by
 apply List.ext_getElem
 ·rw [qaK, ht]
 intro i h1 h2
 have h8 : (superB q t).drop 8 = t.flatMap (be · 4) := by
  rw [qeB, <- List.append_assoc, List.drop_append, List.length_append, qah, qah, List.drop_eq_nil_of_le (by rw [List.length_append, qah, qah]; exact Nat.le_refl _)]; rfl
 have : (superB q t).drop (8 + 4 * i) = (t.flatMap (be · 4)).drop (4 * i) := by rw [<- h8, List.drop_drop]
 simp only [parseT, List.getElem_map, List.getElem_range, this]
 exact qk6 h2 hr
theorem qpj {q place : Int} {t : List Int} (hq : U64 q) (ht : t.length = 27) (hr : ∀ x ∈ t, U32 x) (hp : Int.tmod q 2 = place) : readSV place (sealV place 1 (superB q t)) = ((q, t), 0) := by
 have hpl : U32 place := by rw [<- hp, Int.tmod_eq_emod_of_nonneg hq.1]; constructor <;> omega
 have ho := qkV (kind := 1) (body := superB q t) hpl (by rw [qcl ht]; decide)
 rw [readSV, ho, if_neg (by simp), if_neg (by simp [qcl ht]), if_neg (by rw [qi3 hq, hp]; simp), qi3 hq, qnA ht hr]
end Go.Proofs.YtmbcedengdoamaaGreatDoor
end
