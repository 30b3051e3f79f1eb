/- What a command makes of an index (definitions); commands that are done one behind the other: how long an index grows; what is old stays so. -/
import Derived.Test.YtbjmafbbjhoddaaLibIdxRef
namespace Go.Proofs.Ytbjmafbbjhoddaa.Pv
open Go
set_option linter.unusedVariables false
set_option linter.unusedSimpArgs false
set_option maxRecDepth 100000

def wholeAt (l : List (Int × Int)) (r : Int) (i : Nat) : Bool := (l.getD i default).1 == r && (List.range i).all fun k => !decide (l.getD k default = l.getD i default)
def wholeP (l : List (Int × Int)) (r : Int) : Bool := decide (l.length = 14) && (List.range l.length).all (wholeAt l r)
theorem wholeP_no {l : List (Int × Int)} {r : Int} {i : Nat} (hi : i < l.length) (h : wholeAt l r i = false) : wholeP l r = false := by
  unfold wholeP
  rw [Bool.and_eq_false_iff]
  right
  cases hb : (List.range l.length).all (wholeAt l r) with
  | false => rfl
  | true => rw [List.all_eq_true.1 hb i (List.mem_range.2 hi)] at h; cases h
theorem wholeP_yes {l : List (Int × Int)} {r : Int} (h0 : l.length = 14) (h : ∀ i, i < l.length → wholeAt l r i = true) : wholeP l r = true := by
  unfold wholeP
  rw [decide_eq_true h0, Bool.true_and]
  exact List.all_eq_true.2 fun i hi => h i (List.mem_range.1 hi)

def refuse (e : Int) : Rp := ⟨e, 0, 0, 0, 0, false⟩
def nameI (x : Ix) (s : ByteArray) : Int := idxI (fun n : Nm => beqS n.name s) x.names

def namesP (x : Ix) (c : Cm) : Ix × Rp :=
  if nameI x c.name < 0 then (x, ⟨0, 0, 0, 0, 0, false⟩)
  else if c.kind = 5 then (x, ⟨0, (x.names.getD (nameI x c.name).toNat default).vol, (x.names.getD (nameI x c.name).toNat default).off, (x.names.getD (nameI x c.name).toNat default).n, (x.names.getD (nameI x c.name).toNat default).sum, true⟩)
  else (⟨x.vols, x.names.take (nameI x c.name).toNat ++ x.names.drop ((nameI x c.name).toNat + 1), x.last⟩, ⟨0, 0, 0, 0, 0, true⟩)

def w64 (z : Int) : Int := IntKind.i64.wrap z
def sumId (a b : Int) : Int := w64 (w64 (1000 + w64 (64 * a)) + b)
def pairA (a b : Vl) : Vl := ⟨a.id, a.home, a.mate, a.used, 4, a.parts, a.places, b.id, sumId a.id b.id⟩
def pairB (a b : Vl) : Vl := ⟨b.id, b.home, b.mate, b.used, 4, b.parts, b.places, a.id, sumId a.id b.id⟩
def pairC' (h : Int) (a b : Vl) (l : List (Int × Int)) : Vl := ⟨sumId a.id b.id, h, 0, 0, 5, [], l, a.id, b.id⟩
def pairX (x : Ix) (c : Cm) : Ix × Rp :=
  let i := volI x c.vol
  let k := volI x c.mate
  let a := x.vols.getD i.toNat default
  let b := x.vols.getD k.toNat default
  if i < 0 ∨ k < 0 then (x, refuse 7)
  else if a.phase ≠ 3 ∨ b.phase ≠ 3 ∨ a.home = b.home then (x, refuse 9)
  else if (thirdP a.home b.home).2 ≠ 0 ∨ wholeP c.places (thirdP a.home b.home).1 = false then (x, refuse 1)
  else if 48 ≤ x.vols.length then (x, refuse 5)
  else (⟨setL (setL (setL x.vols i (pairA a b)) k (pairB a b)) (-1) (pairC' (thirdP a.home b.home).1 a b c.places), x.names, x.last⟩, ⟨0, sumId a.id b.id, 0, 0, 0, false⟩)

def gtN (s : ByteArray) (y : Nm) : Bool := !(ltS y.name s || beqS y.name s)
def newN (c : Cm) : Nm := ⟨c.name, c.vol, c.off, c.n, c.sum⟩
def putN (x : Ix) (c : Cm) : List Nm :=
  if 0 ≤ nameI x c.name then x.names.set (nameI x c.name).toNat (newN c)
  else insI x.names (if idxI (gtN c.name) x.names < 0 then x.names.length else (idxI (gtN c.name) x.names).toNat) (newN c)
def addP (v : Vl) (c : Cm) : Vl := ⟨v.id, v.home, v.mate, v.used, v.phase, v.parts ++ [(c.off, c.n)], v.places, v.pair, v.sum⟩
def putX (x : Ix) (c : Cm) : Ix × Rp :=
  if beqS c.name ⟨#[]⟩ = true then (x, refuse 1)
  else if volI x c.vol < 0 then (x, refuse 7)
  else if (x.vols.getD (volI x c.vol).toNat default).phase ≠ 1 then (x, refuse 9)
  else if c.n = 0 ∨ (x.vols.getD (volI x c.vol).toNat default).used < c.off + c.n then (x, refuse 1)
  else if nameI x c.name < 0 ∧ 64 ≤ x.names.length then (x, refuse 5)
  else (⟨setL x.vols (volI x c.vol) (addP (x.vols.getD (volI x c.vol).toNat default) c), putN x c, x.last⟩, ⟨0, 0, 0, 0, 0, decide (0 ≤ nameI x c.name)⟩)

def openX (x : Ix) (c : Cm) : Ix × Rp :=
  if (thirdP c.region c.mate).2 ≠ 0 then (x, refuse 1)
  else if 48 ≤ x.vols.length then (x, refuse 5)
  else (⟨setL x.vols (-1) ⟨x.vols.length + 1, c.region, c.mate, 0, 1, [], [], 0, 0⟩, x.names, x.last⟩, ⟨0, x.vols.length + 1, 0, 0, 0, false⟩)
def putVol (x : Ix) (i : Int) (v : Vl) : Ix := ⟨setL x.vols i v, x.names, x.last⟩
def resX (x : Ix) (c : Cm) (i : Int) (v : Vl) : Ix × Rp :=
  if v.phase ≠ 1 then (x, refuse 9) else if c.n < 1 ∨ 32 < c.n then (x, refuse 4) else if 160 - c.n < v.used then (x, refuse 5)
  else (putVol x i ⟨v.id, v.home, v.mate, w64 (v.used + c.n), v.phase, v.parts, v.places, v.pair, v.sum⟩, ⟨0, v.id, v.used, c.n, 0, false⟩)
def lockX (x : Ix) (c : Cm) (i : Int) (v : Vl) : Ix × Rp :=
  if v.phase ≠ 1 then (x, refuse 9) else (putVol x i ⟨v.id, v.home, v.mate, v.used, 2, v.parts, v.places, v.pair, v.sum⟩, ⟨0, v.id, 0, 0, 0, false⟩)
def sealX (x : Ix) (c : Cm) (i : Int) (v : Vl) : Ix × Rp :=
  if v.phase ≠ 2 then (x, refuse 9) else if wholeP c.places v.home = false then (x, refuse 1)
  else (putVol x i ⟨v.id, v.home, v.mate, v.used, 3, v.parts, c.places, v.pair, v.sum⟩, ⟨0, v.id, 0, 0, 0, false⟩)
def moveX (x : Ix) (c : Cm) (i : Int) (v : Vl) : Ix × Rp :=
  if v.phase < 3 then (x, refuse 9)
  else if (v.places.length : Int) ≤ c.idx ∨ c.places.length ≠ 1 ∨ (c.places.getD 0 default).1 ≠ v.home then (x, refuse 1)
  else if v.places.any (fun p => decide (p = c.places.getD 0 default)) = true then (x, refuse 1)
  else (putVol x i ⟨v.id, v.home, v.mate, v.used, v.phase, v.parts, v.places.set c.idx.toNat (c.places.getD 0 default), v.pair, v.sum⟩, ⟨0, v.id, 0, c.idx, 0, false⟩)
def volX (x : Ix) (c : Cm) : Ix × Rp :=
  if volI x c.vol < 0 then (x, refuse 7)
  else if c.kind = 2 then resX x c (volI x c.vol) (x.vols.getD (volI x c.vol).toNat default)
  else if c.kind = 6 then lockX x c (volI x c.vol) (x.vols.getD (volI x c.vol).toNat default)
  else if c.kind = 7 then sealX x c (volI x c.vol) (x.vols.getD (volI x c.vol).toNat default)
  else moveX x c (volI x c.vol) (x.vols.getD (volI x c.vol).toNat default)
def doesX (x : Ix) (c : Cm) : Ix × Rp :=
  if c.kind = 1 then openX x c else if c.kind = 3 then putX x c else if c.kind = 4 then namesP x c else if c.kind = 5 then namesP x c else if c.kind = 8 then pairX x c else volX x c

structure OkI (x : Ix) : Prop where
  vols : x.vols.length ≤ 1048575
  names : x.names.length ≤ 1048575
  last : x.last.length ≤ 1048575
  parts : ∀ v ∈ x.vols, v.parts.length ≤ 1048576
  places : ∀ v ∈ x.vols, v.places.length ≤ 1048576

def lastI (x : Ix) (client : Int) : Int := idxI (fun s : Ss => s.client == client) x.last
def rpOf (s : Ss) : Rp := ⟨s.err, s.vol, s.off, s.n, s.sum, s.found⟩
def ssOf (c : Cm) (r : Rp) : Ss := ⟨c.client, c.seq, r.err, r.vol, r.off, r.n, r.sum, r.found⟩
def doX (x : Ix) (c : Cm) : Ix × Rp :=
  if mayC c = false then (x, refuse 1)
  else if 0 < c.client ∧ 0 ≤ lastI x c.client ∧ (x.last.getD (lastI x c.client).toNat default).seq = c.seq then (x, rpOf (x.last.getD (lastI x c.client).toNat default))
  else if 0 < c.client ∧ 0 ≤ lastI x c.client ∧ c.seq < (x.last.getD (lastI x c.client).toNat default).seq then (x, refuse 9)
  else if 0 < c.client then (⟨(doesX x c).1.vols, (doesX x c).1.names, setL (doesX x c).1.last (lastI x c.client) (ssOf c (doesX x c).2)⟩, (doesX x c).2)
  else doesX x c

theorem mayC_facts {c : Cm} (h : mayC c = true) : (0 ≤ c.client ∧ c.client ≤ 16) ∧ (0 ≤ c.off ∧ c.off ≤ 1048576) ∧ (0 ≤ c.n ∧ c.n ≤ 1048576) ∧ (0 ≤ c.idx ∧ c.idx ≤ 1048576) ∧ c.places.length ≤ 14 := by
  unfold mayC headC at h
  simp only [Bool.and_eq_true, smallP, decide_eq_true_eq] at h
  omega

theorem putX_last (x : Ix) (c : Cm) : (putX x c).1.last = x.last := by unfold putX; repeat' split
                                                                       all_goals rfl
theorem namesP_last (x : Ix) (c : Cm) : (namesP x c).1.last = x.last := by unfold namesP; repeat' split
                                                                           all_goals rfl
theorem pairX_last (x : Ix) (c : Cm) : (pairX x c).1.last = x.last := by unfold pairX; dsimp only; repeat' split
                                                                         all_goals rfl
theorem doesX_last (x : Ix) (c : Cm) : (doesX x c).1.last = x.last := by
  unfold doesX
  split
  · unfold openX; repeat' split
    all_goals rfl
  split
  · exact putX_last x c
  split
  · exact namesP_last x c
  split
  · exact namesP_last x c
  split
  · exact pairX_last x c
  unfold volX
  split
  · rfl
  split
  · unfold resX; repeat' split
    all_goals rfl
  split
  · unfold lockX; repeat' split
    all_goals rfl
  split
  · unfold sealX; repeat' split
    all_goals rfl
  unfold moveX; repeat' split
  all_goals rfl

structure OkB (B : Nat) (x : Ix) : Prop where
  vols : x.vols.length ≤ B
  names : x.names.length ≤ B
  last : x.last.length ≤ B
  parts : ∀ v ∈ x.vols, v.parts.length ≤ B
  places : ∀ v ∈ x.vols, v.places.length ≤ B
theorem OkB.ok {B : Nat} {x : Ix} (h : OkB B x) (hB : B ≤ 1048575) : OkI x :=
  ⟨Nat.le_trans h.vols hB, Nat.le_trans h.names hB, Nat.le_trans h.last hB, fun v hv => by have := h.parts v hv; omega, fun v hv => by have := h.places v hv; omega⟩
theorem OkB.up {B B' : Nat} {x : Ix} (h : OkB B x) (hB : B ≤ B') : OkB B' x :=
  ⟨Nat.le_trans h.vols hB, Nat.le_trans h.names hB, Nat.le_trans h.last hB, fun v hv => Nat.le_trans (h.parts v hv) hB, fun v hv => Nat.le_trans (h.places v hv) hB⟩

theorem setL_mem {α : Type} {l : List α} {i : Int} {v y : α} (h : y ∈ setL l i v) : y = v ∨ y ∈ l := by
  unfold setL at h
  split at h
  · rcases List.mem_append.1 h with h | h
    · exact .inr h
    · exact .inl (List.mem_singleton.1 h)
  · exact (List.mem_or_eq_of_mem_set h).symm
theorem OkB.set {B : Nat} {x : Ix} {i : Int} {v : Vl} {ns : List Nm} {ls : List Ss} (h : OkB B x) (hp : v.parts.length ≤ B + 1) (hq : v.places.length ≤ B + 1) (hn : ns.length ≤ B + 1) (hls : ls.length ≤ B + 1) : OkB (B + 1) ⟨setL x.vols i v, ns, ls⟩ := by
  refine ⟨?_, hn, hls, fun y hy => ?_, fun y hy => ?_⟩
  · have := setL_len x.vols i v; have := h.vols; dsimp only; omega
  · rcases setL_mem hy with e | e
    · rw [e]; exact hp
    · have := h.parts y e; omega
  · rcases setL_mem hy with e | e
    · rw [e]; exact hq
    · have := h.places y e; omega
theorem OkB.at {B : Nat} {x : Ix} (h : OkB B x) (i : Nat) : (x.vols.getD i default).parts.length ≤ B ∧ (x.vols.getD i default).places.length ≤ B := by
  by_cases hi : i < x.vols.length
  · exact ⟨h.parts _ (getD_memL hi), h.places _ (getD_memL hi)⟩
  · rw [List.getD_eq_getElem?_getD, List.getElem?_eq_none (by omega)]
    exact ⟨Nat.zero_le _, Nat.zero_le _⟩

end Go.Proofs.Ytbjmafbbjhoddaa.Pv
