/- The framework of plain values, part 1: what a program's words stand for, step by step. -/
import Derived.RangeFuncRecord
import Derived.OrdersIn
import Derived.TacticsIn
import Derived.Laws.AppendOwn
import Derived.Laws.Rows
import Derived.Laws.Strings
import Derived.Laws.Slices
import Derived.Laws.Cells
import Derived.Laws.IdiomCopy
import Derived.Laws.MakeOwn
import Derived.Laws.Append
import Derived.Lib.ConvBytes
import Derived.RangeFuncIn
set_option linter.unusedVariables false
set_option linter.unusedSimpArgs false
section
/- Plain values, and how a value in a world stands for one. No program in sight. -/
namespace Go.Proofs.Ytbpjaiemlkcccaa.Pv
theorem nlb {n m : Nat} (h : Nat.ble n m = true) : n ≤ m := Nat.le_of_ble_eq_true h
open Go
inductive Own where
  | sh | ow | ex
  | tb (e : Nat)
  deriving DecidableEq
inductive PV where
  | dead
  | bool (b : Bool)
  | int (k : IntKind) (n : Int)
  | str (s : ByteArray)
  | sl (o : Own) (sz : Nat) (es : List PV)
  | agg (cs : List PV)
  | tup (vs : List PV)
  | ptr (i off : Nat)
  | cref (cs : List PV)
  | bsl (i off sz len cap : Nat)
  | fn (f : Fn) (first cap : List PV)
  | nilfn
  | nilif
  | yld (i : Nat)
  | nilptr
  | nils (sz : Nat)
  | bnil (i T k : Nat)
  | tptr (i T k : Nat)
  | xsl (i off sz len cap : Nat)
  | tsl (i e n len cap : Nat)
  | raw (t : TypeId) (v : Value)
inductive Ent where
  | cells (cs : List PV)
  | gone
  | loop (st : LoopState) (pend : Option Code) (rec : Loop) (env0 : List (Nat × PV))
abbrev Sto := List Ent
abbrev Env := List (Nat × PV)
def look : Env → Nat → PV
  | [], _ => .dead
  | (k, v) :: r, t => bif Nat.beq k t then v else look r t
def PV.cells : PV → List PV
  | .agg cs => cs
  | v => [v]
def flat : List PV → List PV
  | [] => []
  | e :: r => e.cells ++ flat r
mutual
def PV.lt (n : Nat) : PV → Prop
  | .ptr i _ => i < n
  | .bsl i _ _ _ _ => i < n
  | .xsl i _ _ _ cap => cap = 0 ∨ i < n
  | .bnil i _ _ => i < n
  | .tptr i _ _ => i < n
  | .tsl i _ _ _ _ => i < n
  | .tup vs => o6 n vs
  | .agg cs => o6 n cs
  | .fn _ a b => o6 n a ∧ o6 n b
  | .yld i => i < n
  | _ => True
def o6 (n : Nat) : List PV → Prop
  | [] => True
  | v :: r => v.lt n ∧ o6 n r
end
theorem mo {n : Nat} {l : List PV} : o6 n l ↔ ∀ v ∈ l, v.lt n := by
  induction l with
  | nil => simp [o6]
  | cons v r ih => simp [o6, ih]
inductive Kind where
  | free
  | imm (p : Nat)
  | own
  | box (i : Nat)
  | keep
structure Bx where
  b : Nat
  ty : Nat × Nat
  st : Bool
instance : CoeOut Bx Nat := ⟨Bx.b⟩
structure Gh where
  K : Nat → Kind
  bs : Nat → Bx
inductive RepP (K : Nat → Kind) (w : World) : Value → PV → Prop
  | bool (b : Bool) : RepP K w (.bool b) (.bool b)
  | int (k : IntKind) (n : Int) : RepP K w (.int k n) (.int k n)
  | str (s : ByteArray) : RepP K w (.string s) (.str s)
  | nilfn : RepP K w .nilFunc .nilfn
  | nilif : RepP K w .nilIface .nilif
  | nilptr : RepP K w (.pointer none) .nilptr
  | nils (sz : Nat) : RepP K w (.slice none 0 0) (.nils sz)
  | raw (t : TypeId) (v : Value) : RepP K w (.iface t v) (.raw t v)
  | agg (vs : Array Value) (cs : List PV) (hl : vs.size = cs.length) (h : ∀ (j : Nat) v c, vs[j]? = some v → cs[j]? = some c → RepP K w v c) : RepP K w (.agg vs) (.agg cs)
  | sl0 (a : Option Addr) (cap sz : Nat) : RepP K w (.slice a 0 cap) (.sl .sh sz [])
  | sl (ad : Addr) (cap sz p : Nat) (es : List PV) (vs : Nat → Value) (hs : ad.spot = none) (hK : K ad.block = .imm p) (hp : ad.off + es.length * sz ≤ p) (hc : es.length ≤ cap)
      (hsz : ∀ e ∈ es, e.cells.length = sz) (hv : ∀ j, j < es.length * sz → w.cell? ⟨ad.block, ad.off + j, none⟩ = some (vs j))
      (hr : ∀ j c, (flat es)[j]? = some c → RepP K w (vs j) c) : RepP K w (.slice (some ad) es.length cap) (.sl .sh sz es)
inductive RepS (G : Gh) (w : World) : Value → PV → Prop
  | pl {v : Value} {p : PV} (h : RepP G.K w v p) : RepS G w v p
  | ptr (i off : Nat) : RepS G w (.pointer (some ⟨G.bs i, off, none⟩)) (.ptr i off)
  | yld (i : Nat) : RepS G w (.func (.yield (G.bs i)) #[] #[]) (.yld i)
  | bnil (i T k : Nat) (h : (G.bs i).ty = (T, k)) : RepS G w (.pointer none) (.bnil i T k)
  | tptr (i T k : Nat) (h : (G.bs i).ty = (T, k)) : RepS G w (.pointer (some ⟨G.bs i, 0, none⟩)) (.tptr i T k)
  | bsl (a : Option Addr) (i off sz len cap cap' : Nat) (h : len ≤ cap) (hc : cap ≤ cap') (ho : cap = 0 ∨ a = some ⟨G.bs i, off, none⟩) : RepS G w (.slice a len cap') (.bsl i off sz len cap)
  | xsl (a : Option Addr) (i off sz len cap : Nat) (h : len ≤ cap) (ho : cap = 0 ∨ (a = some ⟨G.bs i, off, none⟩ ∧ (G.bs i).st = false)) : RepS G w (.slice a len cap) (.xsl i off sz len cap)
  | cref (ad : Addr) (p : Nat) (cs : List PV) (vs : Nat → Value) (hs : ad.spot = none) (hK : G.K ad.block = .imm p) (hp : ad.off + cs.length ≤ p)
      (hv : ∀ j, j < cs.length → w.cell? ⟨ad.block, ad.off + j, none⟩ = some (vs j)) (hr : ∀ j c, cs[j]? = some c → RepP G.K w (vs j) c) : RepS G w (.pointer (some ad)) (.cref cs)
  | tsl (i e n len cap : Nat) (h : (G.bs i).ty = (e, n)) : RepS G w (.slice (some ⟨G.bs i, 0, none⟩) len cap) (.tsl i e n len cap)
  | agg (vs : Array Value) (cs : List PV) (hl : vs.size = cs.length) (h : ∀ (j : Nat) v c, vs[j]? = some v → cs[j]? = some c → RepS G w v c) : RepS G w (.agg vs) (.agg cs)
  | fn (f : Fn) (xs ys : Array Value) (as bs : List PV) (hx : xs.size = as.length) (hy : ys.size = bs.length)
      (ha : ∀ (j : Nat) v c, xs[j]? = some v → as[j]? = some c → RepS G w v c) (hb : ∀ (j : Nat) v c, ys[j]? = some v → bs[j]? = some c → RepS G w v c) : RepS G w (.func f xs ys) (.fn f as bs)
def aav (w : World) (b lo hi : Nat) : Prop := ∃ arr T fz, w.heap[b]? = some (.cells arr T fz) ∧ hi ≤ arr.size ∧ ∀ j, lo ≤ j → j < hi → w.frozen? ⟨b, j, none⟩ = false
inductive RepO (G : Gh) (w : World) : Value → PV → Prop
  | dead (v : Value) : RepO G w v .dead
  | sh {v : Value} {p : PV} (h : RepS G w v p) : RepO G w v p
  | ow (a : Option Addr) (cap sz : Nat) (es : List PV) (h : RepP G.K w (.slice a es.length cap) (.sl .sh sz es))
      (ho : es.length < cap → ∃ ad, a = some ad ∧ ad.spot = none ∧ G.K ad.block = .imm (ad.off + es.length * sz) ∧ aav w ad.block (ad.off + es.length * sz) (ad.off + cap * sz)) :
      RepO G w (.slice a es.length cap) (.sl .ow sz es)
  | tb0 (a : Option Addr) (e sz : Nat) : RepO G w (.slice a 0 0) (.sl (.tb e) sz [])
  | tb (b cap e sz : Nat) (es : List PV) (vs : Nat → Value) (hK : G.K b = .own) (hc : es.length ≤ cap) (h0 : 0 < cap) (hsp : aav w b 0 (cap * sz)) (hsh : w.shape? b = some (e, cap * sz))
      (hsz : ∀ e ∈ es, e.cells.length = sz) (hv : ∀ j, j < es.length * sz → w.cell? ⟨b, j, none⟩ = some (vs j))
      (hr : ∀ j c, (flat es)[j]? = some c → RepP G.K w (vs j) c) : RepO G w (.slice (some ⟨b, 0, none⟩) es.length cap) (.sl (.tb e) sz es)
  | ex0 (a : Option Addr) (sz : Nat) : RepO G w (.slice a 0 0) (.sl .ex sz [])
  | ex (b cap sz : Nat) (es : List PV) (vs : Nat → Value) (hK : G.K b = .own) (hc : es.length ≤ cap) (h0 : 0 < cap) (hsp : aav w b 0 (cap * sz))
      (hsz : ∀ e ∈ es, e.cells.length = sz) (hv : ∀ j, j < es.length * sz → w.cell? ⟨b, j, none⟩ = some (vs j))
      (hr : ∀ j c, (flat es)[j]? = some c → RepP G.K w (vs j) c) : RepO G w (.slice (some ⟨b, 0, none⟩) es.length cap) (.sl .ex sz es)
inductive Rep (G : Gh) (w : World) : Value → PV → Prop
  | one {v : Value} {p : PV} (h : RepO G w v p) : Rep G w v p
  | tup (vs : Array Value) (ps : List PV) (hl : vs.size = ps.length) (h : ∀ (j : Nat) v c, vs[j]? = some v → ps[j]? = some c → RepO G w v c) : Rep G w (.tuple vs) (.tup ps)
def ownB : Value → PV → Option Nat
  | .slice (some ad) len cap, .sl .ow _ _ => if len < cap then some ad.block else none
  | .slice (some ad) _ cap, .sl (.tb _) _ _ => if 0 < cap then some ad.block else none
  | .slice (some ad) _ cap, .sl .ex _ _ => if 0 < cap then some ad.block else none
  | _, _ => none
inductive Loc where
  | slot (t j : Nat)
  | cell (i j : Nat)
  deriving DecidableEq
def o8 (v : Value) (p : PV) (j : Nat) : Option Nat :=
  match p, v with
  | .tup ps, .tuple vs => (match vs[j]?, ps[j]? with | some v, some p => ownB v p | _, _ => none)
  | p, v => if j = 0 then ownB v p else none
def nz (G : Gh) (env : Env) (σ : Sto) (tmps : Array Value) (w : World) : Loc → Option Nat
  | .slot t j => o8 (tmps.getD t undef) (look env t) j
  | .cell i j => match σ[i]? with
    | some (.cells cs) => (match cs[j]?, w.cell? ⟨G.bs i, j, none⟩ with | some c, some v => ownB v c | _, _ => none)
    | _ => none
structure SpareB (w : World) (x : Bx) (hi : Nat) : Prop where
  sp : aav w x.b 0 hi
  sh : w.shape? x.b = some x.ty
  nf : x.st = false → ∀ j, w.frozen? ⟨x.b, j, none⟩ = false
def als (G : Gh) (w : World) (i : Nat) : Ent → Prop
  | .cells cs => G.K (G.bs i) = .box i ∧ SpareB w (G.bs i) cs.length ∧ ∀ j c, cs[j]? = some c → ∃ v, w.cell? ⟨G.bs i, j, none⟩ = some v ∧ RepO G w v c
  | .gone => True
  | .loop st pend r env0 => G.K (G.bs i) = .box i ∧ w.heap[(G.bs i).b]? = some (.loop { r with state := st, pending := pend }) ∧ ∀ t, look env0 t = .dead ∨ RepS G w (r.tmps.getD t undef) (look env0 t)
def Ent.lt (n : Nat) : Ent → Prop
  | .cells cs => o6 n cs
  | .loop _ _ _ env0 => ∀ t, (look env0 t).lt n
  | _ => True
def Marks (K : Nat → Kind) (w : World) (base : List Deferred) : List Deferred → Prop
  | [] => base = []
  | d :: r => (d :: r = base ∧ ∀ d' ∈ d :: r, ∀ b, d'.target ≠ .collected b) ∨ ((∃ b, d = { target := .collected b, args := #[] } ∧ K b = .keep ∧ w.heap[b]? = some (.deferred (some [])) ∧ ∀ d' ∈ r, d' ≠ d) ∧ Marks K w base r)
structure Fr where
  p : Nat → Prop
  ds : List Deferred
instance : CoeFun Fr fun _ => Nat → Prop := ⟨Fr.p⟩
instance : Coe Fr (Nat → Prop) := ⟨Fr.p⟩
structure Sim (n m : Nat) (F : Fr) (G : Gh) (env : Env) (σ : Sto) (a : Act) (w : World) : Prop where
  size : a.tmps.size = n
  rep : ∀ t, Rep G w (a.tmps.getD t undef) (look env t)
  envlt : ∀ t, (look env t).lt σ.length
  sto : ∀ i e, σ[i]? = some e → als G w i e
  stolt : ∀ (i : Nat) e, σ[i]? = some e → e.lt σ.length
  kfree : ∀ b, G.K b ≠ .free → b < w.heap.size
  inj : ∀ i e, σ[i]? = some e → (∃ c, e = .cells c) ∨ (∃ x y z u, e = .loop x y z u) → ¬ F (G.bs i)
  uniq : ∀ l1 l2 b, nz G env σ a.tmps w l1 = some b → nz G env σ a.tmps w l2 = some b → l1 = l2
  fr : ∀ l b, nz G env σ a.tmps w l = some b → ¬ F b
  frlt : ∀ b, F b → b < w.heap.size
  marks : Marks G.K w F.ds a.defers
  markF : ∀ d ∈ a.defers, ∀ b, d.target = .collected b → ¬ F b
  floor : m ≤ σ.length
structure Evol (m : Nat) (F : Nat → Prop) (G : Gh) (w : World) (G' : Gh) (w' : World) : Prop where
  os : w'.os = w.os
  tape : w'.tape = w.tape
  output : w'.output = w.output
  size : w.heap.size ≤ w'.heap.size
  fr : ∀ b, F b → w'.heap[b]? = w.heap[b]? ∧ G'.K b = G.K b
  imm : ∀ b p, G.K b = .imm p → ∃ p', (p ≤ p' ∧ w'.shape? b = w.shape? b) ∧ G'.K b = .imm p' ∧ ∀ j, j < p → w'.cell? ⟨b, j, none⟩ = w.cell? ⟨b, j, none⟩
  bs : ∀ i, i < m → G'.bs i = G.bs i
theorem Evol.refl (m : Nat) (F : Nat → Prop) (G : Gh) (w : World) : Evol m F G w G w :=
  ⟨rfl, rfl, rfl, Nat.le_refl _, fun _ _ => ⟨rfl, rfl⟩, fun _ p h => ⟨p, ⟨Nat.le_refl _, rfl⟩, h, fun _ _ => rfl⟩, fun _ _ => rfl⟩
theorem Evol.trans {m : Nat} {F : Nat → Prop} {G1 G2 G3 : Gh} {w1 w2 w3 : World} (h : Evol m F G1 w1 G2 w2) (k : Evol m F G2 w2 G3 w3) : Evol m F G1 w1 G3 w3 := by
  refine ⟨k.os.trans h.os, k.tape.trans h.tape, k.output.trans h.output, Nat.le_trans h.size k.size, fun b hb => ?_, fun b p hp => ?_, fun i hi => (k.bs i hi).trans (h.bs i hi)⟩
  · exact ⟨(k.fr b hb).1.trans (h.fr b hb).1, (k.fr b hb).2.trans (h.fr b hb).2⟩
  · obtain ⟨p', h1, h2, h3⟩ := h.imm b p hp
    obtain ⟨p'', k1, k2, k3⟩ := k.imm b p' h2
    exact ⟨p'', ⟨Nat.le_trans h1.1 k1.1, k1.2.trans h1.2⟩, k2, fun j hj => (k3 j (by omega)).trans (h3 j hj)⟩
end Go.Proofs.Ytbpjaiemlkcccaa.Pv
end
section
/- What stays when a world goes on; a slot that is set; a new block. -/
namespace Go.Proofs.Ytbpjaiemlkcccaa.Pv
open Go
def wh (K : Nat → Kind) (w : World) (K' : Nat → Kind) (w' : World) : Prop :=
  ∀ b p, K b = .imm p → ∃ p', (p ≤ p' ∧ w'.shape? b = w.shape? b) ∧ K' b = .imm p' ∧ ∀ j, j < p → w'.cell? ⟨b, j, none⟩ = w.cell? ⟨b, j, none⟩
theorem Evol.le {m : Nat} {F : Fr} {G G' : Gh} {w w' : World} (h : Evol m F G w G' w') : wh G.K w G'.K w' := h.imm
theorem wh.refl (K : Nat → Kind) (w : World) : wh K w K w := fun _ p h => ⟨p, ⟨Nat.le_refl _, rfl⟩, h, fun _ _ => rfl⟩
theorem vg {es : List PV} {sz : Nat} (h : ∀ e ∈ es, e.cells.length = sz) : (flat es).length = es.length * sz := by
  induction es with
  | nil => simp [flat]
  | cons e r ih =>
    simp only [flat, List.length_append, List.length_cons]
    rw [h e (by simp), ih (fun x hx => h x (by simp [hx])), Nat.succ_mul, Nat.add_comm]
theorem RepP.mono {K K' : Nat → Kind} {w w' : World} {v : Value} {p : PV} (h : RepP K w v p) (hle : wh K w K' w') : RepP K' w' v p := by
  induction h with
  | bool b => exact .bool b
  | int k n => exact .int k n
  | str s => exact .str s
  | nilfn => exact .nilfn
  | nilif => exact .nilif
  | nilptr => exact .nilptr
  | nils sz => exact .nils sz
  | raw t v => exact .raw t v
  | agg vs cs hl _ ih => exact .agg vs cs hl ih
  | sl0 a cap sz => exact .sl0 a cap sz
  | sl ad cap sz p es vs hs hK hp hc hsz hv _ ih =>
    obtain ⟨p', h1, h2, h3⟩ := hle _ _ hK
    exact .sl ad cap sz p' es vs hs h2 (by omega) hc hsz (fun j hj => by rw [h3 _ (by omega)]; exact hv j hj) ih
theorem RepS.mono {G G' : Gh} {w w' : World} {v : Value} {p : PV} {n : Nat} (h : RepS G w v p) (hle : wh G.K w G'.K w') (hbs : ∀ i, i < n → G'.bs i = G.bs i) (hlt : p.lt n) : RepS G' w' v p := by
  induction h with
  | pl h => exact .pl (h.mono hle)
  | ptr i off => simp only [PV.lt] at hlt; rw [← hbs i hlt]; exact .ptr i off
  | yld i => simp only [PV.lt] at hlt; rw [← hbs i hlt]; exact .yld i
  | bnil i T k h => simp only [PV.lt] at hlt; rw [← hbs i hlt] at h; exact .bnil i T k h
  | tptr i T k h => simp only [PV.lt] at hlt; rw [← hbs i hlt] at h ⊢; exact .tptr i T k h
  | bsl a i off sz len cap cap' h1 h2 h3 => simp only [PV.lt] at hlt; rw [← hbs i hlt] at h3; exact .bsl a i off sz len cap cap' h1 h2 h3
  | xsl a i off sz len cap h1 h3 =>
    simp only [PV.lt] at hlt
    refine .xsl a i off sz len cap h1 ?_
    rcases hlt with e | hlt
    · exact .inl e
    · rw [hbs i hlt]; exact h3
  | cref ad p cs vs hs hK hp hv hr =>
    obtain ⟨p', h1, h2, h3⟩ := hle _ _ hK
    exact .cref ad p' cs vs hs h2 (by omega) (fun j hj => by rw [h3 _ (by omega)]; exact hv j hj) (fun j c hc => (hr j c hc).mono hle)
  | tsl i e k len cap h => simp only [PV.lt] at hlt; rw [← hbs i hlt] at h ⊢; exact .tsl i e k len cap h
  | agg vs cs hl _ ih =>
    simp only [PV.lt] at hlt
    exact .agg vs cs hl fun j v c hv hc => ih j v c hv hc (mo.1 hlt c (List.mem_of_getElem? hc))
  | fn f xs ys as bs hx hy _ _ ih1 ih2 =>
    simp only [PV.lt] at hlt
    exact .fn f xs ys as bs hx hy (fun j v c hv hc => ih1 j v c hv hc (mo.1 hlt.1 c (List.mem_of_getElem? hc)))
      (fun j v c hv hc => ih2 j v c hv hc (mo.1 hlt.2 c (List.mem_of_getElem? hc)))
theorem aav.mono {w w' : World} {b lo hi : Nat} (h : aav w b lo hi) (hb : w'.heap[b]? = w.heap[b]?) : aav w' b lo hi := by
  obtain ⟨arr, T, fz, h1, h2, h3⟩ := h
  exact ⟨arr, T, fz, hb.trans h1, h2, fun j hj hk => by rw [World.frozen?_of_block (w := w) (a := ⟨b, j, none⟩) hb]; exact h3 j hj hk⟩
theorem ab3 {w w' : World} {b : Nat} (hb : w'.heap[b]? = w.heap[b]?) : w'.shape? b = w.shape? b := by simp [World.shape?, hb]
theorem SpareB.mono {w w' : World} {x : Bx} {hi : Nat} (h : SpareB w x hi) (hb : w'.heap[x.b]? = w.heap[x.b]?) : SpareB w' x hi := ⟨h.sp.mono hb, (ab3 hb).trans h.sh, fun hst j => by rw [World.frozen?_of_block (w := w) (a := ⟨x.b, j, none⟩) hb]; exact h.nf hst j⟩
theorem aav.sub {w : World} {b lo hi lo' hi' : Nat} (h : aav w b lo hi) (h1 : lo ≤ lo') (h2 : hi' ≤ hi) : aav w b lo' hi' := by
  obtain ⟨arr, T, fz, k1, k2, k3⟩ := h
  exact ⟨arr, T, fz, k1, by omega, fun j hj hk => k3 j (by omega) (by omega)⟩
theorem aav.lt {w : World} {b lo hi : Nat} (h : aav w b lo hi) : b < w.heap.size := by
  obtain ⟨arr, T, fz, k1, _⟩ := h
  exact (Array.getElem?_eq_some_iff.1 k1).1
theorem zi {w w' : World} {b j : Nat} (h : w'.heap[b]? = w.heap[b]?) : w'.cell? ⟨b, j, none⟩ = w.cell? ⟨b, j, none⟩ := World.cell?_of_block (w := w) (a := ⟨b, j, none⟩) h
theorem RepO.mono {G G' : Gh} {w w' : World} {v : Value} {p : PV} {n : Nat} (h : RepO G w v p) (hle : wh G.K w G'.K w') (hbs : ∀ i, i < n → G'.bs i = G.bs i) (hlt : p.lt n)
    (hown : ∀ b, ownB v p = some b → w'.heap[b]? = w.heap[b]? ∧ G'.K b = G.K b) : RepO G' w' v p := by
  cases h with
  | dead => exact .dead _
  | sh h => exact .sh (h.mono hle hbs hlt)
  | ow a cap sz es h ho =>
    refine .ow a cap sz es (h.mono hle) fun hlt' => ?_
    obtain ⟨ad, rfl, h1, h2, h3⟩ := ho hlt'
    obtain ⟨e1, e2⟩ := hown ad.block (by simp [ownB, hlt'])
    exact ⟨ad, rfl, h1, e2.trans h2, h3.mono e1⟩
  | tb0 a e sz => exact .tb0 a e sz
  | tb b cap e sz es vs hK hc h0 hsp hsh hsz hv hr =>
    obtain ⟨e1, e2⟩ := hown b (by simp [ownB, h0])
    exact .tb b cap e sz es vs (e2.trans hK) hc h0 (hsp.mono e1) ((ab3 e1).trans hsh) hsz (fun j hj => (zi e1).trans (hv j hj)) (fun j c hc' => (hr j c hc').mono hle)
  | ex0 a sz => exact .ex0 a sz
  | ex b cap sz es vs hK hc h0 hsp hsz hv hr =>
    obtain ⟨e1, e2⟩ := hown b (by simp [ownB, h0])
    exact .ex b cap sz es vs (e2.trans hK) hc h0 (hsp.mono e1) hsz (fun j hj => (zi e1).trans (hv j hj)) (fun j c hc' => (hr j c hc').mono hle)
theorem Rep.mono {G G' : Gh} {w w' : World} {v : Value} {p : PV} {n : Nat} (h : Rep G w v p) (hle : wh G.K w G'.K w') (hbs : ∀ i, i < n → G'.bs i = G.bs i) (hlt : p.lt n)
    (hown : ∀ j b, o8 v p j = some b → w'.heap[b]? = w.heap[b]? ∧ G'.K b = G.K b) : Rep G' w' v p := by
  cases h with
  | one h =>
    refine .one (h.mono hle hbs hlt fun b hb => hown 0 b ?_)
    unfold o8
    cases p <;> first | (cases v <;> simp_all [ownB]; done) | simpa using hb
  | tup vs ps hl h =>
    simp only [PV.lt] at hlt
    exact .tup vs ps hl fun j v c hv hc => (h j v c hv hc).mono hle hbs (mo.1 hlt c (List.mem_of_getElem? hc)) fun b hb => hown j b (by simp [o8, hv, hc, hb])
theorem yz {G : Gh} {w : World} {v : Value} {p : PV} (h : RepS G w v p) : ownB v p = none := by
  cases h with
  | pl h => cases h <;> first | rfl | (rename_i a _ _; cases a <;> rfl)
  | bsl a => cases a <;> rfl
  | xsl a => cases a <;> rfl
  | _ => rfl
theorem ag2 {G : Gh} {w : World} {v : Value} {p : PV} (h : RepS G w v p) (j : Nat) : o8 v p j = none := by
  have h0 := yz h
  unfold o8
  split
  · cases h with
    | pl h => cases h
  · split
    · exact h0
    · rfl
def PV.isS : PV → Bool
  | .dead | .tup _ | .sl .ow _ _ | .sl (.tb _) _ _ | .sl .ex _ _ => false
  | _ => true
theorem RepO.toS {G : Gh} {w : World} {v : Value} {p : PV} (h : RepO G w v p) (hp : p.isS = true) : RepS G w v p := by
  cases h with
  | sh h => exact h
  | _ => cases hp
theorem Rep.toS {G : Gh} {w : World} {v : Value} {p : PV} (h : Rep G w v p) (hp : p.isS = true) : RepS G w v p := by
  cases h with
  | one h => exact h.toS hp
  | tup => cases hp
theorem Rep.toO {G : Gh} {w : World} {v : Value} {p : PV} (h : Rep G w v p) (hp : ∀ ps, p ≠ .tup ps) : RepO G w v p := by
  cases h with
  | one h => exact h
  | tup => exact absurd rfl (hp _)
section
variable {G : Gh} {w : World} {v : Value}
theorem RepS.bool {b : Bool} (h : RepS G w v (.bool b)) : v = .bool b := by cases h with | pl h => cases h; rfl
theorem RepS.int {k : IntKind} {n : Int} (h : RepS G w v (.int k n)) : v = .int k n := by cases h with | pl h => cases h; rfl
theorem RepS.str {s : ByteArray} (h : RepS G w v (.str s)) : v = .string s := by cases h with | pl h => cases h; rfl
theorem RepS.nilfn (h : RepS G w v .nilfn) : v = .nilFunc := by cases h with | pl h => cases h; rfl
theorem RepS.nilif (h : RepS G w v .nilif) : v = .nilIface := by cases h with | pl h => cases h; rfl
theorem RepS.ptrv {i off : Nat} (h : RepS G w v (.ptr i off)) : v = .pointer (some ⟨G.bs i, off, none⟩) := by
  cases h with
  | pl h => cases h
  | ptr => rfl
theorem RepS.bslv {i off sz len cap : Nat} (h : RepS G w v (.bsl i off sz len cap)) : ∃ a cap', v = .slice a len cap' ∧ len ≤ cap ∧ cap ≤ cap' ∧ (cap = 0 ∨ a = some ⟨G.bs i, off, none⟩) := by
  cases h with
  | pl h => cases h
  | bsl _ _ _ _ _ _ _ h1 h2 h3 => exact ⟨_, _, rfl, h1, h2, h3⟩
theorem RepS.xslv {i off sz len cap : Nat} (h : RepS G w v (.xsl i off sz len cap)) : ∃ a, v = .slice a len cap ∧ len ≤ cap ∧ (cap = 0 ∨ (a = some ⟨G.bs i, off, none⟩ ∧ (G.bs i).st = false)) := by
  cases h with
  | pl h => cases h
  | xsl _ _ _ _ _ _ h1 h3 => exact ⟨_, rfl, h1, h3⟩
theorem RepS.slv {sz : Nat} {es : List PV} (h : RepS G w v (.sl .sh sz es)) : RepP G.K w v (.sl .sh sz es) := by cases h with | pl h => exact h
theorem RepS.crefv {cs : List PV} (h : RepS G w v (.cref cs)) : ∃ (ad : Addr) (p : Nat) (vs : Nat → Value), v = .pointer (some ad) ∧ ad.spot = none ∧ G.K ad.block = .imm p ∧ ad.off + cs.length ≤ p ∧
    (∀ j, j < cs.length → w.cell? ⟨ad.block, ad.off + j, none⟩ = some (vs j)) ∧ ∀ j c, cs[j]? = some c → RepP G.K w (vs j) c := by
  cases h with
  | pl h => cases h
  | cref ad p cs vs hs hK hp hv hr => exact ⟨ad, p, vs, rfl, hs, hK, hp, hv, hr⟩
theorem RepS.aggv {cs : List PV} (h : RepS G w v (.agg cs)) : ∃ vs : Array Value, v = .agg vs ∧ vs.size = cs.length ∧ ∀ (j : Nat) v c, vs[j]? = some v → cs[j]? = some c → RepS G w v c := by
  cases h with
  | pl h => cases h with
    | agg vs cs hl h => exact ⟨vs, rfl, hl, fun j v c h1 h2 => .pl (h j v c h1 h2)⟩
  | agg vs cs hl h => exact ⟨vs, rfl, hl, h⟩
theorem RepS.fnv {f : Fn} {as bs : List PV} (h : RepS G w v (.fn f as bs)) : ∃ xs ys : Array Value, v = .func f xs ys ∧ xs.size = as.length ∧ ys.size = bs.length ∧
    (∀ (j : Nat) v c, xs[j]? = some v → as[j]? = some c → RepS G w v c) ∧ ∀ (j : Nat) v c, ys[j]? = some v → bs[j]? = some c → RepS G w v c := by
  cases h with
  | pl h => cases h
  | fn f xs ys as bs hx hy ha hb => exact ⟨xs, ys, rfl, hx, hy, ha, hb⟩
theorem RepP.slv {K : Nat → Kind} {sz : Nat} {es : List PV} (h : RepP K w v (.sl .sh sz es)) : ∃ a cap, v = .slice a es.length cap ∧ (es = [] ∨ ∃ (ad : Addr) (p : Nat) (vs : Nat → Value), a = some ad ∧ ad.spot = none ∧ K ad.block = .imm p ∧
    ad.off + es.length * sz ≤ p ∧ es.length ≤ cap ∧ (∀ e ∈ es, e.cells.length = sz) ∧ (∀ j, j < es.length * sz → w.cell? ⟨ad.block, ad.off + j, none⟩ = some (vs j)) ∧ ∀ j c, (flat es)[j]? = some c → RepP K w (vs j) c) := by
  cases h with
  | sl0 a cap sz => exact ⟨a, cap, rfl, .inl rfl⟩
  | sl ad cap sz p es vs hs hK hp hc hsz hv hr => exact ⟨some ad, cap, rfl, .inr ⟨ad, p, vs, rfl, hs, hK, hp, hc, hsz, hv, hr⟩⟩
end
theorem RepP.lt {K : Nat → Kind} {w : World} {v : Value} {p : PV} (h : RepP K w v p) (n : Nat) : p.lt n := by
  induction h with
  | agg us ds hl' _ ih =>
    simp only [PV.lt]; rw [mo]; intro v' hv'
    obtain ⟨k, hk, rfl⟩ := List.getElem_of_mem hv'
    exact ih k us[k] ds[k] (by simp) (by simp [hk])
  | _ => trivial
theorem RepS.notup {G : Gh} {w : World} {v : Value} {ps : List PV} (h : RepS G w v (.tup ps)) : False := by cases h with | pl h => cases h
theorem zn (v : Value) (j : Nat) : o8 v .dead j = none := by
  unfold o8; cases v <;> simp [ownB]
theorem qg (d : Nat) (p : PV) (env : Env) (t : Nat) : look ((d, p) :: env) t = if t = d then p else look env t := by
  simp only [look]
  by_cases h : t = d
  · simp [h]
  · rw [if_neg h]
    have : Nat.beq d t = false := by
      cases hb : Nat.beq d t with
      | false => rfl
      | true => exact absurd (Nat.eq_of_beq_eq_true hb).symm h
    simp [this]
theorem agx {a : Act} {d t : Nat} {v : Value} (hd : d < a.tmps.size) : (a.put (some d) v).tmps.getD t undef = if t = d then v else a.tmps.getD t undef := by
  simp only [Act.put]
  by_cases h : t = d
  · subst h; simp [hd]
  · rw [if_neg h]
    simp [Array.getElem?_setIfInBounds_ne (Ne.symm h)]
theorem Marks.mono {K K' : Nat → Kind} {w w' : World} {base : List Deferred} : ∀ {l : List Deferred}, Marks K w base l → (∀ d ∈ l, ∀ b, d.target = .collected b → w'.heap[b]? = w.heap[b]? ∧ K' b = K b) → Marks K' w' base l
  | [], h, _ => h
  | d :: r, h, hs => by
    rcases h with h | ⟨⟨b, rfl, h1, h2, h3⟩, h4⟩
    · exact .inl h
    · obtain ⟨e1, e2⟩ := hs _ List.mem_cons_self b rfl
      exact .inr ⟨⟨b, rfl, e2.trans h1, e1.trans h2, h3⟩, h4.mono fun d' hd' => hs d' (by simp [hd'])⟩
theorem Marks.kind {K : Nat → Kind} {w : World} {base : List Deferred} : ∀ {l : List Deferred}, Marks K w base l → ∀ d ∈ l, ∀ b, d.target = .collected b → d = { target := .collected b, args := #[] } ∧ K b = .keep ∧ b < w.heap.size
  | d' :: r, h, d, hd, b, hb => by
    rcases h with h | ⟨⟨b', e1, e2, e3, _⟩, h4⟩
    · exact absurd hb (h.2 d hd b)
    · cases hd with
      | head => subst e1; cases hb; exact ⟨rfl, e2, (Array.getElem?_eq_some_iff.1 e3).1⟩
      | tail _ hd => exact h4.kind d hd b hb
section
variable {n m : Nat} {F : Fr} {G : Gh} {env : Env} {σ : Sto} {a : Act} {w : World}
theorem Sim.set (h : Sim n m F G env σ a w) {d : Nat} {v : Value} {p : PV} (hd : d < n) (hv : Rep G w v p) (hlt : p.lt σ.length)
    (hF : ∀ j b, o8 v p j = some b → ¬ F b ∧ ∀ l, nz G env σ a.tmps w l = some b → ∃ j', l = .slot d j')
    (hi : ∀ j1 j2 b, o8 v p j1 = some b → o8 v p j2 = some b → j1 = j2) : Sim n m F G ((d, p) :: env) σ (a.put (some d) v) w := by
  have hsz : d < a.tmps.size := by rw [h.size]; exact hd
  have key : ∀ l b, nz G ((d, p) :: env) σ (a.put (some d) v).tmps w l = some b → (∃ j, l = .slot d j ∧ o8 v p j = some b) ∨ (nz G env σ a.tmps w l = some b ∧ ∀ j, l ≠ .slot d j) := by
    intro l b hl
    cases l with
    | slot t j =>
      simp only [nz, agx hsz, qg] at hl
      by_cases e : t = d
      · subst e; simp only [if_true] at hl; exact .inl ⟨j, rfl, hl⟩
      · simp only [if_neg e] at hl; exact .inr ⟨hl, fun j' hj => e (by cases hj; rfl)⟩
    | cell i j => exact .inr ⟨hl, fun j' hj => by cases hj⟩
  refine ⟨by simpa [Act.put] using h.size, fun t => ?_, fun t => ?_, h.sto, h.stolt, h.kfree, h.inj, fun l1 l2 b h1 h2 => ?_, fun l b hl => ?_, h.frlt, h.marks, h.markF, h.floor⟩
  · rw [agx hsz, qg]; split
    · exact hv
    · exact h.rep t
  · rw [qg]; split
    · exact hlt
    · exact h.envlt t
  · rcases key l1 b h1 with ⟨j1, rfl, e1⟩ | ⟨e1, n1⟩ <;> rcases key l2 b h2 with ⟨j2, rfl, e2⟩ | ⟨e2, n2⟩
    · rw [hi j1 j2 b e1 e2]
    · obtain ⟨j', hj'⟩ := (hF j1 b e1).2 l2 e2; exact absurd hj' (n2 j')
    · obtain ⟨j', hj'⟩ := (hF j2 b e2).2 l1 e1; exact absurd hj' (n1 j')
    · exact h.uniq l1 l2 b e1 e2
  · rcases key l b hl with ⟨j, rfl, e⟩ | ⟨e, _⟩
    · exact (hF j b e).1
    · exact h.fr l b e
theorem Sim.setS (h : Sim n m F G env σ a w) {d : Nat} {v : Value} {p : PV} (hd : d < n) (hv : RepS G w v p) (hlt : p.lt σ.length) :
    Sim n m F G ((d, p) :: env) σ (a.put (some d) v) w :=
  h.set hd (.one (.sh hv)) hlt (fun j b hb => by rw [ag2 hv] at hb; cases hb) (fun j1 _ b hb => by rw [ag2 hv] at hb; cases hb)
theorem Sim.setDead (h : Sim n m F G env σ a w) {d : Nat} (v : Value) (hd : d < n) : Sim n m F G ((d, .dead) :: env) σ (a.put (some d) v) w :=
  h.set hd (.one (.dead v)) trivial (fun j b hb => by rw [zn] at hb; cases hb) (fun j1 _ b hb => by rw [zn] at hb; cases hb)
def Wk (p' p : PV) : Prop := p' = .dead ∨ p' = p ∨ ∃ sz es, p = .sl .ow sz es ∧ p' = .sl .sh sz es
theorem Wk.rep {p p' : PV} (h : Wk p' p) {v : Value} (hr : Rep G w v p) : Rep G w v p' := by
  rcases h with rfl | rfl | ⟨sz, es, rfl, rfl⟩
  · exact .one (.dead _)
  · exact hr
  · have := hr.toO (by simp)
    cases this with
    | sh h => cases h with | pl h => cases h
    | ow a cap sz es h _ => exact .one (.sh (.pl h))
theorem Wk.lt {p p' : PV} (h : Wk p' p) {k : Nat} (hr : p.lt k) : p'.lt k := by
  rcases h with rfl | rfl | ⟨sz, es, rfl, rfl⟩
  · trivial
  · exact hr
  · trivial
theorem Wk.own {p p' : PV} (h : Wk p' p) (v : Value) (j b : Nat) (ho : o8 v p' j = some b) : p' = p := by
  rcases h with rfl | rfl | ⟨sz, es, rfl, rfl⟩
  · rw [zn] at ho; cases ho
  · rfl
  · exfalso; unfold o8 at ho; cases v <;> simp [ownB] at ho
theorem Sim.weaken (h : Sim n m F G env σ a w) {env' : Env} (he : ∀ t, Wk (look env' t) (look env t)) : Sim n m F G env' σ a w := by
  have key : ∀ l b, nz G env' σ a.tmps w l = some b → nz G env σ a.tmps w l = some b := by
    intro l b hl
    cases l with
    | slot t j =>
      simp only [nz] at hl ⊢
      rw [← (he t).own _ _ _ hl]; exact hl
    | cell i j => exact hl
  exact ⟨h.size, fun t => (he t).rep (h.rep t), fun t => (he t).lt (h.envlt t), h.sto, h.stolt, h.kfree, h.inj, fun l1 l2 b h1 h2 => h.uniq l1 l2 b (key _ _ h1) (key _ _ h2), fun l b hl => h.fr l b (key l b hl), h.frlt, h.marks, h.markF, h.floor⟩
theorem Sim.world (h : Sim n m F G env σ a w) {G' : Gh} {w' : World} (hle : wh G.K w G'.K w') (hbs : ∀ i, i < σ.length → G'.bs i = G.bs i) (hsz : w.heap.size ≤ w'.heap.size)
    (hsame : ∀ b, b < w.heap.size → w'.heap[b]? = w.heap[b]? ∧ G'.K b = G.K b) (hk : ∀ b, w.heap.size ≤ b → G'.K b ≠ .free → b < w'.heap.size) : Sim n m F G' env σ a w' := by
  have hblk : ∀ b k, G.K b = k → k ≠ .free → w'.heap[b]? = w.heap[b]? ∧ G'.K b = G.K b := fun b k e hne => hsame b (h.kfree b (by rw [e]; exact hne))
  have hcell : ∀ i cs, σ[i]? = some (.cells cs) → w'.heap[(G.bs i).b]? = w.heap[(G.bs i).b]? ∧ G'.K (G.bs i) = G.K (G.bs i) ∧ G'.bs i = G.bs i := by
    intro i cs hi
    have h1 := h.sto i _ hi
    have := hblk (G.bs i) _ h1.1 (by simp)
    exact ⟨this.1, this.2, hbs i (List.getElem?_eq_some_iff.1 hi).1⟩
  have kB : ∀ v p b, RepO G w v p → ownB v p = some b → b < w.heap.size := by
    intro v p b hr hb
    cases hr with
    | dead => simp [ownB] at hb
    | sh hr => rw [yz hr] at hb; cases hb
    | ow a cap sz es hr ho =>
      cases a with
      | none => simp [ownB] at hb
      | some ad =>
        simp only [ownB] at hb
        split at hb
        · rename_i hlt
          obtain ⟨ad', e, _, _, h4⟩ := ho hlt
          cases e; cases hb; exact h4.lt
        · cases hb
    | tb0 a e sz => cases a <;> simp [ownB] at hb
    | tb b' cap e sz es vs hK hc h0 hsp hsh hsz hv hr => simp only [ownB, h0, if_true] at hb; cases hb; exact hsp.lt
    | ex0 a sz => cases a <;> simp [ownB] at hb
    | ex b' cap sz es vs hK hc h0 hsp hsz hv hr =>
      simp only [ownB, h0, if_true] at hb; cases hb; exact hsp.lt
  have kS : ∀ v p j b, Rep G w v p → o8 v p j = some b → b < w.heap.size := by
    intro v p j b hr hb
    cases hr with
    | one hr =>
      unfold o8 at hb
      split at hb
      · rename_i ps vs
        cases hr with
        | sh hr => cases hr with | pl hr => cases hr
      · split at hb
        · exact kB _ _ _ hr hb
        · cases hb
    | tup vs ps hl hr =>
      simp only [o8] at hb
      split at hb
      · rename_i v' p' hv hp; exact kB _ _ _ (hr j _ _ hv hp) hb
      · cases hb
  have key : ∀ l, nz G' env σ a.tmps w' l = nz G env σ a.tmps w l := by
    intro l
    cases l with
    | slot t j => rfl
    | cell i j =>
      simp only [nz]
      cases hi : σ[i]? with
      | none => rfl
      | some e =>
        cases e with
        | cells cs =>
          obtain ⟨e1, _, e3⟩ := hcell i cs hi
          simp only [e3, zi e1]
        | _ => rfl
  refine ⟨h.size, fun t => (h.rep t).mono hle hbs (h.envlt t) fun j b hb => hsame b (kS _ _ _ _ (h.rep t) hb), h.envlt, fun i e hi => ?_, h.stolt, fun b hb => ?_, fun i e hi hc => ?_, fun l1 l2 b h1 h2 => ?_, fun l b hl => ?_, fun b hb => Nat.lt_of_lt_of_le (h.frlt b hb) hsz, ?_, h.markF, h.floor⟩
  · have h1 := h.sto i e hi
    cases e with
    | cells cs =>
      obtain ⟨e1, e2, e3⟩ := hcell i cs hi
      obtain ⟨h2, h3, h4⟩ := h1
      refine ⟨by rw [e3, e2]; exact h2, by rw [e3]; exact h3.mono e1, fun j c hc => ?_⟩
      obtain ⟨v, hv, hr⟩ := h4 j c hc
      refine ⟨v, by rw [e3, zi e1]; exact hv, hr.mono hle hbs ?_ fun b hb => hsame b (kB _ _ _ hr hb)⟩
      have := h.stolt i _ hi
      simp only [Ent.lt] at this
      exact mo.1 this c (List.mem_of_getElem? hc)
    | gone => trivial
    | loop st pend r env0 =>
      obtain ⟨h2, h3, h4⟩ := h1
      have hb := hblk _ _ h2 (by simp)
      have e3 := hbs i (List.getElem?_eq_some_iff.1 hi).1
      exact ⟨by rw [e3, hb.2]; exact h2, by rw [e3, hb.1]; exact h3, fun t => (h4 t).imp_right fun hr => hr.mono hle hbs (h.stolt i _ hi t)⟩
  · by_cases hlt : b < w.heap.size
    · exact Nat.lt_of_lt_of_le hlt hsz
    · exact hk b (by omega) hb
  · rw [hbs i (List.getElem?_eq_some_iff.1 hi).1]; exact h.inj i e hi hc
  · rw [key] at h1 h2; exact h.uniq l1 l2 b h1 h2
  · rw [key] at hl; exact h.fr l b hl
  · refine h.marks.mono fun d hd b hb => hsame b ?_
    exact (h.marks.kind d hd b hb).2.2
end
end Go.Proofs.Ytbpjaiemlkcccaa.Pv
end
section
/- Triples over plain values: what a piece of code makes of an environment and a store. -/
namespace Go.Proofs.Ytbpjaiemlkcccaa.Pv
open Go
def Wd (l : Option Nat) : Fence := { Fence.wide with round := l }
abbrev Post := Exit → Env → Sto → Prop
def abz (n m : Nat) (F : Fr) (G : Gh) (w : World) (Q : Post) : Exit → Act → World → Prop := fun e a' w' =>
  ∃ G' env' σ', Q e env' σ' ∧ Sim n m F G' env' σ' a' w' ∧ Evol m F G w G' w'
structure Sat (P : Program) (l : Option Nat) (n m : Nat) (c : Code) (env : Env) (σ : Sto) (Q : Post) : Prop where
  go : ∀ F G a w, Sim n m F G env σ a w → c.wpIn (Wd l) 0 P (abz n m F G w Q) a w
structure SatOps (P : Program) (l : Option Nat) (n m : Nat) (all : Array Oper) (ops : List Oper) (env : Env) (σ : Sto) (Q : Post) : Prop where
  go : ∀ F G a w, Sim n m F G env σ a w → wpListIn (Wd l) 0 P all (abz n m F G w Q) ops a w
theorem abz.evol {n m : Nat} {F : Fr} {G G' : Gh} {w w' : World} {Q : Post} (hv : Evol m F G w G' w') {e : Exit} {a : Act} {w'' : World} (h : abz n m F G' w' Q e a w'') : abz n m F G w Q e a w'' :=
  let ⟨G2, env2, σ2, q, s, v⟩ := h; ⟨G2, env2, σ2, q, s, hv.trans v⟩
theorem abz.mono {n m : Nat} {F : Fr} {G : Gh} {w : World} {Q Q' : Post} (hq : ∀ e env σ, Q e env σ → Q' e env σ) {e : Exit} {a : Act} {w'' : World} (h : abz n m F G w Q e a w'') : abz n m F G w Q' e a w'' :=
  let ⟨G2, env2, σ2, q, s, v⟩ := h; ⟨G2, env2, σ2, hq _ _ _ q, s, v⟩
section
variable {P : Program} {l : Option Nat} {n m : Nat} {env : Env} {σ : Sto} {Q : Post}
theorem Sat.mono {c : Code} {Q' : Post} (h : Sat P l n m c env σ Q) (hq : ∀ e env σ, Q e env σ → Q' e env σ) : Sat P l n m c env σ Q' :=
  ⟨fun F G a w hs => wpIn_mono (h.go F G a w hs) fun _ _ _ q => q.mono hq⟩
def ai9 (N : Env → Sto → Prop) (Q : Post) : Post
  | .normal, env, σ => N env σ
  | e, env, σ => Q e env σ
theorem atb {x y : Code} (h : Sat P l n m x env σ (ai9 (fun env' σ' => Sat P l n m y env' σ' Q) Q)) : Sat P l n m (.seq x y) env σ Q := by
  refine ⟨fun F G a w hs => ?_⟩
  refine wpIn_seq (wpIn_mono (h.go F G a w hs) fun e a' w' q => ?_)
  cases e with
  | normal =>
    obtain ⟨G', env', σ', hq, hs', hv⟩ := q
    exact wpIn_mono (hq.go F G' a' w' hs') fun _ _ _ q => q.evol hv
  | _ => exact q
theorem gz (h : Q .normal env σ) : Sat P l n m .skip env σ Q := ⟨fun F G _ w hs => wpIn_skip ⟨G, env, σ, h, hs, .refl _ _ _ _⟩⟩
theorem dn (h : Q .ret env σ) : Sat P l n m .ret env σ Q := ⟨fun F G _ w hs => wpIn_ret ⟨G, env, σ, h, hs, .refl _ _ _ _⟩⟩
theorem oo {k : Nat} (h : Q (.exit k) env σ) : Sat P l n m (.exit k) env σ Q := ⟨fun F G _ w hs => wpIn_exit ⟨G, env, σ, h, hs, .refl _ _ _ _⟩⟩
theorem qo {t : Nat} {x y : Code} {b : Bool} (hb : look env t = .bool b) (hx : b = true → Sat P l n m x env σ Q) (hy : b = false → Sat P l n m y env σ Q) :
    Sat P l n m (.cond (.tmp t) x y) env σ Q := by
  refine ⟨fun F G a w hs => ?_⟩
  have he : a.eval (.tmp t) = .bool b := by
    have h := hs.rep t
    rw [hb] at h
    exact (h.toS rfl).bool
  refine wpIn_cond_split he (fun h => (hx h).go F G a w hs) (fun h => (hy h).go F G a w hs)
def aj6 (k : Nat) (Q : Post) : Post
  | .exit k', env, σ => if k' = k then Q .normal env σ else Q (.exit k') env σ
  | e, env, σ => Q e env σ
theorem apx {k : Nat} {c : Code} (h : Sat P l n m c env σ (aj6 k Q)) : Sat P l n m (.block k c) env σ Q := by
  refine ⟨fun F G a w hs => ?_⟩
  refine wpIn_block (wpIn_mono (h.go F G a w hs) fun e a' w' q => ?_)
  cases e with
  | exit k' =>
    obtain ⟨G', env', σ', hq, hs', hv⟩ := q
    simp only [aj6] at hq
    simp only [Exit.inBlock]
    split
    · rename_i e; rw [if_pos e] at hq; exact ⟨G', env', σ', hq, hs', hv⟩
    · rename_i e; rw [if_neg e] at hq; exact ⟨G', env', σ', hq, hs', hv⟩
  | _ => exact q
theorem adn {p : Nat → Prop} (h : ∃ k, p k) : ∃ k, p k ∧ ∀ j, p j → k ≤ j := by
  obtain ⟨k, hk⟩ := h
  induction k using Nat.strongRecOn with
  | _ k ih =>
    by_cases h : ∃ j, j < k ∧ p j
    · obtain ⟨j, hj, hp⟩ := h; exact ih j hj hp
    · exact ⟨k, hk, fun j hj => Nat.le_of_not_lt fun hlt => h ⟨j, hlt, hj⟩⟩
open Classical in
noncomputable def leastOf (p : Nat → Prop) : Nat := if h : ∃ k, p k then (adn h).choose else 0
theorem leastOf_spec {p : Nat → Prop} (h : ∃ k, p k) : p (leastOf p) := by
  unfold leastOf; rw [dif_pos h]; exact (adn h).choose_spec.1
theorem aox {p : Nat → Prop} {k : Nat} (h : p k) : leastOf p ≤ k := by
  unfold leastOf; rw [dif_pos ⟨k, h⟩]; exact (adn ⟨k, h⟩).choose_spec.2 k h
theorem aq6 {c : Code} (I : Nat → Env → Sto → Prop) (k : Nat) (h0 : I k env σ)
    (hr : ∀ k env σ, I k env σ → Sat P l n m c env σ (ai9 (fun env' σ' => ∃ k', k' < k ∧ I k' env' σ') Q)) : Sat P l n m (.loop c) env σ Q := by
  refine ⟨fun F G a w hs => ?_⟩
  let J : Nat → Act → World → Prop := fun k a' w' => ∃ G' env' σ', I k env' σ' ∧ Sim n m F G' env' σ' a' w' ∧ Evol m F G w G' w'
  have hJ : J k a w := ⟨G, env, σ, h0, hs, .refl _ _ _ _⟩
  refine wpIn_loop (fun a' w' => ∃ k, J k a' w') (fun a' w' => leastOf fun k => J k a' w') ⟨k, hJ⟩ fun a' w' hI => ?_
  obtain ⟨G', env', σ', hi, hs', hv⟩ := leastOf_spec hI
  refine wpIn_mono ((hr _ _ _ hi).go F G' a' w' hs') fun e a'' w'' q => ?_
  cases e with
  | normal =>
    obtain ⟨G2, env2, σ2, ⟨k', hk', hi'⟩, hs2, hv2⟩ := q
    have hI' : ∃ k, J k a'' w'' := ⟨k', G2, env2, σ2, hi', hs2, hv.trans hv2⟩
    exact ⟨hI', Nat.lt_of_le_of_lt (aox (p := fun k => J k a'' w'') ⟨G2, env2, σ2, hi', hs2, hv.trans hv2⟩) hk'⟩
  | _ => exact abz.evol hv q
structure andThen (N : Env → Sto → Prop) (Q : Post) (e : Exit) (env : Env) (σ : Sto) : Prop where
  go : ai9 N Q e env σ
structure inBlk (k : Nat) (Q : Post) (e : Exit) (env : Env) (σ : Sto) : Prop where
  go : aj6 k Q e env σ
theorem bg {x y : Code} (h : Sat P l n m x env σ (andThen (fun env' σ' => Sat P l n m y env' σ' Q) Q)) : Sat P l n m (.seq x y) env σ Q := atb (h.mono fun _ _ _ q => q.go)
theorem ed {k : Nat} {c : Code} (h : Sat P l n m c env σ (inBlk k Q)) : Sat P l n m (.block k c) env σ Q := apx (h.mono fun _ _ _ q => q.go)
theorem ajf {c : Code} (I : Nat → Env → Sto → Prop) (k : Nat) (h0 : I k env σ)
    (hr : ∀ k env σ, I k env σ → Sat P l n m c env σ (andThen (fun env' σ' => ∃ k', k' < k ∧ I k' env' σ') Q)) : Sat P l n m (.loop c) env σ Q := aq6 I k h0 fun k env σ hi => (hr k env σ hi).mono fun _ _ _ q => q.go
theorem ahg {c : Code} (env' : Env) (he : ∀ t, Wk (look env' t) (look env t)) (h : Sat P l n m c env' σ Q) : Sat P l n m c env σ Q :=
  ⟨fun F G a w hs => h.go F G a w (hs.weaken he)⟩
theorem ah {id : Nat} {ops : List Oper} (h : SatOps P l n m ops.toArray ops env σ Q) : Sat P l n m (.region id ops.toArray false) env σ Q :=
  ⟨fun F G a w hs => wpIn_region_lit (h.go F G a w hs)⟩
theorem ak {all : Array Oper} (h : Q .normal env σ) : SatOps P l n m all [] env σ Q := ⟨fun F G _ w hs => wpListIn_nil ⟨G, env, σ, h, hs, .refl _ _ _ _⟩⟩
theorem apc {all : Array Oper} {ops : List Oper} (env' : Env) (he : ∀ t, Wk (look env' t) (look env t)) (h : SatOps P l n m all ops env' σ Q) : SatOps P l n m all ops env σ Q :=
  ⟨fun F G a w hs => h.go F G a w (hs.weaken he)⟩
end
theorem upon_value {P : Program} {l : Option Nat} {o : Oper} {a : Act} {w w' : World} {v : Value} {next : Act → World → Prop} {Q : Exit → Act → World → Prop}
    (hd : ∀ c, o.op ≠ .defer c) (hr : (execOp a.eval o).run P w = .ok (.value v) w') (h : next (a.put o.dst v) w') : o.wpIn (Wd l) 0 P a w next Q := by
  refine ⟨fun _ _ => trivial, ?_⟩
  rw [show (Wd l).round = l from rfl, Oper.semAt_eq l _ o hd, hr]
  exact h
theorem upon_skip {P : Program} {l : Option Nat} {o : Oper} {a : Act} {w w' : World} {next : Act → World → Prop} {Q : Exit → Act → World → Prop}
    (hd : ∀ c, o.op ≠ .defer c) (hr : (execOp a.eval o).run P w = .ok .skip w') (h : next (a.put o.dst undef) w') : o.wpIn (Wd l) 0 P a w next Q := by
  refine ⟨fun _ _ => trivial, ?_⟩
  rw [show (Wd l).round = l from rfl, Oper.semAt_eq l _ o hd, hr]
  exact h
theorem abk {P : Program} {l : Option Nat} {all : Array Oper} {Q : Exit → Act → World → Prop} {a : Act} {w : World} {o : Oper} {rest : List Oper}
    (hg : Region.wanted o (yielded all a.tmps) = true) (h : o.wpIn (Wd l) 0 P a w (wpListIn (Wd l) 0 P all Q rest) Q) : wpListIn (Wd l) 0 P all Q (o :: rest) a w := by
  simp only [wpListIn, hg, if_true]; exact h
theorem abe {P : Program} {l : Option Nat} {n m : Nat} {all : Array Oper} {F : Fr} {G G' : Gh} {w w' : World} {Q : Post} (hv : Evol m F G w G' w') : ∀ (rest : List Oper) (a : Act) (w1 : World),
    wpListIn (Wd l) 0 P all (abz n m F G' w' Q) rest a w1 → wpListIn (Wd l) 0 P all (abz n m F G w Q) rest a w1 := by
  intro rest
  induction rest with
  | nil => intro a w1 h; exact h.evol hv
  | cons o r ih =>
    intro a w1 h
    simp only [wpListIn] at h ⊢
    split
    · rename_i hw; rw [if_pos hw] at h
      refine ⟨h.1, ?_⟩
      have h := h.2
      generalize (o.semAt (Wd l).round a.eval).run P w1 = rr at h
      cases rr with
      | ok x w' =>
        cases x <;> simp only [Oper.uponIn] at h ⊢ <;>
          first
            | exact ih _ _ h
            | exact h
            | exact ⟨h.1, CallsIn.mono h.2 (fun e w'' he => by cases e <;> first | exact ih _ _ he | exact he.evol hv | (obtain ⟨a0, w0, h0⟩ := he; exact ⟨a0, w0, h0.evol hv⟩))⟩
            | exact ⟨h.1, RowsIn.mono h.2 (fun _ _ he => ih _ _ he)⟩
            | exact ⟨h.1, RoundIn.mono h.2 (fun e w'' he => by cases e <;> first | exact ih _ _ he | exact he.evol hv | (obtain ⟨a0, w0, h0⟩ := he; exact ⟨a0, w0, h0.evol hv⟩))⟩
      | halt x w' => cases x <;> simp only [Oper.uponIn] at h ⊢ <;> first | exact h | exact h.evol hv
    · rename_i hw; rw [if_neg hw] at h; exact ⟨h.1, ih _ _ h.2⟩
theorem ym {P : Program} {l : Option Nat} {n m : Nat} {all : Array Oper} {rest : List Oper} {o : Oper} {env : Env} {σ : Sto} {Q : Post} (hg : o.guard = none) (hnd : ∀ c, o.op ≠ .defer c)
    (h : ∀ F G a w, Sim n m F G env σ a w → ∃ v w' G' env' σ', ((execOp a.eval o).run P w = .ok (.value v) w' ∨ ((execOp a.eval o).run P w = .ok .skip w' ∧ v = undef)) ∧
      Sim n m F G' env' σ' (a.put o.dst v) w' ∧ Evol m F G w G' w' ∧ SatOps P l n m all rest env' σ' Q) : SatOps P l n m all (o :: rest) env σ Q := by
  refine ⟨fun F G a w hs => ?_⟩
  obtain ⟨v, w', G', env', σ', hr, hs', hv, hrest⟩ := h F G a w hs
  have hw : Region.wanted o (yielded all a.tmps) = true := by simp [Region.wanted, hg]
  have hn : wpListIn (Wd l) 0 P all (abz n m F G w Q) rest (a.put o.dst v) w' := by
    exact abe hv rest _ _ (hrest.go F G' _ w' hs')
  rcases hr with hr | ⟨hr, rfl⟩
  · exact abk hw (upon_value hnd hr hn)
  · exact abk hw (upon_skip hnd hr hn)
end Go.Proofs.Ytbpjaiemlkcccaa.Pv
end
section
/- Operations that only look: their plain values, and that the machine's run gives one that stands for it. -/
namespace Go.Proofs.Ytbpjaiemlkcccaa.Pv
open Go
structure TI where
  desc : TypeDesc
  size : Nat
  bytes : Nat
  zero : List PV
abbrev TT := List (Nat × TI)
def tl : TT → Nat → Option TI
  | [], _ => none
  | (k, v) :: r, t => bif Nat.beq k t then some v else tl r t
def zc1 : Value → PV → Bool
  | .bool false, .bool false => true
  | .int k n, .int k' n' => k == k' && n == n'
  | .string s, .str s' => s.size == 0 && s'.size == 0
  | .slice none 0 0, .sl .sh _ [] => true
  | .slice none 0 0, .nils _ => true
  | .pointer none, .nilptr => true
  | .nilFunc, .nilfn => true
  | .nilIface, .nilif => true
  | _, .dead => true
  | _, _ => false
def zcs : List Value → List PV → Bool
  | [], [] => true
  | v :: r, p :: q => zc1 v p && zcs r q
  | _, _ => false
structure TyOK (P : Program) (t : Nat) (i : TI) : Prop where
  und : P.underlying t = some i.desc
  zl : i.zero.length = i.size
  inf : ∃ info z, P.info? t = some info ∧ info.size = i.size ∧ info.bytes = i.bytes ∧ info.zero = some z ∧ zcs z.cells.toList i.zero = true
def oq (P : Program) (tt : TT) : Prop := ∀ t i, tl tt t = some i → TyOK P t i
theorem oq.nil (P : Program) : oq P [] := fun _ _ h => by cases h
theorem oq.cons {P : Program} {t : Nat} {i : TI} {tt : TT} (h : TyOK P t i) (r : oq P tt) : oq P ((t, i) :: tt) := by
  intro t' i' h'
  simp only [tl] at h'
  cases hb : Nat.beq t t' with
  | true => rw [hb] at h'; cases h'; rw [← Nat.eq_of_beq_eq_true hb]; exact h
  | false => rw [hb] at h'; exact r t' i' h'
theorem TyOK.mk' {P : Program} {t : Nat} {d : TypeDesc} {z : Value} {sz by_ : Nat} {zs : List PV} (hu : P.underlying t = some d)
    (hi : (P.info? t).map (fun i => (i.zero, i.size, i.bytes)) = some (some z, sz, by_)) (hz : zcs z.cells.toList zs = true) (hl : zs.length = sz) : TyOK P t ⟨d, sz, by_, zs⟩ := by
  refine ⟨hu, hl, ?_⟩
  cases h : P.info? t with
  | none => rw [h] at hi; cases hi
  | some i => rw [h] at hi; simp only [Option.map_some, Option.some.injEq, Prod.mk.injEq] at hi; exact ⟨i, z, rfl, hi.2.1, hi.2.2, hi.1, hz⟩
section runs
variable {P : Program} {w : World} {t : Nat} {i : TI}
theorem TyOK.rund (h : TyOK P t i) (w : World) : (underlying t).run P w = .ok i.desc w := by simp [underlying, h.und]
theorem TyOK.rsize (h : TyOK P t i) (w : World) : (sizeOf t).run P w = .ok i.size w := by
  obtain ⟨info, z, h1, h2, _⟩ := h.inf
  simp [sizeOf, typeInfo, h1, h2]
theorem TyOK.rzero (h : TyOK P t i) (w : World) : ∃ z, (zeroValue t).run P w = .ok z w ∧ zcs z.cells.toList i.zero = true := by
  obtain ⟨info, z, h1, h2, h3, h4, h5⟩ := h.inf
  exact ⟨z, by simp [zeroValue, typeInfo, h1, h4], h5⟩
def ai7 : TypeDesc → Bool
  | .struct _ | .array _ _ => true
  | _ => false
theorem TyOK.ragg (h : TyOK P t i) (w : World) : (isAgg t).run P w = .ok (ai7 i.desc) w := by
  simp only [isAgg, Sem.run_bind, h.rund w, Result.andThen_ok]
  cases i.desc <;> rfl
end runs
def adk (G : Gh) (w : World) (v : Value) (p : PV) : Prop := p = .dead ∨ RepS G w v p ∨ ∃ vs ps, v = .tuple vs ∧ p = .tup ps ∧ vs.size = ps.length ∧ ∀ (j : Nat) v c, vs[j]? = some v → ps[j]? = some c → c = .dead ∨ RepS G w v c
theorem adk.rep {G : Gh} {w : World} {v : Value} {p : PV} (h : adk G w v p) : Rep G w v p := by
  rcases h with rfl | h | ⟨vs, ps, rfl, rfl, hl, h⟩
  · exact .one (.dead _)
  · exact .one (.sh h)
  · refine .tup vs ps hl fun j v c h1 h2 => ?_
    rcases h j v c h1 h2 with rfl | h
    · exact .dead _
    · exact .sh h
theorem aaf (v : Value) : ownB v .dead = none := by cases v <;> first | rfl | (rename_i a _ _; cases a <;> rfl)
theorem adk.own {G : Gh} {w : World} {v : Value} {p : PV} (h : adk G w v p) (j : Nat) : o8 v p j = none := by
  rcases h with rfl | h | ⟨vs, ps, rfl, rfl, hl, h⟩
  · exact zn _ _
  · exact ag2 h j
  · simp only [o8]
    split
    · rename_i v p hv hp
      rcases h j v p hv hp with rfl | h
      · exact aaf _
      · exact yz h
    · rfl
theorem Sim.setN {n m : Nat} {F : Fr} {G : Gh} {env : Env} {σ : Sto} {a : Act} {w : World} (h : Sim n m F G env σ a w) {d : Nat} {v : Value} {p : PV} (hd : d < n) (hv : adk G w v p) (hlt : p.lt σ.length) :
    Sim n m F G ((d, p) :: env) σ (a.put (some d) v) w :=
  h.set hd hv.rep hlt (fun j b hb => by rw [hv.own] at hb; cases hb) (fun j1 _ b hb => by rw [hv.own] at hb; cases hb)
def abn : PV → PV
  | .sl .ow sz es => .sl .sh sz es
  | .sl (.tb _) _ _ => .dead
  | .sl .ex _ _ => .dead
  | .tup _ => .dead
  | p => p
def shr : PV → PV
  | .tup ps => .tup (ps.map abn)
  | p => abn p
theorem RepO.abn {G : Gh} {w : World} {v : Value} {p : PV} (h : RepO G w v p) : Pv.abn p = .dead ∨ RepS G w v (Pv.abn p) := by
  cases h with
  | dead => exact .inl rfl
  | sh h =>
    refine .inr ?_
    have : Pv.abn p = p := by
      cases h with
      | pl h => cases h <;> rfl
      | _ => rfl
    rw [this]; exact h
  | ow a cap sz es h _ => exact .inr (.pl h)
  | tb0 => exact .inl rfl
  | tb => exact .inl rfl
  | ex0 a sz => exact .inl rfl
  | ex => exact .inl rfl
theorem Rep.shr {G : Gh} {w : World} {v : Value} {p : PV} (h : Rep G w v p) : adk G w v (Pv.shr p) := by
  cases h with
  | one h =>
    have h' := h.abn
    have : Pv.shr p = Pv.abn p := by
      cases h with
      | sh h => cases h with
        | pl h => cases h <;> rfl
        | _ => rfl
      | _ => rfl
    rw [this]
    rcases h' with e | h'
    · exact .inl e
    · exact .inr (.inl h')
  | tup vs ps hl h =>
    refine .inr (.inr ⟨vs, ps.map Pv.abn, rfl, rfl, by simpa using hl, fun j v c h1 h2 => ?_⟩)
    rw [List.getElem?_map, Option.map_eq_some_iff] at h2
    obtain ⟨c', h2, rfl⟩ := h2
    exact (h j v c' h1 h2).abn
theorem aib {n : Nat} {p : PV} (h : p.lt n) : (abn p).lt n := by
  unfold abn; split <;> first | trivial | exact h
theorem axj {n : Nat} {p : PV} (h : p.lt n) : (shr p).lt n := by
  unfold shr
  split
  · simp only [PV.lt] at h ⊢
    rw [mo] at h ⊢
    intro v hv
    obtain ⟨v', h1, rfl⟩ := List.mem_map.1 hv
    exact aib (h v' h1)
  · exact aib h
def eti (tt : TT) (t : Nat) : Option TI :=
  match tl tt t with
  | some ⟨.slice e, _, _, _⟩ => tl tt e
  | _ => none
def cst (tt : TT) (ty : Nat) : Value → PV
  | .bool b => .bool b
  | .int k n => .int k n
  | .string s => .str s
  | .nilFunc => .nilfn
  | .nilIface => .nilif
  | .pointer none => .nilptr
  | .slice none 0 0 => match eti tt ty with
    | some i => .sl .sh i.size []
    | none => .dead
  | _ => .dead
def opv (tt : TT) (env : Env) (ty : Nat) : Operand → PV
  | .tmp t => shr (look env t)
  | .const v => cst tt ty v
  | .func f => .fn (.func f) [] []
  | .global _ => .dead
section
variable {n m : Nat} {F : Fr} {G : Gh} {env : Env} {σ : Sto} {a : Act} {w : World}
theorem av4 (tt : TT) (ty : Nat) (v : Value) : adk G w v (cst tt ty v) := by
  unfold cst
  split
  · exact .inr (.inl (.pl (.bool _)))
  · exact .inr (.inl (.pl (.int _ _)))
  · exact .inr (.inl (.pl (.str _)))
  · exact .inr (.inl (.pl .nilfn))
  · exact .inr (.inl (.pl .nilif))
  · exact .inr (.inl (.pl .nilptr))
  · split
    · exact .inr (.inl (.pl (.sl0 _ _ _)))
    · exact .inl rfl
  · exact .inl rfl
theorem o7 (h : Sim n m F G env σ a w) (tt : TT) (ty : Nat) (x : Operand) : adk G w (a.eval x) (opv tt env ty x) := by
  cases x with
  | tmp t => exact (h.rep t).shr
  | const v => exact av4 tt ty v
  | global g => exact .inl rfl
  | func f => exact .inr (.inl (.fn (.func f) #[] #[] [] [] rfl rfl (fun j v c h1 _ => by simp at h1) (fun j v c h1 _ => by simp at h1)))
theorem aw9 (tt : TT) (ty : Nat) (v : Value) (k : Nat) : (cst tt ty v).lt k := by
  unfold cst
  split <;> first | trivial | (split <;> trivial)
theorem yf (h : Sim n m F G env σ a w) (tt : TT) (ty : Nat) (x : Operand) : (opv tt env ty x).lt σ.length := by
  cases x with
  | tmp t => exact axj (h.envlt t)
  | const v => exact aw9 tt ty v _
  | global g => trivial
  | func f => exact ⟨trivial, trivial⟩
theorem adk.toS {v : Value} {p : PV} (h : adk G w v p) (hp : p.isS = true) : RepS G w v p := by
  rcases h with rfl | h | ⟨vs, ps, rfl, rfl, hl, h⟩
  · cases hp
  · exact h
  · cases hp
end
def Looks (P : Program) (G : Gh) (σ : Sto) (w : World) (s : Sem Next) (r : Option (Prop × PV)) : Prop :=
  ∀ c p, r = some (c, p) → c → ∃ v, s.run P w = .ok (.value v) w ∧ adk G w v p ∧ p.lt σ.length
theorem abw {P : Program} {l : Option Nat} {n m : Nat} {all : Array Oper} {d : Nat} {op : Op} {ty : TypeId} {pos : String} {after : Array Edge} {rest : List Oper} {env : Env} {σ : Sto} {Q : Post} {r : Option (Prop × PV)} {c : Prop} {p : PV}
    (hd : d < n) (hnd : ∀ c, op ≠ .defer c) (hl : ∀ F G a w, Sim n m F G env σ a w → Looks P G σ w (execOp a.eval ⟨some d, op, ty, pos, after, none⟩) r)
    (hr : r = some (c, p)) (hc : c) (h : SatOps P l n m all rest ((d, p) :: env) σ Q) : SatOps P l n m all (⟨some d, op, ty, pos, after, none⟩ :: rest) env σ Q := by
  refine ⟨fun F G a w hs => ?_⟩
  obtain ⟨v, h1, h2, h3⟩ := hl F G a w hs c p hr hc
  refine abk rfl (upon_value hnd h1 ?_)
  exact h.go F G _ w (hs.setN hd h2 h3)
end Go.Proofs.Ytbpjaiemlkcccaa.Pv
end
section
/- The operations that only look, one by one. -/
namespace Go.Proofs.Ytbpjaiemlkcccaa.Pv
open Go
def InR : IntKind → Int → Prop
  | .i8, z => -128 ≤ z ∧ z ≤ 127
  | .i16, z => -32768 ≤ z ∧ z ≤ 32767
  | .i32, z => -2147483648 ≤ z ∧ z ≤ 2147483647
  | .i64, z => -9223372036854775808 ≤ z ∧ z ≤ 9223372036854775807
  | .u8, z => 0 ≤ z ∧ z ≤ 255
  | .u16, z => 0 ≤ z ∧ z ≤ 65535
  | .u32, z => 0 ≤ z ∧ z ≤ 4294967295
  | .u64, z => 0 ≤ z ∧ z ≤ 18446744073709551615
theorem acu {k : IntKind} {z : Int} (h : InR k z) : k.wrap z = z := by
  cases k <;> simp only [InR] at h <;> simp [IntKind.wrap, IntKind.bits, IntKind.signed] <;> omega
def wm (x y : ByteArray) : Bool := x.data.toList == y.data.toList
theorem aa8 {x y : ByteArray} : wm x y = true ↔ x = y := by
  constructor
  · intro h
    have h1 : x.data.toList = y.data.toList := by simpa [wm] using h
    cases x; cases y; simp only at h1; congr; exact Array.toList_inj.1 h1
  · rintro rfl; simp [wm]
def ltS (x y : ByteArray) : Bool := Op.bytesLess x.data.toList y.data.toList
def al7 (ex : Bool) (op : BinOp) (k : IntKind) (x y : Int) : Option (Prop × PV) :=
  let wr (z : Int) : Option (Prop × PV) := match ex with | true => some (InR k z, .int k z) | false => some (True, .int k (k.wrap z))
  match op with
  | .add => wr (x + y)
  | .sub => wr (x - y)
  | .mul => wr (x * y)
  | .quo => match ex with | true => some (y ≠ 0 ∧ InR k (x.tdiv y), .int k (x.tdiv y)) | false => some (y ≠ 0, .int k (k.wrap (x.tdiv y)))
  | .rem => some (y ≠ 0, .int k (x.tmod y))
  | .and => some (True, .int k (k.wrap (BitVec.ofInt k.bits x &&& BitVec.ofInt k.bits y).toNat))
  | .or => some (True, .int k (k.wrap (BitVec.ofInt k.bits x ||| BitVec.ofInt k.bits y).toNat))
  | .xor => some (True, .int k (k.wrap (BitVec.ofInt k.bits x ^^^ BitVec.ofInt k.bits y).toNat))
  | .andNot => some (True, .int k (k.wrap (BitVec.ofInt k.bits x &&& ~~~(BitVec.ofInt k.bits y)).toNat))
  | .eql => some (True, .bool (x == y))
  | .neq => some (True, .bool (x != y))
  | .lss => some (True, .bool (decide (x < y)))
  | .leq => some (True, .bool (decide (x ≤ y)))
  | .gtr => some (True, .bool (decide (y < x)))
  | .geq => some (True, .bool (decide (y ≤ x)))
  | _ => none
def shI (ex : Bool) (op : BinOp) (k : IntKind) (x y : Int) : Option (Prop × PV) :=
  match op with
  | .shl => match ex with | true => some (0 ≤ y ∧ InR k (x * 2 ^ (min y.toNat k.bits)), .int k (x * 2 ^ (min y.toNat k.bits))) | false => some (0 ≤ y, .int k (k.wrap (x * 2 ^ (min y.toNat k.bits))))
  | .shr => some (0 ≤ y, .int k (x.fdiv (2 ^ (min y.toNat k.bits))))
  | _ => none
def amx (op : BinOp) (x y : ByteArray) : Option (Prop × PV) :=
  match op with
  | .add => some (x.size + y.size ≤ 9223372036854775807, .str (x ++ y))
  | .eql => some (True, .bool (wm x y))
  | .neq => some (True, .bool (!wm x y))
  | .lss => some (True, .bool (ltS x y))
  | .leq => some (True, .bool (ltS x y || wm x y))
  | .gtr => some (True, .bool (!(ltS x y || wm x y)))
  | .geq => some (True, .bool (!ltS x y))
  | _ => none
def aj3 (ex : Bool) (tt : TT) (op : BinOp) (xT : TypeId) : PV → PV → Option (Prop × PV)
  | .int k x, .int k' y => match op with
    | .shl | .shr => shI ex op k x y
    | _ => match decide (k = k') with | true => al7 ex op k x y | false => none
  | .str x, .str y => amx op x y
  | .bool x, .bool y => match op, tl tt xT with
    | .eql, some ⟨.bool, _, _, _⟩ => some (True, .bool (x == y))
    | .neq, some ⟨.bool, _, _, _⟩ => some (True, .bool (x != y))
    | _, _ => none
  | _, _ => none
theorem as4 {P : Program} {w : World} {ex : Bool} {op : BinOp} {k : IntKind} {x y : Int} {c : Prop} {p : PV} (h : al7 ex op k x y = some (c, p)) (hc : c) (xT : TypeId) :
    ∃ v, (binOp op xT (.int k x) (.int k y)).run P w = .ok v w ∧ (∀ G : Gh, RepS G w v p) := by
  cases op <;> simp only [al7] at h
  case add => cases ex <;> cases h; · exact ⟨.int k (k.wrap (x + y)), by simp [binOp, Op.intArith], fun G => .pl (.int _ _)⟩
              · exact ⟨.int k (x + y), by simp [binOp, Op.intArith, acu hc], fun G => .pl (.int _ _)⟩
  case sub => cases ex <;> cases h; · exact ⟨.int k (k.wrap (x - y)), by simp [binOp, Op.intArith], fun G => .pl (.int _ _)⟩
              · exact ⟨.int k (x - y), by simp [binOp, Op.intArith, acu hc], fun G => .pl (.int _ _)⟩
  case mul => cases ex <;> cases h; · exact ⟨.int k (k.wrap (x * y)), by simp [binOp, Op.intArith], fun G => .pl (.int _ _)⟩
              · exact ⟨.int k (x * y), by simp [binOp, Op.intArith, acu hc], fun G => .pl (.int _ _)⟩
  case quo => cases ex <;> cases h; · exact ⟨.int k (k.wrap (x.tdiv y)), by simp [binOp, Op.intDiv, hc], fun G => .pl (.int _ _)⟩
              · exact ⟨.int k (x.tdiv y), by simp [binOp, Op.intDiv, hc.1, acu hc.2], fun G => .pl (.int _ _)⟩
  case rem => cases h; exact ⟨.int k (x.tmod y), by simp [binOp, Op.intDiv, show y ≠ 0 from hc], fun G => .pl (.int _ _)⟩
  case and => cases h; exact ⟨_, by simp only [binOp, ne_eq, not_true_eq_false, if_false, Op.intBits]; rfl, fun G => .pl (.int _ _)⟩
  case or => cases h; exact ⟨_, by simp only [binOp, ne_eq, not_true_eq_false, if_false, Op.intBits]; rfl, fun G => .pl (.int _ _)⟩
  case xor => cases h; exact ⟨_, by simp only [binOp, ne_eq, not_true_eq_false, if_false, Op.intBits]; rfl, fun G => .pl (.int _ _)⟩
  case andNot => cases h; exact ⟨_, by simp only [binOp, ne_eq, not_true_eq_false, if_false, Op.intBits]; rfl, fun G => .pl (.int _ _)⟩
  case eql => cases h; exact ⟨_, by simp only [binOp, ne_eq, not_true_eq_false, if_false, Op.intCmp]; rfl, fun G => .pl (.bool _)⟩
  case neq => cases h; exact ⟨_, by simp only [binOp, ne_eq, not_true_eq_false, if_false, Op.intCmp]; rfl, fun G => .pl (.bool _)⟩
  case lss => cases h; exact ⟨_, by simp only [binOp, ne_eq, not_true_eq_false, if_false, Op.intCmp]; rfl, fun G => .pl (.bool _)⟩
  case leq => cases h; exact ⟨_, by simp only [binOp, ne_eq, not_true_eq_false, if_false, Op.intCmp]; rfl, fun G => .pl (.bool _)⟩
  case gtr => cases h; exact ⟨_, by simp only [binOp, ne_eq, not_true_eq_false, if_false, Op.intCmp]; rfl, fun G => .pl (.bool _)⟩
  case geq => cases h; exact ⟨_, by simp only [binOp, ne_eq, not_true_eq_false, if_false, Op.intCmp]; rfl, fun G => .pl (.bool _)⟩
  case shl => cases h
  case shr => cases h
theorem aoc {P : Program} {w : World} {ex : Bool} {op : BinOp} {k k' : IntKind} {x y : Int} {c : Prop} {p : PV} (h : shI ex op k x y = some (c, p)) (hc : c) (xT : TypeId) :
    ∃ v, (binOp op xT (.int k x) (.int k' y)).run P w = .ok v w ∧ (∀ G : Gh, RepS G w v p) := by
  cases op <;> simp only [shI] at h <;> first | (cases h; done) | skip
  case shl =>
    cases ex <;> cases h
    · exact ⟨_, by simp only [binOp, Op.shift]; rw [if_neg (by omega)]; rfl, fun G => .pl (.int _ _)⟩
    · exact ⟨.int k (x * 2 ^ min y.toNat k.bits), by simp only [binOp, Op.shift]; rw [if_neg (by omega)]; simp [acu hc.2], fun G => .pl (.int _ _)⟩
  case shr =>
    cases h
    exact ⟨_, by simp only [binOp, Op.shift]; rw [if_neg (by omega)]; rfl, fun G => .pl (.int _ _)⟩
theorem atf {P : Program} {w : World} {op : BinOp} {x y : ByteArray} {c : Prop} {p : PV} (h : amx op x y = some (c, p)) (hc : c) (xT : TypeId) :
    ∃ v, (binOp op xT (.string x) (.string y)).run P w = .ok v w ∧ (∀ G : Gh, RepS G w v p) := by
  cases op <;> simp only [amx] at h <;> first | (cases h; done) | skip
  case add =>
    cases h
    exact ⟨.string (x ++ y), by
        simp only [binOp, Op.stringOp]
        rw [if_neg (by simp only [IntKind.max, IntKind.signed, IntKind.bits, if_true]; omega)]
        simp, fun G => .pl (.str _)⟩
  all_goals (cases h; exact ⟨_, by simp only [binOp, Op.stringOp, ByteArray.toList_eq]; rfl, fun G => .pl (.bool _)⟩)
theorem avd {ex : Bool} {op : BinOp} {k : IntKind} {x y : Int} {c : Prop} {p : PV} (h : al7 ex op k x y = some (c, p)) (n : Nat) : p.lt n := by
  cases op <;> simp only [al7] at h <;> first | (cases h; done) | (cases h; trivial) | (cases ex <;> (cases h; trivial))
theorem aqx {ex : Bool} {op : BinOp} {k : IntKind} {x y : Int} {c : Prop} {p : PV} (h : shI ex op k x y = some (c, p)) (n : Nat) : p.lt n := by
  cases op <;> simp only [shI] at h <;> first | (cases h; trivial) | (cases ex <;> (cases h; trivial)) | cases h
theorem au7 {op : BinOp} {x y : ByteArray} {c : Prop} {p : PV} (h : amx op x y = some (c, p)) (n : Nat) : p.lt n := by
  cases op <;> simp only [amx] at h <;> first | (cases h; trivial) | cases h
theorem aew {P : Program} {w : World} {op : BinOp} {t : TypeId} {x y : Operand} {a b : Value} (h : ∀ cs, a ≠ .agg cs) (h' : a ≠ .nilIface) : (eqGuard op t x y a b).run P w = .ok () w := by
  unfold eqGuard
  cases op <;> first | rfl | (cases a <;> first | rfl | exact absurd rfl (h _) | exact absurd rfl h')
theorem ahk {P : Program} {w : World} {t : TypeId} (hu : (underlying t).run P w = .ok .bool w) (d : Nat) (x y : Bool) : (Op.equalIn (d + 1) t (.bool x) (.bool y)).run P w = .ok (x == y) w := by
  simp [Op.equalIn, hu]
theorem ajy {P : Program} {tt : TT} (ht : oq P tt) (ex : Bool) {n m : Nat} {F : Fr} {G : Gh} {env : Env} {σ : Sto} {a : Act} {w : World} (h : Sim n m F G env σ a w)
    {d : Option Nat} {op : BinOp} {xT yT ty : TypeId} {x y : Operand} {pos : String} {after : Array Edge} :
    Looks P G σ w (execOp a.eval ⟨d, .binOp op xT x y yT, ty, pos, after, none⟩) (aj3 ex tt op xT (opv tt env xT x) (opv tt env yT y)) := by
  intro c p hr hc
  have hx := o7 h tt xT x
  have hy := o7 h tt yT y
  generalize opv tt env xT x = px at *
  generalize opv tt env yT y = py at *
  have fin : ∀ v : Value, (∀ cs, a.eval x ≠ .agg cs) → a.eval x ≠ .nilIface → (binOp op xT (a.eval x) (a.eval y)).run P w = .ok v w →
      (execOp a.eval ⟨d, .binOp op xT x y yT, ty, pos, after, none⟩).run P w = .ok (.value v) w := by
    intro v h1 h2 h3
    simp [execOp, aew h1 h2, h3]
  unfold aj3 at hr
  split at hr
  · rename_i k x' k' y'
    have ex' := (hx.toS rfl).int
    have ey' := (hy.toS rfl).int
    split at hr
    · obtain ⟨v, h1, h2⟩ := aoc (P := P) (w := w) (k' := k') hr hc xT
      exact ⟨v, fin v (by simp [ex']) (by simp [ex']) (by rw [ex', ey']; exact h1), .inr (.inl (h2 G)), aqx hr _⟩
    · obtain ⟨v, h1, h2⟩ := aoc (P := P) (w := w) (k' := k') hr hc xT
      exact ⟨v, fin v (by simp [ex']) (by simp [ex']) (by rw [ex', ey']; exact h1), .inr (.inl (h2 G)), aqx hr _⟩
    · split at hr
      · rename_i hk
        have hk : k = k' := by simpa using hk
        subst hk
        obtain ⟨v, h1, h2⟩ := as4 (P := P) (w := w) hr hc xT
        exact ⟨v, fin v (by simp [ex']) (by simp [ex']) (by rw [ex', ey']; exact h1), .inr (.inl (h2 G)), avd hr _⟩
      · cases hr
  · rename_i x' y'
    have ex' := (hx.toS rfl).str
    have ey' := (hy.toS rfl).str
    obtain ⟨v, h1, h2⟩ := atf (P := P) (w := w) hr hc xT
    exact ⟨v, fin v (by simp [ex']) (by simp [ex']) (by rw [ex', ey']; exact h1), .inr (.inl (h2 G)), au7 hr _⟩
  · rename_i x' y'
    have ex' := (hx.toS rfl).bool
    have ey' := (hy.toS rfl).bool
    split at hr
    · rename_i hi
      have hu := (ht _ _ hi).rund w
      cases hr
      refine ⟨.bool (x' == y'), fin _ (by simp [ex']) (by simp [ex']) ?_, .inr (.inl (.pl (.bool _))), trivial⟩
      rw [ex', ey']
      have := ahk (P := P) (w := w) hu 9999 x' y'
      simp only [binOp, Op.equal, Op.maxDepth, Sem.run_bind, this, Result.andThen_ok, Sem.run_pure]
    · rename_i hi
      have hu := (ht _ _ hi).rund w
      cases hr
      refine ⟨.bool (x' != y'), fin _ (by simp [ex']) (by simp [ex']) ?_, .inr (.inl (.pl (.bool _))), trivial⟩
      rw [ex', ey']
      have := ahk (P := P) (w := w) hu 9999 x' y'
      simp only [binOp, Op.equal, Op.maxDepth, Sem.run_bind, this, Result.andThen_ok, Sem.run_pure, bne]
    · cases hr
  · cases hr
end Go.Proofs.Ytbpjaiemlkcccaa.Pv
end
section
/- More operations that only look. -/
namespace Go.Proofs.Ytbpjaiemlkcccaa.Pv
open Go
theorem aai {ad : Addr} (hs : ad.spot = none) (j : Nat) : ad.add j = ⟨ad.block, ad.off + j, none⟩ := by
  obtain ⟨b, o, s⟩ := ad
  simp only at hs
  subst hs
  unfold Addr.add
  split
  · rename_i h; simp [h]
  · rfl
section
variable {P : Program} {tt : TT} {n m : Nat} {F : Fr} {G : Gh} {env : Env} {σ : Sto} {a : Act} {w : World} {d : Option Nat} {ty : TypeId} {pos : String} {after : Array Edge}
theorem alc (h : Sim n m F G env σ a w) {x : Operand} : Looks P G σ w (execOp a.eval ⟨d, .move x, ty, pos, after, none⟩) (some (True, opv tt env ty x)) := by
  intro c p hr _
  cases hr
  exact ⟨_, rfl, o7 h tt ty x, yf h tt ty x⟩
theorem air (h : Sim n m F G env σ a w) {x : Operand} : Looks P G σ w (execOp a.eval ⟨d, .assign x, ty, pos, after, none⟩) (some (True, opv tt env ty x)) := by
  intro c p hr _
  cases hr
  exact ⟨_, rfl, o7 h tt ty x, yf h tt ty x⟩
def ao7 (tt : TT) (env : Env) (ty : Nat) (c x y : Operand) : Option (Prop × PV) :=
  match opv tt env ty c with
  | .bool true => some (True, opv tt env ty x)
  | .bool false => some (True, opv tt env ty y)
  | _ => none
theorem aqt (h : Sim n m F G env σ a w) {c x y : Operand} : Looks P G σ w (execOp a.eval ⟨d, .pick c x y, ty, pos, after, none⟩) (ao7 tt env ty c x y) := by
  intro c' p hr _
  have hc := o7 h tt ty c
  unfold ao7 at hr
  generalize opv tt env ty c = pc at *
  split at hr
  · have e := (hc.toS rfl).bool
    cases hr
    exact ⟨a.eval x, by simp [execOp, e, asBool], o7 h tt ty x, yf h tt ty x⟩
  · have e := (hc.toS rfl).bool
    cases hr
    exact ⟨a.eval y, by simp [execOp, e, asBool], o7 h tt ty y, yf h tt ty y⟩
  · cases hr
def unP (ex : Bool) (op : UnOp) (p : PV) : Option (Prop × PV) :=
  match op, p with
  | .not, .bool b => some (True, .bool (!b))
  | .neg, .int k z => match ex with | true => some (InR k (0 - z), .int k (0 - z)) | false => some (True, .int k (k.wrap (0 - z)))
  | .xor, .int k z => some (True, .int k (k.wrap (BitVec.ofInt k.bits (if k.signed then -1 else k.max) ^^^ BitVec.ofInt k.bits z).toNat))
  | _, _ => none
theorem ard (h : Sim n m F G env σ a w) (ex : Bool) {op : UnOp} {xT : TypeId} {x : Operand} :
    Looks P G σ w (execOp a.eval ⟨d, .unOp op xT x, ty, pos, after, none⟩) (unP ex op (opv tt env xT x)) := by
  intro c p hr hc
  have hx := o7 h tt xT x
  generalize opv tt env xT x = px at *
  unfold unP at hr
  split at hr
  · rename_i b
    have e := (hx.toS rfl).bool
    cases hr
    exact ⟨.bool (!b), by simp [execOp, e, Op.unary], .inr (.inl (.pl (.bool _))), trivial⟩
  · rename_i k z
    have e := (hx.toS rfl).int
    cases ex <;> cases hr
    · exact ⟨.int k (k.wrap (0 - z)), by simp [execOp, e, Op.unary, Op.intArith], .inr (.inl (.pl (.int _ _))), trivial⟩
    · exact ⟨.int k (0 - z), by simp only [execOp, e, Op.unary, Op.intArith, acu hc]; rfl, .inr (.inl (.pl (.int _ _))), trivial⟩
  · rename_i k z
    have e := (hx.toS rfl).int
    cases hr
    exact ⟨_, by simp only [execOp, e, Op.unary, Op.intBits]; rfl, .inr (.inl (.pl (.int _ _))), trivial⟩
  · cases hr
def alm (ex : Bool) (tt : TT) (src dst : TypeId) (p : PV) : Option (Prop × PV) :=
  match tl tt src, tl tt dst, p with
  | some _, some ⟨.int k, _, _, _⟩, .int _ z => match ex with | true => some (InR k z, .int k z) | false => some (True, .int k (k.wrap z))
  | some _, some ⟨.string, _, _, _⟩, .str s => some (True, .str s)
  | _, _, _ => none
theorem ahp (ht : oq P tt) (h : Sim n m F G env σ a w) (ex : Bool) {src dst : TypeId} {x : Operand} :
    Looks P G σ w (execOp a.eval ⟨d, .convert src dst x, ty, pos, after, none⟩) (alm ex tt src dst (opv tt env src x)) := by
  intro c p hr hc
  have hx := o7 h tt src x
  generalize opv tt env src x = px at *
  unfold alm at hr
  split at hr
  · rename_i i k s b zz k' z hi hk
    have e := (hx.toS rfl).int
    have h1 := (ht _ _ hi).rund w
    have h2 := (ht _ _ hk).rund w
    have hrun : (execOp a.eval ⟨d, .convert src dst x, ty, pos, after, none⟩).run P w = .ok (.value (.int k (k.wrap z))) w := by
      simp [execOp, e, convert, h1, h2, Conv.intToInt]
    cases ex <;> cases hr
    · exact ⟨_, hrun, .inr (.inl (.pl (.int _ _))), trivial⟩
    · rw [acu hc] at hrun; exact ⟨_, hrun, .inr (.inl (.pl (.int _ _))), trivial⟩
  · rename_i i s' b zz1 zz s hi hk
    have e := (hx.toS rfl).str
    have h1 := (ht _ _ hi).rund w
    have h2 := (ht _ _ hk).rund w
    cases hr
    exact ⟨.string s, by simp [execOp, e, convert, h1, h2], .inr (.inl (.pl (.str _))), trivial⟩
  · cases hr
def fld (tt : TT) (sT : TypeId) (f : Nat) : Option (Nat × TI) :=
  match tl tt sT with
  | some ⟨.struct fs, _, _, _⟩ => (match fs[f]? with
    | some x => (match tl tt x.type with | some i => some (x.offset, i) | none => none)
    | none => none)
  | _ => none
theorem aw1 (ht : oq P tt) {sT : TypeId} {f off : Nat} {i : TI} (h : fld tt sT f = some (off, i)) :
    ∃ fs x, P.underlying sT = some (.struct fs) ∧ fs[f]? = some x ∧ x.offset = off ∧ TyOK P x.type i := by
  unfold fld at h
  split at h
  · rename_i fs s b z hs
    split at h
    · rename_i x hx
      split at h
      · rename_i j hj; cases h; exact ⟨fs, x, (ht _ _ hs).und, hx, rfl, ht _ _ hj⟩
      · cases h
    · cases h
  · cases h
def ady (tt : TT) (sT : TypeId) (f : Nat) (p : PV) : Option (Prop × PV) :=
  match fld tt sT f, p with
  | some (off, i), .ptr b o => some (i.size ≠ 0, .ptr b (o + off))
  | some (off, i), .cref cs => some (i.size ≠ 0 ∧ off ≤ cs.length, .cref (cs.drop off))
  | _, _ => none
theorem aec (ht : oq P tt) (h : Sim n m F G env σ a w) {sT : TypeId} {f : Nat} {x : Operand} :
    Looks P G σ w (execOp a.eval ⟨d, .fieldAddr sT x f, ty, pos, after, none⟩) (ady tt sT f (opv tt env sT x)) := by
  intro c p hr hc
  have hx := o7 h tt sT x
  have hlt := yf h tt sT x
  generalize opv tt env sT x = px at *
  have key : ∀ (ad : Addr) (off : Nat) (i : TI), fld tt sT f = some (off, i) → i.size ≠ 0 → a.eval x = .pointer (some ad) →
      (execOp a.eval ⟨d, .fieldAddr sT x f, ty, pos, after, none⟩).run P w = .ok (.value (.pointer (some (ad.add off)))) w := by
    intro ad off i hf hi e
    obtain ⟨fs, y, h1, h2, h3, h4⟩ := aw1 ht hf
    have h5 := h4.rsize w
    simp [execOp, e, Instr.fieldAt, underlying, h1, h2, Instr.sureAddr, fieldPlace, h5, hi, h3]
  unfold ady at hr
  split at hr
  · rename_i off i b o hf
    have e := (hx.toS rfl).ptrv
    cases hr
    refine ⟨_, key _ off i hf hc e, ?_, by simpa [PV.lt] using hlt⟩
    rw [aai rfl]
    exact .inr (.inl (.ptr b (o + off)))
  · rename_i off i cs hf
    obtain ⟨ad, p', vs, e, hs, hK, hp, hv, hr'⟩ := (hx.toS rfl).crefv
    cases hr
    refine ⟨_, key ad off i hf hc.1 e, ?_, trivial⟩
    rw [aai hs]
    have hl := hc.2
    refine .inr (.inl (.cref ⟨ad.block, ad.off + off, none⟩ p' (cs.drop off) (fun j => vs (off + j)) rfl hK (by simp only [List.length_drop]; omega) (fun j hj => ?_) fun j c' hc' => ?_))
    · rw [List.length_drop] at hj
      have := hv (off + j) (by omega)
      rw [← Nat.add_assoc] at this; exact this
    · rw [List.getElem?_drop] at hc'; exact hr' _ _ hc'
  · cases hr
def aia (i : TI) (cs : List PV) (off : Nat) : Option (Prop × PV) :=
  match ai7 i.desc with
  | true => some (off + i.size ≤ cs.length, .agg (bif Nat.beq off 0 && Nat.beq i.size cs.length then cs else (cs.drop off).take i.size))
  | false => match cs.drop off with
    | c :: _ => some (True, c)
    | [] => none
theorem ahn {i : TI} {cs : List PV} {off : Nat} (h : off + i.size ≤ cs.length) : (bif Nat.beq off 0 && Nat.beq i.size cs.length then cs else (cs.drop off).take i.size) = (cs.drop off).take i.size := by
  cases h1 : Nat.beq off 0 && Nat.beq i.size cs.length with
  | false => rfl
  | true =>
    simp only [Bool.and_eq_true] at h1
    rw [Nat.eq_of_beq_eq_true h1.1, Nat.eq_of_beq_eq_true h1.2]
    simp
theorem anj {t : TypeId} {i : TI} (ht : TyOK P t i) {vs : Array Value} {cs : List PV} (hl : vs.size = cs.length) {off : Nat} {R : Value → PV → Prop}
    (hv : ∀ (j : Nat) v c, vs[j]? = some v → cs[j]? = some c → R v c) (hagg : ∀ (us : Array Value) (ds : List PV), us.size = ds.length → (∀ (j : Nat) v c, us[j]? = some v → ds[j]? = some c → R v c) → R (.agg us) (.agg ds))
    {c : Prop} {p : PV} (hr : aia i cs off = some (c, p)) (hc : c) (w : World) : ∃ v, (part t vs off).run P w = .ok v w ∧ R v p := by
  unfold aia at hr
  have ha := ht.ragg w
  split at hr
  · rename_i hd
    cases hr
    rw [ahn hc]
    refine ⟨.agg (vs.extract off (off + i.size)), by simp [part, ha, hd, ht.rsize w], hagg _ _ ?_ fun j v c h1 h2 => ?_⟩
    · simp; omega
    · rw [List.getElem?_take, List.getElem?_drop] at h2
      rw [Array.getElem?_extract] at h1
      split at h2
      · rename_i hj
        refine hv (off + j) v c ?_ h2
        split at h1
        · exact h1
        · cases h1
      · cases h2
  · rename_i hd
    split at hr
    · rename_i c0 r hcs
      cases hr
      have hoff : cs[off]? = some p := by have := List.getElem?_drop (xs := cs) (i := off) (j := 0); rw [hcs] at this; simpa using this.symm
      have hlt : off < vs.size := by rw [hl]; exact (List.getElem?_eq_some_iff.1 hoff).1
      exact ⟨vs[off], by simp [part, ha, hd, hlt], hv off _ _ (by simp [hlt]) hoff⟩
    · cases hr
def ajb (k : Nat) (p : PV) : Option (Prop × PV) :=
  match p with
  | .tup ps => match ps[k]? with
    | some p => some (True, p)
    | none => none
  | _ => none
theorem al1 (h : Sim n m F G env σ a w) {k : Nat} {x : Operand} : Looks P G σ w (execOp a.eval ⟨d, .extract x k, ty, pos, after, none⟩) (ajb k (opv tt env ty x)) := by
  intro c p hr hc
  have hx := o7 h tt ty x
  have hlt := yf h tt ty x
  generalize opv tt env ty x = px at *
  unfold ajb at hr
  split at hr
  · rename_i ps
    split at hr
    · rename_i p' hp
      cases hr
      rcases hx with e | e | ⟨vs, ps', e, e', hl, hv⟩
      · cases e
      · exact e.notup.elim
      · cases e'
        have hk : k < vs.size := by rw [hl]; exact (List.getElem?_eq_some_iff.1 hp).1
        refine ⟨vs[k], by simp [execOp, e, Instr.extract, hk], ?_, ?_⟩
        · rcases hv k vs[k] p (by simp [hk]) hp with e | e
          · exact .inl e
          · exact .inr (.inl e)
        · simp only [PV.lt] at hlt; exact mo.1 hlt p (List.mem_of_getElem? hp)
    · cases hr
  · cases hr
def alu (tt : TT) (t : TypeId) (p : PV) : Option (Prop × PV) :=
  match tl tt t, p with
  | some i, .cref cs => aia i cs 0
  | _, _ => none
theorem akq (ht : oq P tt) (h : Sim n m F G env σ a w) {t : TypeId} {x : Operand} : Looks P G σ w (execOp a.eval ⟨d, .load t x, ty, pos, after, none⟩) (alu tt t (opv tt env t x)) := by
  intro c p hr hc
  have hx := o7 h tt t x
  generalize opv tt env t x = px at *
  unfold alu at hr
  split at hr
  · rename_i i cs hi
    obtain ⟨ad, p', vs, e, hs, hK, hp, hv, hr'⟩ := (hx.toS rfl).crefv
    have hT := ht _ _ hi
    unfold aia at hr
    split at hr
    · rename_i hd
      cases hr
      rw [ahn hc]
      have hl := run_loadCells (P := P) w ad i.size vs (fun j hj => by rw [aai hs]; exact hv j (by omega))
      refine ⟨.agg ((List.range i.size).map vs).toArray, ?_, .inr (.inl (.pl (.agg _ _ ?_ fun j v c h1 h2 => ?_))), ?_⟩
      · simp [execOp, e, Instr.loadAt, Instr.sureAddr, loadVar, hT.ragg w, hd, hT.rsize w, hl]
      · simp; omega
      · rw [List.getElem?_take, List.getElem?_drop] at h2
        split at h2
        · rename_i hj
          simp [hj] at h1
          subst h1
          have := hr' j c (by simpa using h2); simpa using this
        · cases h2
      · simp only [PV.lt]
        rw [mo]
        intro v hv'
        have hm : v ∈ cs := List.mem_of_mem_drop (List.mem_of_mem_take hv')
        obtain ⟨j, hj, rfl⟩ := List.getElem_of_mem hm
        exact (hr' j cs[j] (by simp [hj])).lt _
    · rename_i hd
      split at hr
      · rename_i c0 r hcs
        cases hr
        have h0 : cs[0]? = some p := by rw [List.drop_zero] at hcs; rw [hcs]; rfl
        have hlt : 0 < cs.length := (List.getElem?_eq_some_iff.1 h0).1
        have hcell : w.cell? ad = some (vs 0) := by have := hv 0 hlt; rw [← aai hs] at this; exact this
        have hR := hr' 0 p h0
        exact ⟨vs 0, by simp [execOp, e, Instr.loadAt, Instr.sureAddr, loadVar, hT.ragg w, hd, run_load, hcell], .inr (.inl (.pl hR)), hR.lt _⟩
      · cases hr
  · cases hr
end
end Go.Proofs.Ytbpjaiemlkcccaa.Pv
end
section
/- Indexes, pieces, lengths, structs that are built. -/
namespace Go.Proofs.Ytbpjaiemlkcccaa.Pv
open Go
theorem flat_get {es : List PV} {sz : Nat} (h : ∀ e ∈ es, e.cells.length = sz) : ∀ {i : Nat} {e : PV}, es[i]? = some e → ∀ j, j < sz → (flat es)[i * sz + j]? = e.cells[j]? := by
  induction es with
  | nil => intro i e he; simp at he
  | cons e0 r ih =>
    intro i e he j hj
    have h0 : e0.cells.length = sz := h e0 (by simp)
    cases i with
    | zero =>
      simp only [List.getElem?_cons_zero, Option.some.injEq] at he
      subst he
      simp only [flat, Nat.zero_mul, Nat.zero_add]
      rw [List.getElem?_append_left (by omega)]
    | succ i =>
      simp only [List.getElem?_cons_succ] at he
      simp only [flat]
      rw [List.getElem?_append_right (by rw [h0, Nat.succ_mul]; omega), h0]
      rw [show (i + 1) * sz + j - sz = i * sz + j by rw [Nat.succ_mul]; omega]
      exact ih (fun x hx => h x (by simp [hx])) he j hj
theorem ait (xs ys : List PV) : flat (xs ++ ys) = flat xs ++ flat ys := by
  induction xs with
  | nil => rfl
  | cons e r ih => simp [flat, ih]
theorem ald {es : List PV} {sz : Nat} (h : ∀ e ∈ es, e.cells.length = sz) (l : Nat) : flat (es.drop l) = (flat es).drop (l * sz) := by
  induction l generalizing es with
  | zero => simp
  | succ l ih =>
    cases es with
    | nil => simp [flat]
    | cons e r =>
      simp only [List.drop_succ_cons, flat]
      rw [ih (fun x hx => h x (by simp [hx])), Nat.succ_mul, Nat.add_comm (l * sz) sz, ← h e (by simp)]
      rw [List.drop_append]
      simp [Nat.add_sub_cancel_left]
theorem ak8 {es : List PV} {sz : Nat} (h : ∀ e ∈ es, e.cells.length = sz) (l : Nat) : flat (es.take l) = (flat es).take (l * sz) := by
  induction l generalizing es with
  | zero => simp [flat]
  | succ l ih =>
    cases es with
    | nil => simp [flat]
    | cons e r =>
      simp only [List.take_succ_cons, flat]
      rw [ih (fun x hx => h x (by simp [hx])), Nat.succ_mul, Nat.add_comm (l * sz) sz, ← h e (by simp)]
      have e1 : List.take (e.cells.length + l * e.cells.length) e.cells = e.cells := List.take_of_length_le (by omega)
      rw [List.take_append, e1]
      simp [Nat.add_sub_cancel_left]
section
variable {P : Program} {tt : TT} {n m : Nat} {F : Fr} {G : Gh} {env : Env} {σ : Sto} {a : Act} {w : World} {d : Option Nat} {ty : TypeId} {pos : String} {after : Array Edge}
theorem aao (ht : oq P tt) {t : TypeId} {i : TI} (h : eti tt t = some i) : ∃ e, P.underlying t = some (.slice e) ∧ TyOK P e i := by
  unfold eti at h
  split at h
  · rename_i e s b z hs; exact ⟨e, (ht _ _ hs).und, ht _ _ h⟩
  · cases h
def ati (tt : TT) (t : TypeId) : Option (Nat × TI) :=
  match tl tt t with
  | some ⟨.array k e, _, _, _⟩ => match tl tt e with
    | some i => some (k, i)
    | none => none
  | _ => none
theorem aql (ht : oq P tt) {t : TypeId} {k : Nat} {i : TI} (h : ati tt t = some (k, i)) : ∃ e, P.underlying t = some (.array k e) ∧ TyOK P e i := by
  unfold ati at h
  split at h
  · rename_i k' e s b z hs
    split at h
    · rename_i i' he; cases h; exact ⟨e, (ht _ _ hs).und, ht _ _ he⟩
    · cases h
  · cases h
def acy (tt : TT) (t : TypeId) (x i : PV) : Option (Prop × PV) :=
  match i with
  | .int _ i => (match x with
    | .sl .sh sz es => (match eti tt t with
      | some e => some (sz = e.size ∧ 0 ≤ i ∧ i < es.length, .cref (es.getD i.toNat .dead).cells)
      | none => none)
    | .bsl b off sz len cap => (match eti tt t with
      | some e => some (sz = e.size ∧ 0 ≤ i ∧ i < len, .ptr b (off + i.toNat * sz))
      | none => none)
    | .xsl b off sz len cap => (match eti tt t with
      | some e => some (sz = e.size ∧ 0 ≤ i ∧ i < len, .ptr b (off + i.toNat * sz))
      | none => none)
    | .ptr b off => (match ati tt t with
      | some (k, e) => some (0 ≤ i ∧ i < k, .ptr b (off + i.toNat * e.size))
      | none => none)
    | _ => none)
  | _ => none
theorem acv (ht : oq P tt) (h : Sim n m F G env σ a w) {t tI : TypeId} {x i : Operand} :
    Looks P G σ w (execOp a.eval ⟨d, .indexAddr t x i, ty, pos, after, none⟩) (acy tt t (opv tt env t x) (opv tt env tI i)) := by
  intro c p hr hc
  have hx := o7 h tt t x
  have hxl := yf h tt t x
  have hi := o7 h tt tI i
  generalize opv tt env t x = px at *
  generalize opv tt env tI i = pi at *
  unfold acy at hr
  split at hr
  · rename_i k z
    have ei := (hi.toS rfl).int
    split at hr
    · rename_i sz es
      split at hr
      · rename_i e he
        obtain ⟨eT, h1, h2⟩ := aao ht he
        cases hr
        obtain ⟨hsz, h3, h4⟩ := hc
        obtain ⟨av, cap, ev, hes⟩ := ((hx.toS rfl).slv).slv
        rcases hes with rfl | ⟨ad, p', vs, rfl, hs, hK, hp, hcap, hz, hv, hr'⟩
        · simp at h4; omega
        · have hlt : z.toNat < es.length := by omega
          have hmul : z.toNat * sz + sz ≤ es.length * sz := by rw [← Nat.succ_mul]; exact Nat.mul_le_mul_right _ hlt
          have hel : (es.getD z.toNat .dead) = es[z.toNat] := by simp [List.getD, hlt]
          have hlen : es[z.toNat].cells.length = sz := hz _ (List.getElem_mem hlt)
          refine ⟨.pointer (some (ad.add (z.toNat * sz))), ?_, .inr (.inl ?_), trivial⟩
          · simp [execOp, ei, ev, Instr.indexAt, asIntOf, underlying, h1, h3, h4, h2.rsize w, ← hsz]
          · rw [aai hs, hel]
            refine .cref ⟨ad.block, ad.off + z.toNat * sz, none⟩ p' _ (fun j => vs (z.toNat * sz + j)) rfl hK (by rw [hlen]; simp only; omega) (fun j hj => ?_) fun j c hc => ?_
            · rw [hlen] at hj
              have := hv (z.toNat * sz + j) (by omega)
              rw [← Nat.add_assoc] at this; exact this
            · have hj : j < sz := by rw [← hlen]; exact (List.getElem?_eq_some_iff.1 hc).1
              refine hr' _ _ ?_
              rw [flat_get hz (i := z.toNat) (e := es[z.toNat]) (by simp [hlt]) j hj]; exact hc
      · cases hr
    · rename_i b off sz len cap
      split at hr
      · rename_i e he
        obtain ⟨eT, h1, h2⟩ := aao ht he
        cases hr
        obtain ⟨hsz, h3, h4⟩ := hc
        obtain ⟨off2, cap2, ev, hcap, _, ho⟩ := (hx.toS rfl).bslv
        have ho := ho.resolve_left (by omega)
        subst ho
        refine ⟨.pointer (some ⟨G.bs b, off + z.toNat * sz, none⟩), ?_, .inr (.inl (.ptr _ _)), by simpa [PV.lt] using hxl⟩
        simp [execOp, ei, ev, Instr.indexAt, asIntOf, underlying, h1, h3, h4, h2.rsize w, ← hsz, aai]
      · cases hr
    · rename_i b off sz len cap
      split at hr
      · rename_i e he
        obtain ⟨eT, h1, h2⟩ := aao ht he
        cases hr
        obtain ⟨hsz, h3, h4⟩ := hc
        obtain ⟨off2, ev, hcap, ho⟩ := (hx.toS rfl).xslv
        obtain ⟨ho, _⟩ := ho.resolve_left (by omega)
        subst ho
        refine ⟨.pointer (some ⟨G.bs b, off + z.toNat * sz, none⟩), ?_, .inr (.inl (.ptr _ _)), by simp only [PV.lt] at hxl ⊢; omega⟩
        simp [execOp, ei, ev, Instr.indexAt, asIntOf, underlying, h1, h3, h4, h2.rsize w, ← hsz, aai]
      · cases hr
    · rename_i b off
      split at hr
      · rename_i k' e he
        obtain ⟨eT, h1, h2⟩ := aql ht he
        cases hr
        obtain ⟨h3, h4⟩ := hc
        have ev := (hx.toS rfl).ptrv
        refine ⟨.pointer (some ⟨G.bs b, off + z.toNat * e.size, none⟩), ?_, .inr (.inl (.ptr _ _)), by simpa [PV.lt] using hxl⟩
        simp [execOp, ei, ev, Instr.indexAt, asIntOf, underlying, h1, h3, h4, h2.rsize w, Instr.sureAddr, aai]
      · cases hr
    · cases hr
  · cases hr
def bt (s : ByteArray) (i : Int) : Int := ((s.data.toList.getD i.toNat 0).toNat : Int)
def am7 (tt : TT) (t : TypeId) (x i : PV) : Option (Prop × PV) :=
  match i with
  | .int _ i => (match x with
    | .str s => (match tl tt t with
      | some ⟨.string, _, _, _⟩ => some (0 ≤ i ∧ i < s.size, .int .u8 (bt s i))
      | _ => none)
    | .agg cs => (match ati tt t with
      | some (k, e) => (match ai7 e.desc with
        | false => some (0 ≤ i ∧ i < k ∧ e.size = 1 ∧ k ≤ cs.length, cs.getD i.toNat .dead)
        | true => some (0 ≤ i ∧ i < k ∧ k * e.size ≤ cs.length, .agg ((cs.drop (i.toNat * e.size)).take e.size)))
      | none => none)
    | _ => none)
  | _ => none
theorem ap8 (ht : oq P tt) (h : Sim n m F G env σ a w) {t tI : TypeId} {x i : Operand} :
    Looks P G σ w (execOp a.eval ⟨d, .index t x i, ty, pos, after, none⟩) (am7 tt t (opv tt env t x) (opv tt env tI i)) := by
  intro c p hr hc
  have hx := o7 h tt t x
  have hxl := yf h tt t x
  have hi := o7 h tt tI i
  generalize opv tt env t x = px at *
  generalize opv tt env tI i = pi at *
  unfold am7 at hr
  split at hr
  · rename_i k z
    have ei := (hi.toS rfl).int
    split at hr
    · rename_i s
      split at hr
      · rename_i sz b zz hs
        have hu := (ht _ _ hs).und
        have ev := (hx.toS rfl).str
        cases hr
        obtain ⟨h3, h4⟩ := hc
        have hlt : z.toNat < s.size := by omega
        refine ⟨.int .u8 (bt s z), ?_, .inr (.inl (.pl (.int _ _))), trivial⟩
        have hb : s[z.toNat]? = some s[z.toNat] := by simp [hlt]
        have hb2 : bt s z = (s[z.toNat].toNat : Int) := by
          have hlt' : z.toNat < s.data.size := hlt
          simp [bt, List.getD, hlt', ByteArray.getElem_eq_getElem_data, Array.getElem?_eq_getElem hlt']
        simp [execOp, ei, ev, Instr.index, asIntOf, underlying, hu, h3, hb, hb2]
      · cases hr
    · rename_i cs
      split at hr
      · rename_i k' e he
        obtain ⟨eT, h1, h2⟩ := aql ht he
        obtain ⟨vs, ev, hl, hv⟩ := (hx.toS rfl).aggv
        simp only [PV.lt] at hxl
        split at hr
        · rename_i hd
          cases hr
          obtain ⟨h3, h4, h5, h6⟩ := hc
          have hlt : z.toNat < cs.length := by omega
          have hel : (cs.getD z.toNat .dead) = cs[z.toNat] := by simp [List.getD, hlt]
          rw [hel]
          refine ⟨vs[z.toNat]'(by omega), ?_, .inr (.inl (hv z.toNat _ _ (by simp [hl, hlt]) (by simp [hlt]))), mo.1 hxl _ (List.getElem_mem hlt)⟩
          simp [execOp, ei, ev, Instr.index, asIntOf, underlying, h1, h3, h4, h2.rsize w, h5, part, h2.ragg w, hd, hl, hlt]
        · rename_i hd
          cases hr
          obtain ⟨h3, h4, h6⟩ := hc
          have hmul : z.toNat * e.size + e.size ≤ k' * e.size := by rw [← Nat.succ_mul]; exact Nat.mul_le_mul_right _ (by omega)
          refine ⟨.agg (vs.extract (z.toNat * e.size) (z.toNat * e.size + e.size)), ?_, .inr (.inl (.agg _ _ ?_ fun j v c h1' h2' => ?_)), ?_⟩
          · simp [execOp, ei, ev, Instr.index, asIntOf, underlying, h1, h3, h4, h2.rsize w, part, h2.ragg w, hd]
          · simp; omega
          · rw [List.getElem?_take, List.getElem?_drop] at h2'
            rw [Array.getElem?_extract] at h1'
            split at h2'
            · refine hv (z.toNat * e.size + j) v c ?_ h2'
              split at h1'
              · exact h1'
              · cases h1'
            · cases h2'
          · simp only [PV.lt]; rw [mo]; intro v hv'
            exact mo.1 hxl v (List.mem_of_mem_drop (List.mem_of_mem_take hv'))
      · cases hr
    · cases hr
  · cases hr
def apu (tt : TT) (t : TypeId) (x : PV) : Option (Prop × PV) :=
  match tl tt t with
  | some ⟨.string, _, _, _⟩ => (match x with | .str s => some (True, .int .i64 s.size) | _ => none)
  | some ⟨.array k _, _, _, _⟩ => some (True, .int .i64 k)
  | some ⟨.slice _, _, _, _⟩ => (match x with | .sl .sh _ es => some (True, .int .i64 es.length) | .bsl _ _ _ len _ => some (True, .int .i64 len) | .xsl _ _ _ len _ => some (True, .int .i64 len) | _ => none)
  | some ⟨.pointer e, _, _, _⟩ => (match tl tt e with | some ⟨.array k _, _, _, _⟩ => some (True, .int .i64 k) | _ => none)
  | _ => none
theorem am6 (ht : oq P tt) (h : Sim n m F G env σ a w) {t : TypeId} {x : Operand} :
    Looks P G σ w (execOp a.eval ⟨d, .call ⟨.builtin .len, #[x], #[t]⟩, ty, pos, after, none⟩) (apu tt t (opv tt env t x)) := by
  intro c p hr hc
  have hx := o7 h tt t x
  generalize opv tt env t x = px at *
  have key : ∀ v, (Builtin.len_ #[t] ty #[a.eval x]).run P w = .ok v w → (execOp a.eval ⟨d, .call ⟨.builtin .len, #[x], #[t]⟩, ty, pos, after, none⟩).run P w = .ok (.value v) w := by
    intro v hv
    simp [execOp, resolve, invoke, builtin, hv]
  unfold apu at hr
  split at hr
  · rename_i hs
    have hu := (ht _ _ hs).und
    split at hr
    · have ev := (hx.toS rfl).str
      cases hr
      exact ⟨_, key _ (by simp [Builtin.len_, underlying, hu, ev, goInt]), .inr (.inl (.pl (.int _ _))), trivial⟩
    · cases hr
  · rename_i hs
    have hu := (ht _ _ hs).und
    cases hr
    exact ⟨_, key _ (by simp [Builtin.len_, underlying, hu, goInt]), .inr (.inl (.pl (.int _ _))), trivial⟩
  · rename_i hs
    have hu := (ht _ _ hs).und
    split at hr
    · obtain ⟨av, cap, ev, _⟩ := ((hx.toS rfl).slv).slv
      cases hr
      exact ⟨_, key _ (by simp [Builtin.len_, underlying, hu, ev, goInt]), .inr (.inl (.pl (.int _ _))), trivial⟩
    · obtain ⟨_, _, ev, _⟩ := (hx.toS rfl).bslv
      cases hr
      exact ⟨_, key _ (by simp [Builtin.len_, underlying, hu, ev, goInt]), .inr (.inl (.pl (.int _ _))), trivial⟩
    · obtain ⟨_, ev, _⟩ := (hx.toS rfl).xslv
      cases hr
      exact ⟨_, key _ (by simp [Builtin.len_, underlying, hu, ev, goInt]), .inr (.inl (.pl (.int _ _))), trivial⟩
    · cases hr
  · rename_i hs
    have hu := (ht _ _ hs).und
    split at hr
    · rename_i hs'
      have hu' := (ht _ _ hs').und
      cases hr
      exact ⟨_, key _ (by simp [Builtin.len_, underlying, hu, hu', goInt]), .inr (.inl (.pl (.int _ _))), trivial⟩
    · cases hr
  · cases hr
end
end Go.Proofs.Ytbpjaiemlkcccaa.Pv
end
section
/- New blocks, boxes, variables that are taken over. -/
namespace Go.Proofs.Ytbpjaiemlkcccaa.Pv
open Go
def upd {α : Type} (f : Nat → α) (b : Nat) (k : α) : Nat → α := fun x => if x = b then k else f x
theorem upd_same {α : Type} (f : Nat → α) (b : Nat) (k : α) : upd f b k b = k := by simp [upd]
theorem upd_ne {α : Type} (f : Nat → α) {b x : Nat} (k : α) (h : x ≠ b) : upd f b k x = f x := by simp [upd, h]
section
variable {n m : Nat} {F : Fr} {G : Gh} {env : Env} {σ : Sto} {a : Act} {w : World}
theorem wh.alloc (h : Sim n m F G env σ a w) (o : Obj) (k : Kind) : wh G.K w (upd G.K w.heap.size k) (w.alloc o) := by
  intro b p hb
  have hlt : b < w.heap.size := h.kfree b (by rw [hb]; simp)
  exact ⟨p, ⟨Nat.le_refl _, ab3 (heap_alloc_old w o b hlt)⟩, by rw [upd_ne _ _ (by omega)]; exact hb, fun j _ => World.cell?_alloc_lt w o ⟨b, j, none⟩ hlt⟩
theorem adc (w : World) (o : Obj) {b : Nat} (h : b < w.heap.size) : (w.alloc o).heap[b]? = w.heap[b]? := heap_alloc_old w o b h
theorem Sim.alloc (h : Sim n m F G env σ a w) (o : Obj) (k : Kind) : Sim n m F ⟨upd G.K w.heap.size k, G.bs⟩ env σ a (w.alloc o) := by
  refine h.world (wh.alloc h o k) (fun _ _ => rfl) (by simp) (fun b hb => ⟨adc w o hb, upd_ne _ _ (by omega)⟩) fun b hb hk => ?_
  by_cases e : b = w.heap.size
  · subst e; simp
  · simp only [upd_ne _ _ e] at hk; exact absurd (h.kfree b hk) (by omega)
theorem Evol.alloc (h : Sim n m F G env σ a w) (o : Obj) (k : Kind) (bs' : Nat → Bx) (hb : ∀ i, i < m → bs' i = G.bs i) : Evol m F G w ⟨upd G.K w.heap.size k, bs'⟩ (w.alloc o) :=
  ⟨rfl, rfl, rfl, by simp, fun b hb => ⟨adc w o (h.frlt b hb), upd_ne _ _ (by have := h.frlt b hb; omega)⟩, wh.alloc h o k, hb⟩
theorem Evol.drew (h : Sim n m F G env σ a w) : Evol m F G w G w.drew := ⟨rfl, rfl, rfl, Nat.le_refl _, fun _ _ => ⟨rfl, rfl⟩, fun _ p h => ⟨p, ⟨Nat.le_refl _, rfl⟩, h, fun _ _ => rfl⟩, fun _ _ => rfl⟩
theorem Sim.drew (h : Sim n m F G env σ a w) : Sim n m F G env σ a w.drew :=
  h.world (fun _ p h => ⟨p, ⟨Nat.le_refl _, rfl⟩, h, fun _ _ => rfl⟩) (fun _ _ => rfl) (Nat.le_refl _) (fun _ _ => ⟨rfl, rfl⟩) (fun b hb hk => absurd (h.kfree b hk) (by omega))
theorem aii {v : Value} {p : PV} {b : Nat} (hr : RepO G w v p) (hb : ownB v p = some b) : b < w.heap.size := by
  cases hr with
  | dead => rw [aaf] at hb; cases hb
  | sh hr => rw [yz hr] at hb; cases hb
  | ow a cap sz es hr ho =>
    cases a with
    | none => simp [ownB] at hb
    | some ad =>
      simp only [ownB] at hb
      split at hb
      · rename_i hlt
        obtain ⟨ad', e, _, _, h4⟩ := ho hlt
        cases e; cases hb; exact h4.lt
      · cases hb
  | tb0 a e sz => cases a <;> simp [ownB] at hb
  | tb b' cap e sz es vs hK hc h0 hsp hsh hsz hv hr => simp only [ownB, h0, if_true] at hb; cases hb; exact hsp.lt
  | ex0 a sz => cases a <;> simp [ownB] at hb
  | ex b' cap sz es vs hK hc h0 hsp hsz hv hr => simp only [ownB, h0, if_true] at hb; cases hb; exact hsp.lt
def ahl (G : Gh) (F : Fr) (env : Env) (σ : Sto) (a : Act) (w : World) (arr : Array Value) (cs : List PV) : Prop :=
  (∀ (j : Nat) v c b, arr[j]? = some v → cs[j]? = some c → ownB v c = some b → ¬ F b ∧ ∀ l, nz G env σ a.tmps w l ≠ some b) ∧
  ∀ (j j' : Nat) v c v' c' b, arr[j]? = some v → cs[j]? = some c → ownB v c = some b → arr[j']? = some v' → cs[j']? = some c' → ownB v' c' = some b → j = j'
theorem Sim.box (h : Sim n m F G env σ a w) (arr : Array Value) (T : TypeId) (cs : List PV) (hl : cs.length ≤ arr.size) (hlt : o6 σ.length cs)
    (hr : ∀ (j : Nat) v c, arr[j]? = some v → cs[j]? = some c → RepO G w v c) (hO : ahl G F env σ a w arr cs) (st : Bool := false) :
    Sim n m F ⟨upd G.K w.heap.size (.box σ.length), upd G.bs σ.length ⟨w.heap.size, (T, arr.size), st⟩⟩ env (σ ++ [.cells cs]) a (w.alloc (.cells arr T)) := by
  have h1 := h.alloc (.cells arr T) (.box σ.length)
  have hle := wh.alloc h (.cells arr T) (.box σ.length)
  have hbs : ∀ i, i < σ.length → upd G.bs σ.length ⟨w.heap.size, (T, arr.size), st⟩ i = G.bs i := fun i hi => upd_ne _ _ (by omega)
  have hcell : ∀ j, (w.alloc (.cells arr T)).cell? ⟨w.heap.size, j, none⟩ = arr[j]? := fun j => World.cell?_alloc_new w arr T j
  have hsame : ∀ b, b < w.heap.size → (w.alloc (.cells arr T)).heap[b]? = w.heap[b]? ∧ upd G.K w.heap.size (.box σ.length) b = G.K b := fun b hb => ⟨adc _ _ hb, upd_ne _ _ (by omega)⟩
  have hnew : ∀ (j : Nat) v c, arr[j]? = some v → cs[j]? = some c → RepO ⟨upd G.K w.heap.size (.box σ.length), upd G.bs σ.length ⟨w.heap.size, (T, arr.size), st⟩⟩ (w.alloc (.cells arr T)) v c := by
    intro j v c hv hc
    exact (hr j v c hv hc).mono hle hbs (mo.1 hlt c (List.mem_of_getElem? hc)) fun b hb => hsame b (aii (hr j v c hv hc) hb)
  have lt1 : ∀ {p : PV} {k : Nat}, p.lt k → p.lt (k + 1) := by
    intro p k hp
    have key : ∀ p : PV, p.lt k → p.lt (k + 1) := by
      intro p
      refine PV.rec (motive_1 := fun p => p.lt k → p.lt (k + 1)) (motive_2 := fun l => o6 k l → o6 (k + 1) l) ?_ ?_ ?_ ?_ ?_ ?_ ?_ ?_ ?_ ?_ ?_ ?_ ?_ ?_ ?_ ?_ ?_ ?_ ?_ ?_ ?_ ?_ ?_ p <;>
        first
          | (intros; trivial)
          | (intro _ ih h; exact ih h)
          | (intro i off h; simp only [PV.lt] at *; omega)
          | (intro i h; simp only [PV.lt] at *; omega)
          | (intro i off sz len cap h; simp only [PV.lt] at *; omega)
          | (intro i off sz len cap h; simp only [PV.lt] at *; exact h.imp_right fun h => by omega)
          | (intro _ _ _ ih1 ih2 h; exact ⟨ih1 h.1, ih2 h.2⟩)
          | (intro _ _ ih1 ih2 h; exact ⟨ih1 h.1, ih2 h.2⟩)
    exact key p hp
  have ltA : ∀ {l : List PV} {k : Nat}, o6 k l → o6 (k + 1) l := fun h => mo.2 fun v hv => lt1 (mo.1 h v hv)
  have hget : ∀ i e, (σ ++ [Ent.cells cs])[i]? = some e → (i < σ.length ∧ σ[i]? = some e) ∨ (i = σ.length ∧ e = .cells cs) := by
    intro i e hi
    by_cases hlt : i < σ.length
    · rw [List.getElem?_append_left hlt] at hi; exact .inl ⟨hlt, hi⟩
    · rw [List.getElem?_append_right (by omega)] at hi
      cases hk : i - σ.length with
      | zero => rw [hk] at hi; simp at hi; exact .inr ⟨by omega, hi.symm⟩
      | succ k => rw [hk] at hi; simp at hi
  have key : ∀ l b, nz ⟨upd G.K w.heap.size (.box σ.length), upd G.bs σ.length ⟨w.heap.size, (T, arr.size), st⟩⟩ env (σ ++ [.cells cs]) a.tmps (w.alloc (.cells arr T)) l = some b →
      (nz ⟨upd G.K w.heap.size (.box σ.length), G.bs⟩ env σ a.tmps (w.alloc (.cells arr T)) l = some b ∧ ∀ j, l ≠ .cell σ.length j) ∨ ∃ j v c, l = .cell σ.length j ∧ arr[j]? = some v ∧ cs[j]? = some c ∧ ownB v c = some b := by
    intro l b hl
    cases l with
    | slot t j => exact .inl ⟨hl, fun j' e => by cases e⟩
    | cell i j =>
      simp only [nz] at hl
      cases hi : (σ ++ [Ent.cells cs])[i]? with
      | none => rw [hi] at hl; cases hl
      | some e =>
        rw [hi] at hl
        rcases hget i e hi with ⟨hlt', hi'⟩ | ⟨rfl, rfl⟩
        · refine .inl ⟨?_, fun j' e => by cases e; omega⟩
          simp only [nz, hi']
          rw [hbs i hlt'] at hl; exact hl
        · simp only [upd_same, hcell] at hl
          split at hl
          · rename_i c v hc hv; exact .inr ⟨j, v, c, rfl, hv, hc, hl⟩
          · cases hl
  have oldown : ∀ l b, nz ⟨upd G.K w.heap.size (.box σ.length), G.bs⟩ env σ a.tmps (w.alloc (.cells arr T)) l = some b → nz G env σ a.tmps w l = some b := by
    intro l b hl
    cases l with
    | slot t j => exact hl
    | cell i j =>
      simp only [nz] at hl ⊢
      cases hi : σ[i]? with
      | none => rw [hi] at hl; cases hl
      | some e =>
        rw [hi] at hl
        cases e with
        | cells cs' =>
          have h2 := h.sto i _ hi
          have hb : G.bs i < w.heap.size := h.kfree _ (by rw [h2.1]; simp)
          have e1 : (w.alloc (.cells arr T)).cell? ⟨G.bs i, j, none⟩ = w.cell? ⟨G.bs i, j, none⟩ := World.cell?_alloc_lt w _ ⟨G.bs i, j, none⟩ hb
          simp only [e1] at hl
          exact hl
        | _ => exact hl
  refine ⟨h1.size, fun t => ?_, fun t => ?_, fun i e hi => ?_, fun i e hi => ?_, fun b hb => h1.kfree b hb, fun i e hi hc => ?_, fun l1 l2 b g1 g2 => ?_, fun l b hl => ?_, h1.frlt, h1.marks, h1.markF, by simp; have := h.floor; omega⟩
  · exact (h1.rep t).mono (wh.refl _ _) hbs (h.envlt t) (fun _ _ _ => ⟨rfl, rfl⟩)
  · rw [List.length_append]; exact lt1 (h.envlt t)
  · rcases hget i e hi with ⟨hlt', hi'⟩ | ⟨rfl, rfl⟩
    · have h2 := h1.sto i e hi'
      cases e with
      | cells cs' =>
        obtain ⟨g1, g2, g3⟩ := h2
        refine ⟨by simp only [hbs i hlt']; exact g1, by simp only [hbs i hlt']; exact g2, fun j c hc => ?_⟩
        obtain ⟨v, hv, hR⟩ := g3 j c hc
        refine ⟨v, by simp only [hbs i hlt']; exact hv, hR.mono (wh.refl _ _) hbs ?_ (fun _ _ => ⟨rfl, rfl⟩)⟩
        have := h.stolt i _ hi'
        simp only [Ent.lt] at this
        exact mo.1 this c (List.mem_of_getElem? hc)
      | gone => trivial
      | loop x y z u =>
        obtain ⟨g1, g2, g3⟩ := h2
        exact ⟨by simp only [hbs i hlt']; exact g1, by simp only [hbs i hlt']; exact g2, fun t => (g3 t).imp_right fun hr => hr.mono (wh.refl _ _) hbs (h.stolt i _ hi' t)⟩
    · refine ⟨by simp only [upd_same], ⟨⟨arr, T, (0, 0), by simp only [upd_same]; exact heap_alloc_new w _, hl, fun j _ _ => by simp only [upd_same]; exact World.frozen?_alloc_new w arr T j⟩, by simp only [upd_same]; simp only [World.shape?, heap_alloc_new w], fun _ j => by simp only [upd_same]; exact World.frozen?_alloc_new w arr T j⟩, fun j c hc => ?_⟩
      have hj : j < arr.size := by have := (List.getElem?_eq_some_iff.1 hc).1; omega
      exact ⟨arr[j], by simp only [upd_same]; rw [hcell]; simp [hj], hnew j _ c (by simp [hj]) hc⟩
  · rw [List.length_append]
    rcases hget i e hi with ⟨_, hi'⟩ | ⟨rfl, rfl⟩
    · have := h.stolt i e hi'
      cases e with
      | cells cs' => exact ltA this
      | gone => trivial
      | loop x y z u => exact fun t => lt1 (this t)
    · exact ltA hlt
  · rcases hget i e hi with ⟨hlt', hi'⟩ | ⟨rfl, rfl⟩
    · simp only [hbs i hlt']; exact h1.inj i e hi' hc
    · simp only [upd_same]; intro hF; exact absurd (h.frlt _ hF) (Nat.lt_irrefl _)
  · rcases key l1 b g1 with ⟨k1, n1⟩ | ⟨j, v, c, rfl, hv, hc, hb⟩ <;> rcases key l2 b g2 with ⟨k2, n2⟩ | ⟨j', v', c', rfl, hv', hc', hb'⟩
    · exact h1.uniq l1 l2 b k1 k2
    · exact absurd (oldown _ _ k1) ((hO.1 j' v' c' b hv' hc' hb').2 l1)
    · exact absurd (oldown _ _ k2) ((hO.1 j v c b hv hc hb).2 l2)
    · rw [hO.2 j j' v c v' c' b hv hc hb hv' hc' hb']
  · rcases key l b hl with ⟨k1, _⟩ | ⟨j, v, c, rfl, hv, hc, hb⟩
    · exact h1.fr l b k1
    · exact (hO.1 j v c b hv hc hb).1
theorem ahl.of_sh {arr : Array Value} {cs : List PV} (h : ∀ (j : Nat) v c, arr[j]? = some v → cs[j]? = some c → ownB v c = none) : ahl G F env σ a w arr cs :=
  ⟨fun j v c b hv hc hb => (by rw [h j v c hv hc] at hb; cases hb), fun j j' v c v' c' b hv hc hb _ _ _ => (by rw [h j v c hv hc] at hb; cases hb)⟩
end
end Go.Proofs.Ytbpjaiemlkcccaa.Pv
end
section
/- Operations that make, read and write boxes; variables that are taken over. -/
namespace Go.Proofs.Ytbpjaiemlkcccaa.Pv
open Go
def ai3 : PV → PV
  | .sl .sh sz [] => .sl .ow sz []
  | p => p
section
variable {P : Program} {l : Option Nat} {tt : TT} {n m : Nat} {all : Array Oper} {rest : List Oper} {env : Env} {σ : Sto} {Q : Post} {d : Nat} {ty : TypeId} {pos : String} {after : Array Edge}
theorem akk {G : Gh} {w : World} {v : Value} {p : PV} (h : zc1 v p = true) : RepO G w v (ai3 p) ∧ ownB v (ai3 p) = none ∧ (p = .dead ∨ RepP G.K w v p) := by
  unfold zc1 at h
  split at h
  · exact ⟨.sh (.pl (.bool _)), rfl, .inr (.bool _)⟩
  · simp only [Bool.and_eq_true, beq_iff_eq] at h; obtain ⟨rfl, rfl⟩ := h; exact ⟨.sh (.pl (.int _ _)), rfl, .inr (.int _ _)⟩
  · rename_i s s'
    simp only [Bool.and_eq_true, beq_iff_eq] at h
    have : s = s' := by
      obtain ⟨d1⟩ := s; obtain ⟨d2⟩ := s'
      obtain ⟨h1, h2⟩ := h
      have e1 : d1 = #[] := Array.eq_empty_of_size_eq_zero h1
      have e2 : d2 = #[] := Array.eq_empty_of_size_eq_zero h2
      rw [e1, e2]
    subst this
    exact ⟨.sh (.pl (.str _)), rfl, .inr (.str _)⟩
  · rename_i sz
    exact ⟨.ow none 0 sz [] (.sl0 none 0 sz) (fun h => by simp at h), rfl, .inr (.sl0 none 0 sz)⟩
  · rename_i sz; exact ⟨.sh (.pl (.nils sz)), rfl, .inr (.nils sz)⟩
  · exact ⟨.sh (.pl .nilptr), rfl, .inr .nilptr⟩
  · exact ⟨.sh (.pl .nilfn), rfl, .inr .nilfn⟩
  · exact ⟨.sh (.pl .nilif), rfl, .inr .nilif⟩
  · exact ⟨.dead _, aaf _, .inl rfl⟩
  · cases h
theorem afb : ∀ {vs : List Value} {ps : List PV}, zcs vs ps = true → vs.length = ps.length ∧ ∀ (j : Nat) v p, vs[j]? = some v → ps[j]? = some p → zc1 v p = true
  | [], [], _ => ⟨rfl, fun j v p h _ => by simp at h⟩
  | v :: r, p :: q, h => by
    simp only [zcs, Bool.and_eq_true] at h
    obtain ⟨h1, h2⟩ := afb h.2
    refine ⟨by simp [h1], fun j v' p' hv hp => ?_⟩
    cases j with
    | zero => simp at hv hp; subst hv; subst hp; exact h.1
    | succ j => simp at hv hp; exact h2 j v' p' hv hp
  | [], _ :: _, h => by simp [zcs] at h
  | _ :: _, [], h => by simp [zcs] at h
theorem avq {p : PV} {k : Nat} (h : p.lt k) : (ai3 p).lt k := by unfold ai3; split <;> first | trivial | exact h
theorem aqz : ∀ {vs : List Value} {ps : List PV}, zcs vs ps = true → ∀ k, o6 k ps
  | [], [], _, _ => trivial
  | v :: r, p :: q, h, k => by
    simp only [zcs, Bool.and_eq_true] at h
    refine ⟨?_, aqz h.2 k⟩
    have := h.1
    unfold zc1 at this
    split at this <;> first | trivial | cases this
  | [], _ :: _, h, _ => by simp [zcs] at h
  | _ :: _, [], h, _ => by simp [zcs] at h
theorem am1 (ht : oq P tt) {t : TypeId} {i : TI} (hi : tl tt t = some i) (hd : d < n)
    (h : SatOps P l n m all rest ((d, .ptr σ.length 0) :: env) (σ ++ [.cells (i.zero.map ai3)]) Q) : SatOps P l n m all (⟨some d, .alloc t, ty, pos, after, none⟩ :: rest) env σ Q := by
  refine ym rfl (by simp) fun F G a w hs => ?_
  obtain ⟨z, hz, hzc⟩ := (ht _ _ hi).rzero w
  obtain ⟨hl, hc⟩ := afb hzc
  have hs1 := hs.box z.cells t (i.zero.map ai3) (by simp [← hl]) (by
      rw [mo]; intro v hv
      obtain ⟨p, hp, rfl⟩ := List.mem_map.1 hv
      exact avq (mo.1 (aqz hzc _) p hp)) (fun j v c hv hc' => by
      rw [List.getElem?_map, Option.map_eq_some_iff] at hc'
      obtain ⟨p, hp, rfl⟩ := hc'
      exact (akk (hc j v p (by simpa using hv) hp)).1) (.of_sh fun j v c hv hc' => by
      rw [List.getElem?_map, Option.map_eq_some_iff] at hc'
      obtain ⟨p, hp, rfl⟩ := hc'
      exact (akk (G := G) (w := w) (hc j v p (by simpa using hv) hp)).2.1)
  refine ⟨.pointer (some ⟨w.heap.size, 0, none⟩), _, _, _, _, .inl (by simp [execOp, Instr.alloc, hz, newVar, newRow]), hs1.setS hd (v := .pointer (some ⟨w.heap.size, 0, none⟩)) ?_ (by simp [PV.lt]), Evol.alloc hs _ _ _ fun i hi => upd_ne _ _ (by have := hs.floor; omega), h⟩
  have : RepS ⟨upd G.K w.heap.size (.box σ.length), upd G.bs σ.length ⟨w.heap.size, (t, z.cells.size), false⟩⟩ (w.alloc (.cells z.cells t)) (.pointer (some ⟨(upd G.bs σ.length ⟨w.heap.size, (t, z.cells.size), false⟩ σ.length).b, 0, none⟩)) (.ptr σ.length 0) := .ptr _ _
  rw [upd_same] at this
  exact this
theorem ad7 {G : Gh} {w : World} {v : Value} {p : PV} (h : RepS G w v p) : v.cells.size = p.cells.length ∧ ∀ (j : Nat) u c, v.cells[j]? = some u → p.cells[j]? = some c → RepS G w u c := by
  have one : ∀ {v : Value} {p : PV}, v.cells = #[v] → p.cells = [p] → RepS G w v p → v.cells.size = p.cells.length ∧ ∀ (j : Nat) u c, v.cells[j]? = some u → p.cells[j]? = some c → RepS G w u c := by
    intro v p e1 e2 h
    rw [e1, e2]
    refine ⟨rfl, fun j u c h1 h2 => ?_⟩
    cases j with
    | zero => simp at h1 h2; subst h1; subst h2; exact h
    | succ j => simp at h2
  cases h with
  | pl h => cases h with
    | agg vs cs hl h => exact ⟨hl, fun j u c h1 h2 => .pl (h j u c h1 h2)⟩
    | bool b => exact one rfl rfl (.pl (.bool b))
    | int k z => exact one rfl rfl (.pl (.int k z))
    | str s => exact one rfl rfl (.pl (.str s))
    | nilfn => exact one rfl rfl (.pl .nilfn)
    | nilif => exact one rfl rfl (.pl .nilif)
    | nilptr => exact one rfl rfl (.pl .nilptr)
    | nils sz => exact one rfl rfl (.pl (.nils sz))
    | raw t v => exact one rfl rfl (.pl (.raw t v))
    | sl0 a cap sz => exact one rfl rfl (.pl (.sl0 a cap sz))
    | sl ad cap sz p es vs hs hK hp hc hsz hv hr => exact one rfl rfl (.pl (.sl ad cap sz p es vs hs hK hp hc hsz hv hr))
  | agg vs cs hl h => exact ⟨hl, h⟩
  | ptr i off => exact one rfl rfl (.ptr i off)
  | yld i => exact one rfl rfl (.yld i)
  | bnil i T k h => exact one rfl rfl (.bnil i T k h)
  | tptr i T k h => exact one rfl rfl (.tptr i T k h)
  | bsl a i off sz len cap cap' h1 h2 h3 => exact one rfl rfl (.bsl a i off sz len cap cap' h1 h2 h3)
  | xsl a i off sz len cap h1 h3 => exact one rfl rfl (.xsl a i off sz len cap h1 h3)
  | cref ad p cs vs hs hK hp hv hr => exact one rfl rfl (.cref ad p cs vs hs hK hp hv hr)
  | tsl i e k len cap h => exact one rfl rfl (.tsl i e k len cap h)
  | fn f xs ys as bs hx hy ha hb => exact one rfl rfl (.fn f xs ys as bs hx hy ha hb)
theorem cells_lt {p : PV} {k : Nat} (h : p.lt k) : o6 k p.cells := by
  cases p <;> first | exact h | exact ⟨h, trivial⟩
theorem awl {t : TypeId} {x : Operand} {p : PV} (hp : opv tt env t x = p) (hS : p.isS = true) (hd : d < n)
    (h : SatOps P l n m all rest ((d, .ptr σ.length 0) :: env) (σ ++ [.cells p.cells]) Q) : SatOps P l n m all (⟨some d, .box t x, ty, pos, after, none⟩ :: rest) env σ Q := by
  refine ym rfl (by simp) fun F G a w hs => ?_
  have hx := o7 hs tt t x
  have hxl := yf hs tt t x
  rw [hp] at hx hxl
  obtain ⟨h1, h2⟩ := ad7 (hx.toS hS)
  have hs1 := hs.box (a.eval x).cells t p.cells (by omega) (cells_lt hxl) (fun j v c hv hc => .sh (h2 j v c hv hc)) (.of_sh fun j v c hv hc => yz (h2 j v c hv hc))
  refine ⟨.pointer (some ⟨w.heap.size, 0, none⟩), _, _, _, _, .inl (by simp [execOp, Instr.box, newVar, newRow]), hs1.setS hd (v := .pointer (some ⟨w.heap.size, 0, none⟩)) ?_ (by simp [PV.lt]), Evol.alloc hs _ _ _ fun i hi => upd_ne _ _ (by have := hs.floor; omega), h⟩
  have : RepS ⟨upd G.K w.heap.size (.box σ.length), upd G.bs σ.length ⟨w.heap.size, (t, (a.eval x).cells.size), false⟩⟩ (w.alloc (.cells (a.eval x).cells t)) (.pointer (some ⟨(upd G.bs σ.length ⟨w.heap.size, (t, (a.eval x).cells.size), false⟩ σ.length).b, 0, none⟩)) (.ptr σ.length 0) := .ptr _ _
  rw [upd_same] at this
  exact this
theorem qx {e : TI} (he : eti tt ty = some e) (hd : d < n) (h : SatOps P l n m all rest ((d, .sl .ow e.size []) :: env) σ Q) :
    SatOps P l n m all (⟨some d, .assign (.const (.slice none 0 0)), ty, pos, after, none⟩ :: rest) env σ Q := by
  refine ym rfl (by simp) fun F G a w hs => ?_
  exact ⟨.slice none 0 0, w, G, _, σ, .inl rfl, hs.set hd (.one (.ow none 0 e.size [] (.sl0 none 0 _) (fun h => by simp at h))) trivial
    (fun j b hb => by unfold o8 at hb; simp [ownB] at hb) (fun j1 j2 b hb => by unfold o8 at hb; simp [ownB] at hb), .refl _ _ _ _, h⟩
def y8 : PV → PV
  | .sl .ow sz es => .sl .sh sz es
  | _ => .dead
def PV.isOwn : PV → Bool
  | .sl .ow _ _ | .sl (.tb _) _ _ | .sl .ex _ _ => true
  | _ => false
def PV.isOwnA : PV → Bool
  | .sl .ow _ _ | .sl .ex _ _ => true
  | _ => false
theorem apr {p : PV} (h : p.isOwnA = true) : p.isOwn = true := by
  unfold PV.isOwnA at h; split at h <;> first | rfl | cases h
theorem adx {p : PV} (h : p.isOwn = true) (v : Value) (j : Nat) : o8 v p j = if j = 0 then ownB v p else none := by
  unfold o8
  cases p <;> first | (cases h; done) | (cases v <;> rfl)
theorem aj1 {p : PV} (h : p.isOwn = true) (v : Value) (j : Nat) : o8 v (y8 p) j = none := by
  cases p with
  | sl o sz es =>
    cases o <;> first | (cases h; done) | skip
    · unfold o8 y8; cases v <;> simp [ownB]
    · exact zn _ _
    · exact zn _ _
  | _ => cases h
theorem ams {p : PV} (h : p.isOwn = true) : Wk (y8 p) p := by
  cases p with
  | sl o sz es => cases o <;> first | (cases h; done) | exact .inr (.inr ⟨_, _, rfl, rfl⟩) | exact .inl rfl
  | _ => cases h
theorem Sim.take {F : Fr} {G : Gh} {a : Act} {w : World} (h : Sim n m F G env σ a w) {t : Nat} {p : PV} (hp : look env t = p) (ho : p.isOwn = true) :
    Sim n m F G ((t, y8 p) :: env) σ a w ∧ RepO G w (a.tmps.getD t undef) p ∧ ∀ b, ownB (a.tmps.getD t undef) p = some b → ¬ F b ∧ ∀ l, nz G ((t, y8 p) :: env) σ a.tmps w l ≠ some b := by
  have hw : Sim n m F G ((t, y8 p) :: env) σ a w := h.weaken fun t' => by
    rw [qg]; split
    · rename_i e; subst e; rw [hp]; exact ams ho
    · exact .inr (.inl rfl)
  have hr := h.rep t
  rw [hp] at hr
  refine ⟨hw, hr.toO (fun ps e => by subst e; cases ho), fun b hb => ?_⟩
  have h0 : nz G env σ a.tmps w (.slot t 0) = some b := by simp only [nz, hp, adx ho, if_true]; exact hb
  refine ⟨h.fr _ b h0, fun l' hl => ?_⟩
  have h1 : nz G env σ a.tmps w l' = some b ∧ l' ≠ .slot t 0 := by
    cases l' with
    | slot t' j =>
      simp only [nz, qg] at hl ⊢
      by_cases e : t' = t
      · subst e; rw [if_pos rfl, aj1 ho] at hl; cases hl
      · rw [if_neg e] at hl; exact ⟨hl, fun e' => e (by cases e'; rfl)⟩
    | cell i j => exact ⟨hl, fun e' => by cases e'⟩
  exact h1.2 (h.uniq _ _ b h1.1 h0)
theorem qh {op : Op} {t : Nat} {p : PV} (hop : op = .assign (.tmp t) ∨ op = .move (.tmp t)) (hp : look env t = p) (ho : p.isOwn = true) (hd : d < n)
    (h : SatOps P l n m all rest ((d, p) :: (t, y8 p) :: env) σ Q) : SatOps P l n m all (⟨some d, op, ty, pos, after, none⟩ :: rest) env σ Q := by
  refine ym rfl (by rcases hop with rfl | rfl <;> simp) fun F G a w hs => ?_
  obtain ⟨h1, h2, h3⟩ := hs.take hp ho
  refine ⟨a.tmps.getD t undef, w, G, _, σ, .inl (by rcases hop with rfl | rfl <;> rfl), h1.set hd (.one h2) ?_ (fun j b hb => ?_) (fun j1 j2 b hb1 hb2 => ?_), .refl _ _ _ _, h⟩
  · cases p <;> first | trivial | cases ho
  · rw [adx ho] at hb
    split at hb
    · exact ⟨(h3 b hb).1, fun l hl => absurd hl ((h3 b hb).2 l)⟩
    · cases hb
  · rw [adx ho] at hb1 hb2
    split at hb1
    · split at hb2
      · omega
      · cases hb2
    · cases hb1
end
end Go.Proofs.Ytbpjaiemlkcccaa.Pv
end
section
/- Boxes that are read and written. -/
namespace Go.Proofs.Ytbpjaiemlkcccaa.Pv
open Go
theorem zb (b : Nat) : ∀ (vs : List Value) (o : Nat) (w : World) (x : Nat), x ≠ b → (w.setCells b o vs).heap[x]? = w.heap[x]?
  | [], _, _, _, _ => rfl
  | v :: r, o, w, x, h => by
    rw [World.setCells, zb b r (o + 1) _ x h]
    exact heap_setCell_other w ⟨b, o, none⟩ x v h
theorem aef (b : Nat) : ∀ (vs : List Value) (o : Nat) (w : World), (w.setCells b o vs).heap.size = w.heap.size ∧ (w.setCells b o vs).os = w.os ∧ (w.setCells b o vs).tape = w.tape ∧ (w.setCells b o vs).output = w.output
  | [], _, _ => ⟨rfl, rfl, rfl, rfl⟩
  | v :: r, o, w => by
    rw [World.setCells]
    obtain ⟨h1, h2, h3, h4⟩ := aef b r (o + 1) (w.setCell ⟨b, o, none⟩ v)
    exact ⟨h1.trans (World.size_setCell _ _ _), h2, h3, h4⟩
theorem ank (b : Nat) : ∀ (vs : List Value) (o : Nat) (w : World) {arr : Array Value} {T : TypeId} {fz : Nat × Nat}, w.heap[b]? = some (.cells arr T fz) →
    ∃ arr', (w.setCells b o vs).heap[b]? = some (.cells arr' T fz) ∧ arr'.size = arr.size
  | [], _, _, arr, _, _, h => ⟨arr, h, rfl⟩
  | v :: r, o, w, arr, T, fz, h => by
    rw [World.setCells]
    have h1 : (w.setCell ⟨b, o, none⟩ v).heap[b]? = some (.cells (arr.setIfInBounds o v) T fz) := by
      simp [World.setCell, Array.getElem?_modify, h]
    obtain ⟨arr', h2, h3⟩ := ank b r (o + 1) _ h1
    exact ⟨arr', h2, by simpa using h3⟩
theorem ag3 {b lo hi : Nat} {w : World} (h : aav w b lo hi) (x o : Nat) (vs : List Value) : aav (w.setCells x o vs) b lo hi := by
  obtain ⟨arr, T, fz, h1, h2, h3⟩ := h
  by_cases e : b = x
  · subst e
    obtain ⟨arr', h4, h5⟩ := ank b vs o w h1
    exact ⟨arr', T, fz, h4, by omega, fun j hj hk => by rw [World.frozen?_setCells]; exact h3 j hj hk⟩
  · exact ⟨arr, T, fz, (zb x vs o w b e).trans h1, h2, fun j hj hk => by rw [World.frozen?_setCells]; exact h3 j hj hk⟩
theorem am5 {b : Nat} {w : World} {k : Nat × Nat} (h : w.shape? b = some k) (x o : Nat) (vs : List Value) : (w.setCells x o vs).shape? b = some k := by
  by_cases e : b = x
  · subst e
    simp only [World.shape?] at h ⊢
    split at h
    · rename_i arr T fz h1
      obtain ⟨arr', h4, h5⟩ := ank b vs o w h1
      rw [h4]; simp only [h5]; exact h
    · cases h
  · exact (ab3 (zb x vs o w b e)).trans h
theorem af7 {x : Bx} {hi : Nat} {w : World} (h : SpareB w x hi) (y o : Nat) (vs : List Value) : SpareB (w.setCells y o vs) x hi := ⟨ag3 h.sp y o vs, am5 h.sh y o vs, fun hst j => by rw [World.frozen?_setCells]; exact h.nf hst j⟩
section
variable {n m : Nat} {F : Fr} {G : Gh} {env : Env} {σ : Sto} {a : Act} {w : World}
theorem ah9 (h : Sim n m F G env σ a w) {i : Nat} {cs : List PV} (hi : σ[i]? = some (.cells cs)) : G.K (G.bs i) = .box i := (h.sto i _ hi).1
theorem Sim.boxSet (h : Sim n m F G env σ a w) {i : Nat} {cs cs' : List PV} (hi : σ[i]? = some (.cells cs)) {w' : World} (hsz : w'.heap.size = w.heap.size)
    (hother : ∀ b : Nat, b ≠ (G.bs i).b → w'.heap[b]? = w.heap[b]?) (hsp : SpareB w' (G.bs i) cs'.length) (hlt : o6 σ.length cs')
    (hc : ∀ j c, cs'[j]? = some c → ∃ v, w'.cell? ⟨G.bs i, j, none⟩ = some v ∧ RepO G w v c)
    (hO : ∀ j v c b, w'.cell? ⟨G.bs i, j, none⟩ = some v → cs'[j]? = some c → ownB v c = some b → ¬ F b ∧ ∀ l, nz G env σ a.tmps w l = some b → l = .cell i j)
    (hI : ∀ j j' v c v' c' b, w'.cell? ⟨G.bs i, j, none⟩ = some v → cs'[j]? = some c → ownB v c = some b → w'.cell? ⟨G.bs i, j', none⟩ = some v' → cs'[j']? = some c' → ownB v' c' = some b → j = j') :
    Sim n m F G env (σ.set i (.cells cs')) a w' := by
  have hK := ah9 h hi
  have hil : i < σ.length := (List.getElem?_eq_some_iff.1 hi).1
  have hne : ∀ (b : Nat) k, G.K b = k → (∀ j, k ≠ .box j) → w'.heap[b]? = w.heap[b]? := fun b k hb hk => hother b fun e => hk i (by rw [← hb, e, hK])
  have hle : wh G.K w G.K w' := fun b p hb => ⟨p, ⟨Nat.le_refl _, ab3 (hne b _ hb (by simp))⟩, hb, fun j _ => zi (hne b _ hb (by simp))⟩
  have hown : ∀ v p b, RepO G w v p → ownB v p = some b → w'.heap[b]? = w.heap[b]? := by
    intro v p b hr hb
    cases hr with
    | dead => rw [aaf] at hb; cases hb
    | sh hr => rw [yz hr] at hb; cases hb
    | ow av cap sz es hr ho =>
      cases av with
      | none => simp [ownB] at hb
      | some ad =>
        simp only [ownB] at hb
        split at hb
        · rename_i hl
          obtain ⟨ad', e, _, h3, h4⟩ := ho hl
          cases e; cases hb; exact hne _ _ h3 (by simp)
        · cases hb
    | tb0 av e sz => cases av <;> simp [ownB] at hb
    | tb b' cap e sz es vs hK' hc h0 hsp hsh hsz hv hr => simp only [ownB, h0, if_true] at hb; cases hb; exact hne _ _ hK' (by simp)
    | ex0 av sz => cases av <;> simp [ownB] at hb
    | ex b' cap sz es vs hK' hc h0 hsp hsz hv hr => simp only [ownB, h0, if_true] at hb; cases hb; exact hne _ _ hK' (by simp)
  have hmono : ∀ v p, RepO G w v p → p.lt σ.length → RepO G w' v p := fun v p hr hl => hr.mono hle (fun _ _ => rfl) hl fun b hb => ⟨hown v p b hr hb, rfl⟩
  have hget : ∀ k e, (σ.set i (Ent.cells cs'))[k]? = some e → (k = i ∧ e = .cells cs') ∨ (k ≠ i ∧ σ[k]? = some e) := by
    intro k e hk
    by_cases e' : k = i
    · subst e'; rw [List.getElem?_set_self hil] at hk; cases hk; exact .inl ⟨rfl, rfl⟩
    · rw [List.getElem?_set_ne (Ne.symm e')] at hk; exact .inr ⟨e', hk⟩
  have hbs : ∀ k cs2, k ≠ i → σ[k]? = some (.cells cs2) → w'.heap[(G.bs k).b]? = w.heap[(G.bs k).b]? := fun k cs2 hk hs => hother _ fun e => hk (by
    have h1 := (h.sto k _ hs).1
    rw [e, hK] at h1; cases h1; rfl)
  have key : ∀ l b, nz G env (σ.set i (.cells cs')) a.tmps w' l = some b → (nz G env σ a.tmps w l = some b ∧ ∀ j, l ≠ .cell i j) ∨
      ∃ j v c, l = .cell i j ∧ w'.cell? ⟨G.bs i, j, none⟩ = some v ∧ cs'[j]? = some c ∧ ownB v c = some b := by
    intro l b hl
    cases l with
    | slot t j => exact .inl ⟨hl, fun j' e => by cases e⟩
    | cell k j =>
      simp only [nz] at hl
      cases hk : (σ.set i (Ent.cells cs'))[k]? with
      | none => rw [hk] at hl; cases hl
      | some e =>
        rw [hk] at hl
        rcases hget k e hk with ⟨rfl, rfl⟩ | ⟨hki, hs⟩
        · simp only at hl
          split at hl
          · rename_i c v hc' hv; exact .inr ⟨j, v, c, rfl, hv, hc', hl⟩
          · cases hl
        · refine .inl ⟨?_, fun j' e => by cases e; exact hki rfl⟩
          cases e with
          | cells cs2 =>
            simp only [nz, hs]
            rw [zi (hbs k cs2 hki hs)] at hl
            exact hl
          | _ => cases hl
  refine ⟨h.size, fun t => (h.rep t).mono hle (fun _ _ => rfl) (h.envlt t) fun j b hb => ⟨?_, rfl⟩, fun t => by rw [List.length_set]; exact h.envlt t, fun k e hk => ?_, fun k e hk => ?_, fun b hb => by rw [hsz]; exact h.kfree b hb, fun k e hk hc' => ?_, fun l1 l2 b g1 g2 => ?_, fun l b hl => ?_, fun b hb => by rw [hsz]; exact h.frlt b hb, ?_, h.markF, by rw [List.length_set]; exact h.floor⟩
  · have hr := h.rep t
    revert hr hb
    generalize a.tmps.getD t undef = v
    generalize look env t = p
    intro hb hr
    cases hr with
    | one hr =>
      refine hown v p b hr ?_
      unfold o8 at hb
      split at hb
      · cases hr with | sh hr => exact hr.notup.elim
      · split at hb
        · exact hb
        · cases hb
    | tup vs ps hl hr =>
      simp only [o8] at hb
      split at hb
      · rename_i v' p' hv hp; exact hown _ _ _ (hr j _ _ hv hp) hb
      · cases hb
  · rcases hget k e hk with ⟨rfl, rfl⟩ | ⟨hki, hs⟩
    · refine ⟨hK, hsp, fun j c hc' => ?_⟩
      obtain ⟨v, hv, hr⟩ := hc j c hc'
      exact ⟨v, hv, hmono v c hr (mo.1 hlt c (List.mem_of_getElem? hc'))⟩
    · have h2 := h.sto k e hs
      cases e with
      | cells cs2 =>
        obtain ⟨g1, g2, g3⟩ := h2
        have hb := hbs k cs2 hki hs
        refine ⟨g1, g2.mono hb, fun j c hc' => ?_⟩
        obtain ⟨v, hv, hr⟩ := g3 j c hc'
        refine ⟨v, (zi hb).trans hv, hmono v c hr ?_⟩
        have := h.stolt k _ hs
        simp only [Ent.lt] at this
        exact mo.1 this c (List.mem_of_getElem? hc')
      | gone => trivial
      | loop x y z u =>
        obtain ⟨g1, g2, g3⟩ := h2
        refine ⟨g1, (hother _ fun e => hki ?_).trans g2, fun t => (g3 t).imp_right fun hr => hr.mono (n := σ.length) hle (fun _ _ => rfl) (h.stolt k _ hs t)⟩
        rw [e, hK] at g1; cases g1; rfl
  · rw [List.length_set]
    rcases hget k e hk with ⟨rfl, rfl⟩ | ⟨_, hs⟩
    · exact hlt
    · exact h.stolt k e hs
  · rcases hget k e hk with ⟨rfl, rfl⟩ | ⟨_, hs⟩
    · exact h.inj k _ hi (.inl ⟨_, rfl⟩)
    · exact h.inj k e hs hc'
  · rcases key l1 b g1 with ⟨k1, n1⟩ | ⟨j, v, c, rfl, hv, hc', hb⟩ <;> rcases key l2 b g2 with ⟨k2, n2⟩ | ⟨j', v', c', rfl, hv', hc'', hb'⟩
    · exact h.uniq l1 l2 b k1 k2
    · exact absurd ((hO j' v' c' b hv' hc'' hb').2 l1 k1) (n1 _)
    · exact absurd ((hO j v c b hv hc' hb).2 l2 k2) (n2 _)
    · rw [hI j j' v c v' c' b hv hc' hb hv' hc'' hb']
  · rcases key l b hl with ⟨k1, _⟩ | ⟨j, v, c, rfl, hv, hc', hb⟩
    · exact h.fr l b k1
    · exact (hO j v c b hv hc' hb).1
  · refine h.marks.mono fun d hd b hb => ⟨?_, rfl⟩
    have : G.K b = .keep := (h.marks.kind d hd b hb).2.1
    exact hne b _ this (by simp)
theorem Evol.boxSet (h : Sim n m F G env σ a w) {i : Nat} {cs : List PV} (hi : σ[i]? = some (.cells cs)) (o : Nat) (vs : List Value) : Evol m F G w G (w.setCells (G.bs i) o vs) := by
  obtain ⟨h1, h2, h3, h4⟩ := aef (G.bs i) vs o w
  refine ⟨h2, h3, h4, by omega, fun b hb => ⟨zb _ _ _ _ _ fun e => h.inj i _ hi (.inl ⟨_, rfl⟩) (e ▸ hb), rfl⟩, fun b p hb => have hbe : b ≠ G.bs i := fun e => by rw [e, ah9 h hi] at hb; cases hb
    ⟨p, ⟨Nat.le_refl _, ab3 (zb _ _ _ _ _ hbe)⟩, hb, fun j _ => zi (zb _ _ _ _ _ hbe)⟩, fun _ _ => rfl⟩
end
def putAt : List PV → Nat → List PV → List PV
  | l, _, [] => l
  | [], _, _ => []
  | c :: r, k + 1, xs => c :: putAt r k xs
  | _ :: r, 0, x :: xs => x :: putAt r 0 xs
theorem aax : ∀ (l : List PV) (o : Nat) (xs : List PV), o + xs.length ≤ l.length → (putAt l o xs).length = l.length ∧ ∀ j, (putAt l o xs)[j]? = if o ≤ j ∧ j < o + xs.length then xs[j - o]? else l[j]?
  | l, o, [], _ => ⟨by cases l <;> cases o <;> rfl, fun j => by rw [if_neg (by simp only [List.length_nil]; omega)]; cases l <;> cases o <;> rfl⟩
  | [], o, x :: xs, h => by simp at h
  | c :: r, k + 1, x :: xs, h => by
    simp only [List.length_cons] at h
    obtain ⟨h1, h2⟩ := aax r k (x :: xs) (by simp only [List.length_cons]; omega)
    refine ⟨by simp [putAt, h1], fun j => ?_⟩
    cases j with
    | zero => simp [putAt]
    | succ j =>
      simp only [putAt, List.getElem?_cons_succ, h2, List.length_cons]
      by_cases e : k ≤ j ∧ j < k + (xs.length + 1)
      · rw [if_pos e, if_pos (by omega), show j + 1 - (k + 1) = j - k by omega]
      · rw [if_neg e, if_neg (by omega)]
  | c :: r, 0, x :: xs, h => by
    simp only [List.length_cons] at h
    obtain ⟨h1, h2⟩ := aax r 0 xs (by omega)
    refine ⟨by simp [putAt, h1], fun j => ?_⟩
    cases j with
    | zero => simp [putAt]
    | succ j =>
      simp only [putAt, List.getElem?_cons_succ, h2, List.length_cons]
      by_cases e : 0 ≤ j ∧ j < 0 + xs.length
      · rw [if_pos e, if_pos (by omega)]; simp
      · rw [if_neg e, if_neg (by omega)]
def PV.one : PV → Bool
  | .agg _ | .tup _ | .dead => false
  | _ => true
theorem RepO.one {G : Gh} {w : World} {v : Value} {p : PV} (h : RepO G w v p) (hp : p.one = true) : v.oneCell' = true ∧ p.cells = [p] ∧ v.cells = #[v] := by
  cases h with
  | dead => cases hp
  | sh h => cases h with
    | pl h => cases h <;> first | exact ⟨rfl, rfl, rfl⟩ | (cases hp; done)
    | agg => cases hp
    | _ => exact ⟨rfl, rfl, rfl⟩
  | _ => exact ⟨rfl, rfl, rfl⟩
section
variable {P : Program} {l : Option Nat} {tt : TT} {n m : Nat} {all : Array Oper} {rest : List Oper} {env : Env} {σ : Sto} {Q : Post} {d : Nat} {ty : TypeId} {pos : String} {after : Array Edge}
def ag5 (i : TI) (cs : List PV) (off : Nat) : Option (Prop × PV) :=
  match ai7 i.desc with
  | true => match (((cs.drop off).take i.size).map abn).all PV.isS with
    | true => some (off + i.size ≤ cs.length, .agg (((cs.drop off).take i.size).map abn))
    | false => none
  | false => match cs.drop off with
    | c :: _ => match (abn c).isS with
      | true => some (True, abn c)
      | false => none
    | [] => none
theorem uf {G : Gh} {a : Act} {w : World} {i j : Nat} {cs : List PV} {c : PV} {v : Value} {b : Nat} (hi : σ[i]? = some (.cells cs)) (hc : cs[j]? = some c) (hv : w.cell? ⟨G.bs i, j, none⟩ = some v) (hb : ownB v c = some b) :
    nz G env σ a.tmps w (.cell i j) = some b := by simp [nz, hi, hc, hv, hb]
theorem ah4 (ht : oq P tt) {t : TypeId} {x y : Operand} {i off : Nat} {ti : TI} {cs : List PV} {p : PV} (hx : opv tt env t x = .ptr i off) (hti : tl tt t = some ti)
    (hi : σ[i]? = some (.cells cs)) (hy : opv tt env t y = p) (hS : p.isS = true) (hn : p.cells.length = ti.size) (h1 : p.cells.all PV.one = true) (hoff : off + ti.size ≤ cs.length)
    (h : SatOps P l n m all rest env (σ.set i (.cells (putAt cs off p.cells))) Q) : SatOps P l n m all (⟨none, .store t x y, ty, pos, after, none⟩ :: rest) env σ Q := by
  refine ym rfl (by simp) fun F G a w hs => ?_
  have hxo := o7 hs tt t x
  rw [hx] at hxo
  have ev := (hxo.toS rfl).ptrv
  have hyo := o7 hs tt t y
  have hyl := yf hs tt t y
  rw [hy] at hyo hyl
  obtain ⟨k1, k2⟩ := ad7 (hyo.toS hS)
  obtain ⟨hK, hsp, hcell⟩ := hs.sto i _ hi
  have hst := hs.stolt i _ hi
  simp only [Ent.lt] at hst
  have hT := ht _ _ hti
  have hspB := hsp
  obtain ⟨⟨arr, T, fz, a1, a2, a3⟩, hshB, hnfB⟩ := hsp
  have hlen : (a.eval y).cells.toList.length = ti.size := by simp [k1, hn]
  have hthere : ∀ j, j < cs.length → (w.cell? ⟨G.bs i, j, none⟩).isSome = true := fun j hj => by
    obtain ⟨v, hv, _⟩ := hcell j cs[j] (by simp [hj])
    rw [hv]; rfl
  have hrun := run_storeCells_cells (P := P) (G.bs i) off (a.eval y).cells.toList 0 w (fun j hj => by rw [Nat.add_zero]; exact hthere _ (by omega)) (fun j hj => by rw [Nat.add_zero]; exact a3 _ (Nat.zero_le _) (by omega)) (fun v hv => by
    obtain ⟨j, hj, rfl⟩ := List.getElem_of_mem hv
    have hj' : j < p.cells.length := by simp at hj; omega
    have := k2 j (a.eval y).cells.toList[j] p.cells[j] (by simp at hj ⊢) (by simp [hj'])
    exact (RepO.one (.sh this) (List.all_eq_true.1 h1 _ (List.getElem_mem hj'))).1)
  rw [Nat.add_zero] at hrun
  obtain ⟨q1, q2⟩ := aax cs off p.cells (by omega)
  have hnew : ∀ j c, (putAt cs off p.cells)[j]? = some c → ∃ v, (w.setCells (G.bs i) off (a.eval y).cells.toList).cell? ⟨G.bs i, j, none⟩ = some v ∧ RepO G w v c ∧ ((off ≤ j ∧ j < off + ti.size ∧ ownB v c = none) ∨ (cs[j]? = some c ∧ w.cell? ⟨G.bs i, j, none⟩ = some v)) := by
    intro j c hc
    rw [q2] at hc
    split at hc
    · rename_i hj
      rw [hn] at hj
      have hjl : j - off < (a.eval y).cells.toList.length := by omega
      have := World.cell?_setCells_in (G.bs i) (a.eval y).cells.toList off w (fun j hj => hthere _ (by omega)) (j - off) hjl
      rw [show off + (j - off) = j by omega] at this
      have hR := k2 (j - off) (a.eval y).cells.toList[j - off] c (by rw [Array.getElem_toList]; exact Array.getElem?_eq_getElem _) hc
      exact ⟨_, this, .sh hR, .inl ⟨hj.1, hj.2, yz hR⟩⟩
    · rename_i hj
      rw [hn] at hj
      obtain ⟨v, hv, hR⟩ := hcell j c hc
      exact ⟨v, by rw [World.cell?_setCells_out _ _ _ _ _ (fun _ _ => by simp only; omega)]; exact hv, hR, .inr ⟨hc, hv⟩⟩
  obtain ⟨s1, s2, s3, s4⟩ := aef (G.bs i) (a.eval y).cells.toList off w
  have hfin := hs.boxSet (cs' := putAt cs off p.cells) hi s1 (fun b hb => zb _ _ _ _ _ hb) (af7 ⟨⟨arr, T, fz, a1, by rw [q1]; exact a2, fun j hj hk => a3 j hj (by omega)⟩, hshB, hnfB⟩ _ _ _) (by
      rw [mo]; intro c hc
      obtain ⟨j, hj, rfl⟩ := List.getElem_of_mem hc
      have hc' := q2 j
      rw [List.getElem?_eq_getElem hj] at hc'
      split at hc'
      · exact mo.1 (cells_lt hyl) _ (List.mem_of_getElem? hc'.symm)
      · exact mo.1 hst _ (List.mem_of_getElem? hc'.symm)) (fun j c hc => let ⟨v, h1, h2, _⟩ := hnew j c hc; ⟨v, h1, h2⟩) (fun j v c b hv hc hb => by
      obtain ⟨v', h1, _, h3⟩ := hnew j c hc
      rw [hv] at h1; cases h1
      rcases h3 with ⟨_, _, h3⟩ | ⟨h3, h4⟩
      · rw [h3] at hb; cases hb
      · have := uf (env := env) (a := a) hi h3 h4 hb
        exact ⟨hs.fr _ b this, fun l' hl' => hs.uniq _ _ b hl' this⟩) (fun j j' v c v' c' b hv hc hb hv' hc' hb' => by
      obtain ⟨u, h1, _, h3⟩ := hnew j c hc
      obtain ⟨u', h1', _, h3'⟩ := hnew j' c' hc'
      rw [hv] at h1; cases h1
      rw [hv'] at h1'; cases h1'
      rcases h3 with ⟨_, _, h3⟩ | ⟨h3, h4⟩
      · rw [h3] at hb; cases hb
      · rcases h3' with ⟨_, _, h3'⟩ | ⟨h3', h4'⟩
        · rw [h3'] at hb'; cases hb'
        · have := hs.uniq _ _ b (uf (env := env) (a := a) hi h3 h4 hb) (uf (env := env) (a := a) hi h3' h4' hb')
          cases this; rfl)
  refine ⟨undef, _, G, env, _, .inr ⟨?_, rfl⟩, hfin, Evol.boxSet hs hi off _, h⟩
  have hsize : (a.eval y).cells.size = ti.size := by omega
  simp [execOp, ev, Instr.storeAt, Instr.sureAddr, storeVar, hT.rsize w, hsize, hrun]
end
end Go.Proofs.Ytbpjaiemlkcccaa.Pv
end
section
/- Slices that are made, and that grow. -/
namespace Go.Proofs.Ytbpjaiemlkcccaa.Pv
open Go
section
variable {n m : Nat} {F : Fr} {G : Gh} {env : Env} {σ : Sto} {a : Act} {w : World}
theorem Sim.world2 (h : Sim n m F G env σ a w) {K' : Nat → Kind} {w' : World} (hle : wh G.K w K' w') (hsz : w.heap.size ≤ w'.heap.size)
    (hown : ∀ l b, nz G env σ a.tmps w l = some b → w'.heap[b]? = w.heap[b]? ∧ K' b = G.K b)
    (hbox : ∀ b, (∃ i, G.K b = .box i) ∨ G.K b = .keep → w'.heap[b]? = w.heap[b]? ∧ K' b = G.K b)
    (hk : ∀ b, K' b ≠ .free → b < w'.heap.size) : Sim n m F ⟨K', G.bs⟩ env σ a w' := by
  have hcell : ∀ i cs, σ[i]? = some (.cells cs) → w'.heap[(G.bs i).b]? = w.heap[(G.bs i).b]? ∧ K' (G.bs i) = G.K (G.bs i) := fun i cs hi => hbox _ (.inl ⟨i, (h.sto i _ hi).1⟩)
  have key : ∀ l, nz ⟨K', G.bs⟩ env σ a.tmps w' l = nz G env σ a.tmps w l := by
    intro l
    cases l with
    | slot t j => rfl
    | cell i j =>
      simp only [nz]
      cases hi : σ[i]? with
      | none => rfl
      | some e => cases e with
        | cells cs => simp only [zi (hcell i cs hi).1]
        | _ => rfl
  refine ⟨h.size, fun t => (h.rep t).mono hle (fun _ _ => rfl) (h.envlt t) fun j b hb => hown (.slot t j) b hb, h.envlt, fun i e hi => ?_, h.stolt, hk, h.inj, fun l1 l2 b h1 h2 => ?_, fun l b hl => ?_, fun b hb => Nat.lt_of_lt_of_le (h.frlt b hb) hsz, ?_, h.markF, h.floor⟩
  · have h1 := h.sto i e hi
    cases e with
    | cells cs =>
      obtain ⟨e1, e2⟩ := hcell i cs hi
      obtain ⟨h2, h3, h4⟩ := h1
      refine ⟨e2.trans h2, h3.mono e1, fun j c hc => ?_⟩
      obtain ⟨v, hv, hr⟩ := h4 j c hc
      refine ⟨v, (zi e1).trans hv, hr.mono (n := σ.length) hle (fun _ _ => rfl) ?_ fun b hb => hown (.cell i j) b (uf hi hc hv hb)⟩
      have := h.stolt i _ hi
      simp only [Ent.lt] at this
      exact mo.1 this c (List.mem_of_getElem? hc)
    | gone => trivial
    | loop rdy pend r env0 =>
      obtain ⟨h2, h3, h4⟩ := h1
      have hb := hbox _ (.inl ⟨i, h2⟩)
      exact ⟨hb.2.trans h2, hb.1.trans h3, fun t => (h4 t).imp_right fun hr => hr.mono (n := σ.length) hle (fun _ _ => rfl) (h.stolt i _ hi t)⟩
  · rw [key] at h1 h2; exact h.uniq l1 l2 b h1 h2
  · rw [key] at hl; exact h.fr l b hl
  · refine h.marks.mono fun d hd b hb => ?_
    have : G.K b = .keep := (h.marks.kind d hd b hb).2.1
    exact hbox b (.inr this)
end
def PV.pl : PV → Bool
  | .bool _ | .int _ _ | .str _ | .nilfn | .nilif | .nilptr | .nils _ | .sl .sh _ _ => true
  | .agg cs => plL cs
  | _ => false
where plL : List PV → Bool
  | [] => true
  | c :: r => c.pl && plL r
theorem aor {l : List PV} : PV.pl.plL l = true ↔ ∀ c ∈ l, c.pl = true := by
  induction l with
  | nil => simp [PV.pl.plL]
  | cons c r ih => simp [PV.pl.plL, ih]
theorem RepS.plain {G : Gh} {w : World} {v : Value} {p : PV} (h : RepS G w v p) (hp : p.pl = true) : RepP G.K w v p := by
  induction h with
  | pl h => exact h
  | agg vs cs hl _ ih =>
    simp only [PV.pl] at hp
    exact .agg vs cs hl fun j v c h1 h2 => ih j v c h1 h2 (aor.1 hp c (List.mem_of_getElem? h2))
  | _ => cases hp
theorem ajx {p : PV} (h : p.pl = true) : p.isS = true := by
  cases p with
  | sl o sz es => cases o <;> first | rfl | cases h
  | _ => first | rfl | cases h
theorem ayo {p : PV} (h : p.pl = true) (k : Nat) : p.lt k := by
  have key : ∀ p : PV, p.pl = true → p.lt k := by
    intro p
    refine PV.rec (motive_1 := fun p => p.pl = true → p.lt k) (motive_2 := fun l => PV.pl.plL l = true → o6 k l) ?_ ?_ ?_ ?_ ?_ ?_ ?_ ?_ ?_ ?_ ?_ ?_ ?_ ?_ ?_ ?_ ?_ ?_ ?_ ?_ ?_ ?_ ?_ p <;>
      first
        | (intros; trivial)
        | (intro _ ih h; exact ih h)
        | (intro i off h; cases h)
        | (intro i h; exact (Bool.false_ne_true h).elim)
        | (intro i off sz len cap h; cases h)
        | (intro _ _ ih h; cases h)
        | (intro _ _ _ _ _ h; cases h)
        | (intro _ _ ih1 ih2 h; simp only [PV.pl.plL, Bool.and_eq_true] at h; exact ⟨ih1 h.1, ih2 h.2⟩)
        | (intro _ _ h; cases h)
  exact key p h
theorem aok {K : Nat → Kind} {w : World} {v : Value} {p : PV} (h : RepP K w v p) : v.cells.size = p.cells.length ∧ ∀ (j : Nat) u c, v.cells[j]? = some u → p.cells[j]? = some c → RepP K w u c := by
  have one : ∀ {v : Value} {p : PV}, v.cells = #[v] → p.cells = [p] → RepP K w v p → v.cells.size = p.cells.length ∧ ∀ (j : Nat) u c, v.cells[j]? = some u → p.cells[j]? = some c → RepP K w u c := by
    intro v p e1 e2 h
    rw [e1, e2]
    refine ⟨rfl, fun j u c h1 h2 => ?_⟩
    cases j with
    | zero => simp at h1 h2; subst h1; subst h2; exact h
    | succ j => simp at h2
  cases h with
  | agg vs cs hl h => exact ⟨hl, h⟩
  | bool b => exact one rfl rfl (.bool b)
  | int k z => exact one rfl rfl (.int k z)
  | str s => exact one rfl rfl (.str s)
  | nilfn => exact one rfl rfl .nilfn
  | nilif => exact one rfl rfl .nilif
  | nilptr => exact one rfl rfl .nilptr
  | nils sz => exact one rfl rfl (.nils sz)
  | raw t v => exact one rfl rfl (.raw t v)
  | sl0 a cap sz => exact one rfl rfl (.sl0 a cap sz)
  | sl ad cap sz p es vs hs hK hp hc hsz hv hr => exact one rfl rfl (.sl ad cap sz p es vs hs hK hp hc hsz hv hr)
theorem foldl_set (vs : List Value) : ∀ (off k : Nat) (cs : Array Value), off + k + vs.length ≤ cs.size →
    ((vs.zipIdx k).foldl (fun cs (x : Value × Nat) => cs.setIfInBounds (off + x.2) x.1) cs).size = cs.size ∧
    ∀ j, ((vs.zipIdx k).foldl (fun cs (x : Value × Nat) => cs.setIfInBounds (off + x.2) x.1) cs)[j]? = if off + k ≤ j ∧ j < off + k + vs.length then vs[j - (off + k)]? else cs[j]? := by
  induction vs with
  | nil => intro off k cs h; exact ⟨rfl, fun j => by rw [if_neg (by simp only [List.length_nil]; omega)]; rfl⟩
  | cons v r ih =>
    intro off k cs h
    simp only [List.length_cons] at h
    simp only [List.zipIdx_cons, List.foldl_cons]
    obtain ⟨h1, h2⟩ := ih off (k + 1) (cs.setIfInBounds (off + k) v) (by rw [Array.size_setIfInBounds]; omega)
    refine ⟨by rw [h1]; simp, fun j => ?_⟩
    rw [h2]
    simp only [List.length_cons]
    by_cases e : j = off + k
    · subst e
      rw [if_neg (by omega), if_pos (by omega), Array.getElem?_setIfInBounds_self_of_lt (by omega)]
      simp
    · by_cases e2 : off + (k + 1) ≤ j ∧ j < off + (k + 1) + r.length
      · rw [if_pos e2, if_pos (by omega), show j - (off + k) = (j - (off + (k + 1))) + 1 by omega]; rfl
      · rw [if_neg e2, if_neg (by omega), Array.getElem?_setIfInBounds_ne (by omega)]
theorem ai1 {sz : Nat} : ∀ (vs : List Value) (k : Nat) (cs : Array Value), (∀ v ∈ vs, v.cells.size = sz) → (k + vs.length) * sz ≤ cs.size →
    ∃ r, Instr.fill (fun i => some (i * sz, sz)) cs (vs.zipIdx k |>.map fun x => (x.2, x.1)) = some r ∧ r.size = cs.size ∧
      (∀ j, j < k * sz → r[j]? = cs[j]?) ∧ ∀ (i : Nat) v, vs[i]? = some v → ∀ j, j < sz → r[(k + i) * sz + j]? = v.cells[j]?
  | [], k, cs, _, _ => ⟨cs, rfl, rfl, fun _ _ => rfl, fun i v h => by simp at h⟩
  | v :: r, k, cs, hv, hl => by
    simp only [List.length_cons] at hl
    have hv0 := hv v (by simp)
    have hk : k * sz + sz ≤ cs.size := by
      have : (k + 1) * sz ≤ (k + (r.length + 1)) * sz := Nat.mul_le_mul_right _ (by omega)
      rw [Nat.succ_mul] at this; omega
    obtain ⟨f1, f2⟩ := foldl_set v.cells.toList (k * sz) 0 cs (by simp; omega)
    have hz : v.cells.zipIdx.foldl (fun cs (x : Value × Nat) => cs.setIfInBounds (k * sz + x.2) x.1) cs = (v.cells.toList.zipIdx 0).foldl (fun cs (x : Value × Nat) => cs.setIfInBounds (k * sz + x.2) x.1) cs := by
      rw [← Array.foldl_toList, Array.toList_zipIdx]
    obtain ⟨r', h1, h2, h3, h4⟩ := ai1 (sz := sz) r (k + 1) (v.cells.zipIdx.foldl (fun cs (x : Value × Nat) => cs.setIfInBounds (k * sz + x.2) x.1) cs) (fun x hx => hv x (List.mem_cons_of_mem _ hx)) (by
      rw [hz, f1]; rw [show k + 1 + r.length = k + (r.length + 1) by omega]; exact hl)
    refine ⟨r', ?_, by rw [h2, hz, f1], fun j hj => ?_, fun i u hi j hj => ?_⟩
    · simp only [List.zipIdx_cons, List.map_cons, Instr.fill]
      rw [if_neg]
      · exact h1
      · simp only [Bool.or_eq_true, bne_iff_ne, ne_eq, decide_eq_true_eq, not_or, Decidable.not_not]
        exact ⟨hv0, by omega⟩
    · rw [h3 j (by rw [Nat.succ_mul]; omega), hz, f2, if_neg (by omega)]
    · cases i with
      | zero =>
        simp at hi; subst hi
        rw [Nat.add_zero, h3 _ (by rw [Nat.succ_mul]; omega), hz, f2, if_pos (by simp; omega)]
        simp
      | succ i =>
        simp at hi
        rw [show k + (i + 1) = k + 1 + i by omega]
        exact h4 i u hi j hj
section
variable {P : Program} {l : Option Nat} {tt : TT} {n m : Nat} {all : Array Oper} {rest : List Oper} {env : Env} {σ : Sto} {Q : Post} {d : Nat} {ty : TypeId} {pos : String} {after : Array Edge}
def kOf (o : Own) (p : Nat) : Kind := match o with
  | .ex => .own
  | .tb _ => .own
  | _ => .imm p
theorem ais {G : Gh} {w : World} {sz cap : Nat} {es : List PV} {arr : Array Value} {T : TypeId} {o : Own} {fz : Nat × Nat} (hcap : es.length ≤ cap) (hsz : ∀ e ∈ es, e.cells.length = sz) (ha : cap * sz ≤ arr.size) (hTB : ∀ e, o = .tb e → T = e ∧ arr.size = cap * sz)
    {w' : World} (hh : w'.heap[w.heap.size]? = some (.cells arr T fz)) (hfz : ∀ j, j < arr.size → w'.frozen? ⟨w.heap.size, j, none⟩ = false)
    (hv : ∀ (j : Nat) c, (flat es)[j]? = some c → ∃ v, arr[j]? = some v ∧ RepP (upd G.K w.heap.size (kOf o (es.length * sz))) w' v c) :
    RepO ⟨upd G.K w.heap.size (kOf o (es.length * sz)), G.bs⟩ w' (.slice (some ⟨w.heap.size, 0, none⟩) es.length cap) (.sl o sz es) := by
  have hfl := vg hsz
  have hmul : es.length * sz ≤ cap * sz := Nat.mul_le_mul_right _ hcap
  have hcell : ∀ j, w'.cell? ⟨w.heap.size, j, none⟩ = arr[j]? := fun j => by simp [World.cell?, hh]
  have hvs : ∀ j, j < es.length * sz → w'.cell? ⟨w.heap.size, j, none⟩ = some (arr.getD j undef) := by
    intro j hj
    rw [hcell]
    have : j < arr.size := by omega
    simp [this]
  have hrs : ∀ j c, (flat es)[j]? = some c → RepP (upd G.K w.heap.size (kOf o (es.length * sz))) w' (arr.getD j undef) c := by
    intro j c hc
    obtain ⟨v, h1, h2⟩ := hv j c hc
    have hj : j < arr.size := (Array.getElem?_eq_some_iff.1 h1).1
    have : arr.getD j undef = v := by
      have e : arr[j] = v := by simpa [hj] using h1
      simp [hj, e]
    rw [this]; exact h2
  have hsp : aav w' w.heap.size 0 (cap * sz) := ⟨arr, T, fz, hh, ha, fun j _ hj => hfz j (by omega)⟩
  cases o with
  | sh => exact .sh (.pl (.sl ⟨w.heap.size, 0, none⟩ cap sz (es.length * sz) es (fun j => arr.getD j undef) rfl (upd_same _ _ _) (by simp) hcap hsz (fun j hj => by simpa using hvs j hj) hrs))
  | ow =>
    refine .ow _ cap sz es (.sl ⟨w.heap.size, 0, none⟩ cap sz (es.length * sz) es (fun j => arr.getD j undef) rfl (upd_same _ _ _) (by simp) hcap hsz (fun j hj => by simpa using hvs j hj) hrs) fun _ => ⟨_, rfl, rfl, ?_, ?_⟩
    · simp only [Nat.zero_add]; exact upd_same _ _ _
    · simp only [Nat.zero_add]; exact hsp.sub (Nat.zero_le _) (Nat.le_refl _)
  | tb e =>
    by_cases h0 : 0 < cap
    · exact .tb w.heap.size cap e sz es (fun j => arr.getD j undef) (upd_same _ _ _) hcap h0 hsp (by obtain ⟨e1, e2⟩ := hTB e rfl; rw [← e1, ← e2]; simp [World.shape?, hh]) hsz hvs hrs
    · have : cap = 0 := by omega
      subst this
      have : es = [] := List.length_eq_zero_iff.1 (by omega)
      subst this
      exact .tb0 _ _ _
  | ex =>
    by_cases h0 : 0 < cap
    · exact .ex w.heap.size cap sz es (fun j => arr.getD j undef) (upd_same _ _ _) hcap h0 hsp hsz hvs hrs
    · have : cap = 0 := by omega
      subst this
      have : es = [] := List.length_eq_zero_iff.1 (by omega)
      subst this
      exact .ex0 _ _
theorem Sim.setFresh {F : Fr} {G : Gh} {a : Act} {w w' : World} {K' : Nat → Kind} (h : Sim n m F ⟨K', G.bs⟩ env σ a w') (hd : d < n) {cap len sz : Nat} {es : List PV} {o : Own}
    (hr : RepO ⟨K', G.bs⟩ w' (.slice (some ⟨w.heap.size, 0, none⟩) len cap) (.sl o sz es)) (hno : ∀ l, nz ⟨K', G.bs⟩ env σ a.tmps w' l ≠ some w.heap.size) (hF : ¬ F w.heap.size) :
    Sim n m F ⟨K', G.bs⟩ ((d, .sl o sz es) :: env) σ (a.put (some d) (.slice (some ⟨w.heap.size, 0, none⟩) len cap)) w' := by
  have hslot : ∀ j b, o8 (.slice (some ⟨w.heap.size, 0, none⟩) len cap) (.sl o sz es) j = some b → j = 0 ∧ b = w.heap.size := by
    intro j b hb
    unfold o8 at hb
    simp only at hb
    split at hb
    · rename_i hj
      refine ⟨hj, ?_⟩
      cases o <;> simp only [ownB] at hb <;> first | (cases hb; done) | (split at hb <;> first | (cases hb; rfl) | cases hb)
    · cases hb
  exact h.set hd (.one hr) trivial (fun j b hb => by obtain ⟨_, rfl⟩ := hslot j b hb; exact ⟨hF, fun l hl => absurd hl (hno l)⟩) (fun j1 j2 b h1 h2 => by rw [(hslot j1 b h1).1, (hslot j2 b h2).1])
theorem amy {F : Fr} {G : Gh} {a : Act} {w : World} (h : Sim n m F G env σ a w) {l : Loc} {b : Nat} (hl : nz G env σ a.tmps w l = some b) : b < w.heap.size := by
  cases l with
  | slot t j =>
    simp only [nz] at hl
    have hr := h.rep t
    revert hl hr
    generalize a.tmps.getD t undef = v
    generalize look env t = p
    intro hl hr
    cases hr with
    | one hr =>
      unfold o8 at hl
      split at hl
      · cases hr with | sh hr => exact hr.notup.elim
      · split at hl
        · exact aii hr hl
        · cases hl
    | tup vs ps hl' hr =>
      simp only [o8] at hl
      split at hl
      · rename_i v' p' hv hp; exact aii (hr j _ _ hv hp) hl
      · cases hl
  | cell i j =>
    simp only [nz] at hl
    split at hl
    · rename_i cs hi
      split at hl
      · rename_i c v hc hv
        obtain ⟨_, _, h3⟩ := h.sto i _ hi
        obtain ⟨v', h4, h5⟩ := h3 j c hc
        rw [hv] at h4; cases h4
        exact aii h5 hl
      · cases hl
    · cases hl
class Own.NT (o : Own) : Prop where
  h : ∀ e, o ≠ .tb e
instance : Own.NT .sh := ⟨fun _ h => by cases h⟩
instance : Own.NT .ow := ⟨fun _ h => by cases h⟩
instance : Own.NT .ex := ⟨fun _ h => by cases h⟩
theorem alh (o : Own) [hNT : Own.NT o] (ht : oq P tt) {t eT : TypeId} {e : TI} {xs : List Operand} {es : List PV} (he : eti tt t = some e) (hps : es = xs.map (opv tt env eT)) (hpl : es.all PV.pl = true)
    (hsz : es.all (fun p => Nat.beq p.cells.length e.size) = true) (hbig : es.length * e.size ≤ 16777216) {len : Nat} {parts : Array (Nat × Operand)} (hlen : len = es.length)
    (hparts : parts = ((xs.zipIdx 0).map fun x => (x.2, x.1)).toArray) (hd : d < n) (h : SatOps P l n m all rest ((d, .sl o e.size es) :: env) σ Q) :
    SatOps P l n m all (⟨some d, .buildSlice t len parts, ty, pos, after, none⟩ :: rest) env σ Q := by
  subst hparts hlen
  refine ym rfl (by simp) fun F G a w hs => ?_
  obtain ⟨eT', hu, hT⟩ := aao ht he
  have hsz' : ∀ p ∈ es, p.cells.length = e.size := fun p hp => Nat.eq_of_beq_eq_true (List.all_eq_true.1 hsz p hp)
  have hrep : ∀ (i : Nat) x, xs[i]? = some x → RepP G.K w (a.eval x) (opv tt env eT x) := by
    intro i x hx
    have hm : opv tt env eT x ∈ es := by rw [hps]; exact List.mem_map.2 ⟨x, List.mem_of_getElem? hx, rfl⟩
    have hp := List.all_eq_true.1 hpl _ hm
    exact ((o7 hs tt eT x).toS (ajx hp)).plain hp
  have hlen : es.length = xs.length := by rw [hps]; simp
  have hcs : ∀ v ∈ xs.map a.eval, v.cells.size = e.size := by
    intro v hv
    obtain ⟨x, hx, rfl⟩ := List.mem_map.1 hv
    obtain ⟨i, hi, rfl⟩ := List.getElem_of_mem hx
    have h1 := (aok (hrep i xs[i] (by simp [hi]))).1
    rw [h1]; exact hsz' _ (by rw [hps]; exact List.mem_map.2 ⟨_, hx, rfl⟩)
  obtain ⟨z, hz, _⟩ := hT.rzero w
  obtain ⟨z0, hz0, hz1⟩ : ∃ z0 : Array Value, (es.length * e.size = 0 → z0 = #[]) ∧ (¬ es.length * e.size = 0 → z0 = z.cells) := by
    by_cases h0 : es.length * e.size = 0
    · exact ⟨#[], fun _ => rfl, fun h => absurd h0 h⟩
    · exact ⟨z.cells, fun h => absurd h h0, fun _ => rfl⟩
  obtain ⟨r, hr1, hr2, _, hr4⟩ := ai1 (sz := e.size) (xs.map a.eval) 0 ((Array.range (es.length * e.size)).map (z0[· % z0.size]!)) hcs (by simp [hlen])
  have hrs : r.size = es.length * e.size := by rw [hr2]; simp
  have hmap : (((xs.zipIdx 0).map fun x => (x.2, x.1)).toArray.map fun (x : Nat × Operand) => (x.1, a.eval x.2)).toList = ((xs.map a.eval).zipIdx 0).map fun x => (x.2, x.1) := by
    simp [List.zipIdx_map, List.map_map, Function.comp_def]
  have hrun : (execOp a.eval ⟨some d, .buildSlice t es.length ((xs.zipIdx 0).map fun x => (x.2, x.1)).toArray, ty, pos, after, none⟩).run P w = .ok (.value (.slice (some ⟨w.heap.size, 0, none⟩) es.length es.length)) (w.alloc (.cells r eT')) := by
    have hbig' : ¬ (16777216 < es.length * e.size) := by omega
    simp only [execOp, Instr.buildSlice, Sem.run_bind, underlying, hu, run_program, Result.andThen_ok, Sem.run_pure, hT.rsize w]
    simp only [show ¬ (es.length * e.size > 2 ^ 24) by omega, if_false, hmap]
    by_cases h0 : es.length * e.size = 0
    · rw [if_pos h0]
      have := hz0 h0
      subst this
      simp only [Sem.run_bind, Sem.run_pure, Result.andThen_ok, hr1, newRow, run_newObj, World.alloc_eq]
    · rw [if_neg h0]
      have := hz1 h0
      subst this
      simp only [Sem.run_bind, Sem.run_pure, Result.andThen_ok, hz, hr1, newRow, run_newObj, World.alloc_eq]
  have hfl := vg hsz'
  have hcell : ∀ (j : Nat) c, (flat es)[j]? = some c → ∃ v, r[j]? = some v ∧ RepP G.K w v c := by
    intro j c hc
    have hj : j < es.length * e.size := by rw [← hfl]; exact (List.getElem?_eq_some_iff.1 hc).1
    have hsp : 0 < e.size := by
      rcases Nat.eq_zero_or_pos e.size with h | h
      · rw [h] at hj; simp at hj
      · exact h
    have hi : j / e.size < es.length := (Nat.div_lt_iff_lt_mul hsp).2 hj
    have hjj : j / e.size * e.size + j % e.size = j := by rw [Nat.mul_comm]; exact Nat.div_add_mod j e.size
    have hm : j % e.size < e.size := Nat.mod_lt _ hsp
    have hei : es[j / e.size]? = some es[j / e.size] := by simp [hi]
    have hc' := flat_get hsz' hei (j % e.size) hm
    rw [hjj] at hc'
    have hx : xs[j / e.size]? = some (xs[j / e.size]'(by omega)) := List.getElem?_eq_getElem _
    have hv := hr4 (j / e.size) (a.eval (xs[j / e.size]'(by omega))) (by rw [List.getElem?_map, hx]; rfl) (j % e.size) hm
    rw [Nat.zero_add, hjj] at hv
    have hP := aok (hrep _ _ hx)
    have hes : es[j / e.size] = opv tt env eT (xs[j / e.size]'(by omega)) := by simp [hps]
    rw [hc, hes] at hc'
    have hjv : j % e.size < (a.eval (xs[j / e.size]'(by omega))).cells.size := by rw [hP.1, ← hes, hsz' _ (List.getElem_mem hi)]; exact hm
    refine ⟨(a.eval (xs[j / e.size]'(by omega))).cells[j % e.size], by rw [hv]; simp [hjv], hP.2 _ _ _ (by simp [hjv]) hc'.symm⟩
  have hs1 := hs.alloc (.cells r eT') (kOf o (es.length * e.size))
  have hfs := ais (G := G) (w := w) (o := o) (cap := es.length) (T := eT') (fz := (0, 0)) (Nat.le_refl _) hsz' (arr := r) (by omega) (fun e h => absurd h (hNT.h e)) (w' := w.alloc (.cells r eT')) (heap_alloc_new w _) (fun j _ => World.frozen?_alloc_new w r eT' j) (fun j c hc => by
    obtain ⟨v, h1, h2⟩ := hcell j c hc
    exact ⟨v, h1, h2.mono (wh.alloc hs _ _)⟩)
  refine ⟨_, _, _, _, σ, .inl hrun, hs1.setFresh hd hfs (fun l hl => ?_) (fun hF => absurd (hs.frlt _ hF) (Nat.lt_irrefl _)), Evol.alloc hs _ _ _ fun _ _ => rfl, h⟩
  have h2 : nz G env σ a.tmps w l = some w.heap.size := by
    cases l with
    | slot t j => exact hl
    | cell i j =>
      simp only [nz] at hl ⊢
      split at hl
      · rename_i cs hi
        have hb : G.bs i < w.heap.size := hs.kfree _ (by rw [(hs.sto i _ hi).1]; simp)
        rw [World.cell?_alloc_lt w _ ⟨G.bs i, j, none⟩ hb] at hl
        exact hl
      · cases hl
  exact absurd (amy hs h2) (Nat.lt_irrefl _)
end
end Go.Proofs.Ytbpjaiemlkcccaa.Pv
end
section
/- Slices that grow. -/
namespace Go.Proofs.Ytbpjaiemlkcccaa.Pv
open Go
def awu (b : UInt8) : PV := .int .u8 (b.toNat : Int)
def afl (s : ByteArray) : List PV := s.data.toList.map awu
structure Src (P : Program) (K : Nat → Kind) (w : World) (sz : Nat) (x : Value) (ys : List PV) (news : Array Value) : Prop where
  len : ∀ w', (Builtin.lenOf x).run P w' = .ok ys.length w'
  first : (Builtin.firstCells sz ys.length x).run P w = .ok news w
  firstD : (Builtin.firstCells sz ys.length x).run P w.drew = .ok news w.drew
  size : news.size = ys.length * sz
  hsz : ∀ e ∈ ys, e.cells.length = sz
  rep : ∀ (j : Nat) c, (flat ys)[j]? = some c → ∃ v, news[j]? = some v ∧ RepP K w v c
theorem ahe {P : Program} {w : World} {sz len cap : Nat} {ad : Addr} (vs : Nat → Value) (hs : ad.spot = none) (hv : ∀ j, j < len * sz → w.cell? ⟨ad.block, ad.off + j, none⟩ = some (vs j)) :
    (Builtin.firstCells sz len (.slice (some ad) len cap)).run P w = .ok ((List.range (len * sz)).map vs).toArray w := by
  simp only [Builtin.firstCells]
  exact run_loadCells w ad (len * sz) vs fun j hj => by rw [aai hs]; exact hv j hj
theorem Src.sl {P : Program} {K : Nat → Kind} {w : World} {sz : Nat} {x : Value} {ys : List PV} (h : RepP K w x (.sl .sh sz ys)) : ∃ news, Src P K w sz x ys news := by
  obtain ⟨a, cap, rfl, h'⟩ := h.slv
  rcases h' with rfl | ⟨ad, p, vs, rfl, hs, hK, hp, hc, hsz, hv, hr⟩
  · refine ⟨#[], fun w' => rfl, ?_, ?_, by simp, by simp, fun j c hc => by simp [flat] at hc⟩
    · cases a <;> simp [Builtin.firstCells, loadCells, loadCellsFrom]
    · cases a <;> simp [Builtin.firstCells, loadCells, loadCellsFrom]
  · refine ⟨((List.range (ys.length * sz)).map vs).toArray, fun w' => rfl, ahe vs hs hv, ahe vs hs (fun j hj => hv j hj), by simp, hsz, fun j c hc => ?_⟩
    have hj : j < ys.length * sz := by rw [← vg hsz]; exact (List.getElem?_eq_some_iff.1 hc).1
    exact ⟨vs j, by simp [hj], hr j c hc⟩
theorem anv {α : Type} (f : α → PV) (h : ∀ x, (f x).cells = [f x]) (l : List α) : flat (l.map f) = l.map f := by
  induction l with
  | nil => rfl
  | cons x r ih => simp [flat, h, ih]
theorem ae1 (s : ByteArray) : (afl s).length = s.size := by simp [afl]
theorem Src.str {P : Program} {K : Nat → Kind} {w : World} (s : ByteArray) : ∃ news, Src P K w 1 (.string s) (afl s) news := by
  have hx : (s.extract 0 s.size).data = s.data := by
    have : s.extract 0 s.size = s := by simp
    rw [this]
  refine ⟨s.data.map fun b => .int .u8 b.toNat, fun w' => by simp [Builtin.lenOf, ae1], ?_, ?_, ?_, ?_, fun j c hc => ?_⟩
  · simp [Builtin.firstCells, ae1]
  · simp [Builtin.firstCells, ae1]
  · simp [ae1]
  · intro e he; obtain ⟨b, _, rfl⟩ := List.mem_map.1 he; rfl
  · rw [afl, anv awu (fun _ => rfl), List.getElem?_map, Option.map_eq_some_iff] at hc
    obtain ⟨b, hb, rfl⟩ := hc
    exact ⟨.int .u8 b.toNat, by simp at hb ⊢; exact ⟨b, hb, rfl⟩, .int _ _⟩
theorem ao4 {P : Program} {w : World} {tS tX eT ty : TypeId} {e : TI} (hu : P.underlying tS = some (.slice eT)) (hT : TyOK P eT e) {uX : TypeDesc} (hX : P.underlying tX = some uX) (hXi : ∀ k, uX ≠ .int k)
    {base : Option Addr} {sLen sCap : Nat} {x : Value} {ys : List PV} {news : Array Value} {K : Nat → Kind} (hsrc : Src P K w e.size x ys news) (olds : Array Value)
    (hold : (Builtin.firstCells e.size sLen (.slice base sLen sCap)).run P w.drew = .ok olds w.drew) (hle : sLen ≤ sCap) (h63 : sLen + ys.length ≤ 9223372036854775807) (hfit : (sLen + ys.length) * e.bytes ≤ 140737488355328) :
    (sLen + ys.length ≤ sCap → (Builtin.append_ #[tS, tX] ty #[.slice base sLen sCap, x]).run P w =
      ((match base with | some a => storeCells (a.add (sLen * e.size)) news.toList | none => pure ()).run P w).andThen fun _ w' => .ok (.slice base (sLen + ys.length) sCap) w') ∧
    (¬ sLen + ys.length ≤ sCap → ∃ zs : Array Value, zs.size = (grownCap w (sLen + ys.length) sCap eT - (sLen + ys.length)) * e.size ∧ (Builtin.append_ #[tS, tX] ty #[.slice base sLen sCap, x]).run P w =
      .ok (.slice (some ⟨w.heap.size, 0, none⟩) (sLen + ys.length) (grownCap w (sLen + ys.length) sCap eT)) (w.drew.alloc (.cells (olds ++ news ++ zs) eT))) := by
  obtain ⟨info, z, hi1, hi2, hi3, hi4, hi5⟩ := hT.inf
  have hzs : ((uX matches .int _) : Bool) = false := by cases uX <;> first | rfl | exact absurd rfl (hXi _)
  have hsize : ∀ w', (sizeOf eT).run P w' = .ok e.size w' := hT.rsize
  constructor
  · intro hfits
    simp only [Builtin.append_, List.getElem?_toArray, List.getElem?_cons_zero, List.getElem?_cons_succ, Sem.run_bind, underlying, hu, hX, run_program, Result.andThen_ok, Sem.run_pure, hsize, hzs, hsrc.len, hfits, if_true, hsrc.first, Bool.false_eq_true, if_false, Bool.not_false]
    cases base <;> simp
  · intro hfits
    have hns : Builtin.nextslicecap (sLen + ys.length) sCap * e.bytes ≤ 281474976710656 := by
      have := nextslicecap_le (need := sLen + ys.length) (old := sCap) (by omega)
      calc _ ≤ 2 * (sLen + ys.length) * e.bytes := Nat.mul_le_mul_right _ this
        _ = 2 * ((sLen + ys.length) * e.bytes) := Nat.mul_assoc _ _ _
        _ ≤ _ := by omega
    have hz : z.cells.size = e.size := by
      have := (afb hi5).1
      rw [← hT.zl, ← this]; simp
    refine ⟨Builtin.zeroCells z.cells (grownCap w (sLen + ys.length) sCap eT - (sLen + ys.length)), by rw [size_zeroCells, hz], ?_⟩
    have h1 : ¬ ((sLen + ys.length : Nat) : Int) > IntKind.i64.max := by simp only [IntKind.max, IntKind.signed, IntKind.bits, if_true]; omega
    have h2 : ¬ Builtin.nextslicecap (sLen + ys.length) sCap * info.bytes > 2 ^ 48 := by rw [hi3]; omega
    simp only [Builtin.append_, List.getElem?_toArray, List.getElem?_cons_zero, List.getElem?_cons_succ, Sem.run_bind, underlying, hu, hX, run_program, Result.andThen_ok, Sem.run_pure, hsize, hzs, hsrc.len, hfits, Bool.false_eq_true, if_false, Bool.not_false, typeInfo, hi1, h1, false_and, h2, run_choose, Question.forced]
    have hd : ({ heap := w.heap, tape := w.tape, drawn := w.drawn + 1, os := w.os, output := w.output } : World) = w.drew := rfl
    have hgc : (Question.appendCap (sLen + ys.length) sCap eT).cut (w.tape w.drawn (Question.appendCap (sLen + ys.length) sCap eT)) = grownCap w (sLen + ys.length) sCap eT := rfl
    have hzr : (zeroValue eT).run P w.drew = .ok z w.drew := by simp [zeroValue, typeInfo, hi1, hi4]
    rw [hd, hgc, run_askRoom, Result.andThen_ok, hold, Result.andThen_ok, if_pos trivial, hsrc.firstD, Result.andThen_ok, hzr, Result.andThen_ok]
    simp only [newRow, Sem.run_bind, run_newObj, Result.andThen_ok, Sem.run_pure]
    rfl
def Own.isX : Own → Bool
  | .ex | .tb _ => true
  | _ => false
structure OwnSl (G : Gh) (w : World) (v : Value) (o : Own) (sz : Nat) (es : List PV) (a : Option Addr) (cap : Nat) (vs : Nat → Value) : Prop where
  val : v = .slice a es.length cap
  le : es.length ≤ cap
  hsz : ∀ e ∈ es, e.cells.length = sz
  at_ : es = [] ∨ ∃ ad, a = some ad ∧ ad.spot = none ∧ ∀ j, j < es.length * sz → w.cell? ⟨ad.block, ad.off + j, none⟩ = some (vs j)
  rep : ∀ (j : Nat) c, (flat es)[j]? = some c → RepP G.K w (vs j) c
  room : es.length < cap → ∃ ad, a = some ad ∧ ad.spot = none ∧ ownB v (.sl o sz es) = some ad.block ∧ (o.isX = false → G.K ad.block = .imm (ad.off + es.length * sz)) ∧ (o.isX = true → G.K ad.block = .own ∧ ad.off = 0) ∧
    aav w ad.block (ad.off + es.length * sz) (ad.off + cap * sz) ∧ (o.isX = true → aav w ad.block 0 (cap * sz))
  tb : ∀ e, o = .tb e → es.length < cap → ∃ b, a = some ⟨b, 0, none⟩ ∧ w.shape? b = some (e, cap * sz)
theorem RepO.ownSl {G : Gh} {w : World} {v : Value} {o : Own} {sz : Nat} {es : List PV} (h : RepO G w v (.sl o sz es)) (ho : o ≠ .sh) : ∃ a cap vs, OwnSl G w v o sz es a cap vs := by
  cases h with
  | sh h => cases h with | pl h => cases h <;> exact absurd rfl ho
  | ow a cap sz es h hr =>
    have hroom : es.length < cap → ∃ ad, a = some ad ∧ ad.spot = none ∧ ownB (.slice a es.length cap) (.sl .ow sz es) = some ad.block ∧ (Own.isX .ow = false → G.K ad.block = .imm (ad.off + es.length * sz)) ∧ (Own.isX .ow = true → G.K ad.block = .own ∧ ad.off = 0) ∧
        aav w ad.block (ad.off + es.length * sz) (ad.off + cap * sz) ∧ (Own.isX .ow = true → aav w ad.block 0 (cap * sz)) := by
      intro hlt
      obtain ⟨ad, rfl, h1, h2, h3⟩ := hr hlt
      exact ⟨ad, rfl, h1, by simp [ownB, hlt], fun _ => h2, fun h => by (cases h), h3, fun h => by (cases h)⟩
    obtain ⟨a', cap', he, h'⟩ := h.slv
    cases he
    rcases h' with rfl | ⟨ad, p, vs, rfl, hs, hK, hp, hc, hsz, hv, hrr⟩
    · exact ⟨a, cap, fun _ => undef, rfl, Nat.zero_le _, by simp, .inl rfl, fun j c hc => by simp [flat] at hc, hroom, fun e h => (by cases h)⟩
    · exact ⟨some ad, cap, vs, rfl, hc, hsz, .inr ⟨ad, rfl, hs, hv⟩, hrr, hroom, fun e h => (by cases h)⟩
  | tb0 a e sz => exact ⟨a, 0, fun _ => undef, rfl, Nat.le_refl _, by simp, .inl rfl, fun j c hc => by simp [flat] at hc, fun h => absurd h (Nat.lt_irrefl _), fun e h h2 => absurd h2 (Nat.lt_irrefl _)⟩
  | tb b cap e sz es vs hK hc h0 hsp hsh hsz hv hr =>
    exact ⟨some ⟨b, 0, none⟩, cap, vs, rfl, hc, hsz, .inr ⟨_, rfl, rfl, fun j hj => by simpa using hv j hj⟩, hr, fun hlt => ⟨_, rfl, rfl, by simp [ownB, h0], fun h => (by cases h), fun _ => ⟨hK, rfl⟩, by simpa using hsp.sub (Nat.zero_le _) (Nat.le_refl _), fun _ => hsp⟩, fun e' h _ => (by cases h; exact ⟨b, rfl, hsh⟩)⟩
  | ex0 a sz => exact ⟨a, 0, fun _ => undef, rfl, Nat.le_refl _, by simp, .inl rfl, fun j c hc => by simp [flat] at hc, fun h => absurd h (Nat.lt_irrefl _), fun e h => (by cases h)⟩
  | ex b cap sz es vs hK hc h0 hsp hsz hv hr =>
    exact ⟨some ⟨b, 0, none⟩, cap, vs, rfl, hc, hsz, .inr ⟨_, rfl, rfl, fun j hj => by simpa using hv j hj⟩, hr, fun hlt => ⟨_, rfl, rfl, by simp [ownB, h0], fun h => (by cases h), fun _ => ⟨hK, rfl⟩, by simpa using hsp.sub (Nat.zero_le _) (Nat.le_refl _), fun _ => hsp⟩, fun e h => (by cases h)⟩
theorem ah6 {xs ys : List PV} {sz : Nat} (hx : ∀ e ∈ xs, e.cells.length = sz) {j : Nat} {c : PV} (h : (flat (xs ++ ys))[j]? = some c) :
    (j < xs.length * sz ∧ (flat xs)[j]? = some c) ∨ (xs.length * sz ≤ j ∧ (flat ys)[j - xs.length * sz]? = some c) := by
  rw [ait] at h
  by_cases hj : j < (flat xs).length
  · rw [List.getElem?_append_left hj] at h; rw [vg hx] at hj; exact .inl ⟨hj, h⟩
  · rw [List.getElem?_append_right (by omega), vg hx] at h; rw [vg hx] at hj; exact .inr ⟨by omega, h⟩
section
variable {P : Program} {l : Option Nat} {tt : TT} {n m : Nat} {all : Array Oper} {rest : List Oper} {env : Env} {σ : Sto} {Q : Post} {d : Nat} {ty : TypeId} {pos : String} {after : Array Edge}
theorem am4 {F : Fr} {G : Gh} {a : Act} {w w' : World} (h : Sim n m F G env σ a w) {K' : Nat → Kind} (hb : ∀ b i, G.K b = .box i → w'.heap[b]? = w.heap[b]?) (l' : Loc) :
    nz ⟨K', G.bs⟩ env σ a.tmps w' l' = nz G env σ a.tmps w l' := by
  cases l' with
  | slot t j => rfl
  | cell i j =>
    simp only [nz]
    cases hi : σ[i]? with
    | none => rfl
    | some e => cases e with
      | cells cs => simp only [zi (hb _ _ (h.sto i _ hi).1)]
      | _ => rfl
theorem aua {K : Nat → Kind} {w : World} {v : Value} {p : PV} (h : RepP K w v p) (hp : p.one = true) : v.oneCell' = true := by
  cases h <;> first | rfl | cases hp
theorem an7 {F : Fr} {G : Gh} {a : Act} {w : World} (hs : Sim n m F G env σ a w) {o : Own} {sz : Nat} {es ys : List PV} {v x : Value} {news : Array Value} (ho : o ≠ .sh)
    (hv : RepO G w v (.sl o sz es)) (hfree : ∀ b, ownB v (.sl o sz es) = some b → ¬ F b ∧ ∀ l, nz G env σ a.tmps w l ≠ some b) (hsrc : Src P G.K w sz x ys news)
    {tS tX eT : TypeId} {e : TI} (hu : P.underlying tS = some (.slice eT)) (hT : TyOK P eT e) (hez : e.size = sz) {uX : TypeDesc} (hX : P.underlying tX = some uX) (hXi : ∀ k, uX ≠ .int k)
    (hTB : ∀ e', o = .tb e' → eT = e') (h63 : es.length + ys.length ≤ 9223372036854775807) (hfit : (es.length + ys.length) * e.bytes ≤ 140737488355328) (hone1 : ∀ c ∈ flat ys, c.one = true) (hd : d < n) :
    ∃ v' w' K', (Builtin.append_ #[tS, tX] ty #[v, x]).run P w = .ok v' w' ∧ Sim n m F ⟨K', G.bs⟩ ((d, .sl o sz (es ++ ys)) :: env) σ (a.put (some d) v') w' ∧ Evol m F G w ⟨K', G.bs⟩ w' := by
  subst hez
  obtain ⟨av, cap, vs, H⟩ := hv.ownSl ho
  obtain ⟨rfl, hle, hsz, hat, hrep, hroom, htb⟩ := H
  obtain ⟨olds, hold, holdD, holds, holdr⟩ : ∃ olds : Array Value, (Builtin.firstCells e.size es.length (.slice av es.length cap)).run P w = .ok olds w ∧ (Builtin.firstCells e.size es.length (.slice av es.length cap)).run P w.drew = .ok olds w.drew ∧
      olds.size = es.length * e.size ∧ ∀ (j : Nat) c, (flat es)[j]? = some c → ∃ v, olds[j]? = some v ∧ RepP G.K w v c := by
    rcases hat with rfl | ⟨ad, rfl, hsp, hcell⟩
    · refine ⟨#[], ?_, ?_, by simp, fun j c hc => by simp [flat] at hc⟩ <;> (cases av <;> simp [Builtin.firstCells, loadCells, loadCellsFrom])
    · refine ⟨((List.range (es.length * e.size)).map vs).toArray, ahe vs hsp hcell, ahe vs hsp (fun j hj => hcell j hj), by simp, fun j c hc => ?_⟩
      have hj : j < es.length * e.size := by rw [← vg hsz]; exact (List.getElem?_eq_some_iff.1 hc).1
      exact ⟨vs j, by simp [hj], hrep j c hc⟩
  obtain ⟨hin, hout⟩ := ao4 (ty := ty) hu hT hX hXi hsrc olds holdD hle h63 hfit
  have hsz2 : ∀ p ∈ es ++ ys, p.cells.length = e.size := fun p hp => (List.mem_append.1 hp).elim (hsz p) (hsrc.hsz p)
  have hlen2 : (es ++ ys).length = es.length + ys.length := List.length_append
  by_cases hfits : es.length + ys.length ≤ cap
  · have hin := hin hfits
    by_cases hy : ys = []
    · subst hy
      have hnew : news = #[] := Array.eq_empty_of_size_eq_zero (by have := hsrc.size; simpa using this)
      subst hnew
      refine ⟨.slice av es.length cap, w, G.K, ?_, ?_, .refl _ _ _ _⟩
      · rw [hin]; cases av <;> simp [storeCells]
      · rw [List.append_nil]
        have hsl : ∀ j b, o8 (.slice av es.length cap) (.sl o e.size es) j = some b → j = 0 ∧ ownB (.slice av es.length cap) (.sl o e.size es) = some b := by
          intro j b hb; unfold o8 at hb; simp only at hb; split at hb
          · exact ⟨‹_›, hb⟩
          · cases hb
        exact hs.set hd (.one hv) trivial (fun j b hb => ⟨(hfree b (hsl j b hb).2).1, fun l hl => absurd hl ((hfree b (hsl j b hb).2).2 l)⟩) (fun j1 j2 b h1 h2 => by rw [(hsl j1 b h1).1, (hsl j2 b h2).1])
    · have hy0 : 0 < ys.length := List.length_pos_iff.2 hy
      obtain ⟨ad, rfl, hsp, hob, hKw, hKx, hspare, hspx⟩ := hroom (by omega)
      obtain ⟨hnF, hno⟩ := hfree _ hob
      obtain ⟨arr, T, fz, a1, a2, a3⟩ := hspare
      have hmul : (es.length + ys.length) * e.size ≤ cap * e.size := Nat.mul_le_mul_right _ hfits
      rw [Nat.add_mul] at hmul
      have hnl : news.toList.length = ys.length * e.size := by simp [hsrc.size]
      have hcellb : ∀ j, w.cell? ⟨ad.block, j, none⟩ = arr[j]? := fun j => by simp [World.cell?, a1]
      have hone : ∀ u ∈ news.toList, u.oneCell' = true := by
        intro u hu'
        obtain ⟨j, hj, rfl⟩ := List.getElem_of_mem hu'
        have hj' : j < (flat ys).length := by rw [vg hsrc.hsz]; omega
        obtain ⟨u', h1, h2⟩ := hsrc.rep j (flat ys)[j] (by simp [hj'])
        have : news.toList[j] = u' := by
          have hj2 : j < news.size := by simpa using hj
          have := Array.getElem?_eq_getElem hj2
          rw [this] at h1; cases h1; simp
        rw [this]
        exact aua h2 (hone1 _ (List.getElem_mem hj'))
      have hrun := run_storeCells_cells (P := P) ad.block (ad.off + es.length * e.size) news.toList 0 w (fun j hj => by
        rw [Nat.add_zero, hcellb]
        have : ad.off + es.length * e.size + j < arr.size := by omega
        simp [this]) (fun j hj => by rw [Nat.add_zero]; exact a3 _ (by omega) (by omega)) hone
      rw [Nat.add_zero] at hrun
      have hadd : ad.add (es.length * e.size) = ⟨ad.block, ad.off + es.length * e.size, none⟩ := aai hsp _
      have hblt : ad.block < w.heap.size := (Array.getElem?_eq_some_iff.1 a1).1
      have hK0 : G.K ad.block = kOf o (ad.off + es.length * e.size) := by
        cases o with
        | sh => exact absurd rfl ho
        | ow => exact hKw rfl
        | tb e' => exact (hKx rfl).1
        | ex => exact (hKx rfl).1
      have hnb : ∀ b i, G.K b = .box i → b ≠ ad.block := fun b i hb e => by rw [e, hK0] at hb; cases o <;> cases hb
      have hnk : ∀ b, G.K b = .keep → b ≠ ad.block := fun b hb e => by rw [e, hK0] at hb; cases o <;> cases hb
      obtain ⟨s1, s2, s3, s4⟩ := aef ad.block news.toList (ad.off + es.length * e.size) w
      have hout' : ∀ j, j < ad.off + es.length * e.size → (w.setCells ad.block (ad.off + es.length * e.size) news.toList).cell? ⟨ad.block, j, none⟩ = w.cell? ⟨ad.block, j, none⟩ :=
        fun j hj => World.cell?_setCells_out _ _ _ _ _ fun _ _ => .inl hj
      have hin' : ∀ j, j < ys.length * e.size → (w.setCells ad.block (ad.off + es.length * e.size) news.toList).cell? ⟨ad.block, ad.off + es.length * e.size + j, none⟩ = some (news.getD j undef) := by
        intro j hj
        have hj' : j < news.toList.length := by omega
        rw [World.cell?_setCells_in _ _ _ _ (fun j hj => by
          rw [hcellb]
          have : ad.off + es.length * e.size + j < arr.size := by omega
          simp [this]) j hj']
        have : j < news.size := by simpa using hj'
        simp [this]
      have hshp : (w.setCells ad.block (ad.off + es.length * e.size) news.toList).shape? ad.block = w.shape? ad.block := by
        have h0 : w.shape? ad.block = some (T, arr.size) := by simp [World.shape?, a1]
        rw [h0]; exact am5 h0 _ _ _
      have hle' : wh G.K w (upd G.K ad.block (kOf o (ad.off + (es.length + ys.length) * e.size))) (w.setCells ad.block (ad.off + es.length * e.size) news.toList) := by
        intro b p hb
        by_cases hbe : b = ad.block
        · subst hbe
          rw [hK0] at hb
          cases o with
          | sh => exact absurd rfl ho
          | ow => cases hb; exact ⟨_, ⟨by rw [Nat.add_mul]; omega, hshp⟩, upd_same _ _ _, fun j hj => hout' j hj⟩
          | tb e' => cases hb
          | ex => cases hb
        · exact ⟨p, ⟨Nat.le_refl _, ab3 (zb _ _ _ _ _ hbe)⟩, by rw [upd_ne _ _ hbe]; exact hb, fun j _ => zi (zb _ _ _ _ _ hbe)⟩
      have hs1 := hs.world2 hle' (by omega) (fun l b hl => by
          have hbe : b ≠ ad.block := fun e => hno l (e ▸ hl)
          exact ⟨zb _ _ _ _ _ hbe, upd_ne _ _ hbe⟩) (fun b hb => by
          have hbe : b ≠ ad.block := hb.elim (fun ⟨i, hi⟩ => hnb b i hi) (hnk b)
          exact ⟨zb _ _ _ _ _ hbe, upd_ne _ _ hbe⟩) (fun b hb => by
          rw [s1]
          by_cases hbe : b = ad.block
          · subst hbe; exact hblt
          · rw [upd_ne _ _ hbe] at hb; exact hs.kfree b hb)
      have hrep2 : ∀ (j : Nat) c, (flat (es ++ ys))[j]? = some c → RepP (upd G.K ad.block (kOf o (ad.off + (es.length + ys.length) * e.size))) (w.setCells ad.block (ad.off + es.length * e.size) news.toList) (if j < es.length * e.size then vs j else news.getD (j - es.length * e.size) undef) c := by
        intro j c hc
        rcases ah6 hsz hc with ⟨h1, h2⟩ | ⟨h1, h2⟩
        · rw [if_pos h1]; exact (hrep j c h2).mono hle'
        · rw [if_neg (by omega)]
          obtain ⟨v', h3, h4⟩ := hsrc.rep _ c h2
          have : news.getD (j - es.length * e.size) undef = v' := by
            have hj := (Array.getElem?_eq_some_iff.1 h3).1
            rw [Array.getElem?_eq_getElem hj] at h3; cases h3; simp [hj]
          rw [this]; exact h4.mono hle'
      have hcell2 : ∀ j, j < (es ++ ys).length * e.size → (w.setCells ad.block (ad.off + es.length * e.size) news.toList).cell? ⟨ad.block, ad.off + j, none⟩ = some (if j < es.length * e.size then vs j else news.getD (j - es.length * e.size) undef) := by
        intro j hj
        rw [hlen2, Nat.add_mul] at hj
        by_cases hj1 : j < es.length * e.size
        · rw [if_pos hj1, hout' _ (by omega)]
          rcases hat with rfl | ⟨ad', he', _, hc'⟩
          · simp at hj1
          · cases he'; exact hc' j hj1
        · rw [if_neg hj1]
          have := hin' (j - es.length * e.size) (by omega)
          rw [show ad.off + es.length * e.size + (j - es.length * e.size) = ad.off + j by omega] at this
          exact this
      have hval : RepO ⟨upd G.K ad.block (kOf o (ad.off + (es.length + ys.length) * e.size)), G.bs⟩ (w.setCells ad.block (ad.off + es.length * e.size) news.toList) (.slice (some ad) (es ++ ys).length cap) (.sl o e.size (es ++ ys)) := by
        cases o with
        | sh => exact absurd rfl ho
        | ow =>
          refine .ow _ cap e.size _ (.sl ad cap e.size (ad.off + (es.length + ys.length) * e.size) (es ++ ys) _ hsp (upd_same _ _ _) (by rw [hlen2]; exact Nat.le_refl _) (by omega) hsz2 hcell2 hrep2) fun _ => ⟨ad, rfl, hsp, ?_, ?_⟩
          · rw [hlen2]; exact upd_same _ _ _
          · rw [hlen2]; exact (ag3 (w := w) ⟨arr, T, fz, a1, a2, a3⟩ _ _ _).sub (by rw [Nat.add_mul]; omega) (Nat.le_refl _)
        | tb e' =>
          obtain ⟨_, h0⟩ := hKx rfl
          obtain ⟨b, e1, e2⟩ := htb e' rfl (by omega)
          cases e1
          exact .tb b cap e' e.size _ _ (upd_same _ _ _) (by omega) (by omega) (ag3 (hspx rfl) _ _ _) (hshp.trans e2) hsz2 (fun j hj => by have := hcell2 j hj; simpa using this) hrep2
        | ex =>
          obtain ⟨_, h0⟩ := hKx rfl
          obtain ⟨b, off, sp⟩ := ad
          simp only at h0 hsp
          subst h0; subst hsp
          exact .ex b cap e.size _ _ (upd_same _ _ _) (by omega) (by omega) (ag3 (hspx rfl) _ _ _) hsz2 (fun j hj => by have := hcell2 j hj; simpa using this) hrep2
      have hsl : ∀ j b, o8 (.slice (some ad) (es ++ ys).length cap) (.sl o e.size (es ++ ys)) j = some b → j = 0 ∧ b = ad.block := by
        intro j b hb; unfold o8 at hb; simp only at hb; split at hb
        · refine ⟨‹_›, ?_⟩
          cases o <;> simp only [ownB] at hb <;> first | (cases hb; done) | (split at hb <;> first | (cases hb; rfl) | cases hb)
        · cases hb
      refine ⟨.slice (some ad) (es ++ ys).length cap, _, _, ?_, hs1.set hd (.one hval) trivial (fun j b hb => ?_) (fun j1 j2 b h1 h2 => by rw [(hsl j1 b h1).1, (hsl j2 b h2).1]), ⟨s2, s3, s4, by omega, fun b hb => ?_, hle', fun _ _ => rfl⟩⟩
      · rw [hin, hlen2]; simp only [hadd, hrun, Result.andThen_ok]
      · obtain ⟨_, rfl⟩ := hsl j b hb
        exact ⟨hnF, fun l hl => absurd (by rw [am4 hs fun b i hb => zb _ _ _ _ _ (hnb b i hb)] at hl; exact hl) (hno l)⟩
      · have hbe : b ≠ ad.block := fun e => hnF (e ▸ hb)
        exact ⟨zb _ _ _ _ _ hbe, upd_ne _ _ hbe⟩
  · obtain ⟨zs, hzs, hrun⟩ := hout hfits
    have hcap : es.length + ys.length ≤ grownCap w (es.length + ys.length) cap eT := grownCap_ge _ _ _ _
    have hs0 := hs.drew
    have hs1 := hs0.alloc (.cells (olds ++ news ++ zs) eT) (kOf o ((es ++ ys).length * e.size))
    have hle' := wh.alloc hs0 (.cells (olds ++ news ++ zs) eT) (kOf o ((es ++ ys).length * e.size))
    have hdr : wh G.K w G.K w.drew := fun b p hb => ⟨p, ⟨Nat.le_refl _, rfl⟩, hb, fun _ _ => rfl⟩
    have harr : (olds ++ news ++ zs).size = grownCap w (es.length + ys.length) cap eT * e.size := by
      simp only [Array.size_append, holds, hsrc.size, hzs]
      rw [← Nat.add_mul, ← Nat.add_mul]; congr 1; omega
    have hfs := ais (G := G) (w := w.drew) (o := o) (cap := grownCap w (es.length + ys.length) cap eT) (T := eT) (fz := (0, 0)) (es := es ++ ys) (sz := e.size) (by rw [hlen2]; exact hcap) hsz2 (arr := olds ++ news ++ zs) (by rw [harr]; exact Nat.le_refl _) (fun e' he' => ⟨hTB e' he', harr⟩)
      (w' := w.drew.alloc (.cells (olds ++ news ++ zs) eT)) (heap_alloc_new _ _) (fun j _ => World.frozen?_alloc_new _ _ _ j) (fun j c hc => by
        rcases ah6 hsz hc with ⟨h1, h2⟩ | ⟨h1, h2⟩
        · obtain ⟨v, h3, h4⟩ := holdr j c h2
          refine ⟨v, ?_, (h4.mono hdr).mono hle'⟩
          rw [Array.append_assoc, Array.getElem?_append_left (by omega)]; exact h3
        · obtain ⟨v, h3, h4⟩ := hsrc.rep _ c h2
          refine ⟨v, ?_, (h4.mono hdr).mono hle'⟩
          have := (Array.getElem?_eq_some_iff.1 h3).1
          rw [Array.append_assoc, Array.getElem?_append_right (by omega), holds, Array.getElem?_append_left this]; exact h3)
    refine ⟨.slice (some ⟨w.heap.size, 0, none⟩) (es ++ ys).length (grownCap w (es.length + ys.length) cap eT), w.drew.alloc (.cells (olds ++ news ++ zs) eT), upd G.K w.drew.heap.size (kOf o ((es ++ ys).length * e.size)), ?_, ?_, (Evol.drew hs).trans (Evol.alloc hs0 _ _ _ fun _ _ => rfl)⟩
    · rw [hrun, hlen2]
    · refine Sim.setFresh (w := w.drew) hs1 hd hfs (fun l hl => ?_) (fun hF => absurd (hs.frlt _ hF) (Nat.lt_irrefl _))
      rw [am4 hs0 (fun b i hb => adc _ _ (hs0.kfree b (by rw [hb]; simp)))] at hl
      exact absurd (amy hs0 hl) (Nat.lt_irrefl _)
theorem aid {a : Act} {w w' : World} {v' : Value} {d' : Option Nat} {x y : Operand} {tS tX : TypeId} (h : (Builtin.append_ #[tS, tX] ty #[a.eval x, a.eval y]).run P w = .ok v' w') :
    (execOp a.eval ⟨d', .call ⟨.builtin .append, #[x, y], #[tS, tX]⟩, ty, pos, after, none⟩).run P w = .ok (.value v') w' := by
  simp [execOp, resolve, invoke, builtin, h]
theorem ar6 (ht : oq P tt) {tb : Nat} {xo : Operand} {tS tX : TypeId} {o : Own} {sz : Nat} {es ys : List PV} {e : TI} (hb : look env tb = .sl o sz es) (ho : (PV.sl o sz es).isOwnA = true) (he : eti tt tS = some e) (hez : e.size = sz)
    {i : TI} {eX : Nat} (hX : tl tt tX = some i) (hXi : i.desc = .slice eX) (hx : opv tt env tX xo = .sl .sh sz ys)
    (hfit : (es.length + ys.length) * (e.bytes + 1) ≤ 140737488355328) (hone : (flat ys).all PV.one = true) (hd : d < n)
    (h : SatOps P l n m all rest ((d, .sl o sz (es ++ ys)) :: (tb, y8 (.sl o sz es)) :: env) σ Q) :
    SatOps P l n m all (⟨some d, .call ⟨.builtin .append, #[.tmp tb, xo], #[tS, tX]⟩, ty, pos, after, none⟩ :: rest) env σ Q := by
  refine ym rfl (by simp) fun F G a w hs => ?_
  obtain ⟨h1, h2, h3⟩ := hs.take hb (apr ho)
  obtain ⟨eT, hu, hT⟩ := aao ht he
  have hxo := o7 hs tt tX xo
  rw [hx] at hxo
  obtain ⟨news, hsrc⟩ := Src.sl (P := P) ((hxo.toS rfl).slv)
  rw [Nat.mul_add, Nat.mul_one] at hfit
  obtain ⟨v', w', K', hr, hs', hev⟩ := an7 (d := d) (ty := ty) h1 (by cases o <;> first | (cases ho; done) | simp) h2 h3 hsrc hu hT hez (ht _ _ hX).und (by rw [hXi]; simp) (fun e' he' => by subst he'; cases ho) (by omega) (by omega) (List.all_eq_true.1 hone) hd
  exact ⟨v', w', _, _, σ, .inl (aid hr), hs', hev, h⟩
theorem qw {α : Type} (f : α → PV) (h : ∀ x, (f x).cells.all PV.one = true) (l : List α) : (flat (l.map f)).all PV.one = true := by
  induction l with
  | nil => rfl
  | cons x r ih => simp only [List.map_cons, flat, List.all_append, h, ih, Bool.and_self]
end
end Go.Proofs.Ytbpjaiemlkcccaa.Pv
end
section
/- Calls: what a function makes of its arguments. -/
namespace Go.Proofs.Ytbpjaiemlkcccaa.Pv
open Go
def acx : Nat → List PV → Env
  | _, [] => []
  | k, p :: r => (k, p) :: acx (k + 1) r
abbrev xw (ps : List PV) : Env := acx 0 ps
theorem yo : ∀ (ps : List PV) (k t : Nat), look (acx k ps) t = if k ≤ t then (ps[t - k]?).getD .dead else .dead
  | [], k, t => by simp [acx, look]
  | p :: r, k, t => by
    rw [acx, qg, yo r (k + 1) t]
    by_cases h : t = k
    · subst h; simp
    · rw [if_neg h]
      by_cases h2 : k ≤ t
      · rw [if_pos (by omega), if_pos h2, show t - k = (t - (k + 1)) + 1 by omega, List.getElem?_cons_succ]
      · rw [if_neg (by omega), if_neg h2]
def jo (P : Program) (f : FuncId) (ps : List PV) (σ : Sto) (R : PV → Sto → Prop) : Prop :=
  ∀ F G w (vs : Array Value), vs.size = ps.length → Sim vs.size σ.length F G (xw ps) σ ⟨vs, []⟩ w →
    CallsIn (Wd none) 0 P f vs w fun e w' => ∃ v r σ' G', e = .returned v ∧ R r σ' ∧ Sim 1 σ.length F G' [(0, r)] σ' ⟨#[v], []⟩ w' ∧ Evol σ.length F G w G' w'
theorem jo.mono {P : Program} {f : FuncId} {ps : List PV} {σ : Sto} {R R' : PV → Sto → Prop} (h : jo P f ps σ R) (hr : ∀ r σ', R r σ' → R' r σ') : jo P f ps σ R' :=
  fun F G w vs hl hs => (h F G w vs hl hs).mono fun _ _ ⟨v, r, σ', G', h1, h2, h3, h4⟩ => ⟨v, r, σ', G', h1, hr _ _ h2, h3, h4⟩
def acp (tt : TT) (env : Env) (σ : Sto) : List ResultVar → List PV → Prop
  | [], [] => True
  | .tmp t :: rs, p :: ps => Wk p (look env t) ∧ acp tt env σ rs ps
  | .cell a t :: rs, p :: ps => (∃ i off ti cs c, look env a = .ptr i off ∧ tl tt t = some ti ∧ σ[i]? = some (.cells cs) ∧ ag5 ti cs off = some (c, p) ∧ c) ∧ acp tt env σ rs ps
  | _, _ => False
def x8 : List ResultVar → List Nat
  | [] => []
  | .tmp t :: rs => t :: x8 rs
  | _ :: rs => x8 rs
def PV.isTup : PV → Bool
  | .tup _ => true
  | _ => false
def abb : List PV → PV
  | [p] => p
  | ps => .tup ps
def xh (σ : Sto) : Prop := ∀ (i : Nat) e, σ[i]? = some e → e.lt σ.length
def gu (tt : TT) (fn : Func) (m : Nat) (R : PV → Sto → Prop) : Post := fun e env σ =>
  (e = .normal ∨ e = .ret) ∧ ∃ ps τ ex, acp tt env σ fn.results.toList ps ∧ (∀ p ∈ ps, p.isTup = false) ∧ σ = τ ++ ex ∧ (ex = [] ∨ (m ≤ τ.length ∧ xh τ)) ∧ o6 τ.length ps ∧ R (abb ps) τ
section
variable {n m : Nat} {F : Fr} {G : Gh} {env : Env} {σ : Sto} {a : Act} {w : World}
theorem amt {P : Program} {tt : TT} (ht : oq P tt) (hs : Sim n m F G env σ a w) {t i off : Nat} {ti : TI} {cs : List PV} {c : Prop} {p : PV} (hti : tl tt t = some ti)
    (hi : σ[i]? = some (.cells cs)) (hl : ag5 ti cs off = some (c, p)) (hc : c) : ∃ v, (loadVar t ⟨G.bs i, off, none⟩).run P w = .ok v w ∧ RepS G w v p ∧ p.lt σ.length := by
  obtain ⟨hK, hsp, hcell⟩ := hs.sto i _ hi
  have hst := hs.stolt i _ hi
  simp only [Ent.lt] at hst
  have hT := ht _ _ hti
  unfold ag5 at hl
  split at hl
  · rename_i hd'
    split at hl
    · rename_i hall
      cases hl
      have hv : ∀ j, ∃ v, j < ti.size → w.cell? ⟨G.bs i, off + j, none⟩ = some v ∧ ∀ c, ((cs.drop off).take ti.size)[j]? = some c → RepS G w v (abn c) := by
        intro j
        by_cases hj : j < ti.size
        · have hlt : off + j < cs.length := by omega
          obtain ⟨v, h1, h2⟩ := hcell (off + j) cs[off + j] (by simp [hlt])
          refine ⟨v, fun _ => ⟨h1, fun c hc' => ?_⟩⟩
          have hc2 : c = cs[off + j] := by
            rw [List.getElem?_take, if_pos hj, List.getElem?_drop] at hc'
            simpa [hlt] using hc'.symm
          subst hc2
          rcases h2.abn with e | e
          · exfalso
            have := List.all_eq_true.1 hall (abn cs[off + j]) (List.mem_map.2 ⟨_, List.mem_of_getElem? hc', rfl⟩)
            rw [e] at this; cases this
          · exact e
        · exact ⟨undef, fun h => absurd h hj⟩
      obtain ⟨vs, hvs⟩ := Classical.axiomOfChoice hv
      have hrun := run_loadCells (P := P) w ⟨G.bs i, off, none⟩ ti.size vs (fun j hj => by rw [aai rfl]; exact (hvs j hj).1)
      refine ⟨.agg ((List.range ti.size).map vs).toArray, ?_, .agg _ _ ?_ fun j v c h1 h2 => ?_, ?_⟩
      · simp [loadVar, hT.ragg w, hd', hT.rsize w, hrun]
      · simp; omega
      · rw [List.getElem?_map, Option.map_eq_some_iff] at h2
        obtain ⟨c', h2, rfl⟩ := h2
        have hj : j < ti.size := by
          have := (List.getElem?_eq_some_iff.1 h2).1
          simp at this; omega
        simp [hj] at h1
        subst h1
        exact (hvs j hj).2 c' h2
      · simp only [PV.lt]; rw [mo]; intro v hv'
        obtain ⟨c', h2, rfl⟩ := List.mem_map.1 hv'
        exact aib (mo.1 hst c' (List.mem_of_mem_drop (List.mem_of_mem_take h2)))
    · cases hl
  · rename_i hd'
    split at hl
    · rename_i c0 r hcs
      split at hl
      · rename_i hS
        cases hl
        have h0 : cs[off]? = some c0 := by have := List.getElem?_drop (xs := cs) (i := off) (j := 0); rw [hcs] at this; simpa using this.symm
        obtain ⟨v, h1, h2⟩ := hcell off c0 h0
        refine ⟨v, by simp [loadVar, hT.ragg w, hd', run_load, h1], ?_, aib (mo.1 hst c0 (List.mem_of_getElem? h0))⟩
        rcases h2.abn with e | e
        · rw [e] at hS; cases hS
        · exact e
      · cases hl
    · cases hl
def ahv (tmps : Array Value) : ResultVar → Sem Value
  | .tmp t => pure (tmps.getD t undef)
  | .cell a t => do loadVar t (← asAddr (tmps.getD a undef))
theorem agr {P : Program} {tt : TT} (ht : oq P tt) (hs : Sim n m F G env σ a w) : ∀ (rs : List ResultVar) (ps : List PV), acp tt env σ rs ps → (∀ p ∈ ps, p.isTup = false) → (x8 rs).Nodup →
    ∃ vs : List Value, (rs.mapM (ahv a.tmps)).run P w = .ok vs w ∧ vs.length = ps.length ∧ rs.length = ps.length ∧ (∀ (j : Nat) v p, vs[j]? = some v → ps[j]? = some p → RepO G w v p ∧ p.lt σ.length ∧ ∀ b, ownB v p = some b → ∃ t, rs[j]? = some (.tmp t) ∧ nz G env σ a.tmps w (.slot t 0) = some b)
  | [], [], _, _, _ => ⟨[], rfl, rfl, rfl, fun j v p h => by simp at h⟩
  | .tmp t :: rs, p :: ps, ⟨h1, h2⟩, htup, hnd => by
    obtain ⟨vs, k1, k2, k3, k4⟩ := agr ht hs rs ps h2 (fun q hq => htup q (List.mem_cons_of_mem _ hq)) (by simp only [x8, List.nodup_cons] at hnd; exact hnd.2)
    have hp := htup p List.mem_cons_self
    have hrep : RepO G w (a.tmps.getD t undef) p := (h1.rep (hs.rep t)).toO (fun qs e => by subst e; cases hp)
    refine ⟨a.tmps.getD t undef :: vs, by simp [List.mapM_cons, ahv, k1], by simp [k2], by simp [k3], fun j v q hv hq => ?_⟩
    cases j with
    | zero =>
      simp only [List.getElem?_cons_zero, Option.some.injEq] at hv hq
      subst hv; subst hq
      refine ⟨hrep, h1.lt (hs.envlt t), fun b hb => ⟨t, rfl, ?_⟩⟩
      have h0 : o8 (a.tmps.getD t undef) p 0 = some b := by
        unfold o8
        cases p <;> first | (cases hp; done) | (simpa using hb)
      simp only [nz]
      rw [← h1.own _ _ _ h0]; exact h0
    | succ j =>
      simp only [List.getElem?_cons_succ] at hv hq
      obtain ⟨q1, q2, q3⟩ := k4 j v q hv hq
      exact ⟨q1, q2, fun b hb => let ⟨t', e1, e2⟩ := q3 b hb; ⟨t', by simpa using e1, e2⟩⟩
  | .cell x t :: rs, p :: ps, ⟨⟨i, off, ti, cs, c, h1, h2, h3, h4, h5⟩, hrest⟩, htup, hnd => by
    obtain ⟨vs, k1, k2, k3, k4⟩ := agr ht hs rs ps hrest (fun q hq => htup q (List.mem_cons_of_mem _ hq)) hnd
    have hx := hs.rep x
    rw [h1] at hx
    have ex := (hx.toS rfl).ptrv
    obtain ⟨v0, r1, r2, r3⟩ := amt ht hs h2 h3 h4 h5
    refine ⟨v0 :: vs, ?_, by simp [k2], by simp [k3], fun j v q hv hq => ?_⟩
    · simp only [List.mapM_cons, ahv, Sem.run_bind, ex, asAddr, Sem.run_pure, Result.andThen_ok, r1, k1]
    · cases j with
      | zero =>
        simp only [List.getElem?_cons_zero, Option.some.injEq] at hv hq
        subst hv; subst hq
        exact ⟨.sh r2, r3, fun b hb => by rw [yz r2] at hb; cases hb⟩
      | succ j =>
        simp only [List.getElem?_cons_succ] at hv hq
        obtain ⟨q1, q2, q3⟩ := k4 j v q hv hq
        exact ⟨q1, q2, fun b hb => let ⟨t', e1, e2⟩ := q3 b hb; ⟨t', by simpa using e1, e2⟩⟩
  | .tmp _ :: _, [], h, _, _ => h.elim
  | .cell _ _ :: _, [], h, _, _ => h.elim
  | [], _ :: _, h, _, _ => h.elim
theorem ak0 : ∀ {rs : List ResultVar} {i j t : Nat}, (x8 rs).Nodup → rs[i]? = some (.tmp t) → rs[j]? = some (.tmp t) → i = j
  | [], _, _, _, _, h, _ => by simp at h
  | r :: rs, i, j, t, hnd, hi, hj => by
    have mem : ∀ {rs : List ResultVar} {k : Nat}, rs[k]? = some (.tmp t) → t ∈ x8 rs := by
      intro rs
      induction rs with
      | nil => intro k h; simp at h
      | cons r rs ih =>
        intro k h
        cases k with
        | zero => simp at h; subst h; simp [x8]
        | succ k => simp at h; have := ih h; cases r <;> simp [x8, this]
    cases i with
    | zero => cases j with
      | zero => rfl
      | succ j =>
        simp at hi hj; subst hi
        simp only [x8, List.nodup_cons] at hnd
        exact absurd (mem hj) hnd.1
    | succ i => cases j with
      | zero =>
        simp at hi hj; subst hj
        simp only [x8, List.nodup_cons] at hnd
        exact absurd (mem hi) hnd.1
      | succ j =>
        simp at hi hj
        have : (x8 rs).Nodup := by cases r <;> simp only [x8, List.nodup_cons] at hnd <;> first | exact hnd.2 | exact hnd
        rw [ak0 this hi hj]
theorem Sim.leave (hs : Sim n m F G env σ a w) {ps : List PV} {vs : List Value} {rs : List ResultVar} (hnd : (x8 rs).Nodup) (htup : ∀ p ∈ ps, p.isTup = false) (hl : vs.length = ps.length)
    (hrep : ∀ (j : Nat) v p, vs[j]? = some v → ps[j]? = some p → RepO G w v p ∧ p.lt σ.length ∧ ∀ b, ownB v p = some b → ∃ t, rs[j]? = some (.tmp t) ∧ nz G env σ a.tmps w (.slot t 0) = some b)
    {k : Nat} (hmk : m ≤ k) (hk : k ≤ σ.length) (hlt : o6 k ps) (hst : ∀ (i : Nat) e, σ[i]? = some e → i < k → e.lt k) {v0 : Value} (hv0 : v0 = if h : vs.toArray.size = 1 then vs.toArray[0] else .tuple vs.toArray) :
    Sim 1 m ⟨F.p, []⟩ G [(0, abb ps)] (σ.take k) ⟨#[v0], []⟩ w := by
  have hget : ∀ (i : Nat) e, (σ.take k)[i]? = some e → i < k ∧ σ[i]? = some e := by
    intro i e h
    rw [List.getElem?_take] at h
    split at h
    · exact ⟨‹_›, h⟩
    · cases h
  have hlen : (σ.take k).length = k := by simp; omega
  have hR : Rep G w v0 (abb ps) ∧ (abb ps).lt k ∧ ∀ j b, o8 v0 (abb ps) j = some b →
      ∃ v p, vs[j]? = some v ∧ ps[j]? = some p ∧ ownB v p = some b := by
    rcases ps with _ | ⟨p, _ | ⟨p', ps⟩⟩
    · have : vs = [] := List.length_eq_zero_iff.1 hl
      subst this
      subst hv0
      refine ⟨?_, trivial, fun j b hb => ?_⟩
      · exact .tup #[] [] rfl fun j v c h1 _ => by simp at h1
      · simp [abb, o8] at hb
    · obtain ⟨v, rfl⟩ := List.length_eq_one_iff.1 hl
      obtain ⟨h1, h2, h3⟩ := hrep 0 v p rfl rfl
      have hp := htup p List.mem_cons_self
      have : v0 = v := hv0
      subst this
      clear hv0
      refine ⟨.one h1, hlt.1, fun j b hb => ?_⟩
      have hov : ∀ j b, o8 v0 p j = some b → j = 0 ∧ ownB v0 p = some b := by
        intro j b h
        unfold o8 at h
        split at h
        · cases hp
        · split at h
          · exact ⟨‹_›, h⟩
          · cases h
      obtain ⟨e0, hb'⟩ := hov j b hb
      subst e0
      exact ⟨v0, p, rfl, rfl, hb'⟩
    · have hne : ¬ vs.toArray.size = 1 := by simp; rw [hl]; simp
      rw [dif_neg hne] at hv0
      subst hv0
      refine ⟨.tup _ _ (by simp [hl]) fun j v c h1 h2 => (hrep j v c (by simpa using h1) h2).1, hlt, fun j b hb => ?_⟩
      simp only [abb, o8] at hb
      split at hb
      · rename_i v q hv hq; exact ⟨v, q, by simpa using hv, hq, hb⟩
      · cases hb
  have hslot : ∀ t j b, nz G [(0, abb ps)] (σ.take k) #[v0] w (.slot t j) = some b → t = 0 ∧ ∃ t', rs[j]? = some (.tmp t') ∧ nz G env σ a.tmps w (.slot t' 0) = some b := by
    intro t j b hb
    simp only [nz] at hb
    by_cases h0 : t = 0
    · subst h0
      simp only [qg, if_true] at hb
      obtain ⟨v, p, h1, h2, h3⟩ := hR.2.2 j b hb
      obtain ⟨t', h4, h5⟩ := (hrep j v p h1 h2).2.2 b h3
      exact ⟨rfl, t', h4, h5⟩
    · rw [qg, if_neg h0] at hb
      simp only [look] at hb
      rw [zn] at hb; cases hb
  have hcell : ∀ i j b, nz G [(0, abb ps)] (σ.take k) #[v0] w (.cell i j) = some b → nz G env σ a.tmps w (.cell i j) = some b := by
    intro i j b hb
    simp only [nz] at hb ⊢
    cases hi : (σ.take k)[i]? with
    | none => rw [hi] at hb; cases hb
    | some e => rw [hi] at hb; rw [(hget i e hi).2]; exact hb
  refine ⟨rfl, fun t => ?_, fun t => ?_, fun i e hi => hs.sto i e (hget i e hi).2, fun i e hi => ?_, hs.kfree, fun i e hi => hs.inj i e (hget i e hi).2, fun l1 l2 b h1 h2 => ?_, fun l b hl' => ?_, hs.frlt, rfl, fun d hd => (by cases hd), by rw [hlen]; exact hmk⟩
  · rw [qg]; split
    · rename_i e; subst e; exact hR.1
    · exact .one (.dead _)
  · rw [hlen, qg]; split
    · exact hR.2.1
    · trivial
  · rw [hlen]; exact hst i e (hget i e hi).2 (hget i e hi).1
  · cases l1 with
    | slot t1 j1 =>
      obtain ⟨rfl, t1', e1, o1⟩ := hslot _ _ _ h1
      cases l2 with
      | slot t2 j2 =>
        obtain ⟨rfl, t2', e2, o2⟩ := hslot _ _ _ h2
        have := hs.uniq _ _ b o1 o2
        cases this
        rw [ak0 hnd e1 e2]
      | cell i j => have := hs.uniq _ _ b o1 (hcell _ _ _ h2); cases this
    | cell i1 j1 =>
      cases l2 with
      | slot t2 j2 =>
        obtain ⟨rfl, t2', e2, o2⟩ := hslot _ _ _ h2
        have := hs.uniq _ _ b o2 (hcell _ _ _ h1); cases this
      | cell i j => exact hs.uniq _ _ b (hcell _ _ _ h1) (hcell _ _ _ h2)
  · cases l with
    | slot t1 j1 => obtain ⟨rfl, t1', e1, o1⟩ := hslot _ _ _ hl'; exact hs.fr _ b o1
    | cell i1 j1 => exact hs.fr _ b (hcell _ _ _ hl')
end
end Go.Proofs.Ytbpjaiemlkcccaa.Pv
end
section
/- A function's triple out of its body's; a call by its triple. -/
namespace Go.Proofs.Ytbpjaiemlkcccaa.Pv
open Go
theorem zh {k k' : Nat} (hk : k ≤ k') {p : PV} (h : p.lt k) : p.lt k' := by
  have key : ∀ p : PV, p.lt k → p.lt k' := by
    intro p
    refine PV.rec (motive_1 := fun p => p.lt k → p.lt k') (motive_2 := fun l => o6 k l → o6 k' l) ?_ ?_ ?_ ?_ ?_ ?_ ?_ ?_ ?_ ?_ ?_ ?_ ?_ ?_ ?_ ?_ ?_ ?_ ?_ ?_ ?_ ?_ ?_ p <;>
      first
        | (intros; trivial)
        | (intro _ ih h; exact ih h)
        | (intro i off h; simp only [PV.lt] at *; omega)
        | (intro i h; simp only [PV.lt] at *; omega)
        | (intro i off sz len cap h; simp only [PV.lt] at *; omega)
        | (intro _ _ _ ih1 ih2 h; exact ⟨ih1 h.1, ih2 h.2⟩)
        | (intro _ _ ih1 ih2 h; exact ⟨ih1 h.1, ih2 h.2⟩)
  exact key p h
theorem adt {G : Gh} {w : World} {v : Value} {p : PV} {b : Nat} (hr : RepO G w v p) (hb : ownB v p = some b) : G.K b = .own ∨ ∃ q, G.K b = .imm q := by
  cases hr with
  | dead => rw [aaf] at hb; cases hb
  | sh hr => rw [yz hr] at hb; cases hb
  | ow a cap sz es hr ho =>
    cases a with
    | none => simp [ownB] at hb
    | some ad =>
      simp only [ownB] at hb
      split at hb
      · rename_i hlt
        obtain ⟨ad', e, _, h3, _⟩ := ho hlt
        cases e; cases hb; exact .inr ⟨_, h3⟩
      · cases hb
  | tb0 a e sz => cases a <;> simp [ownB] at hb
  | tb b' cap e sz es vs hK hc h0 hsp hsh hsz hv hr => simp only [ownB, h0, if_true] at hb; cases hb; exact .inl hK
  | ex0 a sz => cases a <;> simp [ownB] at hb
  | ex b' cap sz es vs hK hc h0 hsp hsz hv hr => simp only [ownB, h0, if_true] at hb; cases hb; exact .inl hK
section
variable {n m : Nat} {F : Fr} {G : Gh} {env : Env} {σ : Sto} {a : Act} {w : World}
theorem adi (h : Sim n m F G env σ a w) {l : Loc} {b : Nat} (hl : nz G env σ a.tmps w l = some b) : G.K b = .own ∨ ∃ q, G.K b = .imm q := by
  cases l with
  | slot t j =>
    simp only [nz] at hl
    have hr := h.rep t
    revert hl hr
    generalize a.tmps.getD t undef = v
    generalize look env t = p
    intro hl hr
    cases hr with
    | one hr =>
      unfold o8 at hl
      split at hl
      · cases hr with | sh hr => exact hr.notup.elim
      · split at hl
        · exact adt hr hl
        · cases hl
    | tup vs ps hl' hr =>
      simp only [o8] at hl
      split at hl
      · rename_i v' p' hv hp; exact adt (hr j _ _ hv hp) hl
      · cases hl
  | cell i j =>
    simp only [nz] at hl
    split at hl
    · rename_i cs hi
      split at hl
      · rename_i c v hc hv
        obtain ⟨_, _, h3⟩ := h.sto i _ hi
        obtain ⟨v', h4, h5⟩ := h3 j c hc
        rw [hv] at h4; cases h4
        exact adt h5 hl
      · cases hl
    · cases hl
theorem Sim.popMark {tmps : Array Value} {d : Deferred} {ds : List Deferred} (h : Sim n m F G env σ ⟨tmps, d :: ds⟩ w) (hds : d :: ds ≠ F.ds) :
    ∃ b, d = { target := .collected b, args := #[] } ∧ w.heap[b]? = some (.deferred (some [])) ∧ Sim n m F G env σ ⟨tmps, ds⟩ (w.putObj b (.deferred none)) ∧ Evol m F G w G (w.putObj b (.deferred none)) := by
  obtain ⟨⟨b, rfl, hK, hb, hne⟩, hm⟩ := h.marks.resolve_left fun e => hds e.1
  have hnF := h.markF _ List.mem_cons_self b rfl
  have hoth : ∀ x, x ≠ b → (w.putObj b (.deferred none)).heap[x]? = w.heap[x]? := fun x hx => World.putObj_heap_other hx
  have hle : wh G.K w G.K (w.putObj b (.deferred none)) := fun x p hx => have hne := hoth x fun e => by rw [e, hK] at hx; cases hx
    ⟨p, ⟨Nat.le_refl _, ab3 hne⟩, hx, fun j _ => zi hne⟩
  have h0 : Sim n m ⟨F.p, []⟩ G env σ ⟨tmps, []⟩ w := ⟨h.size, h.rep, h.envlt, h.sto, h.stolt, h.kfree, h.inj, h.uniq, h.fr, h.frlt, rfl, fun d hd => (by cases hd), h.floor⟩
  have key : ∀ l, nz G env σ tmps (w.putObj b (.deferred none)) l = nz G env σ tmps w l := by
    intro l
    cases l with
    | slot t j => rfl
    | cell i j =>
      simp only [nz]
      cases hi : σ[i]? with
      | none => rfl
      | some e => cases e with
        | cells cs =>
          have hbb : (w.putObj b (.deferred none)).heap[(G.bs i).b]? = w.heap[(G.bs i).b]? := hoth (G.bs i) (fun e => by have h1 := (h.sto i _ hi).1; rw [e, hK] at h1; cases h1)
          simp only [zi hbb]
        | _ => rfl
  have hown : ∀ l x, nz G env σ tmps w l = some x → (w.putObj b (.deferred none)).heap[x]? = w.heap[x]? := fun l x hl => hoth x fun e => by
    have := adi h0 hl
    rw [e, hK] at this
    rcases this with h | ⟨q, h⟩ <;> cases h
  refine ⟨b, rfl, hb, ⟨h.size, fun t => (h.rep t).mono hle (fun _ _ => rfl) (h.envlt t) fun j x hx => ⟨hown (.slot t j) x hx, rfl⟩, h.envlt, fun i e hi => ?_, h.stolt, fun x hx => by simpa using h.kfree x hx, h.inj, fun l1 l2 x h1 h2 => ?_, fun l x hl => ?_, fun x hx => by simpa using h.frlt x hx, ?_, fun d hd x hx => h.markF d (List.mem_cons_of_mem _ hd) x hx, h.floor⟩, ?_⟩
  · have h1 := h.sto i e hi
    cases e with
    | cells cs =>
      obtain ⟨h2, h3, h4⟩ := h1
      have hbb : (w.putObj b (.deferred none)).heap[(G.bs i).b]? = w.heap[(G.bs i).b]? := hoth _ fun e => by rw [e, hK] at h2; cases h2
      refine ⟨h2, h3.mono hbb, fun j c hc => ?_⟩
      obtain ⟨v, hv, hr⟩ := h4 j c hc
      refine ⟨v, (zi hbb).trans hv, hr.mono (n := σ.length) hle (fun _ _ => rfl) ?_ fun x hx => ⟨hown (.cell i j) x (uf (env := env) (a := ⟨tmps, []⟩) hi hc hv hx), rfl⟩⟩
      have := h.stolt i _ hi
      simp only [Ent.lt] at this
      exact mo.1 this c (List.mem_of_getElem? hc)
    | gone => trivial
    | loop x y z u =>
      obtain ⟨h2, h3, h4⟩ := h1
      exact ⟨h2, (hoth _ fun e => by rw [e, hK] at h2; cases h2).trans h3, fun t => (h4 t).imp_right fun hr => hr.mono (n := σ.length) hle (fun _ _ => rfl) (h.stolt i _ hi t)⟩
  · rw [key] at h1 h2; exact h.uniq l1 l2 x h1 h2
  · rw [key] at hl; exact h.fr l x hl
  · refine hm.mono fun d hd x hx => ⟨hoth x fun e => ?_, rfl⟩
    subst e
    exact hne _ hd (h.marks.kind d (List.mem_cons_of_mem _ hd) _ hx).1
  · exact ⟨rfl, rfl, rfl, by simp, fun x hx => ⟨hoth x fun e => hnF (e ▸ hx), rfl⟩, hle, fun _ _ => rfl⟩
end
theorem ac9 {P : Program} {fn : Func} {tmps : Array Value} {w : World} {vs : List Value} (h : (fn.results.toList.mapM (ahv tmps)).run P w = .ok vs w) :
    (results fn tmps).run P w = .ok (if h : vs.toArray.size = 1 then vs.toArray[0] else .tuple vs.toArray) w := by
  have e : results fn tmps = (do let vs ← fn.results.mapM (ahv tmps); pure (if h : vs.size = 1 then vs[0] else .tuple vs)) := by
    unfold results
    congr 1
  rw [e, Array.mapM_eq_mapM_toList]
  simp [h]
def jd (P : Program) (f : FuncId) : Prop := ∃ fn, P.funcs[f]? = some fn ∧ (fn.name == "runtime.NumGoroutine") = false ∧ fn.body.isNone = false
theorem Sim.enter {F : Fr} {G : Gh} {w : World} {vs : Array Value} {ps : List PV} {σ : Sto} (k : Nat) (hk : ps.length ≤ k) (hl : vs.size = ps.length) (hs : Sim vs.size σ.length F G (xw ps) σ ⟨vs, []⟩ w) :
    Sim k σ.length F G (xw ps) σ ⟨vs ++ Array.replicate (k - vs.size) undef, []⟩ w := by
  have hget : ∀ t, (vs ++ Array.replicate (k - vs.size) undef).getD t undef = vs.getD t undef := by
    intro t
    by_cases h1 : t < vs.size
    · simp [h1, Array.getElem?_append_left]
    · simp only [Array.getD_eq_getD_getElem?]
      rw [Array.getElem?_append_right (by omega)]
      have : vs[t]? = none := Array.getElem?_eq_none (by omega)
      rw [this]
      by_cases h2 : t - vs.size < k - vs.size
      · simp [h2]
      · simp [Array.getElem?_eq_none, h2]
  have key : ∀ l, nz G (xw ps) σ (vs ++ Array.replicate (k - vs.size) undef) w l = nz G (xw ps) σ vs w l := by
    intro l
    cases l with
    | slot t j => simp only [nz, hget]
    | cell i j => rfl
  exact ⟨by simp; omega, fun t => by rw [hget]; exact hs.rep t, hs.envlt, hs.sto, hs.stolt, hs.kfree, hs.inj, fun l1 l2 b h1 h2 => by rw [key] at h1 h2; exact hs.uniq l1 l2 b h1 h2,
    fun l b hl => by rw [key] at hl; exact hs.fr l b hl, hs.frlt, hs.marks, fun d hd => (by cases hd), hs.floor⟩
theorem adz {P : Program} {fn : Func} {n m : Nat} {F : Fr} {G : Gh} {env : Env} {σ : Sto} {tmps : Array Value} {u : FrameMode} (hu : u ≠ .run) {Rr : Ending → World → Prop} : ∀ (ds : List Deferred) (w1 : World),
    Sim n m F G env σ ⟨tmps, ds⟩ w1 → (∀ w2, Sim n m F G env σ ⟨tmps, F.ds⟩ w2 → Evol m F G w1 G w2 → LeavesInM (Wd none) 0 P fn tmps Rr F.ds u w2) → LeavesInM (Wd none) 0 P fn tmps Rr ds u w1 := by
  intro ds
  induction ds with
  | nil =>
    intro w1 hs1 h
    have e : F.ds = [] := hs1.marks
    have := h w1 (by rw [e]; exact hs1) (.refl _ _ _ _)
    rw [e] at this; exact this
  | cons d ds ih =>
    intro w1 hs1 h
    by_cases e : d :: ds = F.ds
    · rw [e]
      exact h w1 (by rw [← e]; exact hs1) (.refl _ _ _ _)
    · obtain ⟨b, rfl, hb1, hs2, hv2⟩ := hs1.popMark e
      exact ⟨hu, .inl ⟨b, _, rfl, run_takeDeferred hb1, ih _ hs2 fun w2 h2 hv => h w2 h2 (hv2.trans hv)⟩⟩
theorem ny {P : Program} {tt : TT} (ht : oq P tt) {f : FuncId} {fn : Func} {c : Code} {ps : List PV} {σ : Sto} {R : PV → Sto → Prop} (hf : P.funcs[f]? = some fn) (hb : fn.body = some c)
    (hnt : ps.length ≤ fn.ntmps) (hnd : (x8 fn.results.toList).Nodup) (h : xh σ → Sat P none fn.ntmps σ.length c (xw ps) σ (gu tt fn σ.length R)) : jo P f ps σ R := by
  rintro ⟨Fp, Fd⟩ G w vs hl hs
  have hF0 : Fd = [] := hs.marks
  subst hF0
  refine callsIn_of_wp_marks hf hb trivial ?_
  refine wpIn_mono ((h hs.stolt).go _ G _ w (hs.enter fn.ntmps hnt hl)) fun e a' w' q => ?_
  obtain ⟨G', env', σ', ⟨he, rs, τ, ex, hres, htup, hσ, hmst, hlt, hR⟩, hs', hv⟩ := q
  obtain ⟨hmk, hst⟩ : σ.length ≤ τ.length ∧ xh τ := by
    rcases hmst with e | h
    · subst e; rw [List.append_nil] at hσ; subst hσ; exact ⟨hs'.floor, hs'.stolt⟩
    · exact h
  have htake : σ'.take τ.length = τ := by rw [hσ]; simp
  have hkl : τ.length ≤ σ'.length := by rw [hσ]; simp
  have leaves : LeavesInM (Wd none) 0 P fn a'.tmps (fun e w' => ∃ v r σ' G', e = .returned v ∧ R r σ' ∧ Sim 1 σ.length ⟨Fp, []⟩ G' [(0, r)] σ' ⟨#[v], []⟩ w' ∧ Evol σ.length Fp G w G' w') a'.defers .returning w' := by
    refine adz (by simp) a'.defers w' hs' fun w1 hs1 hv1 => ?_
    obtain ⟨vs', k1, k2, k3, k4⟩ := agr (P := P) ht hs1 _ _ hres htup hnd
    refine ⟨_, ac9 k1, _, abb rs, τ, G', rfl, hR, ?_, hv.trans hv1⟩
    have := hs1.leave hnd htup k2 k4 hmk hkl hlt (fun i e hi hik => hst i e (by rw [← htake, List.getElem?_take, if_pos hik]; exact hi)) rfl
    rw [htake] at this; exact this
  rcases he with rfl | rfl
  · exact leaves
  · exact leaves
section
variable {n m : Nat} {F : Fr} {G : Gh} {env : Env} {σ : Sto} {a : Act} {w : World}
def alp (F : Fr) (G : Gh) (env : Env) (σ : Sto) (a : Act) (w : World) : Fr := ⟨fun b =>
  F b ∨ (∃ t j, nz G env σ a.tmps w (.slot t j) = some b) ∨ ∃ d ∈ a.defers, d.target = .collected b, []⟩
theorem Sim.callee (h : Sim n m F G env σ a w) {ps : List PV} {vs : Array Value} (hl : vs.size = ps.length)
    (hr : ∀ (j : Nat) v p, vs[j]? = some v → ps[j]? = some p → RepO G w v p ∧ ownB v p = none ∧ p.lt σ.length ∧ p.isTup = false) :
    Sim vs.size σ.length (alp F G env σ a w) G (xw ps) σ ⟨vs, []⟩ w := by
  have hslot : ∀ t j b, nz G (xw ps) σ vs w (.slot t j) ≠ some b := by
    intro t j b hb
    simp only [nz, yo, Nat.zero_le, if_true, Nat.sub_zero] at hb
    cases hp : ps[t]? with
    | none => rw [hp] at hb; simp only [Option.getD_none] at hb; rw [zn] at hb; cases hb
    | some p =>
      rw [hp] at hb
      have ht : t < vs.size := by rw [hl]; exact (List.getElem?_eq_some_iff.1 hp).1
      obtain ⟨h1, h2, _, h4⟩ := hr t vs[t] p (by simp [ht]) hp
      have e : vs.getD t undef = vs[t] := by simp [ht]
      rw [e] at hb
      simp only [Option.getD_some] at hb
      unfold o8 at hb
      split at hb
      · cases h4
      · split at hb
        · rw [h2] at hb; cases hb
        · cases hb
  refine ⟨rfl, fun t => ?_, fun t => ?_, h.sto, h.stolt, h.kfree, fun i e hi hc hF => ?_, fun l1 l2 b h1 h2 => ?_, fun l b hl' hF => ?_, fun b hF => ?_, rfl, fun d hd => (by cases hd), Nat.le_refl _⟩
  · rw [yo, if_pos (Nat.zero_le _), Nat.sub_zero]
    cases hp : ps[t]? with
    | none => exact .one (.dead _)
    | some p =>
      have ht : t < vs.size := by rw [hl]; exact (List.getElem?_eq_some_iff.1 hp).1
      have e : vs.getD t undef = vs[t] := by simp [ht]
      rw [e]
      exact .one (hr t vs[t] p (by simp [ht]) hp).1
  · rw [yo, if_pos (Nat.zero_le _), Nat.sub_zero]
    cases hp : ps[t]? with
    | none => trivial
    | some p =>
      have ht : t < vs.size := by rw [hl]; exact (List.getElem?_eq_some_iff.1 hp).1
      exact (hr t vs[t] p (by simp [ht]) hp).2.2.1
  · have hK : ∃ j, G.K (G.bs i) = .box j := by
      have := h.sto i e hi
      rcases hc with ⟨c, rfl⟩ | ⟨x, y, z, u, rfl⟩
      · exact ⟨i, this.1⟩
      · exact ⟨i, this.1⟩
    obtain ⟨j, hK⟩ := hK
    rcases hF with hF | ⟨t, j', hF⟩ | ⟨d, hd, hF⟩
    · exact h.inj i e hi hc hF
    · have := adi h hF
      rw [hK] at this
      rcases this with h | ⟨q, h⟩ <;> cases h
    · obtain ⟨_, h2, _⟩ := h.marks.kind d hd _ hF
      rw [hK] at h2; cases h2
  · cases l1 with
    | slot t j => exact absurd h1 (hslot t j b)
    | cell i j => cases l2 with
      | slot t j => exact absurd h2 (hslot t j b)
      | cell i' j' => exact h.uniq (.cell i j) (.cell i' j') b h1 h2
  · cases l with
    | slot t j => exact absurd hl' (hslot t j b)
    | cell i j =>
      rcases hF with hF | ⟨t, j', hF⟩ | ⟨d, hd, hF⟩
      · exact h.fr (.cell i j) b hl' hF
      · have := h.uniq (.cell i j) (.slot t j') b hl' hF; cases this
      · obtain ⟨_, h2, _⟩ := h.marks.kind d hd _ hF
        have := adi h (l := .cell i j) hl'
        rw [h2] at this
        rcases this with h | ⟨q, h⟩ <;> cases h
  · rcases hF with hF | ⟨t, j, hF⟩ | ⟨d, hd, hF⟩
    · exact h.frlt b hF
    · exact amy h hF
    · exact (h.marks.kind d hd _ hF).2.2
theorem Sim.back (h : Sim n m F G env σ a w) {r : PV} {v : Value} {σ' : Sto} {G' : Gh} {w' : World} (hr : Sim 1 σ.length (alp F G env σ a w) G' [(0, r)] σ' ⟨#[v], []⟩ w')
    (hv : Evol σ.length (alp F G env σ a w) G w G' w') :
    (∀ d, d < n → Sim n m F G' ((d, r) :: env) σ' (a.put (some d) v) w') ∧ Sim n m F G' env σ' a w' ∧ Evol m F G w G' w' := by
  have hlen : σ.length ≤ σ'.length := hr.floor
  have hown : ∀ t j b, nz G env σ a.tmps w (.slot t j) = some b → w'.heap[b]? = w.heap[b]? ∧ G'.K b = G.K b := fun t j b hb => hv.fr b (.inr (.inl ⟨t, j, hb⟩))
  have hcells : ∀ i j b, nz G' env σ' a.tmps w' (.cell i j) = some b → ¬ alp F G env σ a w b := fun i j b hb => hr.fr (.cell i j) b hb
  have base : Sim n m F G' env σ' a w' := by
    refine ⟨h.size, fun t => (h.rep t).mono hv.le hv.bs (h.envlt t) fun j b hb => hown t j b hb, fun t => zh hlen (h.envlt t), hr.sto, hr.stolt, hr.kfree, fun i e hi hc hF => hr.inj i e hi hc (.inl hF), fun l1 l2 b h1 h2 => ?_, fun l b hl hF => ?_, fun b hb => Nat.lt_of_lt_of_le (h.frlt b hb) hv.size, h.marks.mono fun d hd b hb => hv.fr b (.inr (.inr ⟨d, hd, hb⟩)), h.markF, Nat.le_trans h.floor hlen⟩
    · cases l1 with
      | slot t1 j1 => cases l2 with
        | slot t2 j2 => exact h.uniq _ _ b h1 h2
        | cell i j => exact absurd (.inr (.inl ⟨t1, j1, h1⟩)) (hcells i j b h2)
      | cell i1 j1 => cases l2 with
        | slot t2 j2 => exact absurd (.inr (.inl ⟨t2, j2, h2⟩)) (hcells i1 j1 b h1)
        | cell i j => exact hr.uniq (.cell i1 j1) (.cell i j) b h1 h2
    · cases l with
      | slot t j => exact h.fr (.slot t j) b (show nz G env σ a.tmps w (.slot t j) = some b from hl) hF
      | cell i j => exact hcells i j b hl (.inl hF)
  have hro : ∀ j b, o8 v r j = some b → nz G' [(0, r)] σ' #[v] w' (.slot 0 j) = some b := fun j b hb => by simpa [nz, qg] using hb
  refine ⟨fun d hd => ?_, base, ⟨hv.os, hv.tape, hv.output, hv.size, fun b hb => hv.fr b (.inl hb), hv.imm, fun i hi => hv.bs i (Nat.lt_of_lt_of_le hi h.floor)⟩⟩
  have hrep := hr.rep 0
  have hlt := hr.envlt 0
  simp only [qg, if_true] at hrep hlt
  refine base.set hd (v := v) (by simpa using hrep) hlt (fun j b hb => ?_) (fun j1 j2 b h1 h2 => ?_)
  · have h0 := hr.fr _ b (hro j b hb)
    refine ⟨fun hF => h0 (.inl hF), fun l hl => ?_⟩
    cases l with
    | slot t j' => exact absurd (.inr (.inl ⟨t, j', hl⟩)) h0
    | cell i j' => have := hr.uniq (.slot 0 j) (.cell i j') b (hro j b hb) hl; cases this
  · have := hr.uniq _ _ b (hro j1 b h1) (hro j2 b h2); cases this; rfl
end
def afu (tt : TT) (env : Env) (ty : Nat) : Operand → PV
  | .const (.slice none 0 0) => match eti tt ty with
    | some i => .sl .ow i.size []
    | none => .dead
  | x => opv tt env ty x
def zy (tt : TT) (env : Env) : List Operand → List TypeId → List PV
  | x :: xs, t :: ts => afu tt env t x :: zy tt env xs ts
  | _, _ => []
section
variable {P : Program} {l : Option Nat} {tt : TT} {n m : Nat} {all : Array Oper} {rest : List Oper} {env : Env} {σ : Sto} {Q : Post} {d : Nat} {ty : TypeId} {pos : String} {after : Array Edge}
theorem avs {F : Fr} {G : Gh} {a : Act} {w : World} (h : Sim n m F G env σ a w) (ty : Nat) (x : Operand) (hd : (afu tt env ty x).isTup = false) :
    RepO G w (a.eval x) (afu tt env ty x) ∧ ownB (a.eval x) (afu tt env ty x) = none ∧ (afu tt env ty x).lt σ.length ∧ (afu tt env ty x).isTup = false := by
  have gen : ∀ x, (opv tt env ty x).isTup = false → RepO G w (a.eval x) (opv tt env ty x) ∧ ownB (a.eval x) (opv tt env ty x) = none ∧ (opv tt env ty x).lt σ.length ∧ (opv tt env ty x).isTup = false := by
    intro x hd
    have hx := o7 h tt ty x
    have hl := yf h tt ty x
    rcases hx with e | e | ⟨vs, ps, e1, e2, _⟩
    · rw [e] at hl ⊢; exact ⟨.dead _, aaf _, hl, rfl⟩
    · exact ⟨.sh e, yz e, hl, hd⟩
    · rw [e2] at hd; cases hd
  unfold afu at hd ⊢
  split at hd
  · split at hd
    · rename_i i he; exact ⟨.ow none 0 i.size [] (.sl0 none 0 _) (fun h => by simp at h), rfl, trivial, rfl⟩
    · rename_i he; exact ⟨.dead _, aaf _, trivial, rfl⟩
  · exact gen x hd
theorem agt {F : Fr} {G : Gh} {a : Act} {w : World} (h : Sim n m F G env σ a w) : ∀ (xs : List Operand) (ts : List TypeId), xs.length ≤ ts.length → ((zy tt env xs ts).all fun p => !p.isTup) = true →
    xs.length = (zy tt env xs ts).length ∧ ∀ (j : Nat) v p, (xs.map a.eval)[j]? = some v → (zy tt env xs ts)[j]? = some p → RepO G w v p ∧ ownB v p = none ∧ p.lt σ.length ∧ p.isTup = false
  | [], ts, _, _ => ⟨rfl, fun j v p h => by simp at h⟩
  | x :: xs, [], hl, _ => by simp at hl
  | x :: xs, t :: ts, hl, ha => by
    simp only [zy, List.all_cons, Bool.and_eq_true] at ha
    obtain ⟨h1, h2⟩ := agt h xs ts (by simpa using hl) ha.2
    refine ⟨by simp [zy, h1], fun j v p hv hp => ?_⟩
    cases j with
    | zero => simp [zy] at hv hp; subst hv; subst hp; exact avs h t x (by simpa using ha.1)
    | succ j => simp [zy] at hv hp; exact h2 j v p (by simpa using hv) hp
theorem akj {fo : Operand} {args : Array Operand} {ats : Array TypeId} {f : FuncId} {as bs ps : List PV} {R : PV → Sto → Prop} (hcal : jd P f) (hfo : opv tt env 0 fo = .fn (.func f) as bs)
    (hps : ps = as ++ (zy tt env args.toList ats.toList ++ bs)) (hlen : args.size ≤ ats.size) (htup : ps.all (fun p => !p.isTup) = true)
    (hc : jo P f ps σ R) (hd : d < n) (h : ∀ r σ', R r σ' → SatOps P l n m all rest ((d, r) :: env) σ' Q) :
    SatOps P l n m all (⟨some d, .call ⟨.value fo, args, ats⟩, ty, pos, after, none⟩ :: rest) env σ Q := by
  refine ⟨fun F G a w hs => ?_⟩
  obtain ⟨fn, hf1, hf2, hf3⟩ := hcal
  have hfo' := o7 hs tt 0 fo
  have hfl := yf hs tt 0 fo
  rw [hfo] at hfo' hfl
  obtain ⟨xs, ys, e1, e2, e3, e4, e5⟩ := (hfo'.toS rfl).fnv
  simp only [PV.lt] at hfl
  have htup' : ((zy tt env args.toList ats.toList).all fun p => !p.isTup) = true := by
    rw [hps] at htup; simp only [List.all_append, Bool.and_eq_true] at htup; exact htup.2.1
  obtain ⟨p1, p2⟩ := agt hs args.toList ats.toList (by simpa using hlen) htup'
  have hS : ∀ {v : Value} {p : PV}, RepS G w v p → p.lt σ.length → RepO G w v p ∧ ownB v p = none ∧ p.lt σ.length ∧ p.isTup = false := fun {v p} h hl => ⟨.sh h, yz h, hl, by
    cases p <;> first | rfl | exact h.notup.elim⟩
  have hrep : ∀ (j : Nat) v p, (xs ++ args.map a.eval ++ ys)[j]? = some v → ps[j]? = some p → RepO G w v p ∧ ownB v p = none ∧ p.lt σ.length ∧ p.isTup = false := by
    intro j v p hv hp
    have hv' : (xs.toList ++ (args.toList.map a.eval ++ ys.toList))[j]? = some v := by rw [← Array.getElem?_toList] at hv; simpa using hv
    rw [hps] at hp
    by_cases h1 : j < xs.size
    · rw [List.getElem?_append_left (by simpa using h1)] at hv'
      rw [List.getElem?_append_left (by omega)] at hp
      exact hS (e4 j v p (by simpa using hv') hp) (mo.1 hfl.1 p (List.mem_of_getElem? hp))
    · rw [List.getElem?_append_right (by simp; omega)] at hv'
      rw [List.getElem?_append_right (by omega)] at hp
      simp only [Array.length_toList] at hv'
      rw [← e2] at hp
      by_cases h2 : j - xs.size < args.size
      · rw [List.getElem?_append_left (by simpa using h2)] at hv'
        rw [List.getElem?_append_left (by rw [← p1]; simpa using h2)] at hp
        exact p2 _ v p hv' hp
      · rw [List.getElem?_append_right (by simp; omega)] at hv'
        rw [List.getElem?_append_right (by rw [← p1]; simp; omega)] at hp
        rw [← p1] at hp
        simp only [List.length_map, Array.length_toList] at hv' hp
        exact hS (e5 _ v p (by simpa using hv') hp) (mo.1 hfl.2 p (List.mem_of_getElem? hp))
  have hlen' : (xs ++ args.map a.eval ++ ys).size = ps.length := by
    rw [hps]; simp only [Array.size_append, Array.size_map, List.length_append, ← p1, e2, e3, Array.length_toList]; omega
  have hsim := hs.callee hlen' hrep
  have hrun : (execOp a.eval ⟨some d, .call ⟨.value fo, args, ats⟩, ty, pos, after, none⟩).run P w = .ok (.enter f (xs ++ args.map a.eval ++ ys)) w := by
    have n1 : ¬ fn.name = "runtime.NumGoroutine" := by simpa using hf2
    have n2 : ¬ fn.body = none := by intro h; simp [h] at hf3
    simp [execOp, resolve, e1, Deferred.ofValue, invoke, callFunc, hf1, n1, n2]
  refine abk rfl ⟨fun _ _ => trivial, ?_⟩
  rw [show (Wd l).round = l from rfl, Oper.semAt_eq l _ _ (by simp), hrun]
  refine ⟨fun h => by simp [Wd, Fence.wide] at h, ?_⟩
  have := hc _ G w _ hlen' hsim
  refine CallsIn.mono (F := Wd none) this fun e w' hq => ?_
  obtain ⟨v, r, σ', G', rfl, hR, hs', hv⟩ := hq
  obtain ⟨b1, _, b3⟩ := hs.back hs' hv
  exact abe b3 rest _ _ ((h r σ' hR).go F G' _ w' (b1 d hd))
end
end Go.Proofs.Ytbpjaiemlkcccaa.Pv
end
section
/- Guards, choices, ends: the rules in the form in which they are used. -/
namespace Go.Proofs.Ytbpjaiemlkcccaa.Pv
open Go
section
variable {P : Program} {l : Option Nat} {tt : TT} {n m : Nat} {all : Array Oper} {rest : List Oper} {env : Env} {σ : Sto} {Q : Post} {d : Nat} {ty : TypeId} {pos : String} {after : Array Edge}
theorem ad5 {F : Fr} {G : Gh} {a : Act} {w : World} (hs : Sim n m F G env σ a w) {j t : Nat} {b : Bool} (hj : (all[j]?).bind (·.dst) = some t) (hb : look env t = .bool b) : yielded all a.tmps j = some b := by
  have h := hs.rep t
  rw [hb] at h
  have e := (h.toS rfl).bool
  unfold yielded
  rw [hj]
  simp only [Option.bind_some]
  by_cases ht : t < a.tmps.size
  · have : a.tmps.getD t undef = a.tmps[t] := by simp [ht]
    rw [this] at e
    simp [ht, e]
  · have : a.tmps.getD t undef = undef := by simp [Array.getElem?_eq_none (Nat.le_of_not_lt ht)]
    rw [this] at e; cases e
theorem an5 {o : Oper} {a : Act} {w : World} {next : Act → World → Prop} {Q' : Exit → Act → World → Prop} {g : Option (Nat × Bool)} (h : Oper.wpIn (Wd l) 0 P { o with guard := none } a w next Q') : Oper.wpIn (Wd l) 0 P { o with guard := g } a w next Q' := by
  obtain ⟨h1, h2⟩ := h
  refine ⟨fun _ _ => trivial, ?_⟩
  have e1 : ∀ ρ, execOp ρ { o with guard := g } = execOp ρ { o with guard := none } := fun ρ => rfl
  have e2 : Oper.semAt (Wd l).round a.eval { o with guard := g } = Oper.semAt (Wd l).round a.eval { o with guard := none } := rfl
  rw [e2]
  exact h2
theorem jc {dst : Option Nat} {op : Op} {j t : Nat} {want b : Bool} (hj : (all[j]?).bind (·.dst) = some t) (hb : look env t = .bool b) (hw : b = want)
    (h : SatOps P l n m all (⟨dst, op, ty, pos, after, none⟩ :: rest) env σ Q) : SatOps P l n m all (⟨dst, op, ty, pos, after, some (j, want)⟩ :: rest) env σ Q := by
  refine ⟨fun F G a w hs => ?_⟩
  have h1 := h.go F G a w hs
  simp only [wpListIn] at h1 ⊢
  rw [if_pos (by simp [Region.wanted])] at h1
  rw [if_pos (by simp [Region.wanted, ad5 hs hj hb, hw])]
  exact an5 (o := ⟨dst, op, ty, pos, after, none⟩) h1
theorem ark {ops : List Oper} {t : Nat} {b : Bool} (hb : look env t = .bool b) (h1 : b = true → SatOps P l n m all ops env σ Q) (h0 : b = false → SatOps P l n m all ops env σ Q) : SatOps P l n m all ops env σ Q := by
  cases b
  · exact h0 rfl
  · exact h1 rfl
theorem ku {c x y : Operand} {b : Bool} {p : PV} (hc : opv tt env ty c = .bool b) (hp : (b = true ∧ opv tt env ty x = p) ∨ (b = false ∧ opv tt env ty y = p)) (hd : d < n)
    (h : SatOps P l n m all rest ((d, p) :: env) σ Q) : SatOps P l n m all (⟨some d, .pick c x y, ty, pos, after, none⟩ :: rest) env σ Q := by
  refine ym rfl (by simp) fun F G a w hs => ?_
  have hco := o7 hs tt ty c
  rw [hc] at hco
  have e := (hco.toS rfl).bool
  rcases hp with ⟨rfl, rfl⟩ | ⟨rfl, rfl⟩
  · exact ⟨a.eval x, w, G, _, σ, .inl (by simp [execOp, e, asBool]), hs.setN hd (o7 hs tt ty x) (yf hs tt ty x), .refl _ _ _ _, h⟩
  · exact ⟨a.eval y, w, G, _, σ, .inl (by simp [execOp, e, asBool]), hs.setN hd (o7 hs tt ty y) (yf hs tt ty y), .refl _ _ _ _, h⟩
theorem lw {α : Type} [Inhabited α] (f : α → PV) (ht : oq P tt) {t tI : TypeId} {x i : Operand} {k : IntKind} {z : Int} {sz : Nat} {xs : List α} {e : TI} (he : eti tt t = some e) (hx : opv tt env t x = .sl .sh sz (xs.map f))
    (hi : opv tt env tI i = .int k z) (hsz : sz = e.size) (h0 : 0 ≤ z) (h1 : z < xs.length) {cs : List PV} (hcs : (f (xs.getD z.toNat default)).cells = cs) (hd : d < n)
    (h : SatOps P l n m all rest ((d, .cref cs) :: env) σ Q) : SatOps P l n m all (⟨some d, .indexAddr t x i, ty, pos, after, none⟩ :: rest) env σ Q := by
  refine abw hd (by simp) (fun F G a w hs => acv (tI := tI) ht hs) (c := sz = e.size ∧ 0 ≤ z ∧ z < ((xs.map f).length : Int)) (p := .cref cs) ?_ ⟨hsz, h0, by simpa using h1⟩ h
  rw [hx, hi]
  simp only [acy, he]
  have hlt : z.toNat < xs.length := by omega
  have : (xs.map f).getD z.toNat .dead = f (xs.getD z.toNat default) := by simp [List.getD, hlt]
  rw [this, hcs]
end
section
variable {tt : TT} {fn : Func} {m : Nat} {R : PV → Sto → Prop} {e : Exit} {env : Env} {σ τ ex : Sto}
theorem aaq {t : Nat} (p q : PV) (he : e = .normal ∨ e = .ret) (hres : fn.results.toList = [.tmp t]) (hp : look env t = p) (hw : Wk q p) (hq : q.isTup = false) (hσ : σ = τ ++ ex) (hm : m ≤ τ.length) (hlt : q.lt τ.length) (hst : xh τ)
    (hR : R q τ) : gu tt fn m R e env σ := by
  refine ⟨he, [q], τ, ex, ?_, ?_, hσ, .inr ⟨hm, hst⟩, ⟨hlt, trivial⟩, hR⟩
  · rw [hres]; exact ⟨by rw [hp]; exact hw, trivial⟩
  · intro x hx; simp at hx; subst hx; exact hq
theorem avn {t u : Nat} (p q p' q' : PV) (he : e = .normal ∨ e = .ret) (hres : fn.results.toList = [.tmp t, .tmp u]) (hp : look env t = p) (hp' : look env u = p') (hw : Wk q p) (hw' : Wk q' p') (hq : q.isTup = false) (hq' : q'.isTup = false) (hσ : σ = τ ++ ex)
    (hm : m ≤ τ.length) (hlt : q.lt τ.length) (hlt' : q'.lt τ.length) (hst : xh τ) (hR : R (.tup [q, q']) τ) : gu tt fn m R e env σ := by
  refine ⟨he, [q, q'], τ, ex, ?_, ?_, hσ, .inr ⟨hm, hst⟩, ⟨hlt, hlt', trivial⟩, hR⟩
  · rw [hres]; exact ⟨by rw [hp]; exact hw, by rw [hp']; exact hw', trivial⟩
  · intro x hx; simp at hx; rcases hx with rfl | rfl <;> assumption
theorem Wk.same (p : PV) : Wk p p := .inr (.inl rfl)
theorem Wk.sh {sz : Nat} {es : List PV} : Wk (.sl .sh sz es) (.sl .ow sz es) := .inr (.inr ⟨_, _, rfl, rfl⟩)
end
end Go.Proofs.Ytbpjaiemlkcccaa.Pv
end
section
/- The operations' rules, one for each kind, in the form in which they are used. -/
namespace Go.Proofs.Ytbpjaiemlkcccaa.Pv
open Go
theorem ltn {d n : Nat} (h : Nat.ble (d + 1) n = true) : d < n := nlb h
section
variable {P : Program} {l : Option Nat} {tt : TT} {n m : Nat} {all : Array Oper} {rest : List Oper} {env : Env} {σ : Sto} {Q : Post} {d : Nat} {ty : TypeId} {pos : String} {after : Array Edge} {c : Prop} {p : PV}
theorem bu {x : Operand} (hp : opv tt env ty x = p) (hd : Nat.ble (d + 1) n = true) (h : SatOps P l n m all rest ((d, p) :: env) σ Q) : SatOps P l n m all (⟨some d, .move x, ty, pos, after, none⟩ :: rest) env σ Q :=
  abw (ltn hd) (by simp) (fun F G a w hs => alc (tt := tt) hs) (by rw [hp]) trivial h
theorem az {x : Operand} (hp : opv tt env ty x = p) (hd : Nat.ble (d + 1) n = true) (h : SatOps P l n m all rest ((d, p) :: env) σ Q) : SatOps P l n m all (⟨some d, .assign x, ty, pos, after, none⟩ :: rest) env σ Q :=
  abw (ltn hd) (by simp) (fun F G a w hs => air (tt := tt) hs) (by rw [hp]) trivial h
theorem di (ex : Bool) (ht : oq P tt) {op : BinOp} {xT yT : TypeId} {x y : Operand} (hp : aj3 ex tt op xT (opv tt env xT x) (opv tt env yT y) = some (c, p)) (hc : c) (hd : Nat.ble (d + 1) n = true)
    (h : SatOps P l n m all rest ((d, p) :: env) σ Q) : SatOps P l n m all (⟨some d, .binOp op xT x y yT, ty, pos, after, none⟩ :: rest) env σ Q :=
  abw (ltn hd) (by simp) (fun F G a w hs => ajy ht ex hs) hp hc h
theorem pu (ex : Bool) {op : UnOp} {xT : TypeId} {x : Operand} (hp : unP ex op (opv tt env xT x) = some (c, p)) (hc : c) (hd : Nat.ble (d + 1) n = true)
    (h : SatOps P l n m all rest ((d, p) :: env) σ Q) : SatOps P l n m all (⟨some d, .unOp op xT x, ty, pos, after, none⟩ :: rest) env σ Q :=
  abw (ltn hd) (by simp) (fun F G a w hs => ard hs ex) hp hc h
theorem pz (ex : Bool) (ht : oq P tt) {src dst : TypeId} {x : Operand} (hp : alm ex tt src dst (opv tt env src x) = some (c, p)) (hc : c) (hd : Nat.ble (d + 1) n = true)
    (h : SatOps P l n m all rest ((d, p) :: env) σ Q) : SatOps P l n m all (⟨some d, .convert src dst x, ty, pos, after, none⟩ :: rest) env σ Q :=
  abw (ltn hd) (by simp) (fun F G a w hs => ahp ht hs ex) hp hc h
theorem iy {k : Nat} {x : Operand} (hp : ajb k (opv tt env ty x) = some (c, p)) (hc : c) (hd : Nat.ble (d + 1) n = true)
    (h : SatOps P l n m all rest ((d, p) :: env) σ Q) : SatOps P l n m all (⟨some d, .extract x k, ty, pos, after, none⟩ :: rest) env σ Q :=
  abw (ltn hd) (by simp) (fun F G a w hs => al1 (tt := tt) hs) hp hc h
theorem ou (ht : oq P tt) {t : TypeId} {x : Operand} (hp : alu tt t (opv tt env t x) = some (c, p)) (hc : c) (hd : Nat.ble (d + 1) n = true)
    (h : SatOps P l n m all rest ((d, p) :: env) σ Q) : SatOps P l n m all (⟨some d, .load t x, ty, pos, after, none⟩ :: rest) env σ Q :=
  abw (ltn hd) (by simp) (fun F G a w hs => akq ht hs) hp hc h
theorem qj (ht : oq P tt) {t tI : TypeId} {x i : Operand} (hp : acy tt t (opv tt env t x) (opv tt env tI i) = some (c, p)) (hc : c) (hd : Nat.ble (d + 1) n = true)
    (h : SatOps P l n m all rest ((d, p) :: env) σ Q) : SatOps P l n m all (⟨some d, .indexAddr t x i, ty, pos, after, none⟩ :: rest) env σ Q :=
  abw (ltn hd) (by simp) (fun F G a w hs => acv ht hs) hp hc h
theorem uk (ht : oq P tt) {t tI : TypeId} {x i : Operand} (hp : am7 tt t (opv tt env t x) (opv tt env tI i) = some (c, p)) (hc : c) (hd : Nat.ble (d + 1) n = true)
    (h : SatOps P l n m all rest ((d, p) :: env) σ Q) : SatOps P l n m all (⟨some d, .index t x i, ty, pos, after, none⟩ :: rest) env σ Q :=
  abw (ltn hd) (by simp) (fun F G a w hs => ap8 ht hs) hp hc h
theorem ni (ht : oq P tt) {t : TypeId} {x : Operand} (hp : apu tt t (opv tt env t x) = some (c, p)) (hc : c) (hd : Nat.ble (d + 1) n = true)
    (h : SatOps P l n m all rest ((d, p) :: env) σ Q) : SatOps P l n m all (⟨some d, .call ⟨.builtin .len, #[x], #[t]⟩, ty, pos, after, none⟩ :: rest) env σ Q :=
  abw (ltn hd) (by simp) (fun F G a w hs => am6 ht hs) hp hc h
end
end Go.Proofs.Ytbpjaiemlkcccaa.Pv
end
section
/- Loops over functions: the loop's record among the boxes, a round of the caller's body, the statement. -/
namespace Go.Proofs.Ytbpjaiemlkcccaa.Pv
open Go
section
variable {n m : Nat} {F : Fr} {G : Gh} {env : Env} {σ : Sto} {a : Act} {w : World}
theorem aiu {v : Value} {p : PV} (h : p = .dead ∨ RepS G w v p) (j b : Nat) : o8 v p j ≠ some b := by
  intro hb
  rcases h with rfl | h
  · rw [zn] at hb; cases hb
  · unfold o8 at hb
    split at hb
    · exact h.notup
    · split at hb
      · rw [yz h] at hb; cases hb
      · cases hb
theorem Sim.frame (h : Sim n m F G env σ a w) {tmps : Array Value} {env' : Env} (hr : ∀ t, look env' t = .dead ∨ RepS G w (tmps.getD t undef) (look env' t)) (hlt : ∀ t, (look env' t).lt σ.length) :
    Sim tmps.size σ.length ⟨F.p, []⟩ G env' σ ⟨tmps, []⟩ w := by
  have hslot : ∀ t j b, nz G env' σ tmps w (.slot t j) ≠ some b := fun t j b hb => aiu (hr t) j b hb
  refine ⟨rfl, fun t => ?_, hlt, h.sto, h.stolt, h.kfree, h.inj, fun l1 l2 b h1 h2 => ?_, fun l b hl' hF => ?_, h.frlt, rfl, fun d hd => (by cases hd), Nat.le_refl _⟩
  · rcases hr t with e | e
    · rw [e]; exact .one (.dead _)
    · exact .one (.sh e)
  · cases l1 with
    | slot t j => exact absurd h1 (hslot t j b)
    | cell i j => cases l2 with
      | slot t j => exact absurd h2 (hslot t j b)
      | cell i' j' => exact h.uniq (.cell i j) (.cell i' j') b h1 h2
  · cases l with
    | slot t j => exact absurd hl' (hslot t j b)
    | cell i j => exact h.fr (.cell i j) b hl' hF
theorem Sim.setLoop (h : Sim n m F G env σ a w) {i : Nat} {st : LoopState} {pend : Option Code} {rec : Loop} {env0 : Env} (hi : σ[i]? = some (.loop st pend rec env0)) (st' : LoopState) (pend' : Option Code) :
    Sim n m F G env (σ.set i (.loop st' pend' rec env0)) a (w.putObj (G.bs i) (.loop { rec with state := st', pending := pend' })) ∧
      Evol m F G w G (w.putObj (G.bs i) (.loop { rec with state := st', pending := pend' })) := by
  obtain ⟨hK, hb, hr⟩ := h.sto i _ hi
  have hilt : i < σ.length := (List.getElem?_eq_some_iff.1 hi).1
  have hnF := h.inj i _ hi (.inr ⟨_, _, _, _, rfl⟩)
  generalize ho : Obj.loop { rec with state := st', pending := pend' } = o
  have hoth : ∀ x : Nat, x ≠ (G.bs i).b → (w.putObj (G.bs i) o).heap[x]? = w.heap[x]? := fun x hx => World.putObj_heap_other hx
  have hle : wh G.K w G.K (w.putObj (G.bs i) o) := fun x p hx => have hne := hoth x fun e => by rw [e, hK] at hx; cases hx
    ⟨p, ⟨Nat.le_refl _, ab3 hne⟩, hx, fun j _ => zi hne⟩
  have hne : ∀ k cs, σ[k]? = some (.cells cs) → (G.bs k).b ≠ (G.bs i).b := fun k cs hk e => by
    have := (h.sto k _ hk).1
    rw [e, hK] at this
    cases this; rw [hi] at hk; cases hk
  have hget : ∀ k e, (σ.set i (.loop st' pend' rec env0))[k]? = some e → (k = i ∧ e = .loop st' pend' rec env0) ∨ (k ≠ i ∧ σ[k]? = some e) := by
    intro k e hk
    rw [List.getElem?_set] at hk
    split at hk
    · rename_i e1; cases hk; exact .inl ⟨e1.symm, rfl⟩
    · rename_i e1; exact .inr ⟨fun e2 => e1 e2.symm, hk⟩
  have key : ∀ l, nz G env (σ.set i (.loop st' pend' rec env0)) a.tmps (w.putObj (G.bs i) o) l = nz G env σ a.tmps w l := by
    intro l
    cases l with
    | slot t j => rfl
    | cell k j =>
      simp only [nz]
      by_cases e : k = i
      · subst e; rw [hi, List.getElem?_set_self hilt]
      · rw [List.getElem?_set_ne (fun e2 => e e2.symm)]
        cases hk : σ[k]? with
        | none => rfl
        | some e => cases e with
          | cells cs => simp only [zi (hoth (G.bs k) (hne k cs hk))]
          | _ => rfl
  have hown : ∀ l x, nz G env σ a.tmps w l = some x → (w.putObj (G.bs i) o).heap[x]? = w.heap[x]? := fun l x hl => hoth x fun e => by
    have := adi h hl
    rw [e, hK] at this
    rcases this with h | ⟨q, h⟩ <;> cases h
  refine ⟨⟨h.size, fun t => (h.rep t).mono hle (fun _ _ => rfl) (h.envlt t) fun j x hx => ⟨hown (.slot t j) x hx, rfl⟩, fun t => by rw [List.length_set]; exact h.envlt t, fun k e hk => ?_, fun k e hk => ?_, fun x hx => by simpa using h.kfree x hx, fun k e hk hc => ?_, fun l1 l2 x h1 h2 => ?_, fun l x hl => ?_, fun x hx => by simpa using h.frlt x hx, ?_, h.markF, by rw [List.length_set]; exact h.floor⟩, ?_⟩
  · rcases hget k e hk with ⟨rfl, rfl⟩ | ⟨hki, hk⟩
    · refine ⟨hK, ?_, fun t => (hr t).imp_right fun hr => hr.mono (n := σ.length) hle (fun _ _ => rfl) (h.stolt k _ hi t)⟩
      rw [← ho]; exact World.putObj_heap_same (Array.getElem?_eq_some_iff.1 hb).1
    · have h1 := h.sto k e hk
      cases e with
      | cells cs =>
        obtain ⟨h2, h3, h4⟩ := h1
        have hbb := hoth _ (hne k cs hk)
        refine ⟨h2, h3.mono hbb, fun j c hc => ?_⟩
        obtain ⟨v, hv, hr⟩ := h4 j c hc
        refine ⟨v, (zi hbb).trans hv, hr.mono (n := σ.length) hle (fun _ _ => rfl) ?_ fun x hx => ⟨hown (.cell k j) x (uf (env := env) (a := a) hk hc hv hx), rfl⟩⟩
        have := h.stolt k _ hk
        simp only [Ent.lt] at this
        exact mo.1 this c (List.mem_of_getElem? hc)
      | gone => trivial
      | loop x y z u =>
        obtain ⟨h2, h3, h4⟩ := h1
        exact ⟨h2, (hoth _ fun e => by rw [e, hK] at h2; cases h2; exact hki rfl).trans h3, fun t => (h4 t).imp_right fun hr => hr.mono (n := σ.length) hle (fun _ _ => rfl) (h.stolt k _ hk t)⟩
  · rw [List.length_set]
    rcases hget k e hk with ⟨rfl, rfl⟩ | ⟨_, hk⟩
    · exact (h.stolt k _ hi : ∀ t, (look env0 t).lt σ.length)
    · exact h.stolt k e hk
  · rcases hget k e hk with ⟨rfl, rfl⟩ | ⟨_, hk⟩
    · exact hnF
    · exact h.inj k e hk hc
  · rw [key] at h1 h2; exact h.uniq l1 l2 x h1 h2
  · rw [key] at hl; exact h.fr l x hl
  · refine h.marks.mono fun d hd x hx => ⟨hoth x fun e => ?_, rfl⟩
    have h2 := (h.marks.kind d hd x hx).2.1
    rw [e, hK] at h2; cases h2
  · exact ⟨rfl, rfl, rfl, by simp, fun x hx => ⟨hoth x fun e => hnF (e ▸ hx), rfl⟩, hle, fun _ _ => rfl⟩
theorem Sim.pushMark (h : Sim n m F G env σ a w) : Sim n m F ⟨upd G.K w.heap.size .keep, G.bs⟩ env σ { a with defers := { target := .collected w.heap.size, args := #[] } :: a.defers } (w.alloc (.deferred (some []))) := by
  have h1 := h.alloc (.deferred (some [])) .keep
  refine ⟨h1.size, h1.rep, h1.envlt, h1.sto, h1.stolt, h1.kfree, h1.inj, h1.uniq, h1.fr, h1.frlt, .inr ⟨⟨w.heap.size, rfl, upd_same _ _ _, World.alloc_heap_new w _, fun d hd e => ?_⟩, h1.marks⟩, fun d hd b hb hF => ?_, h1.floor⟩
  · exact absurd (h.marks.kind d hd w.heap.size (by rw [e])).2.2 (Nat.lt_irrefl _)
  · cases hd with
    | head => cases hb; exact absurd (h.frlt _ hF) (Nat.lt_irrefl _)
    | tail _ hd => exact h1.markF d hd b hb hF
theorem Sim.boxLoop (h : Sim n m F G env σ a w) (rec : Loop) (env0 : Env) (hlt : ∀ t, (look env0 t).lt σ.length) (hr : ∀ t, look env0 t = .dead ∨ RepS G w (rec.tmps.getD t undef) (look env0 t))
    (h1 : rec.state = .ready) (h2 : rec.pending = none) :
    Sim n m F ⟨upd G.K w.heap.size (.box σ.length), upd G.bs σ.length ⟨w.heap.size, (0, 0), false⟩⟩ env (σ ++ [.loop .ready none rec env0]) a (w.alloc (.loop rec)) := by
  have h1' := h.alloc (.loop rec) (.box σ.length)
  have hle := wh.alloc h (.loop rec) (.box σ.length)
  have hbs : ∀ i, i < σ.length → upd G.bs σ.length ⟨w.heap.size, (0, 0), false⟩ i = G.bs i := fun i hi => upd_ne _ _ (by omega)
  have hget : ∀ i e, (σ ++ [Ent.loop .ready none rec env0])[i]? = some e → (i < σ.length ∧ σ[i]? = some e) ∨ (i = σ.length ∧ e = .loop .ready none rec env0) := by
    intro i e hi
    by_cases hlt : i < σ.length
    · rw [List.getElem?_append_left hlt] at hi; exact .inl ⟨hlt, hi⟩
    · rw [List.getElem?_append_right (by omega)] at hi
      cases hk : i - σ.length with
      | zero => rw [hk] at hi; simp at hi; exact .inr ⟨by omega, hi.symm⟩
      | succ k => rw [hk] at hi; simp at hi
  have key : ∀ l, nz ⟨upd G.K w.heap.size (.box σ.length), upd G.bs σ.length ⟨w.heap.size, (0, 0), false⟩⟩ env (σ ++ [.loop .ready none rec env0]) a.tmps (w.alloc (.loop rec)) l =
      nz ⟨upd G.K w.heap.size (.box σ.length), G.bs⟩ env σ a.tmps (w.alloc (.loop rec)) l := by
    intro l
    cases l with
    | slot t j => rfl
    | cell i j =>
      simp only [nz]
      by_cases hlt' : i < σ.length
      · rw [List.getElem?_append_left hlt', hbs i hlt']
      · rw [List.getElem?_append_right (by omega), List.getElem?_eq_none (l := σ) (by omega)]
        cases hk : i - σ.length with
        | zero => rfl
        | succ k => rfl
  have le1 : σ.length ≤ (σ ++ [Ent.loop .ready none rec env0]).length := by simp
  refine ⟨h1'.size, fun t => ?_, fun t => zh le1 (h.envlt t), fun i e hi => ?_, fun i e hi => ?_, fun b hb => h1'.kfree b hb, fun i e hi hc => ?_, fun l1 l2 b g1 g2 => ?_, fun l b hl => ?_, h1'.frlt, h1'.marks, h1'.markF, Nat.le_trans h.floor le1⟩
  · exact (h1'.rep t).mono (wh.refl _ _) hbs (h.envlt t) (fun _ _ _ => ⟨rfl, rfl⟩)
  · rcases hget i e hi with ⟨hlt', hi'⟩ | ⟨rfl, rfl⟩
    · have h2 := h1'.sto i e hi'
      cases e with
      | cells cs' =>
        obtain ⟨g1, g2, g3⟩ := h2
        refine ⟨by simp only [hbs i hlt']; exact g1, by simp only [hbs i hlt']; exact g2, fun j c hc => ?_⟩
        obtain ⟨v, hv, hR⟩ := g3 j c hc
        refine ⟨v, by simp only [hbs i hlt']; exact hv, hR.mono (wh.refl _ _) hbs ?_ (fun _ _ => ⟨rfl, rfl⟩)⟩
        have := h.stolt i _ hi'
        simp only [Ent.lt] at this
        exact mo.1 this c (List.mem_of_getElem? hc)
      | gone => trivial
      | loop x y z u =>
        obtain ⟨g1, g2, g3⟩ := h2
        exact ⟨by simp only [hbs i hlt']; exact g1, by simp only [hbs i hlt']; exact g2, fun t => (g3 t).imp_right fun hr => hr.mono (wh.refl _ _) hbs (h.stolt i _ hi' t)⟩
    · refine ⟨by simp only [upd_same], ?_, fun t => (hr t).imp_right fun hr => hr.mono hle hbs (hlt t)⟩
      simp only [upd_same]
      rw [World.alloc_heap_new]
      cases rec; cases h1; cases h2; rfl
  · rcases hget i e hi with ⟨_, hi'⟩ | ⟨rfl, rfl⟩
    · have := h.stolt i e hi'
      cases e with
      | cells cs' => exact mo.2 fun v hv => zh le1 (mo.1 this v hv)
      | gone => trivial
      | loop x y z u => exact fun t => zh le1 (this t)
    · exact fun t => zh le1 (hlt t)
  · rcases hget i e hi with ⟨hlt', hi'⟩ | ⟨rfl, rfl⟩
    · simp only [hbs i hlt']; exact h1'.inj i e hi' hc
    · simp only [upd_same]; intro hF; exact absurd (h.frlt _ hF) (Nat.lt_irrefl _)
  · rw [key] at g1 g2; exact h1'.uniq l1 l2 b g1 g2
  · rw [key] at hl; exact h1'.fr l b hl
end
def aea (P : Program) (i : Nat) (ps : List PV) (σ : Sto) (R : Bool → Sto → Prop) : Prop :=
  ∀ F G w (vs : Array Value), vs.size = ps.length → Sim vs.size σ.length F G (xw ps) σ ⟨vs, []⟩ w →
    ∃ fn tmps assign body, (Instr.yield (G.bs i) vs).run P w = .ok (.round (G.bs i) fn tmps assign body) w ∧
      RoundIn (Wd none) 0 P (G.bs i) fn tmps assign body w fun e w' => ∃ b σ' G', e = .returned (.bool b) ∧ R b σ' ∧ Sim 1 σ.length F G' [(0, .bool b)] σ' ⟨#[.bool b], []⟩ w' ∧ Evol σ.length F G w G' w'
theorem aea.mono {P : Program} {i : Nat} {ps : List PV} {σ : Sto} {R R' : Bool → Sto → Prop} (h : aea P i ps σ R) (hr : ∀ b σ', R b σ' → R' b σ') : aea P i ps σ R' :=
  fun F G w vs hl hs => let ⟨fn, tmps, assign, body, h1, h2⟩ := h F G w vs hl hs
    ⟨fn, tmps, assign, body, h1, h2.mono fun _ _ ⟨b, σ', G', e1, e2, e3, e4⟩ => ⟨b, σ', G', e1, hr _ _ e2, e3, e4⟩⟩
section
variable {P : Program} {l : Option Nat} {tt : TT} {n m : Nat} {all : Array Oper} {rest : List Oper} {env : Env} {σ : Sto} {Q : Post} {d : Nat} {ty : TypeId} {pos : String} {after : Array Edge}
theorem ate {fo : Operand} {args : Array Operand} {ats : Array TypeId} {i : Nat} {ps : List PV} {R : Bool → Sto → Prop} (hfo : opv tt env 0 fo = .yld i)
    (hps : zy tt env args.toList ats.toList = ps) (hlen : args.size ≤ ats.size) (htup : ps.all (fun p => !p.isTup) = true)
    (hc : aea P i ps σ R) (hd : d < n) (h : ∀ b σ', R b σ' → SatOps P l n m all rest ((d, .bool b) :: env) σ' Q) :
    SatOps P l n m all (⟨some d, .call ⟨.value fo, args, ats⟩, ty, pos, after, none⟩ :: rest) env σ Q := by
  refine ⟨fun F G a w hs => ?_⟩
  have hfo' := o7 hs tt 0 fo
  rw [hfo] at hfo'
  have e1 : a.eval fo = .func (.yield (G.bs i)) #[] #[] := by
    have := hfo'.toS rfl
    generalize a.eval fo = v at this
    cases this with
    | pl h => cases h
    | yld => rfl
  obtain ⟨p1, p2⟩ := agt hs args.toList ats.toList (by simpa using hlen) (by rw [hps]; exact htup)
  rw [hps] at p1 p2
  have hlen' : (args.map a.eval).size = ps.length := by rw [← p1]; simp
  have hsim := hs.callee (vs := args.map a.eval) hlen' fun j v p hv hp => p2 j v p (by rw [← Array.getElem?_toList] at hv; simpa using hv) hp
  obtain ⟨fn, tmps, assign, body, hy, hround⟩ := hc _ G w _ hlen' hsim
  have hrun : (execOp a.eval ⟨some d, .call ⟨.value fo, args, ats⟩, ty, pos, after, none⟩).run P w = .ok (.round (G.bs i) fn tmps assign body) w := by
    simp [execOp, resolve, e1, Deferred.ofValue, invoke, hy]
  refine abk rfl ⟨fun _ _ => trivial, ?_⟩
  rw [show (Wd l).round = l from rfl, Oper.semAt_eq l _ _ (by simp), hrun]
  refine ⟨fun h => by simp [Wd, Fence.wide] at h, ?_⟩
  refine RoundIn.mono (F := Wd none) hround fun e w' hq => ?_
  obtain ⟨b, σ', G', rfl, hR, hs', hv⟩ := hq
  obtain ⟨b1, _, b3⟩ := hs.back hs' hv
  exact abe b3 rest _ _ ((h b σ' hR).go F G' _ w' (b1 d hd))
end
def aeh : List Nat → List PV → Env → Env
  | t :: ts, p :: ps, env => aeh ts ps ((t, p) :: env)
  | _, _, env => env
def avw (i : Nat) (rec : Loop) (env0 : Env) (R : Bool → Sto → Prop) : Post := fun e _ σ =>
  σ[i]? = some (.loop .busy none rec env0) ∧ match e with
    | .normal => R true (σ.set i (.loop .ready none rec env0))
    | .ret => R false (σ.set i (.loop .done (some .ret) rec env0))
    | .exit id => R false (σ.set i (.loop .done (some (.exit id)) rec env0))
    | .goto t => R false (σ.set i (.loop .done (some (.goto t)) rec env0))
    | _ => False
theorem aiv {G : Gh} {w : World} {k : Nat} : ∀ (ts : List Nat) (vs : List Value) (ps : List PV) (tmps : Array Value) (env0 : Env), ts.length = ps.length → vs.length = ps.length →
    (∀ t ∈ ts, t < tmps.size) → (∀ t, look env0 t = .dead ∨ RepS G w (tmps.getD t undef) (look env0 t)) → (∀ t, (look env0 t).lt k) →
    (∀ (j : Nat) v p, vs[j]? = some v → ps[j]? = some p → RepS G w v p ∧ p.lt k) →
    (∀ t, look (aeh ts ps env0) t = .dead ∨ RepS G w (((ts.zip vs).foldl (fun tmps (t, a) => tmps.setIfInBounds t a) tmps).getD t undef) (look (aeh ts ps env0) t)) ∧
    (∀ t, (look (aeh ts ps env0) t).lt k) ∧ ((ts.zip vs).foldl (fun tmps (t, a) => tmps.setIfInBounds t a) tmps).size = tmps.size
  | [], [], [], tmps, env0, _, _, _, h1, h2, _ => ⟨h1, h2, rfl⟩
  | t :: ts, v :: vs, p :: ps, tmps, env0, e1, e2, hlt, h1, h2, h3 => by
    have h0 := h3 0 v p rfl rfl
    have := aiv (G := G) (w := w) (k := k) ts vs ps (tmps.setIfInBounds t v) ((t, p) :: env0) (by simpa using e1) (by simpa using e2) (fun t' ht' => by simpa using hlt t' (List.mem_cons_of_mem _ ht'))
      (fun t' => ?_) (fun t' => ?_) (fun j v' p' hv hp => h3 (j + 1) v' p' (by simpa using hv) (by simpa using hp))
    · simpa [aeh] using this
    · rw [qg]
      by_cases e : t' = t
      · subst e
        have hl := hlt t' List.mem_cons_self
        rw [if_pos rfl]
        refine .inr ?_
        have : (tmps.setIfInBounds t' v).getD t' undef = v := by simp [Array.getD_eq_getD_getElem?, hl]
        rw [this]; exact h0.1
      · rw [if_neg e]
        have : (tmps.setIfInBounds t v).getD t' undef = tmps.getD t' undef := by
          simp only [Array.getD_eq_getD_getElem?]; rw [Array.getElem?_setIfInBounds_ne (Ne.symm e)]
        rw [this]; exact h1 t'
    · rw [qg]
      split
      · exact h0.2
      · exact h2 t'
  | [], _, _ :: _, _, _, h, _, _, _, _, _ => by simp at h
  | _ :: _, _, [], _, _, h, _, _, _, _, _ => by simp at h
  | _, [], _ :: _, _, _, _, h, _, _, _, _ => by simp at h
  | _, _ :: _, [], _, _, _, h, _, _, _, _ => by simp at h
section
variable {P : Program} {n : Nat}
end
end Go.Proofs.Ytbpjaiemlkcccaa.Pv
end
