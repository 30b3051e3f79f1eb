
/- TraceValues. -/
import Derived.Test.YtbpjaiemlkcccaaLibTrcW
import Derived.Test.YtbpjaiemlkcccaaLibTrcX
import Derived.Test.YtbpjaiemlkcccaaLibTrcY
import Derived.Test.YtbpjaiemlkcccaaLibK11
namespace Go.Proofs.Ytbpjaiemlkcccaa.Pv
open Go
set_option linter.unusedVariables false
set_option linter.unusedSimpArgs false
set_option maxRecDepth 100000

def ag7 (F : List Ft) (puts : List Pt) (name : ByteArray) (a : Int) (A B : Ss) : PV := .agg [.sl .sh 11 (F.map ft), .sl .sh 3 (puts.map pt), .str name, .int .i64 a,
  .int .i64 A.client, .int .i64 A.seq, .int .i64 A.err, .int .i64 A.vol, .int .i64 A.off, .int .i64 A.n, .int .u32 A.sum, .bool A.found,
  .int .i64 B.client, .int .i64 B.seq, .int .i64 B.err, .int .i64 B.vol, .int .i64 B.off, .int .i64 B.n, .int .u32 B.sum, .bool B.found]

set_option maxHeartbeats 4000000 in
theorem aqc (F : List Ft) (puts : List Pt) (name : ByteArray) (a : Int) (A B : Ss) (hF : F.length ≤ 1048576) (hp : puts.length ≤ 1048576) (σ : Sto) :
    jo Try.prog 8 [ag7 F puts name a A B] σ fun r σ' => r = .bool true ∧ σ' = σ := by
  have v1 := ah3 F puts name a hF hp
  have v2 := ami F puts name a hF hp
  have b1 := ap6 F A B hF
  have b2 := ali F A B hF
  generalize aau F puts name a F.length (⟨#[]⟩, false) = V at *
  generalize amm F A B = b at *
  obtain ⟨s, i⟩ := V
  dsimp only at *
  have f0 : wm s s = true := aa8.2 rfl
  refine ny tab Try.func8 rfl (nlb rfl) (by decide) fun hso => oh ?_
  unfold ag7
  cases i <;> cases b
  all_goals repeat' (first | (apply bn; (first | (apply jq; (apply jc; exact (rfl : _ = some _); exact (rfl : _ = PV.bool _); (exact rfl))) | (apply bv; (apply bu (tt := tt); (focus (conv => lhs; whnf); try exact rfl); exact rfl)) | (apply ai; (apply az (tt := tt); (focus (conv => lhs; whnf); try exact rfl); exact rfl)) | (apply ji; (first | (refine cz (tt := tt) ao1 (ael _) rfl rfl rfl rfl rfl ?_) | (refine cz (tt := tt) ajv (v1 _) rfl rfl rfl rfl rfl ?_) | (refine cz (tt := tt) ay7 (v2 _) rfl rfl rfl rfl rfl ?_) | (refine cz (tt := tt) ay8 (b2 _) rfl rfl rfl rfl rfl ?_))) | (apply dw; (apply di true tab; (focus (conv => lhs; whnf; arg 1; whnf; arg 2; whnf); try exact rfl); (exact trivial); exact rfl)) | (apply kr; (apply ku (tt := tt); exact (rfl : _ = PV.bool _); (refine .inl ⟨rfl, ?_⟩); (focus (conv => lhs; whnf); try exact rfl); exact ltn rfl)) | (apply fq; (apply aa; (apply aj tab; exact rfl; exact rfl; exact rfl; (focus (conv => lhs; whnf; arg 1; whnf; arg 2; whnf); try skip); (first | exact trivial | exact nlb rfl)); (intro c h; cases h); exact rfl)) | (apply cu; (apply aa; (apply af tab; exact rfl; (focus (conv => lhs; whnf); try exact rfl); exact rfl; (first | exact (rfl : _ = 0) | exact (rfl : _ = 1) | exact (rfl : _ = 2) | exact (rfl : _ = 3) | exact (rfl : _ = 4) | exact (rfl : _ = 12))); (intro c h; cases h); exact rfl)) | (apply iw; (apply iy (tt := tt); (focus (conv => lhs; whnf; arg 1; whnf; arg 2; whnf); try exact rfl); (exact trivial); exact rfl)) | (apply gq; (apply dz tab; exact rfl; exact rfl; exact rfl; exact rfl; exact rfl; exact rfl; exact rfl; exact rfl)) | (apply je; (apply ik tab; exact rfl; exact rfl; (first | exact (rfl : _ = 1) | exact (rfl : _ = 2)); exact rfl)) | (apply lu; (apply kg (tt := tt); (focus (conv => lhs; whnf); try exact rfl); exact rfl; (exact (rfl : _ = 0)); exact rfl)) | (apply ak))) | (apply bq; (first | (apply bg) | (apply ah) | (apply dn) | (apply ko (k := 19); exact mixed; decide +kernel; decide +kernel))) | (apply bf) | (apply p9; (first | (refine og (yw (tt := tt) (rfl : _ = some _) (rfl : _ = PV.bool _) (by (exact rfl)) azj (b1 _) rfl rfl rfl rfl rfl) ?_) | (apply p8; (first | (apply jg; (apply jf (tt := tt); (focus (conv => lhs; whnf); try exact rfl))) | (apply kw; (apply j3 (tt := tt); exact (rfl : _ = PV.bool _); (first | refine .inl ⟨rfl, ?_⟩ | refine .inl ⟨by assumption, ?_⟩); (focus (conv => lhs; whnf); try exact rfl)))); exact rfl; exact rfl) | (apply yc; exact (rfl : _ = some _); exact (rfl : _ = PV.bool _); (first | exact rfl | assumption); (first | (apply jg; (apply jf (tt := tt); (focus (conv => lhs; whnf); try exact rfl))) | (apply kv; (apply ek true tab; (focus (conv => lhs; whnf; arg 1; whnf; arg 2; whnf); try exact rfl); (exact trivial))) | (apply gm; (apply aj tab; exact rfl; exact rfl; exact rfl; (focus (conv => lhs; whnf; arg 1; whnf; arg 2; whnf); try skip); (exact nlb rfl)))); exact rfl; exact rfl) | (apply oz))))
  all_goals (change gu _ _ _ _ _ _ _; apply fu; (exact .inr rfl); (focus (repeat' (first | (apply lc; (focus (conv => lhs; whnf); try exact rfl); (exact Wk.same _)) | exact iq))); exact rfl; (exact rfl); exact Nat.le_refl _; (focus (repeat' (first | exact trivial | refine ⟨?_, ?_⟩))); exact hso)
  all_goals exact ⟨rfl, rfl⟩

end Go.Proofs.Ytbpjaiemlkcccaa.Pv
