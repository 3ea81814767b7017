/- Packed: Ag, La, Lb, Lc, Ld, Le, Lf, Lg, Lh. No conditions. -/
import Derived.Test.YtjdmhijaanmccaaDoorPm2
import Derived.WalkKit
set_option maxHeartbeats 4000000
namespace Go.Proofs.YtjdmhijaanmccaaDoor.Ad
open Go Go.Proofs.YtjdmhijaanmccaaDoor.Eng Go.Proofs.YtjdmhijaanmccaaDoor.Mem Go.Proofs.YtjdmhijaanmccaaDoor.Ly
set_option linter.unusedSimpArgs false
set_option linter.unusedVariables false
set_option maxRecDepth 100000
def MP(c:Ai)(k n:Nat)(x:Cf):List Am:=[Af (win x.Partition (-1) ((c.Aa.xs.length:Nat) - 1)&&win x.BM 1 16384) 419 ⟨(k:Int),(n:Int)⟩,Af (win x.AU 82 16384) 420 ⟨(k:Int),(n:Int)⟩,Af (!Ik c k x.Partition) 422 ⟨(k:Int),(n:Int)⟩]
def F5(c:Ai)(k n:Nat):Am:=AV (MP c k n (gd (DT c k).xs n))
def sumW(xs:List Cf)(n:Nat):Int:=(List.range n).foldl (fun s i=>s+((gd xs i).BM+(gd xs i).AU)) 0
theorem sumW_succ(xs:List Cf)(n:Nat):sumW xs (n+1)=sumW xs n+((gd xs n).BM+(gd xs n).AU):=by unfold sumW;rw[List.range_succ,List.foldl_append];rfl
theorem Nb{l:List Am}(h:AV l=AQ):∀ x∈l,x=AQ:=by
 induction l with
 | nil=>intro x hx;cases hx
 | cons a r ih =>
  unfold AV at h
  by_cases e:a=AQ
  ·rw[if_pos e]at h
   intro x hx
   rcases List.mem_cons.1 hx with rfl | hx
   ·exact e
   exact ih h x hx
  rw[if_neg e]at h;exact absurd h e
theorem SN{c:Ai}{k n:Nat}(h:F5 c k n=AQ):(1≤(gd (DT c k).xs n).BM∧(gd (DT c k).xs n).BM≤16384)∧(82≤(gd (DT c k).xs n).AU∧(gd (DT c k).xs n).AU≤16384):=by
 unfold F5 MP at h
 have h1:=Nb h _ (List.mem_cons_self ..)
 have h2:=Nb h _ (List.mem_cons_of_mem _ (List.mem_cons_self ..))
 rw[Ic (by decide)]at h1 h2
 rw[Bool.and_eq_true]at h1
 exact⟨DD h1.2,DD h2⟩
def DY(c:Ai)(k:Nat):Am:=if win ((DT c k).xs.length:Nat) 1 16=false then⟨418,⟨(k:Int), -1⟩⟩else if Fz AQ (F5 c k) (DT c k).xs.length=AQ then Af (decide (sumW (DT c k).xs (DT c k).xs.length=c.Gs)) 421 ⟨(k:Int), -1⟩else Fz AQ (F5 c k) (DT c k).xs.length
theorem SQ{f:Nat→Am}:∀ {n:Nat},(∀ a,a<n→f a=AQ)→Fz AQ f n=AQ
 | 0,_=>LU _ _
 | n+1,h=>(P9 (SQ (fun a ha=>h a (by omega)))).trans (h n (by omega))
theorem coreQ_a{c:Ai}{k:Nat}(h:¬ win ((DT c k).xs.length:Nat) 1 16=true):DY c k=⟨418,⟨(k:Int), -1⟩⟩:=if_pos (by simpa using h)
theorem UQ{c:Ai}{k n:Nat}(h:win ((DT c k).xs.length:Nat) 1 16=true)(hf:∀ a,a<n→F5 c k a=AQ)(hn:n<(DT c k).xs.length)(hne:F5 c k n≠AQ):DY c k=F5 c k n:=by
 have h1:=P9 (SQ hf)
 have h2:=Lj (k:=n+1) (by rw[h1];exact hne) (show n+1≤(DT c k).xs.length by omega)
 rw[h1]at h2
 unfold DY
 rw[if_neg (by rw[h];simp),h2,if_neg hne]
theorem XV{c:Ai}{k n:Nat}(h:win ((DT c k).xs.length:Nat) 1 16=true)(hf:∀ a,a<n→F5 c k a=AQ)(hn:n=(DT c k).xs.length):DY c k=Af (decide (sumW (DT c k).xs n=c.Gs)) 421 ⟨(k:Int), -1⟩:=by
 subst hn
 unfold DY
 rw[if_neg (by rw[h];simp),if_pos (SQ hf)]
section
variable (n46:Nat)(y24:Cf)(k n:Nat)(b54 n43:Nat)(n85 b93:Nat)(n82 n125:Nat)(b133 n122:Nat)(n163 b171:Nat)(n160 b47:Nat)(b53 b32:Nat)(b86 b92:Nat)(b71 b126:Nat)(b132 b112:Nat)(b164 b170:Nat)(b150 z n15:Nat)(c:Ai)(b17 o18:Nat)(y8:Sl Cf)
abbrev YI:=bk n46 #[i6 ((Af (win y24.BM 1 16384) 419 ⟨(k:Int),(n:Int)⟩).e),i6 ((Af (win y24.BM 1 16384) 419 ⟨(k:Int),(n:Int)⟩).Ag.First),i6 ((Af (win y24.BM 1 16384) 419 ⟨(k:Int),(n:Int)⟩).Ag.Second),i6 ((Af (win y24.AU 82 16384) 420 ⟨(k:Int),(n:Int)⟩).e),i6 ((Af (win y24.AU 82 16384) 420 ⟨(k:Int),(n:Int)⟩).Ag.First),i6 ((Af (win y24.AU 82 16384) 420 ⟨(k:Int),(n:Int)⟩).Ag.Second),i6 ((Af false 422 ⟨(k:Int),(n:Int)⟩).e),i6 ((Af false 422 ⟨(k:Int),(n:Int)⟩).Ag.First),i6 ((Af false 422 ⟨(k:Int),(n:Int)⟩).Ag.Second)] 111
abbrev YG:=bk b54 #[i6 ((Af (win y24.BM 1 16384) 419 ⟨(k:Int),(n:Int)⟩).e),i6 ((Af (win y24.BM 1 16384) 419 ⟨(k:Int),(n:Int)⟩).Ag.First),i6 ((Af (win y24.BM 1 16384) 419 ⟨(k:Int),(n:Int)⟩).Ag.Second),i6 ((Af (win y24.AU 82 16384) 420 ⟨(k:Int),(n:Int)⟩).e),i6 ((Af (win y24.AU 82 16384) 420 ⟨(k:Int),(n:Int)⟩).Ag.First),i6 ((Af (win y24.AU 82 16384) 420 ⟨(k:Int),(n:Int)⟩).Ag.Second),i6 ((Af false 422 ⟨(k:Int),(n:Int)⟩).e),i6 ((Af false 422 ⟨(k:Int),(n:Int)⟩).Ag.First),i6 ((Af false 422 ⟨(k:Int),(n:Int)⟩).Ag.Second)] 111
abbrev WA:=bk n43 #[i6 ((Af (win y24.BM 1 16384) 419 ⟨(k:Int),(n:Int)⟩).e),i6 ((Af (win y24.BM 1 16384) 419 ⟨(k:Int),(n:Int)⟩).Ag.First),i6 ((Af (win y24.BM 1 16384) 419 ⟨(k:Int),(n:Int)⟩).Ag.Second),i6 ((Af (win y24.AU 82 16384) 420 ⟨(k:Int),(n:Int)⟩).e),i6 ((Af (win y24.AU 82 16384) 420 ⟨(k:Int),(n:Int)⟩).Ag.First),i6 ((Af (win y24.AU 82 16384) 420 ⟨(k:Int),(n:Int)⟩).Ag.Second),i6 ((Af false 422 ⟨(k:Int),(n:Int)⟩).e),i6 ((Af false 422 ⟨(k:Int),(n:Int)⟩).Ag.First),i6 ((Af false 422 ⟨(k:Int),(n:Int)⟩).Ag.Second)] 111
abbrev YB:=bk n85 #[i6 ((Af (win y24.BM 1 16384) 419 ⟨(k:Int),(n:Int)⟩).e),i6 ((Af (win y24.BM 1 16384) 419 ⟨(k:Int),(n:Int)⟩).Ag.First),i6 ((Af (win y24.BM 1 16384) 419 ⟨(k:Int),(n:Int)⟩).Ag.Second),i6 ((Af (win y24.AU 82 16384) 420 ⟨(k:Int),(n:Int)⟩).e),i6 ((Af (win y24.AU 82 16384) 420 ⟨(k:Int),(n:Int)⟩).Ag.First),i6 ((Af (win y24.AU 82 16384) 420 ⟨(k:Int),(n:Int)⟩).Ag.Second),i6 ((Af true 422 ⟨(k:Int),(n:Int)⟩).e),i6 ((Af true 422 ⟨(k:Int),(n:Int)⟩).Ag.First),i6 ((Af true 422 ⟨(k:Int),(n:Int)⟩).Ag.Second)] 111
abbrev YA:=bk b93 #[i6 ((Af (win y24.BM 1 16384) 419 ⟨(k:Int),(n:Int)⟩).e),i6 ((Af (win y24.BM 1 16384) 419 ⟨(k:Int),(n:Int)⟩).Ag.First),i6 ((Af (win y24.BM 1 16384) 419 ⟨(k:Int),(n:Int)⟩).Ag.Second),i6 ((Af (win y24.AU 82 16384) 420 ⟨(k:Int),(n:Int)⟩).e),i6 ((Af (win y24.AU 82 16384) 420 ⟨(k:Int),(n:Int)⟩).Ag.First),i6 ((Af (win y24.AU 82 16384) 420 ⟨(k:Int),(n:Int)⟩).Ag.Second),i6 ((Af true 422 ⟨(k:Int),(n:Int)⟩).e),i6 ((Af true 422 ⟨(k:Int),(n:Int)⟩).Ag.First),i6 ((Af true 422 ⟨(k:Int),(n:Int)⟩).Ag.Second)] 111
abbrev Ws:=bk n82 #[i6 ((Af (win y24.BM 1 16384) 419 ⟨(k:Int),(n:Int)⟩).e),i6 ((Af (win y24.BM 1 16384) 419 ⟨(k:Int),(n:Int)⟩).Ag.First),i6 ((Af (win y24.BM 1 16384) 419 ⟨(k:Int),(n:Int)⟩).Ag.Second),i6 ((Af (win y24.AU 82 16384) 420 ⟨(k:Int),(n:Int)⟩).e),i6 ((Af (win y24.AU 82 16384) 420 ⟨(k:Int),(n:Int)⟩).Ag.First),i6 ((Af (win y24.AU 82 16384) 420 ⟨(k:Int),(n:Int)⟩).Ag.Second),i6 ((Af true 422 ⟨(k:Int),(n:Int)⟩).e),i6 ((Af true 422 ⟨(k:Int),(n:Int)⟩).Ag.First),i6 ((Af true 422 ⟨(k:Int),(n:Int)⟩).Ag.Second)] 111
abbrev Y4:=bk n125 #[i6 ((Af false 419 ⟨(k:Int),(n:Int)⟩).e),i6 ((Af false 419 ⟨(k:Int),(n:Int)⟩).Ag.First),i6 ((Af false 419 ⟨(k:Int),(n:Int)⟩).Ag.Second),i6 ((Af (win y24.AU 82 16384) 420 ⟨(k:Int),(n:Int)⟩).e),i6 ((Af (win y24.AU 82 16384) 420 ⟨(k:Int),(n:Int)⟩).Ag.First),i6 ((Af (win y24.AU 82 16384) 420 ⟨(k:Int),(n:Int)⟩).Ag.Second),i6 ((Af false 422 ⟨(k:Int),(n:Int)⟩).e),i6 ((Af false 422 ⟨(k:Int),(n:Int)⟩).Ag.First),i6 ((Af false 422 ⟨(k:Int),(n:Int)⟩).Ag.Second)] 111
abbrev YE:=bk b133 #[i6 ((Af false 419 ⟨(k:Int),(n:Int)⟩).e),i6 ((Af false 419 ⟨(k:Int),(n:Int)⟩).Ag.First),i6 ((Af false 419 ⟨(k:Int),(n:Int)⟩).Ag.Second),i6 ((Af (win y24.AU 82 16384) 420 ⟨(k:Int),(n:Int)⟩).e),i6 ((Af (win y24.AU 82 16384) 420 ⟨(k:Int),(n:Int)⟩).Ag.First),i6 ((Af (win y24.AU 82 16384) 420 ⟨(k:Int),(n:Int)⟩).Ag.Second),i6 ((Af false 422 ⟨(k:Int),(n:Int)⟩).e),i6 ((Af false 422 ⟨(k:Int),(n:Int)⟩).Ag.First),i6 ((Af false 422 ⟨(k:Int),(n:Int)⟩).Ag.Second)] 111
abbrev Xb:=bk n122 #[i6 ((Af false 419 ⟨(k:Int),(n:Int)⟩).e),i6 ((Af false 419 ⟨(k:Int),(n:Int)⟩).Ag.First),i6 ((Af false 419 ⟨(k:Int),(n:Int)⟩).Ag.Second),i6 ((Af (win y24.AU 82 16384) 420 ⟨(k:Int),(n:Int)⟩).e),i6 ((Af (win y24.AU 82 16384) 420 ⟨(k:Int),(n:Int)⟩).Ag.First),i6 ((Af (win y24.AU 82 16384) 420 ⟨(k:Int),(n:Int)⟩).Ag.Second),i6 ((Af false 422 ⟨(k:Int),(n:Int)⟩).e),i6 ((Af false 422 ⟨(k:Int),(n:Int)⟩).Ag.First),i6 ((Af false 422 ⟨(k:Int),(n:Int)⟩).Ag.Second)] 111
abbrev YL:=bk n163 #[i6 ((Af false 419 ⟨(k:Int),(n:Int)⟩).e),i6 ((Af false 419 ⟨(k:Int),(n:Int)⟩).Ag.First),i6 ((Af false 419 ⟨(k:Int),(n:Int)⟩).Ag.Second),i6 ((Af (win y24.AU 82 16384) 420 ⟨(k:Int),(n:Int)⟩).e),i6 ((Af (win y24.AU 82 16384) 420 ⟨(k:Int),(n:Int)⟩).Ag.First),i6 ((Af (win y24.AU 82 16384) 420 ⟨(k:Int),(n:Int)⟩).Ag.Second),i6 ((Af true 422 ⟨(k:Int),(n:Int)⟩).e),i6 ((Af true 422 ⟨(k:Int),(n:Int)⟩).Ag.First),i6 ((Af true 422 ⟨(k:Int),(n:Int)⟩).Ag.Second)] 111
abbrev XJ:=bk b171 #[i6 ((Af false 419 ⟨(k:Int),(n:Int)⟩).e),i6 ((Af false 419 ⟨(k:Int),(n:Int)⟩).Ag.First),i6 ((Af false 419 ⟨(k:Int),(n:Int)⟩).Ag.Second),i6 ((Af (win y24.AU 82 16384) 420 ⟨(k:Int),(n:Int)⟩).e),i6 ((Af (win y24.AU 82 16384) 420 ⟨(k:Int),(n:Int)⟩).Ag.First),i6 ((Af (win y24.AU 82 16384) 420 ⟨(k:Int),(n:Int)⟩).Ag.Second),i6 ((Af true 422 ⟨(k:Int),(n:Int)⟩).e),i6 ((Af true 422 ⟨(k:Int),(n:Int)⟩).Ag.First),i6 ((Af true 422 ⟨(k:Int),(n:Int)⟩).Ag.Second)] 111
abbrev Vh:=bk n160 #[i6 ((Af false 419 ⟨(k:Int),(n:Int)⟩).e),i6 ((Af false 419 ⟨(k:Int),(n:Int)⟩).Ag.First),i6 ((Af false 419 ⟨(k:Int),(n:Int)⟩).Ag.Second),i6 ((Af (win y24.AU 82 16384) 420 ⟨(k:Int),(n:Int)⟩).e),i6 ((Af (win y24.AU 82 16384) 420 ⟨(k:Int),(n:Int)⟩).Ag.First),i6 ((Af (win y24.AU 82 16384) 420 ⟨(k:Int),(n:Int)⟩).Ag.Second),i6 ((Af true 422 ⟨(k:Int),(n:Int)⟩).e),i6 ((Af true 422 ⟨(k:Int),(n:Int)⟩).Ag.First),i6 ((Af true 422 ⟨(k:Int),(n:Int)⟩).Ag.Second)] 111
abbrev Zac:Ch:= .blk b47 (.cells (Am.arr (AV [(Af (win y24.BM 1 16384) 419 ⟨(k:Int),(n:Int)⟩),(Af (win y24.AU 82 16384) 420 ⟨(k:Int),(n:Int)⟩),(Af false 422 ⟨(k:Int),(n:Int)⟩)])) 111 (0,0)) true
abbrev Zz:Ch:= .blk b53 (.cells (Am.arr (AV [(Af (win y24.BM 1 16384) 419 ⟨(k:Int),(n:Int)⟩),(Af (win y24.AU 82 16384) 420 ⟨(k:Int),(n:Int)⟩),(Af false 422 ⟨(k:Int),(n:Int)⟩)])) 111 (0,0)) true
abbrev Zae:Ch:= .blk b32 (.cells (Am.arr (AV [(Af (win y24.BM 1 16384) 419 ⟨(k:Int),(n:Int)⟩),(Af (win y24.AU 82 16384) 420 ⟨(k:Int),(n:Int)⟩),(Af false 422 ⟨(k:Int),(n:Int)⟩)])) 111 (0,0)) true
abbrev Zx:Ch:= .blk b86 (.cells (Am.arr (AV [(Af (win y24.BM 1 16384) 419 ⟨(k:Int),(n:Int)⟩),(Af (win y24.AU 82 16384) 420 ⟨(k:Int),(n:Int)⟩),(Af true 422 ⟨(k:Int),(n:Int)⟩)])) 111 (0,0)) true
abbrev Z4:Ch:= .blk b92 (.cells (Am.arr (AV [(Af (win y24.BM 1 16384) 419 ⟨(k:Int),(n:Int)⟩),(Af (win y24.AU 82 16384) 420 ⟨(k:Int),(n:Int)⟩),(Af true 422 ⟨(k:Int),(n:Int)⟩)])) 111 (0,0)) true
abbrev ZE:Ch:= .blk b71 (.cells (Am.arr (AV [(Af (win y24.BM 1 16384) 419 ⟨(k:Int),(n:Int)⟩),(Af (win y24.AU 82 16384) 420 ⟨(k:Int),(n:Int)⟩),(Af true 422 ⟨(k:Int),(n:Int)⟩)])) 111 (0,0)) true
abbrev Zak:Ch:= .blk b126 (.cells (Am.arr (AV [(Af false 419 ⟨(k:Int),(n:Int)⟩),(Af (win y24.AU 82 16384) 420 ⟨(k:Int),(n:Int)⟩),(Af false 422 ⟨(k:Int),(n:Int)⟩)])) 111 (0,0)) true
abbrev ZL:Ch:= .blk b132 (.cells (Am.arr (AV [(Af false 419 ⟨(k:Int),(n:Int)⟩),(Af (win y24.AU 82 16384) 420 ⟨(k:Int),(n:Int)⟩),(Af false 422 ⟨(k:Int),(n:Int)⟩)])) 111 (0,0)) true
abbrev Zw:Ch:= .blk b112 (.cells (Am.arr (AV [(Af false 419 ⟨(k:Int),(n:Int)⟩),(Af (win y24.AU 82 16384) 420 ⟨(k:Int),(n:Int)⟩),(Af false 422 ⟨(k:Int),(n:Int)⟩)])) 111 (0,0)) true
abbrev Zah:Ch:= .blk b164 (.cells (Am.arr (AV [(Af false 419 ⟨(k:Int),(n:Int)⟩),(Af (win y24.AU 82 16384) 420 ⟨(k:Int),(n:Int)⟩),(Af true 422 ⟨(k:Int),(n:Int)⟩)])) 111 (0,0)) true
abbrev ZO:Ch:= .blk b170 (.cells (Am.arr (AV [(Af false 419 ⟨(k:Int),(n:Int)⟩),(Af (win y24.AU 82 16384) 420 ⟨(k:Int),(n:Int)⟩),(Af true 422 ⟨(k:Int),(n:Int)⟩)])) 111 (0,0)) true
abbrev Zy:Ch:= .blk b150 (.cells (Am.arr (AV [(Af false 419 ⟨(k:Int),(n:Int)⟩),(Af (win y24.AU 82 16384) 420 ⟨(k:Int),(n:Int)⟩),(Af true 422 ⟨(k:Int),(n:Int)⟩)])) 111 (0,0)) true
abbrev BZ:=bk (z+1) #[i6 0,i6 0,i6 0] 111
abbrev Cc:=bk n15 (Cf.arr y24) 101
abbrev BR:=bk z (Ai.arr c) 26
abbrev QF:Dk:=(65,.agg (Am.arr (AV [(Af (win y24.BM 1 16384) 419 ⟨(k:Int),(n:Int)⟩),(Af (win y24.AU 82 16384) 420 ⟨(k:Int),(n:Int)⟩),(Af false 422 ⟨(k:Int),(n:Int)⟩)])))
abbrev QA:Dk:=(65,.agg (Am.arr (AV [(Af (win y24.BM 1 16384) 419 ⟨(k:Int),(n:Int)⟩),(Af (win y24.AU 82 16384) 420 ⟨(k:Int),(n:Int)⟩),(Af true 422 ⟨(k:Int),(n:Int)⟩)])))
abbrev QE:Dk:=(65,.agg (Am.arr (AV [(Af false 419 ⟨(k:Int),(n:Int)⟩),(Af (win y24.AU 82 16384) 420 ⟨(k:Int),(n:Int)⟩),(Af false 422 ⟨(k:Int),(n:Int)⟩)])))
abbrev Q8:Dk:=(65,.agg (Am.arr (AV [(Af false 419 ⟨(k:Int),(n:Int)⟩),(Af (win y24.AU 82 16384) 420 ⟨(k:Int),(n:Int)⟩),(Af true 422 ⟨(k:Int),(n:Int)⟩)])))
abbrev Qu:Dk:=(46,.agg (Am.arr (Af (win y24.BM 1 16384) 419 ⟨(k:Int),(n:Int)⟩)))
abbrev KI:Dk:=(53,.agg (Am.arr (Af (win y24.AU 82 16384) 420 ⟨(k:Int),(n:Int)⟩)))
abbrev OM:Dk:=(63,.agg (Am.arr (Af false 422 ⟨(k:Int),(n:Int)⟩)))
abbrev QH:Dk:=(46,.agg (Am.arr (Af false 419 ⟨(k:Int),(n:Int)⟩)))
abbrev Qy:Dk:=(63,.agg (Am.arr (Af true 422 ⟨(k:Int),(n:Int)⟩)))
abbrev Q9:=(36,i6 ((c.Aa.xs.length:Int) - 1))
abbrev BN:Dk:=(24,.slice (some ⟨b17,o18,none⟩) y8.xs.length y8.cap)
abbrev BD:=(25,Ac y8.xs.length)
abbrev Bi:=(4,pt (z+1))
abbrev Me:Dk:=(24,.slice y8.a y8.xs.length y8.cap)
abbrev BJ:=(5,i6 (sumW (DT c k).xs n))
abbrev BP:=(7,pt n15)
end
theorem core_calls(w:World)(hL:Jm w)(c:Ai)(hc:Ai.ok Any w c)(k:Nat)(hk:k<c.AX.xs.length):Calls Tryd.prog 73 #[.agg (Ai.arr c),.int .i64 (k:Int)] w fun e w'=>e = .returned (.agg (Am.arr (DY c k)))∧CE (fun _=>False) w w':=by
 obtain⟨z,hz⟩:∃ z,z=w.heap.size:=⟨_,rfl⟩
 refine Cb (args:=[.agg (Ai.arr c),Ac k]) 85 ⟨w,z,[(Ak w)]⟩ Tryd.func73 rfl (by kernel_rfl) (by kernel_rfl) (Em hz) ?_
 have hpl:=hc.AX.1.len;have hpp:=hc.Aa.1.len
 refine DI [0,1] [(0,.agg (Ai.arr c)),(1,Ac k)] ?_
 refine q_c 6 0 [] [[o0,o0]] [] [(1,Ac k),(2,pt z),(Bi z)] ⟨w,z+2,[(Ak w),(BR z c),(BZ z)]⟩ rfl Ae ?_
 obtain⟨b1,o2,ha3,hF5,hc4⟩:=(hc.AX).1.all (show 0<c.AX.xs.length by omega)
 replace ha3:c.AX.a=some ⟨b1,o2,none⟩:=ha3
 have hc6:=hc4 k (show k<c.AX.xs.length by omega)
 have he7:=(hc.AX).2 k (show k<c.AX.xs.length by omega)
 obtain⟨y8,hy8⟩:∃ y_,y_=gd c.AX.xs k:=⟨_,rfl⟩
 rw[←hy8]at he7 hc6
 have hyly8:=he7.1.len
 refine Au 1 6 [] [[o0,(E8 1 b1 o2 c.AX),o0,(oi k),(oa [.via 0 (.slice y8.a y8.xs.length y8.cap)]),o0]] [Qb z,DZ b1 o2 c.AX,CW k,k<c.AX.xs.length,Ce,Old w b1 (o2+k) (.slice y8.a y8.xs.length y8.cap)] [(1,Ac k),(2,pt z),(Bi z),(14,Ac y8.xs.length)] rfl ⟨rfl,Ea ha3,rfl,(by omega),rfl,Aw (hc6 0 _ rfl),Ae⟩ ?_
 refine AY 63 #[(Ac y8.xs.length),i6 1,i6 16] (some 15) (.bool (win (y8.xs.length:Int) 1 16)) (fun w9 hw9=>BV w9 (y8.xs.length:Int) 1 16) (fun n10 (hn11:z+2≤n10) => ?_)
 refine Dc [1,2,4,15] [(1,Ac k),(2,pt z),(Bi z),(15,.bool (win (y8.xs.length:Int) 1 16))] ?_
 by_cases h12:(win (y8.xs.length:Int) 1 16)=true
 ·have hd13:=DD h12
  refine Bq 15 0 [0] [[(ov (.bool false))],[o0],[o0,(E8 1 b1 o2 c.AX),o0,(oi k),(oa [.via 0 (.slice y8.a y8.xs.length y8.cap)]),o0,o0]] [Value.bool (!(win (y8.xs.length:Int) 1 16))=Value.bool false,Qb z,DZ b1 o2 c.AX,CW k,k<c.AX.xs.length,Ce,Old w b1 (o2+k) (.slice y8.a y8.xs.length y8.cap)] [(1,Ac k),(2,pt z),(Bi z),(5,i6 0),(Me y8),(BD y8),(26,i6 0)] rfl ⟨by simp[h12],rfl,Ea ha3,rfl,(by omega),rfl,Aw (hc6 0 _ rfl),Ae⟩ ?_
  refine Du (fun m a w'=>∃ (n15:Nat) (n:Nat),m=y8.xs.length - n∧n10≤n15∧(n≤y8.xs.length)∧(∀ a,a<n→F5 c k a=AQ)∧(0≤sumW (DT c k).xs n∧sumW (DT c k).xs n≤n*32768)∧St 85 [(1,Ac k),(2,pt z),(Bi z),(BJ k n c),(Me y8),(BD y8),(26,Ac n)] [] ⟨w,n15,[(Ak w),(BR z c),(BZ z)]⟩ a w') (y8.xs.length - 0) ?_ ?_
  ·intro a w' hs;exact⟨n10,0,rfl,Nat.le_refl _,Nat.zero_le _,fun i hi=>absurd hi (Nat.not_lt_zero i),by simp[sumW],hs⟩
  rintro m a w' ⟨n15,n,rfl,hn14,hkn,hf,hsu,hs⟩
  refine(?_:G Tryd.prog 85 [(1,Ac k),(2,pt z),(Bi z),(BJ k n c),(Me y8),(BD y8),(26,Ac n)] [] ⟨w,n15,[(Ak w),(BR z c),(BZ z)]⟩ _ _ _) a w' hs
  clear hs a w'
  refine CB ?_
  by_cases h16:(n:Int)<(y8.xs.length:Int)
  ·refine Au 10 0 [1] [[oT]] [BT ((n:Int)<(y8.xs.length:Int))] [(1,Ac k),(2,pt z),(Bi z),(BJ k n c),(Me y8),(BD y8),(26,Ac n),(27,.bool true)] rfl ⟨bt,Ae⟩ ?_
   obtain⟨b17,o18,ha19,hF21,hc20⟩:=(he7).1.all (show 0<y8.xs.length by omega)
   replace ha19:y8.a=some ⟨b17,o18,none⟩:=ha19
   refine LH [(1,Ac k),(2,pt z),(Bi z),(BJ k n c),(BN b17 o18 y8),(BD y8),(26,Ac n),(27,.bool true)] (by(try dsimp only[BZ,BR,BN,BD,Bi,Me,BJ]);simp only[ha19]) ?_
   have hc22:=hc20 n (show n<y8.xs.length by omega)
   have he23:=(he7).2 n (show n<y8.xs.length by omega)
   obtain⟨y24,hy24⟩:∃ y_,y_=gd y8.xs n:=⟨_,rfl⟩
   rw[←hy24]at he23 hc22
   refine q_c 3 0 [] [[o0,(oi n),(ol 0 (Cf.arr y24)),o0,o0,(an 3 3)]] [CW n,n<y8.xs.length,Ce,GU w b17 (o18+n*3) (Cf.arr y24),Qb n15,Qb n15,Qb n15] [(1,Ac k),(2,pt z),(Bi z),(BJ k n c),(BN b17 o18 y8),(BD y8),(26,Ac n),(BP n15),(6,Ac n)] ⟨w,n15+1,[(Ak w),(BR z c),(BZ z),(Cc y24 n15)]⟩ rfl ⟨rfl,(by omega),rfl,Ei hc22,rfl,rfl,rfl,Ae⟩ ?_
   refine VT (fun a w'=>∃ (n25:Nat) (b8:Nat),n15+1≤n25∧St 85 [(1,Ac k),(2,pt z),(Bi z),(BJ k n c),(BP n15),(8,pt b8),(BN b17 o18 y8),(BD y8),(26,Ac n)] [] ⟨w,n25,[(Ak w),(BR z c),(BZ z),(Cc y24 n15),(bk b8 (Am.arr (F5 c k n)) 111)]⟩ a w') ?_ ?_
   ·by_cases h27:(win y24.Partition (-1) ((c.Aa.xs.length:Int) - 1))=true
    ·have hd28:=DD h27
     by_cases h29:(Ik c k y24.Partition)=true
     ·refine DX 36 [0,1,2,3] [(Ak w),(BR z c),(BZ z),(Cc y24 n15)] rfl rfl ?_
      refine CU [(0,o0),(1,(a1 3)),(2,o0),(3,(a1 1)),(4,o0),(5,(ov (i6 ((c.Aa.xs.length:Int) - 1)))),(12,o0),(13,o0),(16,o0),(17,(a1 3)),(19,o0),(20,o0),(23,(an 7 1)),(24,o0),(25,o0),(26,(a1 3)),(29,o0),(30,o0)] [1,2,4,5,24,25,26,7,32,36,43,44,48,50,51,54,55,57,60,61] [Qb n15,Qb z,Wr ((c.Aa.xs.length:Int) - 1) ((c.Aa.xs.length:Int) - 1),Qb n15,Qb z,Qb z,Qb z,Qb z,Qb z,Qb z,Qb z,Qb n15] [true,true,true,true,true,true,false,false,false,false,false,false,true,true,false,false,true,true,false,true,true,false,false,true,true,true,true,false,false,true,true,false,false,false,false,false,false] [(1,Ac k),(2,pt z),(Bi z),(BJ k n c),(BN b17 o18 y8),(BD y8),(26,Ac n),(BP n15),(32,i6 y24.Partition),(Q9 c),(43,Ac k),(44,Ac n),(48,i6 y24.AU),(50,Ac k),(51,Ac n),(54,.agg (Ai.arr c)),(55,Ac k),(57,i6 y24.Partition),(60,Ac k),(61,Ac n)] ⟨rfl,rfl,BQ,rfl,rfl,rfl,rfl,rfl,rfl,rfl,rfl,rfl,Ae⟩ ?_
      refine Qd (fun x:{p:Nat×Nat×Nat // n15+1≤p.1∧n15+1≤p.2.1∧n15+1≤p.2.2}=>([(1,Ac k),(2,pt z),(Bi z),(BJ k n c),(BN b17 o18 y8),(BD y8),(26,Ac n),(BP n15),(8,pt x.1.2.2)],⟨w,x.1.1,[(Ak w),(BR z c),(BZ z),(Cc y24 n15),(.blk x.1.2.1 (.cells #[i6 ((Af (win y24.BM 1 16384) 419 ⟨(k:Int),(n:Int)⟩).e),i6 ((Af (win y24.BM 1 16384) 419 ⟨(k:Int),(n:Int)⟩).Ag.First),i6 ((Af (win y24.BM 1 16384) 419 ⟨(k:Int),(n:Int)⟩).Ag.Second),i6 ((Af (win y24.AU 82 16384) 420 ⟨(k:Int),(n:Int)⟩).e),i6 ((Af (win y24.AU 82 16384) 420 ⟨(k:Int),(n:Int)⟩).Ag.First),i6 ((Af (win y24.AU 82 16384) 420 ⟨(k:Int),(n:Int)⟩).Ag.Second),i6 ((Af false 422 ⟨(k:Int),(n:Int)⟩).e),i6 ((Af false 422 ⟨(k:Int),(n:Int)⟩).Ag.First),i6 ((Af false 422 ⟨(k:Int),(n:Int)⟩).Ag.Second)] 111 (0,0)) true),(.blk x.1.2.2 (.cells (Am.arr (AV [(Af (win y24.BM 1 16384) 419 ⟨(k:Int),(n:Int)⟩),(Af (win y24.AU 82 16384) 420 ⟨(k:Int),(n:Int)⟩),(Af false 422 ⟨(k:Int),(n:Int)⟩)])) 111 (0,0)) true)]⟩)) (fun hK => ?_) ?_
      ·refine Pi 35 8 [.cl 6 (.bool (win y24.Partition (-1) ((c.Aa.xs.length:Int) - 1))),.tk 7 (ov (.bool true)),.tk 8 o0,.tk 9 (a1 3),.cl 10 (.bool (win y24.BM 1 16384)),.tk 11 o0,.cl 14 (.agg #[(Ac k),Ac n]),.cl 15 (.agg (Am.arr (Af (win y24.BM 1 16384) 419 ⟨(k:Int),(n:Int)⟩))),.cl 18 (.bool (win y24.AU 82 16384)),.cl 21 (.agg #[(Ac k),Ac n]),.cl 22 (.agg (Am.arr (Af (win y24.AU 82 16384) 420 ⟨(k:Int),(n:Int)⟩))),.cl 27 (.bool (Ik c k y24.Partition)),.tk 28 (ov (.bool false)),.cl 31 (.agg #[(Ac k),Ac n]),.cl 32 (.agg (Am.arr (Af false 422 ⟨(k:Int),(n:Int)⟩)))] [1,2,4,5,24,25,26,7,46,53,63] [(63,#[i6 y24.Partition,i6 (-1),i6 ((c.Aa.xs.length:Int) - 1)],.bool (win y24.Partition (-1) ((c.Aa.xs.length:Int) - 1))),(63,#[i6 y24.BM,i6 1,i6 16384],.bool (win y24.BM 1 16384)),(96,#[(Ac k),Ac n],.agg #[(Ac k),Ac n]),(62,#[.bool (win y24.BM 1 16384),i6 419,.agg #[(Ac k),Ac n]],.agg (Am.arr (Af (win y24.BM 1 16384) 419 ⟨(k:Int),(n:Int)⟩))),(63,#[i6 y24.AU,i6 82,i6 16384],.bool (win y24.AU 82 16384)),(96,#[(Ac k),Ac n],.agg #[(Ac k),Ac n]),(62,#[.bool (win y24.AU 82 16384),i6 420,.agg #[(Ac k),Ac n]],.agg (Am.arr (Af (win y24.AU 82 16384) 420 ⟨(k:Int),(n:Int)⟩))),(98,#[.agg (Ai.arr c),Ac k,i6 y24.Partition],.bool (Ik c k y24.Partition)),(96,#[(Ac k),Ac n],.agg #[(Ac k),Ac n]),(62,#[.bool false,i6 422,.agg #[(Ac k),Ac n]],.agg (Am.arr (Af false 422 ⟨(k:Int),(n:Int)⟩)))] (D7 33 4) [Value.bool (win y24.Partition (-1) ((c.Aa.xs.length:Int) - 1))=Value.bool true,Qb n15,Value.bool (!(Ik c k y24.Partition))=Value.bool false] [(1,Ac k),(2,pt z),(Bi z),(BJ k n c),(BN b17 o18 y8),(BD y8),(26,Ac n),(BP n15),(Qu y24 k n),(KI y24 k n),(OM k n)] (.cells #[i6 0,i6 0,i6 0] 111 (0,0)) [0,1,2,3] ⟨(congrArg Value.bool h27),rfl,by simp[h29],Ae⟩ ⟨fun w33 hw33=>BV w33 y24.Partition (-1) ((c.Aa.xs.length:Int) - 1),fun w34 hw34=>BV w34 y24.BM 1 16384,fun w35 hw35=>G5 w35 (k:Int) (n:Int),fun w36 hw36=>Bh w36 (hL.ext (hw36.ext rfl)) (win y24.BM 1 16384) 419 (k:Int) (n:Int),fun w37 hw37=>BV w37 y24.AU 82 16384,fun w38 hw38=>G5 w38 (k:Int) (n:Int),fun w39 hw39=>Bh w39 (hL.ext (hw39.ext rfl)) (win y24.AU 82 16384) 420 (k:Int) (n:Int),fun w40 hw40=>RZ w40 c (hc.ext (hw40.ext rfl) (fun _ h=>h)) k hk y24.Partition,fun w41 hw41=>G5 w41 (k:Int) (n:Int),fun w42 hw42=>Bh w42 (hL.ext (hw42.ext rfl)) false 422 (k:Int) (n:Int),Ae⟩ ?_ (fun hv45 n43 hn44 => ?_)
       ·rintro⟨⟨n46,b47⟩,hb48⟩
        simp only at hb48
        refine Bl 33 ?_
        refine BA o0 [8,1,2,4,5,24,25,26,7,64] [] [(8,pt b47),(1,Ac k),(2,pt z),(Bi z),(BJ k n c),(BN b17 o18 y8),(BD y8),(26,Ac n),(BP n15),(64,.slice (some ⟨n46,0,none⟩) 3 3)] ⟨w,n46+1,[(Ak w),(BR z c),(BZ z),(Cc y24 n15),(bk b47 #[i6 0,i6 0,i6 0] 111),(YI n46 y24 k n)]⟩ [0,1,2,3] Ae (.inr rfl) ?_
        refine Bl 34 ?_
        refine GX 91 #[.slice (some ⟨n46,0,none⟩) 3 3] (some 65) (.agg (Am.arr (AV [(Af (win y24.BM 1 16384) 419 ⟨(k:Int),(n:Int)⟩),(Af (win y24.AU 82 16384) 420 ⟨(k:Int),(n:Int)⟩),(Af false 422 ⟨(k:Int),(n:Int)⟩)]))) [8,1,2,4,5,24,25,26,7,65] [(8,pt b47),(1,Ac k),(2,pt z),(Bi z),(BJ k n c),(BN b17 o18 y8),(BD y8),(26,Ac n),(BP n15),(QF y24 k n)] [0,1,2,3] (fun w49 hw49=>D8 w49 (hL.ext (hw49.ext rfl)) ⟨some ⟨n46,0,none⟩,3,[(Af (win y24.BM 1 16384) 419 ⟨(k:Int),(n:Int)⟩),(Af (win y24.AU 82 16384) 420 ⟨(k:Int),(n:Int)⟩),(Af false 422 ⟨(k:Int),(n:Int)⟩)]⟩ (Ez hw49 (i:=5) [(Af (win y24.BM 1 16384) 419 ⟨(k:Int),(n:Int)⟩),(Af (win y24.AU 82 16384) 420 ⟨(k:Int),(n:Int)⟩),(Af false 422 ⟨(k:Int),(n:Int)⟩)]) (show 3≤1000 by decide)) (fun n50 hn51 => ?_)
        replace hn51:n46+1≤n50:=hn51
        refine Bl 36 ?_
        refine BA (an 3 4) [8,1,2,4,5,24,25,26,7] [Qb b47,Qb b47,Qb b47] [(8,pt b47),(1,Ac k),(2,pt z),(Bi z),(BJ k n c),(BN b17 o18 y8),(BD y8),(26,Ac n),(BP n15)] ⟨w,n50,[(Ak w),(BR z c),(BZ z),(Cc y24 n15),(Zac y24 k n b47),(YI n46 y24 k n)]⟩ [] ⟨rfl,rfl,rfl,Ae⟩ (.inl rfl) ?_
        refine DU 37 [0,1,2,3,4,5] [(Ak w),(BR z c),(BZ z),(Cc y24 n15),(Zac y24 k n b47),(YI n46 y24 k n)] rfl rfl ?_
        refine CO ?_
        refine BK [1,2,4,5,24,25,26,7,8] [(1,Ac k),(2,pt z),(Bi z),(BJ k n c),(BN b17 o18 y8),(BD y8),(26,Ac n),(BP n15),(8,pt b47)] ?_
        refine BX [0,1,2,3,5,4] [(Ak w),(BR z c),(BZ z),(Cc y24 n15),(YI n46 y24 k n),(Zac y24 k n b47)] rfl rfl ?_
        exact hK ⟨(n50,n46,b47),by first | omega | (dsimp only;omega)⟩
       replace hn44:n15+1≤n43:=hn44
       refine NK (fun x:{p:Nat×Nat×Nat // n43≤p.1∧n43≤p.2.1∧n43≤p.2.2}=>[(1,Ac k),(2,pt z),(Bi z),(BJ k n c),(BN b17 o18 y8),(BD y8),(26,Ac n),(BP n15),(8,pt x.1.2.1),(QF y24 k n)]) (fun x=>⟨w,x.1.1,[(Ak w),(BR z c),(BZ z),(Cc y24 n15),(.blk x.1.2.1 (.cells #[i6 0,i6 0,i6 0] 111 (0,0)) true),(.blk x.1.2.2 (.cells #[i6 ((Af (win y24.BM 1 16384) 419 ⟨(k:Int),(n:Int)⟩).e),i6 ((Af (win y24.BM 1 16384) 419 ⟨(k:Int),(n:Int)⟩).Ag.First),i6 ((Af (win y24.BM 1 16384) 419 ⟨(k:Int),(n:Int)⟩).Ag.Second),i6 ((Af (win y24.AU 82 16384) 420 ⟨(k:Int),(n:Int)⟩).e),i6 ((Af (win y24.AU 82 16384) 420 ⟨(k:Int),(n:Int)⟩).Ag.First),i6 ((Af (win y24.AU 82 16384) 420 ⟨(k:Int),(n:Int)⟩).Ag.Second),i6 ((Af false 422 ⟨(k:Int),(n:Int)⟩).e),i6 ((Af false 422 ⟨(k:Int),(n:Int)⟩).Ag.First),i6 ((Af false 422 ⟨(k:Int),(n:Int)⟩).Ag.Second)] 111 (0,0)) true)]⟩) 1 (D7 36 1) ?_ (fun hv55 => ?_)
       ·rintro⟨⟨n52,b53,b54⟩,hb56⟩
        simp only at hb56
        show Wg _ _ [(1,Ac k),(2,pt z),(Bi z),(BJ k n c),(BN b17 o18 y8),(BD y8),(26,Ac n),(BP n15),(8,pt b53),(QF y24 k n)] _ ⟨w,n52,[(Ak w),(BR z c),(BZ z),(Cc y24 n15),(bk b53 #[i6 0,i6 0,i6 0] 111),(YG y24 k n b54)]⟩ _ _ _ _ _ _ _
        refine Bl 36 ?_
        refine BA (an 3 4) [1,2,4,5,24,25,26,7,8] [Qb b53,Qb b53,Qb b53] [(1,Ac k),(2,pt z),(Bi z),(BJ k n c),(BN b17 o18 y8),(BD y8),(26,Ac n),(BP n15),(8,pt b53)] ⟨w,n52,[(Ak w),(BR z c),(BZ z),(Cc y24 n15),(Zz y24 k n b53),(YG y24 k n b54)]⟩ [] ⟨rfl,rfl,rfl,Ae⟩ (.inl rfl) ?_
        refine DU 37 [0,1,2,3,4,5] [(Ak w),(BR z c),(BZ z),(Cc y24 n15),(Zz y24 k n b53),(YG y24 k n b54)] rfl rfl ?_
        refine CO ?_
        refine BK [1,2,4,5,24,25,26,7,8] [(1,Ac k),(2,pt z),(Bi z),(BJ k n c),(BN b17 o18 y8),(BD y8),(26,Ac n),(BP n15),(8,pt b53)] ?_
        refine BX [0,1,2,3,5,4] [(Ak w),(BR z c),(BZ z),(Cc y24 n15),(YG y24 k n b54),(Zz y24 k n b53)] rfl rfl ?_
        exact hK ⟨(n52,b54,b53),by first | omega | (dsimp only;omega)⟩
       refine NK (fun x:{p:Nat×Nat×Nat // n43≤p.1∧n43≤p.2.1∧n43≤p.2.2}=>[(1,Ac k),(2,pt z),(Bi z),(BJ k n c),(BN b17 o18 y8),(BD y8),(26,Ac n),(BP n15),(8,pt x.1.2.1),(64,.slice (some ⟨x.1.2.2,0,none⟩) 3 3)]) (fun x=>⟨w,x.1.1,[(Ak w),(BR z c),(BZ z),(Cc y24 n15),(.blk x.1.2.1 (.cells #[i6 0,i6 0,i6 0] 111 (0,0)) true),(.blk x.1.2.2 (.cells #[i6 ((Af (win y24.BM 1 16384) 419 ⟨(k:Int),(n:Int)⟩).e),i6 ((Af (win y24.BM 1 16384) 419 ⟨(k:Int),(n:Int)⟩).Ag.First),i6 ((Af (win y24.BM 1 16384) 419 ⟨(k:Int),(n:Int)⟩).Ag.Second),i6 ((Af (win y24.AU 82 16384) 420 ⟨(k:Int),(n:Int)⟩).e),i6 ((Af (win y24.AU 82 16384) 420 ⟨(k:Int),(n:Int)⟩).Ag.First),i6 ((Af (win y24.AU 82 16384) 420 ⟨(k:Int),(n:Int)⟩).Ag.Second),i6 ((Af false 422 ⟨(k:Int),(n:Int)⟩).e),i6 ((Af false 422 ⟨(k:Int),(n:Int)⟩).Ag.First),i6 ((Af false 422 ⟨(k:Int),(n:Int)⟩).Ag.Second)] 111 (0,0)) true)]⟩) 2 [true,true,true,true,true,true,true,true,true,true,true,true,true,true,true,true,true,true,true,true,true,true,true,true,true,true,true,true,true,true,true,true,true,true,false,true,false] ?_ (fun hv60 => ?_)
       ·rintro⟨⟨n57,b58,b59⟩,hb61⟩
        simp only at hb61
        show Wg _ _ [(1,Ac k),(2,pt z),(Bi z),(BJ k n c),(BN b17 o18 y8),(BD y8),(26,Ac n),(BP n15),(8,pt b58),(64,.slice (some ⟨b59,0,none⟩) 3 3)] _ ⟨w,n57,[(Ak w),(BR z c),(BZ z),(Cc y24 n15),(bk b58 #[i6 0,i6 0,i6 0] 111),(bk b59 #[i6 ((Af (win y24.BM 1 16384) 419 ⟨(k:Int),(n:Int)⟩).e),i6 ((Af (win y24.BM 1 16384) 419 ⟨(k:Int),(n:Int)⟩).Ag.First),i6 ((Af (win y24.BM 1 16384) 419 ⟨(k:Int),(n:Int)⟩).Ag.Second),i6 ((Af (win y24.AU 82 16384) 420 ⟨(k:Int),(n:Int)⟩).e),i6 ((Af (win y24.AU 82 16384) 420 ⟨(k:Int),(n:Int)⟩).Ag.First),i6 ((Af (win y24.AU 82 16384) 420 ⟨(k:Int),(n:Int)⟩).Ag.Second),i6 ((Af false 422 ⟨(k:Int),(n:Int)⟩).e),i6 ((Af false 422 ⟨(k:Int),(n:Int)⟩).Ag.First),i6 ((Af false 422 ⟨(k:Int),(n:Int)⟩).Ag.Second)] 111)]⟩ _ _ _ _ _ _ _
        refine Bl 34 ?_
        refine GX 91 #[.slice (some ⟨b59,0,none⟩) 3 3] (some 65) (.agg (Am.arr (AV [(Af (win y24.BM 1 16384) 419 ⟨(k:Int),(n:Int)⟩),(Af (win y24.AU 82 16384) 420 ⟨(k:Int),(n:Int)⟩),(Af false 422 ⟨(k:Int),(n:Int)⟩)]))) [1,2,4,5,24,25,26,7,8,65] [(1,Ac k),(2,pt z),(Bi z),(BJ k n c),(BN b17 o18 y8),(BD y8),(26,Ac n),(BP n15),(8,pt b58),(QF y24 k n)] [0,1,2,3] (fun w62 hw62=>D8 w62 (hL.ext (hw62.ext rfl)) ⟨some ⟨b59,0,none⟩,3,[(Af (win y24.BM 1 16384) 419 ⟨(k:Int),(n:Int)⟩),(Af (win y24.AU 82 16384) 420 ⟨(k:Int),(n:Int)⟩),(Af false 422 ⟨(k:Int),(n:Int)⟩)]⟩ (Ez hw62 (i:=5) [(Af (win y24.BM 1 16384) 419 ⟨(k:Int),(n:Int)⟩),(Af (win y24.AU 82 16384) 420 ⟨(k:Int),(n:Int)⟩),(Af false 422 ⟨(k:Int),(n:Int)⟩)]) (show 3≤1000 by decide)) (fun n63 hn64 => ?_)
        replace hn64:n57≤n63:=hn64
        refine Dw [1,2,4,5,24,25,26,7,8,65] [(1,Ac k),(2,pt z),(Bi z),(BJ k n c),(BN b17 o18 y8),(BD y8),(26,Ac n),(BP n15),(8,pt b58),(QF y24 k n)] ?_
        exact hv55 ⟨(n63,b58,b59),by first | omega | (dsimp only;omega)⟩
       refine Jk [33,35] ?_
       refine List.forall_mem_cons.2 ⟨?_,List.forall_mem_cons.2 ⟨?_,fun _ h=>absurd h List.not_mem_nil⟩⟩
       ·refine BA o0 [1,2,4,5,24,25,26,7,64] [] [(1,Ac k),(2,pt z),(Bi z),(BJ k n c),(BN b17 o18 y8),(BD y8),(26,Ac n),(BP n15),(64,.slice (some ⟨n43,0,none⟩) 3 3)] ⟨w,n43+1,[(Ak w),(BR z c),(BZ z),(Cc y24 n15),(WA y24 k n n43)]⟩ [0,1,2,3] Ae (.inr rfl) ?_
        refine Jk [34,35] ?_
        refine List.forall_mem_cons.2 ⟨?_,List.forall_mem_cons.2 ⟨?_,fun _ h=>absurd h List.not_mem_nil⟩⟩
        ·refine GX 91 #[.slice (some ⟨n43,0,none⟩) 3 3] (some 65) (.agg (Am.arr (AV [(Af (win y24.BM 1 16384) 419 ⟨(k:Int),(n:Int)⟩),(Af (win y24.AU 82 16384) 420 ⟨(k:Int),(n:Int)⟩),(Af false 422 ⟨(k:Int),(n:Int)⟩)]))) [1,2,4,5,24,25,26,7,65] [(1,Ac k),(2,pt z),(Bi z),(BJ k n c),(BN b17 o18 y8),(BD y8),(26,Ac n),(BP n15),(QF y24 k n)] [0,1,2,3] (fun w65 hw65=>D8 w65 (hL.ext (hw65.ext rfl)) ⟨some ⟨n43,0,none⟩,3,[(Af (win y24.BM 1 16384) 419 ⟨(k:Int),(n:Int)⟩),(Af (win y24.AU 82 16384) 420 ⟨(k:Int),(n:Int)⟩),(Af false 422 ⟨(k:Int),(n:Int)⟩)]⟩ (Ez hw65 (i:=4) [(Af (win y24.BM 1 16384) 419 ⟨(k:Int),(n:Int)⟩),(Af (win y24.AU 82 16384) 420 ⟨(k:Int),(n:Int)⟩),(Af false 422 ⟨(k:Int),(n:Int)⟩)]) (show 3≤1000 by decide)) (fun n66 hn67 => ?_)
         replace hn67:n43+1≤n66:=hn67
         refine Bl 35 ?_
         refine BA o0 [1,2,4,5,24,25,26,7,65,8] [] [(1,Ac k),(2,pt z),(Bi z),(BJ k n c),(BN b17 o18 y8),(BD y8),(26,Ac n),(BP n15),(QF y24 k n),(8,pt n66)] ⟨w,n66+1,[(Ak w),(BR z c),(BZ z),(Cc y24 n15),(WA y24 k n n43),(bk n66 #[i6 0,i6 0,i6 0] 111)]⟩ [0,1,2,3] Ae (.inr rfl) ?_
         refine LK [0,1,2,3,5,4] [(Ak w),(BR z c),(BZ z),(Cc y24 n15),(bk n66 #[i6 0,i6 0,i6 0] 111),(WA y24 k n n43)] rfl rfl ?_
         refine Dw [1,2,4,5,24,25,26,7,8,65] [(1,Ac k),(2,pt z),(Bi z),(BJ k n c),(BN b17 o18 y8),(BD y8),(26,Ac n),(BP n15),(8,pt n66),(QF y24 k n)] ?_
         exact hv55 ⟨(n66+1,n66,n43),by first | omega | (dsimp only;omega)⟩
        refine BA o0 [1,2,4,5,24,25,26,7,64,8] [] [(1,Ac k),(2,pt z),(Bi z),(BJ k n c),(BN b17 o18 y8),(BD y8),(26,Ac n),(BP n15),(64,.slice (some ⟨n43,0,none⟩) 3 3),(8,pt (n43+1))] ⟨w,n43+2,[(Ak w),(BR z c),(BZ z),(Cc y24 n15),(WA y24 k n n43),(bk (n43+1) #[i6 0,i6 0,i6 0] 111)]⟩ [0,1,2,3] Ae (.inr rfl) ?_
        refine LK [0,1,2,3,5,4] [(Ak w),(BR z c),(BZ z),(Cc y24 n15),(bk (n43+1) #[i6 0,i6 0,i6 0] 111),(WA y24 k n n43)] rfl rfl ?_
        refine Dw [1,2,4,5,24,25,26,7,8,64] [(1,Ac k),(2,pt z),(Bi z),(BJ k n c),(BN b17 o18 y8),(BD y8),(26,Ac n),(BP n15),(8,pt (n43+1)),(64,.slice (some ⟨n43,0,none⟩) 3 3)] ?_
        exact hv60 ⟨(n43+2,n43+1,n43),by first | omega | (dsimp only;omega)⟩
       refine BA o0 [1,2,4,5,24,25,26,7,46,53,63,8] [] [(1,Ac k),(2,pt z),(Bi z),(BJ k n c),(BN b17 o18 y8),(BD y8),(26,Ac n),(BP n15),(Qu y24 k n),(KI y24 k n),(OM k n),(8,pt n43)] ⟨w,n43+1,[(Ak w),(BR z c),(BZ z),(Cc y24 n15),(bk n43 #[i6 0,i6 0,i6 0] 111)]⟩ [0,1,2,3] Ae (.inr rfl) ?_
       refine Dw [8,1,2,4,5,24,25,26,7,46,53,63] [(8,pt n43),(1,Ac k),(2,pt z),(Bi z),(BJ k n c),(BN b17 o18 y8),(BD y8),(26,Ac n),(BP n15),(Qu y24 k n),(KI y24 k n),(OM k n)] ?_
       exact hv45 ⟨(n43+1,n43),by first | omega | (dsimp only;omega)⟩
      rintro⟨⟨n30,b31,b32⟩,hJ68⟩
      simp only at hJ68
      show E _ _ [(1,Ac k),(2,pt z),(Bi z),(BJ k n c),(BN b17 o18 y8),(BD y8),(26,Ac n),(BP n15),(8,pt b32)] _ ⟨w,n30,[(Ak w),(BR z c),(BZ z),(Cc y24 n15),(bk b31 #[i6 ((Af (win y24.BM 1 16384) 419 ⟨(k:Int),(n:Int)⟩).e),i6 ((Af (win y24.BM 1 16384) 419 ⟨(k:Int),(n:Int)⟩).Ag.First),i6 ((Af (win y24.BM 1 16384) 419 ⟨(k:Int),(n:Int)⟩).Ag.Second),i6 ((Af (win y24.AU 82 16384) 420 ⟨(k:Int),(n:Int)⟩).e),i6 ((Af (win y24.AU 82 16384) 420 ⟨(k:Int),(n:Int)⟩).Ag.First),i6 ((Af (win y24.AU 82 16384) 420 ⟨(k:Int),(n:Int)⟩).Ag.Second),i6 ((Af false 422 ⟨(k:Int),(n:Int)⟩).e),i6 ((Af false 422 ⟨(k:Int),(n:Int)⟩).Ag.First),i6 ((Af false 422 ⟨(k:Int),(n:Int)⟩).Ag.Second)] 111),(Zae y24 k n b32)]⟩ _ _ _
      refine BX [0,1,2,3,5] [(Ak w),(BR z c),(BZ z),(Cc y24 n15),(Zae y24 k n b32)] rfl rfl ?_
      have e0:gd (DT c k).xs n=y24:=(by rw[hy24,hy8])
      have eA:F5 c k n=(AV [(Af (win y24.BM 1 16384) 419 ⟨(k:Int),(n:Int)⟩),(Af (win y24.AU 82 16384) 420 ⟨(k:Int),(n:Int)⟩),(Af false 422 ⟨(k:Int),(n:Int)⟩)]):=(by unfold F5 MP;simp only[e0];simp[h27,h29])
      refine BK [1,2,4,5,7,8,24,25,26] [(1,Ac k),(2,pt z),(Bi z),(BJ k n c),(BP n15),(8,pt b32),(BN b17 o18 y8),(BD y8),(26,Ac n)] ?_
      refine BO (fun a w' hs=>⟨n30,b32,by omega,(by(try dsimp only[Zae,BZ,Cc,BR,Qu,KI,OM,Q9,BN,BD,Bi,Me,BJ,BP]at hs ⊢);rw[eA];exact hs)⟩)
     refine DX 36 [0,1,2,3] [(Ak w),(BR z c),(BZ z),(Cc y24 n15)] rfl rfl ?_
     refine CU [(0,o0),(1,(a1 3)),(2,o0),(3,(a1 1)),(4,o0),(5,(ov (i6 ((c.Aa.xs.length:Int) - 1)))),(12,o0),(13,o0),(16,o0),(17,(a1 3)),(19,o0),(20,o0),(23,(an 7 1)),(24,o0),(25,o0),(26,(a1 3)),(29,o0),(30,o0)] [1,2,4,5,24,25,26,7,32,36,43,44,48,50,51,54,55,57,60,61] [Qb n15,Qb z,Wr ((c.Aa.xs.length:Int) - 1) ((c.Aa.xs.length:Int) - 1),Qb n15,Qb z,Qb z,Qb z,Qb z,Qb z,Qb z,Qb z,Qb n15] [true,true,true,true,true,true,false,false,false,false,false,false,true,true,false,false,true,true,false,true,true,false,false,true,true,true,true,false,false,true,true,false,false,false,false,false,false] [(1,Ac k),(2,pt z),(Bi z),(BJ k n c),(BN b17 o18 y8),(BD y8),(26,Ac n),(BP n15),(32,i6 y24.Partition),(Q9 c),(43,Ac k),(44,Ac n),(48,i6 y24.AU),(50,Ac k),(51,Ac n),(54,.agg (Ai.arr c)),(55,Ac k),(57,i6 y24.Partition),(60,Ac k),(61,Ac n)] ⟨rfl,rfl,BQ,rfl,rfl,rfl,rfl,rfl,rfl,rfl,rfl,rfl,Ae⟩ ?_
     refine Qd (fun x:{p:Nat×Nat×Nat // n15+1≤p.1∧n15+1≤p.2.1∧n15+1≤p.2.2}=>([(1,Ac k),(2,pt z),(Bi z),(BJ k n c),(BN b17 o18 y8),(BD y8),(26,Ac n),(BP n15),(8,pt x.1.2.2)],⟨w,x.1.1,[(Ak w),(BR z c),(BZ z),(Cc y24 n15),(.blk x.1.2.1 (.cells #[i6 ((Af (win y24.BM 1 16384) 419 ⟨(k:Int),(n:Int)⟩).e),i6 ((Af (win y24.BM 1 16384) 419 ⟨(k:Int),(n:Int)⟩).Ag.First),i6 ((Af (win y24.BM 1 16384) 419 ⟨(k:Int),(n:Int)⟩).Ag.Second),i6 ((Af (win y24.AU 82 16384) 420 ⟨(k:Int),(n:Int)⟩).e),i6 ((Af (win y24.AU 82 16384) 420 ⟨(k:Int),(n:Int)⟩).Ag.First),i6 ((Af (win y24.AU 82 16384) 420 ⟨(k:Int),(n:Int)⟩).Ag.Second),i6 ((Af true 422 ⟨(k:Int),(n:Int)⟩).e),i6 ((Af true 422 ⟨(k:Int),(n:Int)⟩).Ag.First),i6 ((Af true 422 ⟨(k:Int),(n:Int)⟩).Ag.Second)] 111 (0,0)) true),(.blk x.1.2.2 (.cells (Am.arr (AV [(Af (win y24.BM 1 16384) 419 ⟨(k:Int),(n:Int)⟩),(Af (win y24.AU 82 16384) 420 ⟨(k:Int),(n:Int)⟩),(Af true 422 ⟨(k:Int),(n:Int)⟩)])) 111 (0,0)) true)]⟩)) (fun hK => ?_) ?_
     ·refine Pi 35 8 [.cl 6 (.bool (win y24.Partition (-1) ((c.Aa.xs.length:Int) - 1))),.tk 7 (ov (.bool true)),.tk 8 o0,.tk 9 (a1 3),.cl 10 (.bool (win y24.BM 1 16384)),.tk 11 o0,.cl 14 (.agg #[(Ac k),Ac n]),.cl 15 (.agg (Am.arr (Af (win y24.BM 1 16384) 419 ⟨(k:Int),(n:Int)⟩))),.cl 18 (.bool (win y24.AU 82 16384)),.cl 21 (.agg #[(Ac k),Ac n]),.cl 22 (.agg (Am.arr (Af (win y24.AU 82 16384) 420 ⟨(k:Int),(n:Int)⟩))),.cl 27 (.bool (Ik c k y24.Partition)),.tk 28 (ov (.bool true)),.cl 31 (.agg #[(Ac k),Ac n]),.cl 32 (.agg (Am.arr (Af true 422 ⟨(k:Int),(n:Int)⟩)))] [1,2,4,5,24,25,26,7,46,53,63] [(63,#[i6 y24.Partition,i6 (-1),i6 ((c.Aa.xs.length:Int) - 1)],.bool (win y24.Partition (-1) ((c.Aa.xs.length:Int) - 1))),(63,#[i6 y24.BM,i6 1,i6 16384],.bool (win y24.BM 1 16384)),(96,#[(Ac k),Ac n],.agg #[(Ac k),Ac n]),(62,#[.bool (win y24.BM 1 16384),i6 419,.agg #[(Ac k),Ac n]],.agg (Am.arr (Af (win y24.BM 1 16384) 419 ⟨(k:Int),(n:Int)⟩))),(63,#[i6 y24.AU,i6 82,i6 16384],.bool (win y24.AU 82 16384)),(96,#[(Ac k),Ac n],.agg #[(Ac k),Ac n]),(62,#[.bool (win y24.AU 82 16384),i6 420,.agg #[(Ac k),Ac n]],.agg (Am.arr (Af (win y24.AU 82 16384) 420 ⟨(k:Int),(n:Int)⟩))),(98,#[.agg (Ai.arr c),Ac k,i6 y24.Partition],.bool (Ik c k y24.Partition)),(96,#[(Ac k),Ac n],.agg #[(Ac k),Ac n]),(62,#[.bool true,i6 422,.agg #[(Ac k),Ac n]],.agg (Am.arr (Af true 422 ⟨(k:Int),(n:Int)⟩)))] (D7 33 4) [Value.bool (win y24.Partition (-1) ((c.Aa.xs.length:Int) - 1))=Value.bool true,Qb n15,Value.bool (!(Ik c k y24.Partition))=Value.bool true] [(1,Ac k),(2,pt z),(Bi z),(BJ k n c),(BN b17 o18 y8),(BD y8),(26,Ac n),(BP n15),(Qu y24 k n),(KI y24 k n),(Qy k n)] (.cells #[i6 0,i6 0,i6 0] 111 (0,0)) [0,1,2,3] ⟨(congrArg Value.bool h27),rfl,by simp[h29],Ae⟩ ⟨fun w72 hw72=>BV w72 y24.Partition (-1) ((c.Aa.xs.length:Int) - 1),fun w73 hw73=>BV w73 y24.BM 1 16384,fun w74 hw74=>G5 w74 (k:Int) (n:Int),fun w75 hw75=>Bh w75 (hL.ext (hw75.ext rfl)) (win y24.BM 1 16384) 419 (k:Int) (n:Int),fun w76 hw76=>BV w76 y24.AU 82 16384,fun w77 hw77=>G5 w77 (k:Int) (n:Int),fun w78 hw78=>Bh w78 (hL.ext (hw78.ext rfl)) (win y24.AU 82 16384) 420 (k:Int) (n:Int),fun w79 hw79=>RZ w79 c (hc.ext (hw79.ext rfl) (fun _ h=>h)) k hk y24.Partition,fun w80 hw80=>G5 w80 (k:Int) (n:Int),fun w81 hw81=>Bh w81 (hL.ext (hw81.ext rfl)) true 422 (k:Int) (n:Int),Ae⟩ ?_ (fun hv84 n82 hn83 => ?_)
      ·rintro⟨⟨n85,b86⟩,hb87⟩
       simp only at hb87
       refine Bl 33 ?_
       refine BA o0 [8,1,2,4,5,24,25,26,7,64] [] [(8,pt b86),(1,Ac k),(2,pt z),(Bi z),(BJ k n c),(BN b17 o18 y8),(BD y8),(26,Ac n),(BP n15),(64,.slice (some ⟨n85,0,none⟩) 3 3)] ⟨w,n85+1,[(Ak w),(BR z c),(BZ z),(Cc y24 n15),(bk b86 #[i6 0,i6 0,i6 0] 111),(YB y24 k n n85)]⟩ [0,1,2,3] Ae (.inr rfl) ?_
       refine Bl 34 ?_
       refine GX 91 #[.slice (some ⟨n85,0,none⟩) 3 3] (some 65) (.agg (Am.arr (AV [(Af (win y24.BM 1 16384) 419 ⟨(k:Int),(n:Int)⟩),(Af (win y24.AU 82 16384) 420 ⟨(k:Int),(n:Int)⟩),(Af true 422 ⟨(k:Int),(n:Int)⟩)]))) [8,1,2,4,5,24,25,26,7,65] [(8,pt b86),(1,Ac k),(2,pt z),(Bi z),(BJ k n c),(BN b17 o18 y8),(BD y8),(26,Ac n),(BP n15),(QA y24 k n)] [0,1,2,3] (fun w88 hw88=>D8 w88 (hL.ext (hw88.ext rfl)) ⟨some ⟨n85,0,none⟩,3,[(Af (win y24.BM 1 16384) 419 ⟨(k:Int),(n:Int)⟩),(Af (win y24.AU 82 16384) 420 ⟨(k:Int),(n:Int)⟩),(Af true 422 ⟨(k:Int),(n:Int)⟩)]⟩ (Ez hw88 (i:=5) [(Af (win y24.BM 1 16384) 419 ⟨(k:Int),(n:Int)⟩),(Af (win y24.AU 82 16384) 420 ⟨(k:Int),(n:Int)⟩),(Af true 422 ⟨(k:Int),(n:Int)⟩)]) (show 3≤1000 by decide)) (fun n89 hn90 => ?_)
       replace hn90:n85+1≤n89:=hn90
       refine Bl 36 ?_
       refine BA (an 3 4) [8,1,2,4,5,24,25,26,7] [Qb b86,Qb b86,Qb b86] [(8,pt b86),(1,Ac k),(2,pt z),(Bi z),(BJ k n c),(BN b17 o18 y8),(BD y8),(26,Ac n),(BP n15)] ⟨w,n89,[(Ak w),(BR z c),(BZ z),(Cc y24 n15),(Zx y24 k n b86),(YB y24 k n n85)]⟩ [] ⟨rfl,rfl,rfl,Ae⟩ (.inl rfl) ?_
       refine DU 37 [0,1,2,3,4,5] [(Ak w),(BR z c),(BZ z),(Cc y24 n15),(Zx y24 k n b86),(YB y24 k n n85)] rfl rfl ?_
       refine CO ?_
       refine BK [1,2,4,5,24,25,26,7,8] [(1,Ac k),(2,pt z),(Bi z),(BJ k n c),(BN b17 o18 y8),(BD y8),(26,Ac n),(BP n15),(8,pt b86)] ?_
       refine BX [0,1,2,3,5,4] [(Ak w),(BR z c),(BZ z),(Cc y24 n15),(YB y24 k n n85),(Zx y24 k n b86)] rfl rfl ?_
       exact hK ⟨(n89,n85,b86),by first | omega | (dsimp only;omega)⟩
      replace hn83:n15+1≤n82:=hn83
      refine NK (fun x:{p:Nat×Nat×Nat // n82≤p.1∧n82≤p.2.1∧n82≤p.2.2}=>[(1,Ac k),(2,pt z),(Bi z),(BJ k n c),(BN b17 o18 y8),(BD y8),(26,Ac n),(BP n15),(8,pt x.1.2.1),(QA y24 k n)]) (fun x=>⟨w,x.1.1,[(Ak w),(BR z c),(BZ z),(Cc y24 n15),(.blk x.1.2.1 (.cells #[i6 0,i6 0,i6 0] 111 (0,0)) true),(.blk x.1.2.2 (.cells #[i6 ((Af (win y24.BM 1 16384) 419 ⟨(k:Int),(n:Int)⟩).e),i6 ((Af (win y24.BM 1 16384) 419 ⟨(k:Int),(n:Int)⟩).Ag.First),i6 ((Af (win y24.BM 1 16384) 419 ⟨(k:Int),(n:Int)⟩).Ag.Second),i6 ((Af (win y24.AU 82 16384) 420 ⟨(k:Int),(n:Int)⟩).e),i6 ((Af (win y24.AU 82 16384) 420 ⟨(k:Int),(n:Int)⟩).Ag.First),i6 ((Af (win y24.AU 82 16384) 420 ⟨(k:Int),(n:Int)⟩).Ag.Second),i6 ((Af true 422 ⟨(k:Int),(n:Int)⟩).e),i6 ((Af true 422 ⟨(k:Int),(n:Int)⟩).Ag.First),i6 ((Af true 422 ⟨(k:Int),(n:Int)⟩).Ag.Second)] 111 (0,0)) true)]⟩) 1 (D7 36 1) ?_ (fun hv94 => ?_)
      ·rintro⟨⟨n91,b92,b93⟩,hb95⟩
       simp only at hb95
       show Wg _ _ [(1,Ac k),(2,pt z),(Bi z),(BJ k n c),(BN b17 o18 y8),(BD y8),(26,Ac n),(BP n15),(8,pt b92),(QA y24 k n)] _ ⟨w,n91,[(Ak w),(BR z c),(BZ z),(Cc y24 n15),(bk b92 #[i6 0,i6 0,i6 0] 111),(YA y24 k n b93)]⟩ _ _ _ _ _ _ _
       refine Bl 36 ?_
       refine BA (an 3 4) [1,2,4,5,24,25,26,7,8] [Qb b92,Qb b92,Qb b92] [(1,Ac k),(2,pt z),(Bi z),(BJ k n c),(BN b17 o18 y8),(BD y8),(26,Ac n),(BP n15),(8,pt b92)] ⟨w,n91,[(Ak w),(BR z c),(BZ z),(Cc y24 n15),(Z4 y24 k n b92),(YA y24 k n b93)]⟩ [] ⟨rfl,rfl,rfl,Ae⟩ (.inl rfl) ?_
       refine DU 37 [0,1,2,3,4,5] [(Ak w),(BR z c),(BZ z),(Cc y24 n15),(Z4 y24 k n b92),(YA y24 k n b93)] rfl rfl ?_
       refine CO ?_
       refine BK [1,2,4,5,24,25,26,7,8] [(1,Ac k),(2,pt z),(Bi z),(BJ k n c),(BN b17 o18 y8),(BD y8),(26,Ac n),(BP n15),(8,pt b92)] ?_
       refine BX [0,1,2,3,5,4] [(Ak w),(BR z c),(BZ z),(Cc y24 n15),(YA y24 k n b93),(Z4 y24 k n b92)] rfl rfl ?_
       exact hK ⟨(n91,b93,b92),by first | omega | (dsimp only;omega)⟩
      refine NK (fun x:{p:Nat×Nat×Nat // n82≤p.1∧n82≤p.2.1∧n82≤p.2.2}=>[(1,Ac k),(2,pt z),(Bi z),(BJ k n c),(BN b17 o18 y8),(BD y8),(26,Ac n),(BP n15),(8,pt x.1.2.1),(64,.slice (some ⟨x.1.2.2,0,none⟩) 3 3)]) (fun x=>⟨w,x.1.1,[(Ak w),(BR z c),(BZ z),(Cc y24 n15),(.blk x.1.2.1 (.cells #[i6 0,i6 0,i6 0] 111 (0,0)) true),(.blk x.1.2.2 (.cells #[i6 ((Af (win y24.BM 1 16384) 419 ⟨(k:Int),(n:Int)⟩).e),i6 ((Af (win y24.BM 1 16384) 419 ⟨(k:Int),(n:Int)⟩).Ag.First),i6 ((Af (win y24.BM 1 16384) 419 ⟨(k:Int),(n:Int)⟩).Ag.Second),i6 ((Af (win y24.AU 82 16384) 420 ⟨(k:Int),(n:Int)⟩).e),i6 ((Af (win y24.AU 82 16384) 420 ⟨(k:Int),(n:Int)⟩).Ag.First),i6 ((Af (win y24.AU 82 16384) 420 ⟨(k:Int),(n:Int)⟩).Ag.Second),i6 ((Af true 422 ⟨(k:Int),(n:Int)⟩).e),i6 ((Af true 422 ⟨(k:Int),(n:Int)⟩).Ag.First),i6 ((Af true 422 ⟨(k:Int),(n:Int)⟩).Ag.Second)] 111 (0,0)) true)]⟩) 2 [true,true,true,true,true,true,true,true,true,true,true,true,true,true,true,true,true,true,true,true,true,true,true,true,true,true,true,true,true,true,true,true,true,true,false,true,false] ?_ (fun hv99 => ?_)
      ·rintro⟨⟨n96,b97,b98⟩,hb100⟩
       simp only at hb100
       show Wg _ _ [(1,Ac k),(2,pt z),(Bi z),(BJ k n c),(BN b17 o18 y8),(BD y8),(26,Ac n),(BP n15),(8,pt b97),(64,.slice (some ⟨b98,0,none⟩) 3 3)] _ ⟨w,n96,[(Ak w),(BR z c),(BZ z),(Cc y24 n15),(bk b97 #[i6 0,i6 0,i6 0] 111),(bk b98 #[i6 ((Af (win y24.BM 1 16384) 419 ⟨(k:Int),(n:Int)⟩).e),i6 ((Af (win y24.BM 1 16384) 419 ⟨(k:Int),(n:Int)⟩).Ag.First),i6 ((Af (win y24.BM 1 16384) 419 ⟨(k:Int),(n:Int)⟩).Ag.Second),i6 ((Af (win y24.AU 82 16384) 420 ⟨(k:Int),(n:Int)⟩).e),i6 ((Af (win y24.AU 82 16384) 420 ⟨(k:Int),(n:Int)⟩).Ag.First),i6 ((Af (win y24.AU 82 16384) 420 ⟨(k:Int),(n:Int)⟩).Ag.Second),i6 ((Af true 422 ⟨(k:Int),(n:Int)⟩).e),i6 ((Af true 422 ⟨(k:Int),(n:Int)⟩).Ag.First),i6 ((Af true 422 ⟨(k:Int),(n:Int)⟩).Ag.Second)] 111)]⟩ _ _ _ _ _ _ _
       refine Bl 34 ?_
       refine GX 91 #[.slice (some ⟨b98,0,none⟩) 3 3] (some 65) (.agg (Am.arr (AV [(Af (win y24.BM 1 16384) 419 ⟨(k:Int),(n:Int)⟩),(Af (win y24.AU 82 16384) 420 ⟨(k:Int),(n:Int)⟩),(Af true 422 ⟨(k:Int),(n:Int)⟩)]))) [1,2,4,5,24,25,26,7,8,65] [(1,Ac k),(2,pt z),(Bi z),(BJ k n c),(BN b17 o18 y8),(BD y8),(26,Ac n),(BP n15),(8,pt b97),(QA y24 k n)] [0,1,2,3] (fun w101 hw101=>D8 w101 (hL.ext (hw101.ext rfl)) ⟨some ⟨b98,0,none⟩,3,[(Af (win y24.BM 1 16384) 419 ⟨(k:Int),(n:Int)⟩),(Af (win y24.AU 82 16384) 420 ⟨(k:Int),(n:Int)⟩),(Af true 422 ⟨(k:Int),(n:Int)⟩)]⟩ (Ez hw101 (i:=5) [(Af (win y24.BM 1 16384) 419 ⟨(k:Int),(n:Int)⟩),(Af (win y24.AU 82 16384) 420 ⟨(k:Int),(n:Int)⟩),(Af true 422 ⟨(k:Int),(n:Int)⟩)]) (show 3≤1000 by decide)) (fun n102 hn103 => ?_)
       replace hn103:n96≤n102:=hn103
       refine Dw [1,2,4,5,24,25,26,7,8,65] [(1,Ac k),(2,pt z),(Bi z),(BJ k n c),(BN b17 o18 y8),(BD y8),(26,Ac n),(BP n15),(8,pt b97),(QA y24 k n)] ?_
       exact hv94 ⟨(n102,b97,b98),by first | omega | (dsimp only;omega)⟩
      refine Jk [33,35] ?_
      refine List.forall_mem_cons.2 ⟨?_,List.forall_mem_cons.2 ⟨?_,fun _ h=>absurd h List.not_mem_nil⟩⟩
      ·refine BA o0 [1,2,4,5,24,25,26,7,64] [] [(1,Ac k),(2,pt z),(Bi z),(BJ k n c),(BN b17 o18 y8),(BD y8),(26,Ac n),(BP n15),(64,.slice (some ⟨n82,0,none⟩) 3 3)] ⟨w,n82+1,[(Ak w),(BR z c),(BZ z),(Cc y24 n15),(Ws y24 k n n82)]⟩ [0,1,2,3] Ae (.inr rfl) ?_
       refine Jk [34,35] ?_
       refine List.forall_mem_cons.2 ⟨?_,List.forall_mem_cons.2 ⟨?_,fun _ h=>absurd h List.not_mem_nil⟩⟩
       ·refine GX 91 #[.slice (some ⟨n82,0,none⟩) 3 3] (some 65) (.agg (Am.arr (AV [(Af (win y24.BM 1 16384) 419 ⟨(k:Int),(n:Int)⟩),(Af (win y24.AU 82 16384) 420 ⟨(k:Int),(n:Int)⟩),(Af true 422 ⟨(k:Int),(n:Int)⟩)]))) [1,2,4,5,24,25,26,7,65] [(1,Ac k),(2,pt z),(Bi z),(BJ k n c),(BN b17 o18 y8),(BD y8),(26,Ac n),(BP n15),(QA y24 k n)] [0,1,2,3] (fun w104 hw104=>D8 w104 (hL.ext (hw104.ext rfl)) ⟨some ⟨n82,0,none⟩,3,[(Af (win y24.BM 1 16384) 419 ⟨(k:Int),(n:Int)⟩),(Af (win y24.AU 82 16384) 420 ⟨(k:Int),(n:Int)⟩),(Af true 422 ⟨(k:Int),(n:Int)⟩)]⟩ (Ez hw104 (i:=4) [(Af (win y24.BM 1 16384) 419 ⟨(k:Int),(n:Int)⟩),(Af (win y24.AU 82 16384) 420 ⟨(k:Int),(n:Int)⟩),(Af true 422 ⟨(k:Int),(n:Int)⟩)]) (show 3≤1000 by decide)) (fun n105 hn106 => ?_)
        replace hn106:n82+1≤n105:=hn106
        refine Bl 35 ?_
        refine BA o0 [1,2,4,5,24,25,26,7,65,8] [] [(1,Ac k),(2,pt z),(Bi z),(BJ k n c),(BN b17 o18 y8),(BD y8),(26,Ac n),(BP n15),(QA y24 k n),(8,pt n105)] ⟨w,n105+1,[(Ak w),(BR z c),(BZ z),(Cc y24 n15),(Ws y24 k n n82),(bk n105 #[i6 0,i6 0,i6 0] 111)]⟩ [0,1,2,3] Ae (.inr rfl) ?_
        refine LK [0,1,2,3,5,4] [(Ak w),(BR z c),(BZ z),(Cc y24 n15),(bk n105 #[i6 0,i6 0,i6 0] 111),(Ws y24 k n n82)] rfl rfl ?_
        refine Dw [1,2,4,5,24,25,26,7,8,65] [(1,Ac k),(2,pt z),(Bi z),(BJ k n c),(BN b17 o18 y8),(BD y8),(26,Ac n),(BP n15),(8,pt n105),(QA y24 k n)] ?_
        exact hv94 ⟨(n105+1,n105,n82),by first | omega | (dsimp only;omega)⟩
       refine BA o0 [1,2,4,5,24,25,26,7,64,8] [] [(1,Ac k),(2,pt z),(Bi z),(BJ k n c),(BN b17 o18 y8),(BD y8),(26,Ac n),(BP n15),(64,.slice (some ⟨n82,0,none⟩) 3 3),(8,pt (n82+1))] ⟨w,n82+2,[(Ak w),(BR z c),(BZ z),(Cc y24 n15),(Ws y24 k n n82),(bk (n82+1) #[i6 0,i6 0,i6 0] 111)]⟩ [0,1,2,3] Ae (.inr rfl) ?_
       refine LK [0,1,2,3,5,4] [(Ak w),(BR z c),(BZ z),(Cc y24 n15),(bk (n82+1) #[i6 0,i6 0,i6 0] 111),(Ws y24 k n n82)] rfl rfl ?_
       refine Dw [1,2,4,5,24,25,26,7,8,64] [(1,Ac k),(2,pt z),(Bi z),(BJ k n c),(BN b17 o18 y8),(BD y8),(26,Ac n),(BP n15),(8,pt (n82+1)),(64,.slice (some ⟨n82,0,none⟩) 3 3)] ?_
       exact hv99 ⟨(n82+2,n82+1,n82),by first | omega | (dsimp only;omega)⟩
      refine BA o0 [1,2,4,5,24,25,26,7,46,53,63,8] [] [(1,Ac k),(2,pt z),(Bi z),(BJ k n c),(BN b17 o18 y8),(BD y8),(26,Ac n),(BP n15),(Qu y24 k n),(KI y24 k n),(Qy k n),(8,pt n82)] ⟨w,n82+1,[(Ak w),(BR z c),(BZ z),(Cc y24 n15),(bk n82 #[i6 0,i6 0,i6 0] 111)]⟩ [0,1,2,3] Ae (.inr rfl) ?_
      refine Dw [8,1,2,4,5,24,25,26,7,46,53,63] [(8,pt n82),(1,Ac k),(2,pt z),(Bi z),(BJ k n c),(BN b17 o18 y8),(BD y8),(26,Ac n),(BP n15),(Qu y24 k n),(KI y24 k n),(Qy k n)] ?_
      exact hv84 ⟨(n82+1,n82),by first | omega | (dsimp only;omega)⟩
     rintro⟨⟨n69,b70,b71⟩,hJ107⟩
     simp only at hJ107
     show E _ _ [(1,Ac k),(2,pt z),(Bi z),(BJ k n c),(BN b17 o18 y8),(BD y8),(26,Ac n),(BP n15),(8,pt b71)] _ ⟨w,n69,[(Ak w),(BR z c),(BZ z),(Cc y24 n15),(bk b70 #[i6 ((Af (win y24.BM 1 16384) 419 ⟨(k:Int),(n:Int)⟩).e),i6 ((Af (win y24.BM 1 16384) 419 ⟨(k:Int),(n:Int)⟩).Ag.First),i6 ((Af (win y24.BM 1 16384) 419 ⟨(k:Int),(n:Int)⟩).Ag.Second),i6 ((Af (win y24.AU 82 16384) 420 ⟨(k:Int),(n:Int)⟩).e),i6 ((Af (win y24.AU 82 16384) 420 ⟨(k:Int),(n:Int)⟩).Ag.First),i6 ((Af (win y24.AU 82 16384) 420 ⟨(k:Int),(n:Int)⟩).Ag.Second),i6 ((Af true 422 ⟨(k:Int),(n:Int)⟩).e),i6 ((Af true 422 ⟨(k:Int),(n:Int)⟩).Ag.First),i6 ((Af true 422 ⟨(k:Int),(n:Int)⟩).Ag.Second)] 111),(ZE y24 k n b71)]⟩ _ _ _
     refine BX [0,1,2,3,5] [(Ak w),(BR z c),(BZ z),(Cc y24 n15),(ZE y24 k n b71)] rfl rfl ?_
     have e0:gd (DT c k).xs n=y24:=(by rw[hy24,hy8])
     have eA:F5 c k n=(AV [(Af (win y24.BM 1 16384) 419 ⟨(k:Int),(n:Int)⟩),(Af (win y24.AU 82 16384) 420 ⟨(k:Int),(n:Int)⟩),(Af true 422 ⟨(k:Int),(n:Int)⟩)]):=(by unfold F5 MP;simp only[e0];simp[h27,h29])
     refine BK [1,2,4,5,7,8,24,25,26] [(1,Ac k),(2,pt z),(Bi z),(BJ k n c),(BP n15),(8,pt b71),(BN b17 o18 y8),(BD y8),(26,Ac n)] ?_
     refine BO (fun a w' hs=>⟨n69,b71,by omega,(by(try dsimp only[ZE,BZ,Cc,BR,Qu,KI,OM,Qy,Q9,BN,BD,Bi,Me,BJ,BP]at hs ⊢);rw[eA];exact hs)⟩)
    have hd108:=FI h27
    by_cases h109:(Ik c k y24.Partition)=true
    ·refine DX 36 [0,1,2,3] [(Ak w),(BR z c),(BZ z),(Cc y24 n15)] rfl rfl ?_
     refine CU [(0,o0),(1,(a1 3)),(2,o0),(3,(a1 1)),(4,o0),(5,(ov (i6 ((c.Aa.xs.length:Int) - 1)))),(12,o0),(13,o0),(16,o0),(17,(a1 3)),(19,o0),(20,o0),(23,(an 7 1)),(24,o0),(25,o0),(26,(a1 3)),(29,o0),(30,o0)] [1,2,4,5,24,25,26,7,32,36,43,44,48,50,51,54,55,57,60,61] [Qb n15,Qb z,Wr ((c.Aa.xs.length:Int) - 1) ((c.Aa.xs.length:Int) - 1),Qb n15,Qb z,Qb z,Qb z,Qb z,Qb z,Qb z,Qb z,Qb n15] [true,true,true,true,true,true,false,false,false,false,false,false,true,true,false,false,true,true,false,true,true,false,false,true,true,true,true,false,false,true,true,false,false,false,false,false,false] [(1,Ac k),(2,pt z),(Bi z),(BJ k n c),(BN b17 o18 y8),(BD y8),(26,Ac n),(BP n15),(32,i6 y24.Partition),(Q9 c),(43,Ac k),(44,Ac n),(48,i6 y24.AU),(50,Ac k),(51,Ac n),(54,.agg (Ai.arr c)),(55,Ac k),(57,i6 y24.Partition),(60,Ac k),(61,Ac n)] ⟨rfl,rfl,BQ,rfl,rfl,rfl,rfl,rfl,rfl,rfl,rfl,rfl,Ae⟩ ?_
     refine Qd (fun x:{p:Nat×Nat×Nat // n15+1≤p.1∧n15+1≤p.2.1∧n15+1≤p.2.2}=>([(1,Ac k),(2,pt z),(Bi z),(BJ k n c),(BN b17 o18 y8),(BD y8),(26,Ac n),(BP n15),(8,pt x.1.2.2)],⟨w,x.1.1,[(Ak w),(BR z c),(BZ z),(Cc y24 n15),(.blk x.1.2.1 (.cells #[i6 ((Af false 419 ⟨(k:Int),(n:Int)⟩).e),i6 ((Af false 419 ⟨(k:Int),(n:Int)⟩).Ag.First),i6 ((Af false 419 ⟨(k:Int),(n:Int)⟩).Ag.Second),i6 ((Af (win y24.AU 82 16384) 420 ⟨(k:Int),(n:Int)⟩).e),i6 ((Af (win y24.AU 82 16384) 420 ⟨(k:Int),(n:Int)⟩).Ag.First),i6 ((Af (win y24.AU 82 16384) 420 ⟨(k:Int),(n:Int)⟩).Ag.Second),i6 ((Af false 422 ⟨(k:Int),(n:Int)⟩).e),i6 ((Af false 422 ⟨(k:Int),(n:Int)⟩).Ag.First),i6 ((Af false 422 ⟨(k:Int),(n:Int)⟩).Ag.Second)] 111 (0,0)) true),(.blk x.1.2.2 (.cells (Am.arr (AV [(Af false 419 ⟨(k:Int),(n:Int)⟩),(Af (win y24.AU 82 16384) 420 ⟨(k:Int),(n:Int)⟩),(Af false 422 ⟨(k:Int),(n:Int)⟩)])) 111 (0,0)) true)]⟩)) (fun hK => ?_) ?_
     ·refine Pi 35 8 [.cl 6 (.bool (win y24.Partition (-1) ((c.Aa.xs.length:Int) - 1))),.tk 7 (ov (.bool false)),.tk 8 o0,.tk 9 o0,.tk 10 o0,.tk 11 o0,.cl 14 (.agg #[(Ac k),Ac n]),.cl 15 (.agg (Am.arr (Af false 419 ⟨(k:Int),(n:Int)⟩))),.cl 18 (.bool (win y24.AU 82 16384)),.cl 21 (.agg #[(Ac k),Ac n]),.cl 22 (.agg (Am.arr (Af (win y24.AU 82 16384) 420 ⟨(k:Int),(n:Int)⟩))),.cl 27 (.bool (Ik c k y24.Partition)),.tk 28 (ov (.bool false)),.cl 31 (.agg #[(Ac k),Ac n]),.cl 32 (.agg (Am.arr (Af false 422 ⟨(k:Int),(n:Int)⟩)))] [1,2,4,5,24,25,26,7,46,53,63] [(63,#[i6 y24.Partition,i6 (-1),i6 ((c.Aa.xs.length:Int) - 1)],.bool (win y24.Partition (-1) ((c.Aa.xs.length:Int) - 1))),(96,#[(Ac k),Ac n],.agg #[(Ac k),Ac n]),(62,#[.bool false,i6 419,.agg #[(Ac k),Ac n]],.agg (Am.arr (Af false 419 ⟨(k:Int),(n:Int)⟩))),(63,#[i6 y24.AU,i6 82,i6 16384],.bool (win y24.AU 82 16384)),(96,#[(Ac k),Ac n],.agg #[(Ac k),Ac n]),(62,#[.bool (win y24.AU 82 16384),i6 420,.agg #[(Ac k),Ac n]],.agg (Am.arr (Af (win y24.AU 82 16384) 420 ⟨(k:Int),(n:Int)⟩))),(98,#[.agg (Ai.arr c),Ac k,i6 y24.Partition],.bool (Ik c k y24.Partition)),(96,#[(Ac k),Ac n],.agg #[(Ac k),Ac n]),(62,#[.bool false,i6 422,.agg #[(Ac k),Ac n]],.agg (Am.arr (Af false 422 ⟨(k:Int),(n:Int)⟩)))] (D7 33 4) [Value.bool (win y24.Partition (-1) ((c.Aa.xs.length:Int) - 1))=Value.bool false,Value.bool (!(Ik c k y24.Partition))=Value.bool false] [(1,Ac k),(2,pt z),(Bi z),(BJ k n c),(BN b17 o18 y8),(BD y8),(26,Ac n),(BP n15),(QH k n),(KI y24 k n),(OM k n)] (.cells #[i6 0,i6 0,i6 0] 111 (0,0)) [0,1,2,3] ⟨(congrArg Value.bool (Bool.eq_false_iff.2 h27)),by simp[h109],Ae⟩ ⟨fun w113 hw113=>BV w113 y24.Partition (-1) ((c.Aa.xs.length:Int) - 1),fun w114 hw114=>G5 w114 (k:Int) (n:Int),fun w115 hw115=>Bh w115 (hL.ext (hw115.ext rfl)) false 419 (k:Int) (n:Int),fun w116 hw116=>BV w116 y24.AU 82 16384,fun w117 hw117=>G5 w117 (k:Int) (n:Int),fun w118 hw118=>Bh w118 (hL.ext (hw118.ext rfl)) (win y24.AU 82 16384) 420 (k:Int) (n:Int),fun w119 hw119=>RZ w119 c (hc.ext (hw119.ext rfl) (fun _ h=>h)) k hk y24.Partition,fun w120 hw120=>G5 w120 (k:Int) (n:Int),fun w121 hw121=>Bh w121 (hL.ext (hw121.ext rfl)) false 422 (k:Int) (n:Int),Ae⟩ ?_ (fun hv124 n122 hn123 => ?_)
      ·rintro⟨⟨n125,b126⟩,hb127⟩
       simp only at hb127
       refine Bl 33 ?_
       refine BA o0 [8,1,2,4,5,24,25,26,7,64] [] [(8,pt b126),(1,Ac k),(2,pt z),(Bi z),(BJ k n c),(BN b17 o18 y8),(BD y8),(26,Ac n),(BP n15),(64,.slice (some ⟨n125,0,none⟩) 3 3)] ⟨w,n125+1,[(Ak w),(BR z c),(BZ z),(Cc y24 n15),(bk b126 #[i6 0,i6 0,i6 0] 111),(Y4 y24 k n n125)]⟩ [0,1,2,3] Ae (.inr rfl) ?_
       refine Bl 34 ?_
       refine GX 91 #[.slice (some ⟨n125,0,none⟩) 3 3] (some 65) (.agg (Am.arr (AV [(Af false 419 ⟨(k:Int),(n:Int)⟩),(Af (win y24.AU 82 16384) 420 ⟨(k:Int),(n:Int)⟩),(Af false 422 ⟨(k:Int),(n:Int)⟩)]))) [8,1,2,4,5,24,25,26,7,65] [(8,pt b126),(1,Ac k),(2,pt z),(Bi z),(BJ k n c),(BN b17 o18 y8),(BD y8),(26,Ac n),(BP n15),(QE y24 k n)] [0,1,2,3] (fun w128 hw128=>D8 w128 (hL.ext (hw128.ext rfl)) ⟨some ⟨n125,0,none⟩,3,[(Af false 419 ⟨(k:Int),(n:Int)⟩),(Af (win y24.AU 82 16384) 420 ⟨(k:Int),(n:Int)⟩),(Af false 422 ⟨(k:Int),(n:Int)⟩)]⟩ (Ez hw128 (i:=5) [(Af false 419 ⟨(k:Int),(n:Int)⟩),(Af (win y24.AU 82 16384) 420 ⟨(k:Int),(n:Int)⟩),(Af false 422 ⟨(k:Int),(n:Int)⟩)]) (show 3≤1000 by decide)) (fun n129 hn130 => ?_)
       replace hn130:n125+1≤n129:=hn130
       refine Bl 36 ?_
       refine BA (an 3 4) [8,1,2,4,5,24,25,26,7] [Qb b126,Qb b126,Qb b126] [(8,pt b126),(1,Ac k),(2,pt z),(Bi z),(BJ k n c),(BN b17 o18 y8),(BD y8),(26,Ac n),(BP n15)] ⟨w,n129,[(Ak w),(BR z c),(BZ z),(Cc y24 n15),(Zak y24 k n b126),(Y4 y24 k n n125)]⟩ [] ⟨rfl,rfl,rfl,Ae⟩ (.inl rfl) ?_
       refine DU 37 [0,1,2,3,4,5] [(Ak w),(BR z c),(BZ z),(Cc y24 n15),(Zak y24 k n b126),(Y4 y24 k n n125)] rfl rfl ?_
       refine CO ?_
       refine BK [1,2,4,5,24,25,26,7,8] [(1,Ac k),(2,pt z),(Bi z),(BJ k n c),(BN b17 o18 y8),(BD y8),(26,Ac n),(BP n15),(8,pt b126)] ?_
       refine BX [0,1,2,3,5,4] [(Ak w),(BR z c),(BZ z),(Cc y24 n15),(Y4 y24 k n n125),(Zak y24 k n b126)] rfl rfl ?_
       exact hK ⟨(n129,n125,b126),by first | omega | (dsimp only;omega)⟩
      replace hn123:n15+1≤n122:=hn123
      refine NK (fun x:{p:Nat×Nat×Nat // n122≤p.1∧n122≤p.2.1∧n122≤p.2.2}=>[(1,Ac k),(2,pt z),(Bi z),(BJ k n c),(BN b17 o18 y8),(BD y8),(26,Ac n),(BP n15),(8,pt x.1.2.1),(QE y24 k n)]) (fun x=>⟨w,x.1.1,[(Ak w),(BR z c),(BZ z),(Cc y24 n15),(.blk x.1.2.1 (.cells #[i6 0,i6 0,i6 0] 111 (0,0)) true),(.blk x.1.2.2 (.cells #[i6 ((Af false 419 ⟨(k:Int),(n:Int)⟩).e),i6 ((Af false 419 ⟨(k:Int),(n:Int)⟩).Ag.First),i6 ((Af false 419 ⟨(k:Int),(n:Int)⟩).Ag.Second),i6 ((Af (win y24.AU 82 16384) 420 ⟨(k:Int),(n:Int)⟩).e),i6 ((Af (win y24.AU 82 16384) 420 ⟨(k:Int),(n:Int)⟩).Ag.First),i6 ((Af (win y24.AU 82 16384) 420 ⟨(k:Int),(n:Int)⟩).Ag.Second),i6 ((Af false 422 ⟨(k:Int),(n:Int)⟩).e),i6 ((Af false 422 ⟨(k:Int),(n:Int)⟩).Ag.First),i6 ((Af false 422 ⟨(k:Int),(n:Int)⟩).Ag.Second)] 111 (0,0)) true)]⟩) 1 (D7 36 1) ?_ (fun hv134 => ?_)
      ·rintro⟨⟨n131,b132,b133⟩,hb135⟩
       simp only at hb135
       show Wg _ _ [(1,Ac k),(2,pt z),(Bi z),(BJ k n c),(BN b17 o18 y8),(BD y8),(26,Ac n),(BP n15),(8,pt b132),(QE y24 k n)] _ ⟨w,n131,[(Ak w),(BR z c),(BZ z),(Cc y24 n15),(bk b132 #[i6 0,i6 0,i6 0] 111),(YE y24 k n b133)]⟩ _ _ _ _ _ _ _
       refine Bl 36 ?_
       refine BA (an 3 4) [1,2,4,5,24,25,26,7,8] [Qb b132,Qb b132,Qb b132] [(1,Ac k),(2,pt z),(Bi z),(BJ k n c),(BN b17 o18 y8),(BD y8),(26,Ac n),(BP n15),(8,pt b132)] ⟨w,n131,[(Ak w),(BR z c),(BZ z),(Cc y24 n15),(ZL y24 k n b132),(YE y24 k n b133)]⟩ [] ⟨rfl,rfl,rfl,Ae⟩ (.inl rfl) ?_
       refine DU 37 [0,1,2,3,4,5] [(Ak w),(BR z c),(BZ z),(Cc y24 n15),(ZL y24 k n b132),(YE y24 k n b133)] rfl rfl ?_
       refine CO ?_
       refine BK [1,2,4,5,24,25,26,7,8] [(1,Ac k),(2,pt z),(Bi z),(BJ k n c),(BN b17 o18 y8),(BD y8),(26,Ac n),(BP n15),(8,pt b132)] ?_
       refine BX [0,1,2,3,5,4] [(Ak w),(BR z c),(BZ z),(Cc y24 n15),(YE y24 k n b133),(ZL y24 k n b132)] rfl rfl ?_
       exact hK ⟨(n131,b133,b132),by first | omega | (dsimp only;omega)⟩
      refine NK (fun x:{p:Nat×Nat×Nat // n122≤p.1∧n122≤p.2.1∧n122≤p.2.2}=>[(1,Ac k),(2,pt z),(Bi z),(BJ k n c),(BN b17 o18 y8),(BD y8),(26,Ac n),(BP n15),(8,pt x.1.2.1),(64,.slice (some ⟨x.1.2.2,0,none⟩) 3 3)]) (fun x=>⟨w,x.1.1,[(Ak w),(BR z c),(BZ z),(Cc y24 n15),(.blk x.1.2.1 (.cells #[i6 0,i6 0,i6 0] 111 (0,0)) true),(.blk x.1.2.2 (.cells #[i6 ((Af false 419 ⟨(k:Int),(n:Int)⟩).e),i6 ((Af false 419 ⟨(k:Int),(n:Int)⟩).Ag.First),i6 ((Af false 419 ⟨(k:Int),(n:Int)⟩).Ag.Second),i6 ((Af (win y24.AU 82 16384) 420 ⟨(k:Int),(n:Int)⟩).e),i6 ((Af (win y24.AU 82 16384) 420 ⟨(k:Int),(n:Int)⟩).Ag.First),i6 ((Af (win y24.AU 82 16384) 420 ⟨(k:Int),(n:Int)⟩).Ag.Second),i6 ((Af false 422 ⟨(k:Int),(n:Int)⟩).e),i6 ((Af false 422 ⟨(k:Int),(n:Int)⟩).Ag.First),i6 ((Af false 422 ⟨(k:Int),(n:Int)⟩).Ag.Second)] 111 (0,0)) true)]⟩) 2 [true,true,true,true,true,true,true,true,true,true,true,true,true,true,true,true,true,true,true,true,true,true,true,true,true,true,true,true,true,true,true,true,true,true,false,true,false] ?_ (fun hv139 => ?_)
      ·rintro⟨⟨n136,b137,b138⟩,hb140⟩
       simp only at hb140
       show Wg _ _ [(1,Ac k),(2,pt z),(Bi z),(BJ k n c),(BN b17 o18 y8),(BD y8),(26,Ac n),(BP n15),(8,pt b137),(64,.slice (some ⟨b138,0,none⟩) 3 3)] _ ⟨w,n136,[(Ak w),(BR z c),(BZ z),(Cc y24 n15),(bk b137 #[i6 0,i6 0,i6 0] 111),(bk b138 #[i6 ((Af false 419 ⟨(k:Int),(n:Int)⟩).e),i6 ((Af false 419 ⟨(k:Int),(n:Int)⟩).Ag.First),i6 ((Af false 419 ⟨(k:Int),(n:Int)⟩).Ag.Second),i6 ((Af (win y24.AU 82 16384) 420 ⟨(k:Int),(n:Int)⟩).e),i6 ((Af (win y24.AU 82 16384) 420 ⟨(k:Int),(n:Int)⟩).Ag.First),i6 ((Af (win y24.AU 82 16384) 420 ⟨(k:Int),(n:Int)⟩).Ag.Second),i6 ((Af false 422 ⟨(k:Int),(n:Int)⟩).e),i6 ((Af false 422 ⟨(k:Int),(n:Int)⟩).Ag.First),i6 ((Af false 422 ⟨(k:Int),(n:Int)⟩).Ag.Second)] 111)]⟩ _ _ _ _ _ _ _
       refine Bl 34 ?_
       refine GX 91 #[.slice (some ⟨b138,0,none⟩) 3 3] (some 65) (.agg (Am.arr (AV [(Af false 419 ⟨(k:Int),(n:Int)⟩),(Af (win y24.AU 82 16384) 420 ⟨(k:Int),(n:Int)⟩),(Af false 422 ⟨(k:Int),(n:Int)⟩)]))) [1,2,4,5,24,25,26,7,8,65] [(1,Ac k),(2,pt z),(Bi z),(BJ k n c),(BN b17 o18 y8),(BD y8),(26,Ac n),(BP n15),(8,pt b137),(QE y24 k n)] [0,1,2,3] (fun w141 hw141=>D8 w141 (hL.ext (hw141.ext rfl)) ⟨some ⟨b138,0,none⟩,3,[(Af false 419 ⟨(k:Int),(n:Int)⟩),(Af (win y24.AU 82 16384) 420 ⟨(k:Int),(n:Int)⟩),(Af false 422 ⟨(k:Int),(n:Int)⟩)]⟩ (Ez hw141 (i:=5) [(Af false 419 ⟨(k:Int),(n:Int)⟩),(Af (win y24.AU 82 16384) 420 ⟨(k:Int),(n:Int)⟩),(Af false 422 ⟨(k:Int),(n:Int)⟩)]) (show 3≤1000 by decide)) (fun n142 hn143 => ?_)
       replace hn143:n136≤n142:=hn143
       refine Dw [1,2,4,5,24,25,26,7,8,65] [(1,Ac k),(2,pt z),(Bi z),(BJ k n c),(BN b17 o18 y8),(BD y8),(26,Ac n),(BP n15),(8,pt b137),(QE y24 k n)] ?_
       exact hv134 ⟨(n142,b137,b138),by first | omega | (dsimp only;omega)⟩
      refine Jk [33,35] ?_
      refine List.forall_mem_cons.2 ⟨?_,List.forall_mem_cons.2 ⟨?_,fun _ h=>absurd h List.not_mem_nil⟩⟩
      ·refine BA o0 [1,2,4,5,24,25,26,7,64] [] [(1,Ac k),(2,pt z),(Bi z),(BJ k n c),(BN b17 o18 y8),(BD y8),(26,Ac n),(BP n15),(64,.slice (some ⟨n122,0,none⟩) 3 3)] ⟨w,n122+1,[(Ak w),(BR z c),(BZ z),(Cc y24 n15),(Xb y24 k n n122)]⟩ [0,1,2,3] Ae (.inr rfl) ?_
       refine Jk [34,35] ?_
       refine List.forall_mem_cons.2 ⟨?_,List.forall_mem_cons.2 ⟨?_,fun _ h=>absurd h List.not_mem_nil⟩⟩
       ·refine GX 91 #[.slice (some ⟨n122,0,none⟩) 3 3] (some 65) (.agg (Am.arr (AV [(Af false 419 ⟨(k:Int),(n:Int)⟩),(Af (win y24.AU 82 16384) 420 ⟨(k:Int),(n:Int)⟩),(Af false 422 ⟨(k:Int),(n:Int)⟩)]))) [1,2,4,5,24,25,26,7,65] [(1,Ac k),(2,pt z),(Bi z),(BJ k n c),(BN b17 o18 y8),(BD y8),(26,Ac n),(BP n15),(QE y24 k n)] [0,1,2,3] (fun w144 hw144=>D8 w144 (hL.ext (hw144.ext rfl)) ⟨some ⟨n122,0,none⟩,3,[(Af false 419 ⟨(k:Int),(n:Int)⟩),(Af (win y24.AU 82 16384) 420 ⟨(k:Int),(n:Int)⟩),(Af false 422 ⟨(k:Int),(n:Int)⟩)]⟩ (Ez hw144 (i:=4) [(Af false 419 ⟨(k:Int),(n:Int)⟩),(Af (win y24.AU 82 16384) 420 ⟨(k:Int),(n:Int)⟩),(Af false 422 ⟨(k:Int),(n:Int)⟩)]) (show 3≤1000 by decide)) (fun n145 hn146 => ?_)
        replace hn146:n122+1≤n145:=hn146
        refine Bl 35 ?_
        refine BA o0 [1,2,4,5,24,25,26,7,65,8] [] [(1,Ac k),(2,pt z),(Bi z),(BJ k n c),(BN b17 o18 y8),(BD y8),(26,Ac n),(BP n15),(QE y24 k n),(8,pt n145)] ⟨w,n145+1,[(Ak w),(BR z c),(BZ z),(Cc y24 n15),(Xb y24 k n n122),(bk n145 #[i6 0,i6 0,i6 0] 111)]⟩ [0,1,2,3] Ae (.inr rfl) ?_
        refine LK [0,1,2,3,5,4] [(Ak w),(BR z c),(BZ z),(Cc y24 n15),(bk n145 #[i6 0,i6 0,i6 0] 111),(Xb y24 k n n122)] rfl rfl ?_
        refine Dw [1,2,4,5,24,25,26,7,8,65] [(1,Ac k),(2,pt z),(Bi z),(BJ k n c),(BN b17 o18 y8),(BD y8),(26,Ac n),(BP n15),(8,pt n145),(QE y24 k n)] ?_
        exact hv134 ⟨(n145+1,n145,n122),by first | omega | (dsimp only;omega)⟩
       refine BA o0 [1,2,4,5,24,25,26,7,64,8] [] [(1,Ac k),(2,pt z),(Bi z),(BJ k n c),(BN b17 o18 y8),(BD y8),(26,Ac n),(BP n15),(64,.slice (some ⟨n122,0,none⟩) 3 3),(8,pt (n122+1))] ⟨w,n122+2,[(Ak w),(BR z c),(BZ z),(Cc y24 n15),(Xb y24 k n n122),(bk (n122+1) #[i6 0,i6 0,i6 0] 111)]⟩ [0,1,2,3] Ae (.inr rfl) ?_
       refine LK [0,1,2,3,5,4] [(Ak w),(BR z c),(BZ z),(Cc y24 n15),(bk (n122+1) #[i6 0,i6 0,i6 0] 111),(Xb y24 k n n122)] rfl rfl ?_
       refine Dw [1,2,4,5,24,25,26,7,8,64] [(1,Ac k),(2,pt z),(Bi z),(BJ k n c),(BN b17 o18 y8),(BD y8),(26,Ac n),(BP n15),(8,pt (n122+1)),(64,.slice (some ⟨n122,0,none⟩) 3 3)] ?_
       exact hv139 ⟨(n122+2,n122+1,n122),by first | omega | (dsimp only;omega)⟩
      refine BA o0 [1,2,4,5,24,25,26,7,46,53,63,8] [] [(1,Ac k),(2,pt z),(Bi z),(BJ k n c),(BN b17 o18 y8),(BD y8),(26,Ac n),(BP n15),(QH k n),(KI y24 k n),(OM k n),(8,pt n122)] ⟨w,n122+1,[(Ak w),(BR z c),(BZ z),(Cc y24 n15),(bk n122 #[i6 0,i6 0,i6 0] 111)]⟩ [0,1,2,3] Ae (.inr rfl) ?_
      refine Dw [8,1,2,4,5,24,25,26,7,46,53,63] [(8,pt n122),(1,Ac k),(2,pt z),(Bi z),(BJ k n c),(BN b17 o18 y8),(BD y8),(26,Ac n),(BP n15),(QH k n),(KI y24 k n),(OM k n)] ?_
      exact hv124 ⟨(n122+1,n122),by first | omega | (dsimp only;omega)⟩
     rintro⟨⟨n110,b111,b112⟩,hJ147⟩
     simp only at hJ147
     show E _ _ [(1,Ac k),(2,pt z),(Bi z),(BJ k n c),(BN b17 o18 y8),(BD y8),(26,Ac n),(BP n15),(8,pt b112)] _ ⟨w,n110,[(Ak w),(BR z c),(BZ z),(Cc y24 n15),(bk b111 #[i6 ((Af false 419 ⟨(k:Int),(n:Int)⟩).e),i6 ((Af false 419 ⟨(k:Int),(n:Int)⟩).Ag.First),i6 ((Af false 419 ⟨(k:Int),(n:Int)⟩).Ag.Second),i6 ((Af (win y24.AU 82 16384) 420 ⟨(k:Int),(n:Int)⟩).e),i6 ((Af (win y24.AU 82 16384) 420 ⟨(k:Int),(n:Int)⟩).Ag.First),i6 ((Af (win y24.AU 82 16384) 420 ⟨(k:Int),(n:Int)⟩).Ag.Second),i6 ((Af false 422 ⟨(k:Int),(n:Int)⟩).e),i6 ((Af false 422 ⟨(k:Int),(n:Int)⟩).Ag.First),i6 ((Af false 422 ⟨(k:Int),(n:Int)⟩).Ag.Second)] 111),(Zw y24 k n b112)]⟩ _ _ _
     refine BX [0,1,2,3,5] [(Ak w),(BR z c),(BZ z),(Cc y24 n15),(Zw y24 k n b112)] rfl rfl ?_
     have e0:gd (DT c k).xs n=y24:=(by rw[hy24,hy8])
     have eA:F5 c k n=(AV [(Af false 419 ⟨(k:Int),(n:Int)⟩),(Af (win y24.AU 82 16384) 420 ⟨(k:Int),(n:Int)⟩),(Af false 422 ⟨(k:Int),(n:Int)⟩)]):=(by unfold F5 MP;simp only[e0];simp[h27,h109])
     refine BK [1,2,4,5,7,8,24,25,26] [(1,Ac k),(2,pt z),(Bi z),(BJ k n c),(BP n15),(8,pt b112),(BN b17 o18 y8),(BD y8),(26,Ac n)] ?_
     refine BO (fun a w' hs=>⟨n110,b112,by omega,(by(try dsimp only[Zw,BZ,Cc,BR,KI,OM,QH,Q9,BN,BD,Bi,Me,BJ,BP]at hs ⊢);rw[eA];exact hs)⟩)
    refine DX 36 [0,1,2,3] [(Ak w),(BR z c),(BZ z),(Cc y24 n15)] rfl rfl ?_
    refine CU [(0,o0),(1,(a1 3)),(2,o0),(3,(a1 1)),(4,o0),(5,(ov (i6 ((c.Aa.xs.length:Int) - 1)))),(12,o0),(13,o0),(16,o0),(17,(a1 3)),(19,o0),(20,o0),(23,(an 7 1)),(24,o0),(25,o0),(26,(a1 3)),(29,o0),(30,o0)] [1,2,4,5,24,25,26,7,32,36,43,44,48,50,51,54,55,57,60,61] [Qb n15,Qb z,Wr ((c.Aa.xs.length:Int) - 1) ((c.Aa.xs.length:Int) - 1),Qb n15,Qb z,Qb z,Qb z,Qb z,Qb z,Qb z,Qb z,Qb n15] [true,true,true,true,true,true,false,false,false,false,false,false,true,true,false,false,true,true,false,true,true,false,false,true,true,true,true,false,false,true,true,false,false,false,false,false,false] [(1,Ac k),(2,pt z),(Bi z),(BJ k n c),(BN b17 o18 y8),(BD y8),(26,Ac n),(BP n15),(32,i6 y24.Partition),(Q9 c),(43,Ac k),(44,Ac n),(48,i6 y24.AU),(50,Ac k),(51,Ac n),(54,.agg (Ai.arr c)),(55,Ac k),(57,i6 y24.Partition),(60,Ac k),(61,Ac n)] ⟨rfl,rfl,BQ,rfl,rfl,rfl,rfl,rfl,rfl,rfl,rfl,rfl,Ae⟩ ?_
    refine Qd (fun x:{p:Nat×Nat×Nat // n15+1≤p.1∧n15+1≤p.2.1∧n15+1≤p.2.2}=>([(1,Ac k),(2,pt z),(Bi z),(BJ k n c),(BN b17 o18 y8),(BD y8),(26,Ac n),(BP n15),(8,pt x.1.2.2)],⟨w,x.1.1,[(Ak w),(BR z c),(BZ z),(Cc y24 n15),(.blk x.1.2.1 (.cells #[i6 ((Af false 419 ⟨(k:Int),(n:Int)⟩).e),i6 ((Af false 419 ⟨(k:Int),(n:Int)⟩).Ag.First),i6 ((Af false 419 ⟨(k:Int),(n:Int)⟩).Ag.Second),i6 ((Af (win y24.AU 82 16384) 420 ⟨(k:Int),(n:Int)⟩).e),i6 ((Af (win y24.AU 82 16384) 420 ⟨(k:Int),(n:Int)⟩).Ag.First),i6 ((Af (win y24.AU 82 16384) 420 ⟨(k:Int),(n:Int)⟩).Ag.Second),i6 ((Af true 422 ⟨(k:Int),(n:Int)⟩).e),i6 ((Af true 422 ⟨(k:Int),(n:Int)⟩).Ag.First),i6 ((Af true 422 ⟨(k:Int),(n:Int)⟩).Ag.Second)] 111 (0,0)) true),(.blk x.1.2.2 (.cells (Am.arr (AV [(Af false 419 ⟨(k:Int),(n:Int)⟩),(Af (win y24.AU 82 16384) 420 ⟨(k:Int),(n:Int)⟩),(Af true 422 ⟨(k:Int),(n:Int)⟩)])) 111 (0,0)) true)]⟩)) (fun hK => ?_) ?_
    ·refine Pi 35 8 [.cl 6 (.bool (win y24.Partition (-1) ((c.Aa.xs.length:Int) - 1))),.tk 7 (ov (.bool false)),.tk 8 o0,.tk 9 o0,.tk 10 o0,.tk 11 o0,.cl 14 (.agg #[(Ac k),Ac n]),.cl 15 (.agg (Am.arr (Af false 419 ⟨(k:Int),(n:Int)⟩))),.cl 18 (.bool (win y24.AU 82 16384)),.cl 21 (.agg #[(Ac k),Ac n]),.cl 22 (.agg (Am.arr (Af (win y24.AU 82 16384) 420 ⟨(k:Int),(n:Int)⟩))),.cl 27 (.bool (Ik c k y24.Partition)),.tk 28 (ov (.bool true)),.cl 31 (.agg #[(Ac k),Ac n]),.cl 32 (.agg (Am.arr (Af true 422 ⟨(k:Int),(n:Int)⟩)))] [1,2,4,5,24,25,26,7,46,53,63] [(63,#[i6 y24.Partition,i6 (-1),i6 ((c.Aa.xs.length:Int) - 1)],.bool (win y24.Partition (-1) ((c.Aa.xs.length:Int) - 1))),(96,#[(Ac k),Ac n],.agg #[(Ac k),Ac n]),(62,#[.bool false,i6 419,.agg #[(Ac k),Ac n]],.agg (Am.arr (Af false 419 ⟨(k:Int),(n:Int)⟩))),(63,#[i6 y24.AU,i6 82,i6 16384],.bool (win y24.AU 82 16384)),(96,#[(Ac k),Ac n],.agg #[(Ac k),Ac n]),(62,#[.bool (win y24.AU 82 16384),i6 420,.agg #[(Ac k),Ac n]],.agg (Am.arr (Af (win y24.AU 82 16384) 420 ⟨(k:Int),(n:Int)⟩))),(98,#[.agg (Ai.arr c),Ac k,i6 y24.Partition],.bool (Ik c k y24.Partition)),(96,#[(Ac k),Ac n],.agg #[(Ac k),Ac n]),(62,#[.bool true,i6 422,.agg #[(Ac k),Ac n]],.agg (Am.arr (Af true 422 ⟨(k:Int),(n:Int)⟩)))] (D7 33 4) [Value.bool (win y24.Partition (-1) ((c.Aa.xs.length:Int) - 1))=Value.bool false,Value.bool (!(Ik c k y24.Partition))=Value.bool true] [(1,Ac k),(2,pt z),(Bi z),(BJ k n c),(BN b17 o18 y8),(BD y8),(26,Ac n),(BP n15),(QH k n),(KI y24 k n),(Qy k n)] (.cells #[i6 0,i6 0,i6 0] 111 (0,0)) [0,1,2,3] ⟨(congrArg Value.bool (Bool.eq_false_iff.2 h27)),by simp[h109],Ae⟩ ⟨fun w151 hw151=>BV w151 y24.Partition (-1) ((c.Aa.xs.length:Int) - 1),fun w152 hw152=>G5 w152 (k:Int) (n:Int),fun w153 hw153=>Bh w153 (hL.ext (hw153.ext rfl)) false 419 (k:Int) (n:Int),fun w154 hw154=>BV w154 y24.AU 82 16384,fun w155 hw155=>G5 w155 (k:Int) (n:Int),fun w156 hw156=>Bh w156 (hL.ext (hw156.ext rfl)) (win y24.AU 82 16384) 420 (k:Int) (n:Int),fun w157 hw157=>RZ w157 c (hc.ext (hw157.ext rfl) (fun _ h=>h)) k hk y24.Partition,fun w158 hw158=>G5 w158 (k:Int) (n:Int),fun w159 hw159=>Bh w159 (hL.ext (hw159.ext rfl)) true 422 (k:Int) (n:Int),Ae⟩ ?_ (fun hv162 n160 hn161 => ?_)
     ·rintro⟨⟨n163,b164⟩,hb165⟩
      simp only at hb165
      refine Bl 33 ?_
      refine BA o0 [8,1,2,4,5,24,25,26,7,64] [] [(8,pt b164),(1,Ac k),(2,pt z),(Bi z),(BJ k n c),(BN b17 o18 y8),(BD y8),(26,Ac n),(BP n15),(64,.slice (some ⟨n163,0,none⟩) 3 3)] ⟨w,n163+1,[(Ak w),(BR z c),(BZ z),(Cc y24 n15),(bk b164 #[i6 0,i6 0,i6 0] 111),(YL y24 k n n163)]⟩ [0,1,2,3] Ae (.inr rfl) ?_
      refine Bl 34 ?_
      refine GX 91 #[.slice (some ⟨n163,0,none⟩) 3 3] (some 65) (.agg (Am.arr (AV [(Af false 419 ⟨(k:Int),(n:Int)⟩),(Af (win y24.AU 82 16384) 420 ⟨(k:Int),(n:Int)⟩),(Af true 422 ⟨(k:Int),(n:Int)⟩)]))) [8,1,2,4,5,24,25,26,7,65] [(8,pt b164),(1,Ac k),(2,pt z),(Bi z),(BJ k n c),(BN b17 o18 y8),(BD y8),(26,Ac n),(BP n15),(Q8 y24 k n)] [0,1,2,3] (fun w166 hw166=>D8 w166 (hL.ext (hw166.ext rfl)) ⟨some ⟨n163,0,none⟩,3,[(Af false 419 ⟨(k:Int),(n:Int)⟩),(Af (win y24.AU 82 16384) 420 ⟨(k:Int),(n:Int)⟩),(Af true 422 ⟨(k:Int),(n:Int)⟩)]⟩ (Ez hw166 (i:=5) [(Af false 419 ⟨(k:Int),(n:Int)⟩),(Af (win y24.AU 82 16384) 420 ⟨(k:Int),(n:Int)⟩),(Af true 422 ⟨(k:Int),(n:Int)⟩)]) (show 3≤1000 by decide)) (fun n167 hn168 => ?_)
      replace hn168:n163+1≤n167:=hn168
      refine Bl 36 ?_
      refine BA (an 3 4) [8,1,2,4,5,24,25,26,7] [Qb b164,Qb b164,Qb b164] [(8,pt b164),(1,Ac k),(2,pt z),(Bi z),(BJ k n c),(BN b17 o18 y8),(BD y8),(26,Ac n),(BP n15)] ⟨w,n167,[(Ak w),(BR z c),(BZ z),(Cc y24 n15),(Zah y24 k n b164),(YL y24 k n n163)]⟩ [] ⟨rfl,rfl,rfl,Ae⟩ (.inl rfl) ?_
      refine DU 37 [0,1,2,3,4,5] [(Ak w),(BR z c),(BZ z),(Cc y24 n15),(Zah y24 k n b164),(YL y24 k n n163)] rfl rfl ?_
      refine CO ?_
      refine BK [1,2,4,5,24,25,26,7,8] [(1,Ac k),(2,pt z),(Bi z),(BJ k n c),(BN b17 o18 y8),(BD y8),(26,Ac n),(BP n15),(8,pt b164)] ?_
      refine BX [0,1,2,3,5,4] [(Ak w),(BR z c),(BZ z),(Cc y24 n15),(YL y24 k n n163),(Zah y24 k n b164)] rfl rfl ?_
      exact hK ⟨(n167,n163,b164),by first | omega | (dsimp only;omega)⟩
     replace hn161:n15+1≤n160:=hn161
     refine NK (fun x:{p:Nat×Nat×Nat // n160≤p.1∧n160≤p.2.1∧n160≤p.2.2}=>[(1,Ac k),(2,pt z),(Bi z),(BJ k n c),(BN b17 o18 y8),(BD y8),(26,Ac n),(BP n15),(8,pt x.1.2.1),(Q8 y24 k n)]) (fun x=>⟨w,x.1.1,[(Ak w),(BR z c),(BZ z),(Cc y24 n15),(.blk x.1.2.1 (.cells #[i6 0,i6 0,i6 0] 111 (0,0)) true),(.blk x.1.2.2 (.cells #[i6 ((Af false 419 ⟨(k:Int),(n:Int)⟩).e),i6 ((Af false 419 ⟨(k:Int),(n:Int)⟩).Ag.First),i6 ((Af false 419 ⟨(k:Int),(n:Int)⟩).Ag.Second),i6 ((Af (win y24.AU 82 16384) 420 ⟨(k:Int),(n:Int)⟩).e),i6 ((Af (win y24.AU 82 16384) 420 ⟨(k:Int),(n:Int)⟩).Ag.First),i6 ((Af (win y24.AU 82 16384) 420 ⟨(k:Int),(n:Int)⟩).Ag.Second),i6 ((Af true 422 ⟨(k:Int),(n:Int)⟩).e),i6 ((Af true 422 ⟨(k:Int),(n:Int)⟩).Ag.First),i6 ((Af true 422 ⟨(k:Int),(n:Int)⟩).Ag.Second)] 111 (0,0)) true)]⟩) 1 (D7 36 1) ?_ (fun hv172 => ?_)
     ·rintro⟨⟨n169,b170,b171⟩,hb173⟩
      simp only at hb173
      show Wg _ _ [(1,Ac k),(2,pt z),(Bi z),(BJ k n c),(BN b17 o18 y8),(BD y8),(26,Ac n),(BP n15),(8,pt b170),(Q8 y24 k n)] _ ⟨w,n169,[(Ak w),(BR z c),(BZ z),(Cc y24 n15),(bk b170 #[i6 0,i6 0,i6 0] 111),(XJ y24 k n b171)]⟩ _ _ _ _ _ _ _
      refine Bl 36 ?_
      refine BA (an 3 4) [1,2,4,5,24,25,26,7,8] [Qb b170,Qb b170,Qb b170] [(1,Ac k),(2,pt z),(Bi z),(BJ k n c),(BN b17 o18 y8),(BD y8),(26,Ac n),(BP n15),(8,pt b170)] ⟨w,n169,[(Ak w),(BR z c),(BZ z),(Cc y24 n15),(ZO y24 k n b170),(XJ y24 k n b171)]⟩ [] ⟨rfl,rfl,rfl,Ae⟩ (.inl rfl) ?_
      refine DU 37 [0,1,2,3,4,5] [(Ak w),(BR z c),(BZ z),(Cc y24 n15),(ZO y24 k n b170),(XJ y24 k n b171)] rfl rfl ?_
      refine CO ?_
      refine BK [1,2,4,5,24,25,26,7,8] [(1,Ac k),(2,pt z),(Bi z),(BJ k n c),(BN b17 o18 y8),(BD y8),(26,Ac n),(BP n15),(8,pt b170)] ?_
      refine BX [0,1,2,3,5,4] [(Ak w),(BR z c),(BZ z),(Cc y24 n15),(XJ y24 k n b171),(ZO y24 k n b170)] rfl rfl ?_
      exact hK ⟨(n169,b171,b170),by first | omega | (dsimp only;omega)⟩
     refine NK (fun x:{p:Nat×Nat×Nat // n160≤p.1∧n160≤p.2.1∧n160≤p.2.2}=>[(1,Ac k),(2,pt z),(Bi z),(BJ k n c),(BN b17 o18 y8),(BD y8),(26,Ac n),(BP n15),(8,pt x.1.2.1),(64,.slice (some ⟨x.1.2.2,0,none⟩) 3 3)]) (fun x=>⟨w,x.1.1,[(Ak w),(BR z c),(BZ z),(Cc y24 n15),(.blk x.1.2.1 (.cells #[i6 0,i6 0,i6 0] 111 (0,0)) true),(.blk x.1.2.2 (.cells #[i6 ((Af false 419 ⟨(k:Int),(n:Int)⟩).e),i6 ((Af false 419 ⟨(k:Int),(n:Int)⟩).Ag.First),i6 ((Af false 419 ⟨(k:Int),(n:Int)⟩).Ag.Second),i6 ((Af (win y24.AU 82 16384) 420 ⟨(k:Int),(n:Int)⟩).e),i6 ((Af (win y24.AU 82 16384) 420 ⟨(k:Int),(n:Int)⟩).Ag.First),i6 ((Af (win y24.AU 82 16384) 420 ⟨(k:Int),(n:Int)⟩).Ag.Second),i6 ((Af true 422 ⟨(k:Int),(n:Int)⟩).e),i6 ((Af true 422 ⟨(k:Int),(n:Int)⟩).Ag.First),i6 ((Af true 422 ⟨(k:Int),(n:Int)⟩).Ag.Second)] 111 (0,0)) true)]⟩) 2 [true,true,true,true,true,true,true,true,true,true,true,true,true,true,true,true,true,true,true,true,true,true,true,true,true,true,true,true,true,true,true,true,true,true,false,true,false] ?_ (fun hv177 => ?_)
     ·rintro⟨⟨n174,b175,b176⟩,hb178⟩
      simp only at hb178
      show Wg _ _ [(1,Ac k),(2,pt z),(Bi z),(BJ k n c),(BN b17 o18 y8),(BD y8),(26,Ac n),(BP n15),(8,pt b175),(64,.slice (some ⟨b176,0,none⟩) 3 3)] _ ⟨w,n174,[(Ak w),(BR z c),(BZ z),(Cc y24 n15),(bk b175 #[i6 0,i6 0,i6 0] 111),(bk b176 #[i6 ((Af false 419 ⟨(k:Int),(n:Int)⟩).e),i6 ((Af false 419 ⟨(k:Int),(n:Int)⟩).Ag.First),i6 ((Af false 419 ⟨(k:Int),(n:Int)⟩).Ag.Second),i6 ((Af (win y24.AU 82 16384) 420 ⟨(k:Int),(n:Int)⟩).e),i6 ((Af (win y24.AU 82 16384) 420 ⟨(k:Int),(n:Int)⟩).Ag.First),i6 ((Af (win y24.AU 82 16384) 420 ⟨(k:Int),(n:Int)⟩).Ag.Second),i6 ((Af true 422 ⟨(k:Int),(n:Int)⟩).e),i6 ((Af true 422 ⟨(k:Int),(n:Int)⟩).Ag.First),i6 ((Af true 422 ⟨(k:Int),(n:Int)⟩).Ag.Second)] 111)]⟩ _ _ _ _ _ _ _
      refine Bl 34 ?_
      refine GX 91 #[.slice (some ⟨b176,0,none⟩) 3 3] (some 65) (.agg (Am.arr (AV [(Af false 419 ⟨(k:Int),(n:Int)⟩),(Af (win y24.AU 82 16384) 420 ⟨(k:Int),(n:Int)⟩),(Af true 422 ⟨(k:Int),(n:Int)⟩)]))) [1,2,4,5,24,25,26,7,8,65] [(1,Ac k),(2,pt z),(Bi z),(BJ k n c),(BN b17 o18 y8),(BD y8),(26,Ac n),(BP n15),(8,pt b175),(Q8 y24 k n)] [0,1,2,3] (fun w179 hw179=>D8 w179 (hL.ext (hw179.ext rfl)) ⟨some ⟨b176,0,none⟩,3,[(Af false 419 ⟨(k:Int),(n:Int)⟩),(Af (win y24.AU 82 16384) 420 ⟨(k:Int),(n:Int)⟩),(Af true 422 ⟨(k:Int),(n:Int)⟩)]⟩ (Ez hw179 (i:=5) [(Af false 419 ⟨(k:Int),(n:Int)⟩),(Af (win y24.AU 82 16384) 420 ⟨(k:Int),(n:Int)⟩),(Af true 422 ⟨(k:Int),(n:Int)⟩)]) (show 3≤1000 by decide)) (fun n180 hn181 => ?_)
      replace hn181:n174≤n180:=hn181
      refine Dw [1,2,4,5,24,25,26,7,8,65] [(1,Ac k),(2,pt z),(Bi z),(BJ k n c),(BN b17 o18 y8),(BD y8),(26,Ac n),(BP n15),(8,pt b175),(Q8 y24 k n)] ?_
      exact hv172 ⟨(n180,b175,b176),by first | omega | (dsimp only;omega)⟩
     refine Jk [33,35] ?_
     refine List.forall_mem_cons.2 ⟨?_,List.forall_mem_cons.2 ⟨?_,fun _ h=>absurd h List.not_mem_nil⟩⟩
     ·refine BA o0 [1,2,4,5,24,25,26,7,64] [] [(1,Ac k),(2,pt z),(Bi z),(BJ k n c),(BN b17 o18 y8),(BD y8),(26,Ac n),(BP n15),(64,.slice (some ⟨n160,0,none⟩) 3 3)] ⟨w,n160+1,[(Ak w),(BR z c),(BZ z),(Cc y24 n15),(Vh y24 k n n160)]⟩ [0,1,2,3] Ae (.inr rfl) ?_
      refine Jk [34,35] ?_
      refine List.forall_mem_cons.2 ⟨?_,List.forall_mem_cons.2 ⟨?_,fun _ h=>absurd h List.not_mem_nil⟩⟩
      ·refine GX 91 #[.slice (some ⟨n160,0,none⟩) 3 3] (some 65) (.agg (Am.arr (AV [(Af false 419 ⟨(k:Int),(n:Int)⟩),(Af (win y24.AU 82 16384) 420 ⟨(k:Int),(n:Int)⟩),(Af true 422 ⟨(k:Int),(n:Int)⟩)]))) [1,2,4,5,24,25,26,7,65] [(1,Ac k),(2,pt z),(Bi z),(BJ k n c),(BN b17 o18 y8),(BD y8),(26,Ac n),(BP n15),(Q8 y24 k n)] [0,1,2,3] (fun w182 hw182=>D8 w182 (hL.ext (hw182.ext rfl)) ⟨some ⟨n160,0,none⟩,3,[(Af false 419 ⟨(k:Int),(n:Int)⟩),(Af (win y24.AU 82 16384) 420 ⟨(k:Int),(n:Int)⟩),(Af true 422 ⟨(k:Int),(n:Int)⟩)]⟩ (Ez hw182 (i:=4) [(Af false 419 ⟨(k:Int),(n:Int)⟩),(Af (win y24.AU 82 16384) 420 ⟨(k:Int),(n:Int)⟩),(Af true 422 ⟨(k:Int),(n:Int)⟩)]) (show 3≤1000 by decide)) (fun n183 hn184 => ?_)
       replace hn184:n160+1≤n183:=hn184
       refine Bl 35 ?_
       refine BA o0 [1,2,4,5,24,25,26,7,65,8] [] [(1,Ac k),(2,pt z),(Bi z),(BJ k n c),(BN b17 o18 y8),(BD y8),(26,Ac n),(BP n15),(Q8 y24 k n),(8,pt n183)] ⟨w,n183+1,[(Ak w),(BR z c),(BZ z),(Cc y24 n15),(Vh y24 k n n160),(bk n183 #[i6 0,i6 0,i6 0] 111)]⟩ [0,1,2,3] Ae (.inr rfl) ?_
       refine LK [0,1,2,3,5,4] [(Ak w),(BR z c),(BZ z),(Cc y24 n15),(bk n183 #[i6 0,i6 0,i6 0] 111),(Vh y24 k n n160)] rfl rfl ?_
       refine Dw [1,2,4,5,24,25,26,7,8,65] [(1,Ac k),(2,pt z),(Bi z),(BJ k n c),(BN b17 o18 y8),(BD y8),(26,Ac n),(BP n15),(8,pt n183),(Q8 y24 k n)] ?_
       exact hv172 ⟨(n183+1,n183,n160),by first | omega | (dsimp only;omega)⟩
      refine BA o0 [1,2,4,5,24,25,26,7,64,8] [] [(1,Ac k),(2,pt z),(Bi z),(BJ k n c),(BN b17 o18 y8),(BD y8),(26,Ac n),(BP n15),(64,.slice (some ⟨n160,0,none⟩) 3 3),(8,pt (n160+1))] ⟨w,n160+2,[(Ak w),(BR z c),(BZ z),(Cc y24 n15),(Vh y24 k n n160),(bk (n160+1) #[i6 0,i6 0,i6 0] 111)]⟩ [0,1,2,3] Ae (.inr rfl) ?_
      refine LK [0,1,2,3,5,4] [(Ak w),(BR z c),(BZ z),(Cc y24 n15),(bk (n160+1) #[i6 0,i6 0,i6 0] 111),(Vh y24 k n n160)] rfl rfl ?_
      refine Dw [1,2,4,5,24,25,26,7,8,64] [(1,Ac k),(2,pt z),(Bi z),(BJ k n c),(BN b17 o18 y8),(BD y8),(26,Ac n),(BP n15),(8,pt (n160+1)),(64,.slice (some ⟨n160,0,none⟩) 3 3)] ?_
      exact hv177 ⟨(n160+2,n160+1,n160),by first | omega | (dsimp only;omega)⟩
     refine BA o0 [1,2,4,5,24,25,26,7,46,53,63,8] [] [(1,Ac k),(2,pt z),(Bi z),(BJ k n c),(BN b17 o18 y8),(BD y8),(26,Ac n),(BP n15),(QH k n),(KI y24 k n),(Qy k n),(8,pt n160)] ⟨w,n160+1,[(Ak w),(BR z c),(BZ z),(Cc y24 n15),(bk n160 #[i6 0,i6 0,i6 0] 111)]⟩ [0,1,2,3] Ae (.inr rfl) ?_
     refine Dw [8,1,2,4,5,24,25,26,7,46,53,63] [(8,pt n160),(1,Ac k),(2,pt z),(Bi z),(BJ k n c),(BN b17 o18 y8),(BD y8),(26,Ac n),(BP n15),(QH k n),(KI y24 k n),(Qy k n)] ?_
     exact hv162 ⟨(n160+1,n160),by first | omega | (dsimp only;omega)⟩
    rintro⟨⟨n148,b149,b150⟩,hJ185⟩
    simp only at hJ185
    show E _ _ [(1,Ac k),(2,pt z),(Bi z),(BJ k n c),(BN b17 o18 y8),(BD y8),(26,Ac n),(BP n15),(8,pt b150)] _ ⟨w,n148,[(Ak w),(BR z c),(BZ z),(Cc y24 n15),(bk b149 #[i6 ((Af false 419 ⟨(k:Int),(n:Int)⟩).e),i6 ((Af false 419 ⟨(k:Int),(n:Int)⟩).Ag.First),i6 ((Af false 419 ⟨(k:Int),(n:Int)⟩).Ag.Second),i6 ((Af (win y24.AU 82 16384) 420 ⟨(k:Int),(n:Int)⟩).e),i6 ((Af (win y24.AU 82 16384) 420 ⟨(k:Int),(n:Int)⟩).Ag.First),i6 ((Af (win y24.AU 82 16384) 420 ⟨(k:Int),(n:Int)⟩).Ag.Second),i6 ((Af true 422 ⟨(k:Int),(n:Int)⟩).e),i6 ((Af true 422 ⟨(k:Int),(n:Int)⟩).Ag.First),i6 ((Af true 422 ⟨(k:Int),(n:Int)⟩).Ag.Second)] 111),(Zy y24 k n b150)]⟩ _ _ _
    refine BX [0,1,2,3,5] [(Ak w),(BR z c),(BZ z),(Cc y24 n15),(Zy y24 k n b150)] rfl rfl ?_
    have e0:gd (DT c k).xs n=y24:=(by rw[hy24,hy8])
    have eA:F5 c k n=(AV [(Af false 419 ⟨(k:Int),(n:Int)⟩),(Af (win y24.AU 82 16384) 420 ⟨(k:Int),(n:Int)⟩),(Af true 422 ⟨(k:Int),(n:Int)⟩)]):=(by unfold F5 MP;simp only[e0];simp[h27,h109])
    refine BK [1,2,4,5,7,8,24,25,26] [(1,Ac k),(2,pt z),(Bi z),(BJ k n c),(BP n15),(8,pt b150),(BN b17 o18 y8),(BD y8),(26,Ac n)] ?_
    refine BO (fun a w' hs=>⟨n148,b150,by omega,(by(try dsimp only[Zy,BZ,Cc,BR,KI,OM,QH,Qy,Q9,BN,BD,Bi,Me,BJ,BP]at hs ⊢);rw[eA];exact hs)⟩)
   rintro a w' ⟨n25,b8,hn26,hs⟩
   refine(?_:G Tryd.prog 85 [(1,Ac k),(2,pt z),(Bi z),(BJ k n c),(BP n15),(8,pt b8),(BN b17 o18 y8),(BD y8),(26,Ac n)] [] ⟨w,n25,[(Ak w),(BR z c),(BZ z),(Cc y24 n15),(bk b8 (Am.arr (F5 c k n)) 111)]⟩ _ _ _) a w' hs
   clear hs a w'
   refine CB <| CB ?_
   by_cases h186:(((F5 c k n).e:Int)==(0:Int)&&((((F5 c k n).Ag.First:Int)==(0:Int)&&(((F5 c k n).Ag.Second:Int)==(0:Int)&&true))&&true))=true
   ·have hbd0:=SN (G7.1 h186);rw[show gd (DT c k).xs n=y24 from(by rw[hy24,hy8])]at hbd0
    refine Au 12 0 [0] [[(an 3 4),(oa [.via 0 (i6 0),.via 0 (i6 0),.via 0 (i6 0)]),⟨.seq true,none⟩],[o0,o0,(a1 3),o0,(a1 3),(ov (i6 (y24.BM+y24.AU))),(ov (i6 ((sumW (DT c k).xs n)+(y24.BM+y24.AU)))),o0],[(ov (i6 ((n+1:Nat):Int))),o0]] [Qb b8,Qb b8,Qb b8,Old w 0 0 (i6 0),Old w 0 1 (i6 0),Old w 0 2 (i6 0),(((F5 c k n).e:Int)==(0:Int)&&((((F5 c k n).Ag.First:Int)==(0:Int)&&(((F5 c k n).Ag.Second:Int)==(0:Int)&&true))&&true))=true,Qb n15,Qb n15,Wr ((y24.BM:Int)+y24.AU) (y24.BM+y24.AU),Wr ((sumW (DT c k).xs n:Int)+(y24.BM+y24.AU)) ((sumW (DT c k).xs n)+(y24.BM+y24.AU)),Wr ((n:Int)+1) (((n+1:Nat):Int))] [(1,Ac k),(2,pt z),(Bi z),(5,i6 ((sumW (DT c k).xs n)+(y24.BM+y24.AU))),(BN b17 o18 y8),(BD y8),(26,i6 ((n+1:Nat):Int))] rfl ⟨rfl,rfl,rfl,Aw (hL.2 0 _ rfl),Aw (hL.2 1 _ rfl),Aw (hL.2 2 _ rfl),h186,rfl,rfl,BQ,BQ,BQ,Ae⟩ ?_
    refine BX [0,1,2] [(Ak w),(BR z c),(BZ z)] rfl rfl ?_
    have e0:gd (DT c k).xs n=y24:=(by rw[hy24,hy8])
    have hnn:=G7.1 h186
    have hbd:=SN hnn
    have eS:=sumW_succ (DT c k).xs n
    rw[e0]at hbd eS
    have hss:0≤sumW (DT c k).xs (n+1)∧sumW (DT c k).xs (n+1)≤((n+1:Nat):Int)*32768:=(by rw[eS];omega)
    refine GR [1,2,4,5,24,25,26] [(1,Ac k),(2,pt z),(Bi z),(5,i6 ((sumW (DT c k).xs n)+(y24.BM+y24.AU))),(Me y8),(BD y8),(26,i6 ((n+1:Nat):Int))] (by(try dsimp only[BZ,Cc,BR,BN,BD,Bi,Me,BJ,BP]);simp only[ha19];rfl) ?_
    refine BO (fun a w' hs=>⟨y8.xs.length - (n+1),by omega,n25,(n+1),rfl,by omega,by omega,EP hf hnn,hss,(by(try dsimp only[BZ,Cc,BR,BN,BD,Bi,Me,BJ,BP]at hs ⊢);rw[eS];exact hs)⟩)
   refine q_c 9 0 [1] [[(an 3 4),(oa [.via 0 (i6 0),.via 0 (i6 0),.via 0 (i6 0)]),⟨.seq false,none⟩],[(an 3 4),(an 3 2)]] [Qb b8,Qb b8,Qb b8,Old w 0 0 (i6 0),Old w 0 1 (i6 0),Old w 0 2 (i6 0),(((F5 c k n).e:Int)==(0:Int)&&((((F5 c k n).Ag.First:Int)==(0:Int)&&(((F5 c k n).Ag.Second:Int)==(0:Int)&&true))&&true))=false,Qb b8,Qb b8,Qb b8,Qb (z+1),Qb (z+1),Qb (z+1)] [(Bi z)] ⟨w,n25,[(Ak w),(BR z c),(bk (z+1) (Am.arr (F5 c k n)) 111),(Cc y24 n15),(bk b8 (Am.arr (F5 c k n)) 111)]⟩ rfl ⟨rfl,rfl,rfl,Aw (hL.2 0 _ rfl),Aw (hL.2 1 _ rfl),Aw (hL.2 2 _ rfl),(Bool.eq_false_iff.2 h186),rfl,rfl,rfl,rfl,rfl,rfl,Ae⟩ ?_
   refine Az [.at 2,.at 2,.at 2] [Qb (z+1),Qb (z+1),Qb (z+1)] (.agg #[i6 ((F5 c k n).e),i6 ((F5 c k n).Ag.First),i6 ((F5 c k n).Ag.Second)]) ⟨rfl,rfl,rfl,Ae⟩ ?_
   intro w187 hw187
   exact⟨congrArg (fun t=>Ending.returned (Value.agg (Am.arr t))) (UQ (by have e1:DT c k=y8:=hy8.symm;rw[e1];exact h12) hf (by have e1:DT c k=y8:=hy8.symm;rw[e1];omega) (fun e=>h186 (G7.2 e))).symm,AA hw187⟩
  refine Au 11 0 [0] [[oF]] [BF ((n:Int)<(y8.xs.length:Int))] [(1,Ac k),(2,pt z),(Bi z),(BJ k n c),(Me y8),(BD y8),(26,Ac n),(27,.bool false)] rfl ⟨bf,Ae⟩ ?_
  by_cases h188:(sumW (DT c k).xs n:Int)=c.Gs
  ·refine DX 7 [0,1,2] [(Ak w),(BR z c),(BZ z)] rfl rfl ?_
   refine KZ [.tk 0 o0,.tk 1 o0,.tk 2 (a1 1),.tk 3 oT,.tk 4 o0,.cl 5 (.agg #[(Ac k),i6 (-1)]),.cl 6 (.agg (Am.arr (Af true 421 ⟨(k:Int), -1⟩)))] [4,84] [(93,#[(Ac k)],.agg #[(Ac k),i6 (-1)]),(62,#[.bool true,i6 421,.agg #[(Ac k),i6 (-1)]],.agg (Am.arr (Af true 421 ⟨(k:Int), -1⟩)))] (D7 7 1) [Qb z,ET (sumW (DT c k).xs n) c.Gs] [(Bi z),(84,.agg (Am.arr (Af true 421 ⟨(k:Int), -1⟩)))] [0,1,2] ⟨rfl,et,Ae⟩ ⟨fun w189 hw189=>Dz w189 (k:Int),fun w190 hw190=>Bh w190 (hL.ext (hw190.ext rfl)) true 421 (k:Int) (-1),Ae⟩ (fun n191 hn192 => ?_)
   replace hn192:n15≤n191:=hn192
   refine Bl 7 ?_
   refine BA (an 3 2) [4] [Qb (z+1),Qb (z+1),Qb (z+1)] [(Bi z)] ⟨w,n191,[(Ak w),(BR z c),(.blk (z+1) (.cells (Am.arr (Af true 421 ⟨(k:Int), -1⟩)) 111 (0,0)) true)]⟩ [] ⟨rfl,rfl,rfl,Ae⟩ (.inl rfl) ?_
   refine DU 8 [0,1,2] [(Ak w),(BR z c),(.blk (z+1) (.cells (Am.arr (Af true 421 ⟨(k:Int), -1⟩)) 111 (0,0)) true)] rfl rfl ?_
   refine CO ?_
   refine BK [4] [(Bi z)] ?_
   refine GG <| Ku <| Az [.at 2,.at 2,.at 2] [Qb (z+1),Qb (z+1),Qb (z+1)] (.agg #[i6 ((Af true 421 ⟨(k:Int), -1⟩).e),i6 ((Af true 421 ⟨(k:Int), -1⟩).Ag.First),i6 ((Af true 421 ⟨(k:Int), -1⟩).Ag.Second)]) ⟨rfl,rfl,rfl,Ae⟩ ?_
   intro w193 hw193
   exact⟨congrArg (fun t=>Ending.returned (Value.agg (Am.arr t))) ((XV (by have e1:DT c k=y8:=hy8.symm;rw[e1];exact h12) hf (by have e1:DT c k=y8:=hy8.symm;rw[e1];omega)).trans (by first | rw[decide_eq_true (by assumption)] | rw[decide_eq_false (by assumption)])).symm,AA hw193⟩
  refine DX 7 [0,1,2] [(Ak w),(BR z c),(BZ z)] rfl rfl ?_
  refine KZ [.tk 0 o0,.tk 1 o0,.tk 2 (a1 1),.tk 3 oF,.tk 4 o0,.cl 5 (.agg #[(Ac k),i6 (-1)]),.cl 6 (.agg (Am.arr (Af false 421 ⟨(k:Int), -1⟩)))] [4,84] [(93,#[(Ac k)],.agg #[(Ac k),i6 (-1)]),(62,#[.bool false,i6 421,.agg #[(Ac k),i6 (-1)]],.agg (Am.arr (Af false 421 ⟨(k:Int), -1⟩)))] (D7 7 1) [Qb z,EF (sumW (DT c k).xs n) c.Gs] [(Bi z),(84,.agg (Am.arr (Af false 421 ⟨(k:Int), -1⟩)))] [0,1,2] ⟨rfl,ef,Ae⟩ ⟨fun w194 hw194=>Dz w194 (k:Int),fun w195 hw195=>Bh w195 (hL.ext (hw195.ext rfl)) false 421 (k:Int) (-1),Ae⟩ (fun n196 hn197 => ?_)
  replace hn197:n15≤n196:=hn197
  refine Bl 7 ?_
  refine BA (an 3 2) [4] [Qb (z+1),Qb (z+1),Qb (z+1)] [(Bi z)] ⟨w,n196,[(Ak w),(BR z c),(.blk (z+1) (.cells (Am.arr (Af false 421 ⟨(k:Int), -1⟩)) 111 (0,0)) true)]⟩ [] ⟨rfl,rfl,rfl,Ae⟩ (.inl rfl) ?_
  refine DU 8 [0,1,2] [(Ak w),(BR z c),(.blk (z+1) (.cells (Am.arr (Af false 421 ⟨(k:Int), -1⟩)) 111 (0,0)) true)] rfl rfl ?_
  refine CO ?_
  refine BK [4] [(Bi z)] ?_
  refine GG <| Ku <| Az [.at 2,.at 2,.at 2] [Qb (z+1),Qb (z+1),Qb (z+1)] (.agg #[i6 ((Af false 421 ⟨(k:Int), -1⟩).e),i6 ((Af false 421 ⟨(k:Int), -1⟩).Ag.First),i6 ((Af false 421 ⟨(k:Int), -1⟩).Ag.Second)]) ⟨rfl,rfl,rfl,Ae⟩ ?_
  intro w198 hw198
  exact⟨congrArg (fun t=>Ending.returned (Value.agg (Am.arr t))) ((XV (by have e1:DT c k=y8:=hy8.symm;rw[e1];exact h12) hf (by have e1:DT c k=y8:=hy8.symm;rw[e1];omega)).trans (by first | rw[decide_eq_true (by assumption)] | rw[decide_eq_false (by assumption)])).symm,AA hw198⟩
 have hd199:=FI h12
 refine Bq 5 1 [1] [[(ov (.bool true))],[o0]] [Value.bool (!(win (y8.xs.length:Int) 1 16))=Value.bool true] [(Bi z),(17,Ac k)] rfl ⟨by simp[h12],Ae⟩ ?_
 refine AY 93 #[(Ac k)] (some 18) (.agg #[(Ac k),i6 (-1)]) (fun w200 hw200=>Dz w200 (k:Int)) (fun n201 (hn202:n10≤n201) => ?_)
 refine F8 3 0 [] [[o0,(an 3 2)]] [Qb (z+1),Qb (z+1),Qb (z+1)] [(Bi z)] ⟨w,n201,[(Ak w),(BR z c),(bk (z+1) #[i6 418,Ac k,i6 (-1)] 111)]⟩ rfl ⟨rfl,rfl,rfl,Ae⟩ ?_
 refine Az [.at 2,.at 2,.at 2] [Qb (z+1),Qb (z+1),Qb (z+1)] (.agg #[i6 418,Ac k,i6 (-1)]) ⟨rfl,rfl,rfl,Ae⟩ ?_
 intro w203 hw203
 exact⟨congrArg (fun t=>Ending.returned (Value.agg (Am.arr t))) (coreQ_a (by have e1:DT c k=y8:=hy8.symm;rw[e1];exact h12)).symm,AA hw203⟩
end Go.Proofs.YtjdmhijaanmccaaDoor.Ad
namespace Go.Proofs.YtjdmhijaanmccaaDoor.Ly
open Go Go.Proofs.YtjdmhijaanmccaaDoor.Eng Go.Proofs.YtjdmhijaanmccaaDoor.Mem
set_option linter.unusedSimpArgs false
set_option linter.unusedVariables false
set_option maxRecDepth 100000
def Kw(g:BB):Bool:=decide (0≤g.Bg∧g.Bg≤256∧1≤g.AL∧g.AL≤256 - g.Bg)
def QL(n:Nat)(q:Ed):Bool:=decide (0≤q.Channel∧q.Channel<n)
def Ef(n:Nat)(x:Ar):Bool:=decide (x.Ah.xs.length≤8)&&decide (x.Ap.xs.length≤8)&&x.Ah.xs.all Kw&&x.Ap.xs.all (QL n)
theorem NP{α:Type}[Inhabited α]{p:α→Bool}{xs:List α}{k:Nat}(hk:k<xs.length)(h:p (gd xs k)=false):xs.all p=false:=by
 rw[List.all_eq_false]
 refine⟨xs[k],List.getElem_mem hk, ?_⟩
 rw[Gv hk]at h
 simpa using h
theorem UN{α:Type}[Inhabited α]{p:α→Bool}{xs:List α}(h:∀ i,i<xs.length→p (gd xs i)=true):xs.all p=true:=by
 rw[List.all_eq_true]
 intro y hy
 obtain⟨i,hi,rfl⟩:=List.getElem_of_mem hy
 have:=h i hi
 rwa [Gv hi]at this
theorem upto{p:Nat→Prop}{k:Nat}(h:∀ i,i<k→p i)(hk:p k):∀ i,i<k+1→p i:=fun i hi=>by
 by_cases e:i=k
 ·subst e;exact hk
 exact h i (by omega)
section
variable (z:Nat)(x:Ar)(c:Ai)(b8 o9:Nat)
abbrev KR:=bk (z+1) (Ar.arr x) 52
abbrev KU:=bk z (Ai.arr c) 26
abbrev O7:Dk:=(20,.slice (some ⟨b8,o9,none⟩) x.Ah.xs.length x.Ah.cap)
abbrev Nl:Dk:=(20,.slice x.Ah.a x.Ah.xs.length x.Ah.cap)
abbrev O5:Dk:=(49,.slice x.Ap.a x.Ap.xs.length x.Ap.cap)
abbrev KP:=(21,Ac x.Ah.xs.length)
abbrev MM:=(50,Ac x.Ap.xs.length)
abbrev KW:=(3,pt (z+1))
end
theorem QK(w:World)(c:Ai)(x:Ar)(hc:Ai.ok Any w c)(hx:Ar.ok Any w x):Calls Tryd.prog 76 #[.agg (Ai.arr c),.agg (Ar.arr x)] w fun e w'=>e = .returned (.bool (Ef c.Aj.xs.length x))∧CE (fun _=>False) w w':=by
 obtain⟨z,hz⟩:∃ z,z=w.heap.size:=⟨_,rfl⟩
 refine Cb (args:=[.agg (Ai.arr c),.agg (Ar.arr x)]) 67 ⟨w,z,[(Ak w)]⟩ Tryd.func76 rfl (by kernel_rfl) (by kernel_rfl) (Em hz) ?_
 refine DI [0,1] [(0,.agg (Ai.arr c)),(1,.agg (Ar.arr x))] ?_
 refine q_c 6 0 [] [[o0,o0,o0]] [] [(2,pt z),(KW z)] ⟨w,z+2,[(Ak w),(KU z c),(KR z x)]⟩ rfl Ae ?_
 by_cases h1:(8:Int)<(x.Ah.xs.length:Int)
 ·refine Au 9 0 [1] [[o0,(a1 2),o0,oT,o0,o0],[o0]] [Qb (z+1),BT ((x.Ah.xs.length:Int) > 8)] [(4,.bool false)] rfl ⟨rfl,bt,Ae⟩ ?_
  refine Az [] [] (.bool false) Ae ?_
  intro w2 hw2
  refine⟨congrArg (fun b=>Ending.returned (Value.bool b)) (Eq.symm (?_:Ef c.Aj.xs.length x=false)),AA hw2⟩
  unfold Ef
  first
   | (have e1:decide (x.Ah.xs.length≤8)=false:=decide_eq_false (by omega));simp[e1]
   | (have e1:decide (x.Ap.xs.length≤8)=false:=decide_eq_false (by omega));simp[e1]
 by_cases h3:(8:Int)<(x.Ap.xs.length:Int)
 ·refine Au 9 0 [1] [[o0,(a1 2),o0,oF,o0,o0,(a1 2),o0,oT,o0],[o0]] [Qb (z+1),BF ((x.Ah.xs.length:Int) > 8),Qb (z+1),BT ((x.Ap.xs.length:Int) > 8)] [(4,.bool false)] rfl ⟨rfl,bf,rfl,bt,Ae⟩ ?_
  refine Az [] [] (.bool false) Ae ?_
  intro w4 hw4
  refine⟨congrArg (fun b=>Ending.returned (Value.bool b)) (Eq.symm (?_:Ef c.Aj.xs.length x=false)),AA hw4⟩
  unfold Ef
  first
   | (have e1:decide (x.Ah.xs.length≤8)=false:=decide_eq_false (by omega));simp[e1]
   | (have e1:decide (x.Ap.xs.length≤8)=false:=decide_eq_false (by omega));simp[e1]
 refine Au 12 0 [0] [[o0,(a1 2),o0,oF,o0,o0,(a1 2),o0,oF,o0],[o0,(a1 2),o0,o0]] [Qb (z+1),BF ((x.Ah.xs.length:Int) > 8),Qb (z+1),BF ((x.Ap.xs.length:Int) > 8),Qb (z+1)] [(2,pt z),(KW z),(Nl x),(KP x),(22,i6 0)] rfl ⟨rfl,bf,rfl,bf,rfl,Ae⟩ ?_
 refine Du (fun m a w'=>∃ (n6:Nat) (k:Nat),m=x.Ah.xs.length - k∧z+2≤n6∧(k≤x.Ah.xs.length)∧(∀ i,i<k→Kw (gd x.Ah.xs i)=true)∧St 67 [(2,pt z),(KW z),(Nl x),(KP x),(22,Ac k)] [] ⟨w,n6,[(Ak w),(KU z c),(KR z x)]⟩ a w') (x.Ah.xs.length - 0) ?_ ?_
 ·intro a w' hs;exact⟨(z+2),0,rfl,Nat.le_refl _,Nat.zero_le _,fun i hi=>absurd hi (Nat.not_lt_zero i),hs⟩
 rintro m a w' ⟨n6,k,rfl,hn5,hkk,hr,hs⟩
 refine(?_:G Tryd.prog 67 [(2,pt z),(KW z),(Nl x),(KP x),(22,Ac k)] [] ⟨w,n6,[(Ak w),(KU z c),(KR z x)]⟩ _ _ _) a w' hs
 clear hs a w'
 refine CB ?_
 by_cases h7:(k:Int)<(x.Ah.xs.length:Int)
 ·refine Au 10 0 [1] [[oT]] [BT ((k:Int)<(x.Ah.xs.length:Int))] [(2,pt z),(KW z),(Nl x),(KP x),(22,Ac k),(23,.bool true)] rfl ⟨bt,Ae⟩ ?_
  obtain⟨b8,o9,ha10,hF12,hc11⟩:=(hx.Ah).1.all (show 0<x.Ah.xs.length by omega)
  replace ha10:x.Ah.a=some ⟨b8,o9,none⟩:=ha10
  refine LH [(2,pt z),(KW z),(O7 x b8 o9),(KP x),(22,Ac k),(23,.bool true)] (by(try dsimp only[KR,KU,O7,Nl,KP,KW]);simp only[ha10]) ?_
  have hc13:=hc11 k (show k<x.Ah.xs.length by omega)
  have he14:=(hx.Ah).2 k (show k<x.Ah.xs.length by omega)
  obtain⟨y15,hy15⟩:∃ y_,y_=gd x.Ah.xs k:=⟨_,rfl⟩
  rw[←hy15]at he14 hc13
  refine q_c 4 0 [] [[(oi k),(ol 0 (BB.arr y15)),o0,(an 4 3)]] [CW k,k<x.Ah.xs.length,Ce,GU w b8 (o9+k*4) (BB.arr y15),Qb n6,Qb n6,Qb n6,Qb n6] [(2,pt z),(KW z),(O7 x b8 o9),(KP x),(22,Ac k),(6,pt n6)] ⟨w,n6+1,[(Ak w),(KU z c),(KR z x),(bk n6 (BB.arr y15) 103)]⟩ rfl ⟨rfl,(by omega),rfl,Ei hc13,rfl,rfl,rfl,rfl,Ae⟩ ?_
  by_cases h16:(y15.Bg:Int)<0
  ·refine Au 9 0 [1] [[o0,(a1 3),oT,o0,o0,o0,o0,o0,o0],[o0]] [Qb n6,BT ((y15.Bg:Int)<0)] [(4,.bool false)] rfl ⟨rfl,bt,Ae⟩ ?_
   refine Az [] [] (.bool false) Ae ?_
   intro w17 hw17
   refine⟨congrArg (fun b=>Ending.returned (Value.bool b)) (Eq.symm (?_:Ef c.Aj.xs.length x=false)),AA hw17⟩
   unfold Ef
   have e1:x.Ah.xs.all Kw=false:=NP (k:=k) (by omega) (by rw[←hy15];exact decide_eq_false (by omega))
   simp[e1]
  by_cases h18:(256:Int)<y15.Bg
  ·refine Au 9 0 [1] [[o0,(a1 3),oF,o0,o0,(a1 3),oT,o0,o0,o0,o0,o0],[o0]] [Qb n6,BF ((y15.Bg:Int)<0),Qb n6,BT ((y15.Bg:Int) > 256)] [(4,.bool false)] rfl ⟨rfl,bf,rfl,bt,Ae⟩ ?_
   refine Az [] [] (.bool false) Ae ?_
   intro w19 hw19
   refine⟨congrArg (fun b=>Ending.returned (Value.bool b)) (Eq.symm (?_:Ef c.Aj.xs.length x=false)),AA hw19⟩
   unfold Ef
   have e1:x.Ah.xs.all Kw=false:=NP (k:=k) (by omega) (by rw[←hy15];exact decide_eq_false (by omega))
   simp[e1]
  by_cases h20:(y15.AL:Int)<1
  ·refine Au 9 0 [1] [[o0,(a1 3),oF,o0,o0,(a1 3),oF,o0,o0,o0,(a1 3),oT,o0,o0,o0],[o0]] [Qb n6,BF ((y15.Bg:Int)<0),Qb n6,BF ((y15.Bg:Int) > 256),Qb n6,BT ((y15.AL:Int)<1)] [(4,.bool false)] rfl ⟨rfl,bf,rfl,bf,rfl,bt,Ae⟩ ?_
   refine Az [] [] (.bool false) Ae ?_
   intro w21 hw21
   refine⟨congrArg (fun b=>Ending.returned (Value.bool b)) (Eq.symm (?_:Ef c.Aj.xs.length x=false)),AA hw21⟩
   unfold Ef
   have e1:x.Ah.xs.all Kw=false:=NP (k:=k) (by omega) (by rw[←hy15];exact decide_eq_false (by omega))
   simp[e1]
  by_cases h22:(256 - y15.Bg:Int)<y15.AL
  ·refine Au 9 0 [1] [[o0,(a1 3),oF,o0,o0,(a1 3),oF,o0,o0,o0,(a1 3),oF,o0,o0,o0,(a1 3),o0,(a1 3),(ov (i6 (256 - y15.Bg))),oT,o0],[o0]] [Qb n6,BF ((y15.Bg:Int)<0),Qb n6,BF ((y15.Bg:Int) > 256),Qb n6,BF ((y15.AL:Int)<1),Qb n6,Qb n6,Wr ((256:Int) - y15.Bg) (256 - y15.Bg),BT ((y15.AL:Int) > (256 - y15.Bg))] [(4,.bool false)] rfl ⟨rfl,bf,rfl,bf,rfl,bf,rfl,rfl,BQ,bt,Ae⟩ ?_
   refine Az [] [] (.bool false) Ae ?_
   intro w23 hw23
   refine⟨congrArg (fun b=>Ending.returned (Value.bool b)) (Eq.symm (?_:Ef c.Aj.xs.length x=false)),AA hw23⟩
   unfold Ef
   have e1:x.Ah.xs.all Kw=false:=NP (k:=k) (by omega) (by rw[←hy15];exact decide_eq_false (by omega))
   simp[e1]
  refine Au 9 0 [0] [[o0,(a1 3),oF,o0,o0,(a1 3),oF,o0,o0,o0,(a1 3),oF,o0,o0,o0,(a1 3),o0,(a1 3),(ov (i6 (256 - y15.Bg))),oF,o0],[(ov (i6 ((k+1:Nat):Int))),o0]] [Qb n6,BF ((y15.Bg:Int)<0),Qb n6,BF ((y15.Bg:Int) > 256),Qb n6,BF ((y15.AL:Int)<1),Qb n6,Qb n6,Wr ((256:Int) - y15.Bg) (256 - y15.Bg),BF ((y15.AL:Int) > (256 - y15.Bg)),Wr ((k:Int)+1) (((k+1:Nat):Int))] [(2,pt z),(KW z),(O7 x b8 o9),(KP x),(22,i6 ((k+1:Nat):Int))] rfl ⟨rfl,bf,rfl,bf,rfl,bf,rfl,rfl,BQ,bf,BQ,Ae⟩ ?_
  refine BX [0,1,2] [(Ak w),(KU z c),(KR z x)] rfl rfl ?_
  refine GR [2,3,20,21,22] [(2,pt z),(KW z),(Nl x),(KP x),(22,i6 ((k+1:Nat):Int))] (by(try dsimp only[KR,KU,O7,Nl,KP,KW]);simp only[ha10];rfl) ?_
  refine BO (fun a w' hs=>⟨x.Ah.xs.length - (k+1),by omega,(n6+1),(k+1),rfl,by omega,by omega,upto hr (by rw[←hy15];exact decide_eq_true (by omega)),hs⟩)
 refine Au 16 0 [0] [[oF],[o0,(a1 2),o0,o0]] [BF ((k:Int)<(x.Ah.xs.length:Int)),Qb (z+1)] [(2,pt z),(O5 x),(MM x),(51,i6 0)] rfl ⟨bf,rfl,Ae⟩ ?_
 refine Du (fun m a w'=>∃ (n25:Nat) (j:Nat),m=x.Ap.xs.length - j∧n6≤n25∧(j≤x.Ap.xs.length)∧(∀ i,i<j→QL c.Aj.xs.length (gd x.Ap.xs i)=true)∧St 67 [(2,pt z),(O5 x),(MM x),(51,Ac j)] [] ⟨w,n25,[(Ak w),(KU z c),(KR z x)]⟩ a w') (x.Ap.xs.length - 0) ?_ ?_
 ·intro a w' hs;exact⟨n6,0,rfl,Nat.le_refl _,Nat.zero_le _,fun i hi=>absurd hi (Nat.not_lt_zero i),hs⟩
 rintro m a w' ⟨n25,j,rfl,hn24,hkj,hp,hs⟩
 refine(?_:G Tryd.prog 67 [(2,pt z),(O5 x),(MM x),(51,Ac j)] [] ⟨w,n25,[(Ak w),(KU z c),(KR z x)]⟩ _ _ _) a w' hs
 clear hs a w'
 refine CB ?_
 by_cases h26:(j:Int)<(x.Ap.xs.length:Int)
 ·refine Au 10 0 [1] [[oT]] [BT ((j:Int)<(x.Ap.xs.length:Int))] [(2,pt z),(O5 x),(MM x),(51,Ac j),(52,.bool true)] rfl ⟨bt,Ae⟩ ?_
  obtain⟨b27,o28,ha29,hF31,hc30⟩:=(hx.Ap).1.all (show 0<x.Ap.xs.length by omega)
  replace ha29:x.Ap.a=some ⟨b27,o28,none⟩:=ha29
  refine LH [(2,pt z),(49,.slice (some ⟨b27,o28,none⟩) x.Ap.xs.length x.Ap.cap),(MM x),(51,Ac j),(52,.bool true)] (by(try dsimp only[KR,KU,O7,Nl,O5,KP,MM,KW]);simp only[ha29]) ?_
  have hc32:=hc30 j (show j<x.Ap.xs.length by omega)
  have he33:=(hx.Ap).2 j (show j<x.Ap.xs.length by omega)
  obtain⟨y34,hy34⟩:∃ y_,y_=gd x.Ap.xs j:=⟨_,rfl⟩
  rw[←hy34]at he33 hc32
  refine q_c 4 0 [] [[(oi j),(ol 0 (Ed.arr y34)),o0,(an 2 3)]] [CW j,j<x.Ap.xs.length,Ce,GU w b27 (o28+j*2) (Ed.arr y34),Qb n25,Qb n25] [(2,pt z),(49,.slice (some ⟨b27,o28,none⟩) x.Ap.xs.length x.Ap.cap),(MM x),(51,Ac j),(8,pt n25)] ⟨w,n25+1,[(Ak w),(KU z c),(KR z x),(bk n25 (Ed.arr y34) 127)]⟩ rfl ⟨rfl,(by omega),rfl,Ei hc32,rfl,rfl,Ae⟩ ?_
  by_cases h35:(y34.Channel:Int)<0
  ·refine Au 9 0 [1] [[o0,(a1 3),oT,o0,o0],[o0]] [Qb n25,BT ((y34.Channel:Int)<0)] [(4,.bool false)] rfl ⟨rfl,bt,Ae⟩ ?_
   refine Az [] [] (.bool false) Ae ?_
   intro w36 hw36
   refine⟨congrArg (fun b=>Ending.returned (Value.bool b)) (Eq.symm (?_:Ef c.Aj.xs.length x=false)),AA hw36⟩
   unfold Ef
   have e1:x.Ap.xs.all (QL c.Aj.xs.length)=false:=NP (k:=j) (by omega) (by rw[←hy34];exact decide_eq_false (by omega))
   simp[e1]
  by_cases h37:(y34.Channel:Int)<(c.Aj.xs.length:Int)
  ·refine Au 9 0 [0] [[o0,(a1 3),oF,o0,o0,(a1 3),o0,(a1 1),o0,oF,o0],[(ov (i6 ((j+1:Nat):Int))),o0]] [Qb n25,BF ((y34.Channel:Int)<0),Qb n25,Qb z,BF ((y34.Channel:Int)≥(c.Aj.xs.length:Int)),Wr ((j:Int)+1) (((j+1:Nat):Int))] [(2,pt z),(49,.slice (some ⟨b27,o28,none⟩) x.Ap.xs.length x.Ap.cap),(MM x),(51,i6 ((j+1:Nat):Int))] rfl ⟨rfl,bf,rfl,rfl,bf,BQ,Ae⟩ ?_
   refine BX [0,1,2] [(Ak w),(KU z c),(KR z x)] rfl rfl ?_
   refine GR [2,49,50,51] [(2,pt z),(O5 x),(MM x),(51,i6 ((j+1:Nat):Int))] (by(try dsimp only[KR,KU,Nl,O5,KP,MM,KW]);simp only[ha29];rfl) ?_
   refine BO (fun a w' hs=>⟨x.Ap.xs.length - (j+1),by omega,(n25+1),(j+1),rfl,by omega,by omega,upto hp (by rw[←hy34];exact decide_eq_true (by omega)),hs⟩)
  refine Au 9 0 [1] [[o0,(a1 3),oF,o0,o0,(a1 3),o0,(a1 1),o0,oT,o0],[o0]] [Qb n25,BF ((y34.Channel:Int)<0),Qb n25,Qb z,BT ((y34.Channel:Int)≥(c.Aj.xs.length:Int))] [(4,.bool false)] rfl ⟨rfl,bf,rfl,rfl,bt,Ae⟩ ?_
  refine Az [] [] (.bool false) Ae ?_
  intro w38 hw38
  refine⟨congrArg (fun b=>Ending.returned (Value.bool b)) (Eq.symm (?_:Ef c.Aj.xs.length x=false)),AA hw38⟩
  unfold Ef
  have e1:x.Ap.xs.all (QL c.Aj.xs.length)=false:=NP (k:=j) (by omega) (by rw[←hy34];exact decide_eq_false (by omega))
  simp[e1]
 refine Au 15 0 [0] [[oF],[o0]] [BF ((j:Int)<(x.Ap.xs.length:Int))] [(4,.bool true)] rfl ⟨bf,Ae⟩ ?_
 refine Az [] [] (.bool true) Ae ?_
 intro w39 hw39
 refine⟨congrArg (fun b=>Ending.returned (Value.bool b)) (Eq.symm (?_:Ef c.Aj.xs.length x=true)),AA hw39⟩
 have e1:x.Ah.xs.all Kw=true:=UN (fun i hi=>hr i (by omega))
 have e2:x.Ap.xs.all (QL c.Aj.xs.length)=true:=UN (fun i hi=>hp i (by omega))
 simp only[Ef,e1,e2,Bool.and_true,Bool.and_eq_true,decide_eq_true_eq]
 omega
def E5(h:AZ):Int:=if h.Words<1∨h.Words > 16 then 0 else if h.Kind=1 then h.Words else if h.Kind=2∧1≤h.Dx∧h.Dx≤8 then h.Dx*(1+h.Words)else 0
def BL(h:AZ):Int:=if E5 h=0 then 0 else if h.Kind=1 then 2+h.Words else 1+E5 h
def portOf(h:AZ):Int:=if E5 h=0 then 0 else 3+E5 h
theorem TJ(h:AZ):0≤E5 h∧E5 h≤136:=by
 unfold E5
 split
 ·omega
 split
 ·omega
 split
 ·rename_i h1 h2 h3
  have hd:h.Dx=1∨h.Dx=2∨h.Dx=3∨h.Dx=4∨h.Dx=5∨h.Dx=6∨h.Dx=7∨h.Dx=8:=by omega
  rcases hd with e | e | e | e | e | e | e | e <;> rw[e] <;> omega
 omega
theorem N8{h:AZ}(h1:h.Words<1∨h.Words > 16):E5 h=0:=by unfold E5;rw[if_pos h1]
theorem Sm{h:AZ}(h1:¬ h.Words<1)(h2:¬ 16<h.Words)(h3:h.Kind=1):E5 h=h.Words:=by unfold E5;rw[if_neg (by omega),if_pos h3]
theorem SE{h:AZ}(h1:¬ h.Words<1)(h2:¬ 16<h.Words)(h3:¬ h.Kind=1)(h4:h.Kind=2)(h5:1≤h.Dx)(h6:h.Dx≤8):E5 h=h.Dx*(1+h.Words):=by unfold E5;rw[if_neg (by omega),if_neg h3,if_pos ⟨h4,h5,h6⟩]
theorem Nr{h:AZ}(h1:¬ h.Words<1)(h2:¬ 16<h.Words)(h3:¬ h.Kind=1)(h4:¬ (h.Kind=2∧1≤h.Dx∧h.Dx≤8)):E5 h=0:=by unfold E5;rw[if_neg (by omega),if_neg h3,if_neg h4]
theorem body_w(h:AZ):E5 h=0∨(1≤h.Words∧h.Words≤16):=by
 unfold E5;split
 ·exact .inl rfl
 right;omega
theorem L6{h:AZ}(h1:E5 h=0):0=BL h:=by unfold BL;rw[if_pos h1]
theorem RH{h:AZ}(h1:¬ h.Words<1)(h2:¬ 16<h.Words)(h3:h.Kind=1):2+h.Words=BL h:=by unfold BL;rw[Sm h1 h2 h3,if_neg (by omega),if_pos h3]
theorem RQ{h:AZ}(h1:¬ h.Words<1)(h2:¬ 16<h.Words)(h3:¬ h.Kind=1)(h4:h.Kind=2)(h5:1≤h.Dx)(h6:h.Dx≤8):1+h.Dx*(1+h.Words)=BL h:=by
 unfold BL;rw[SE h1 h2 h3 h4 h5 h6,if_neg ?_,if_neg h3]
 have:=Int.mul_pos (show 0<h.Dx by omega) (show 0<1+h.Words by omega)
 omega
theorem NH(h:AZ):0≤BL h∧BL h≤137:=by
 have hb:=TJ h
 unfold BL
 split
 ·omega
 split
 ·rename_i h1 h2
  unfold E5 at h1
  split at h1
  ·exact absurd rfl h1
  omega
 omega
theorem TU(h:AZ):0≤portOf h∧portOf h≤139:=by
 have hb:=TJ h
 unfold portOf
 split <;> omega
theorem Lh(h:AZ):BL h=0↔portOf h=0:=by
 have hb:=TJ h
 unfold BL portOf
 split
 ·simp
 split
 ·rename_i h1 h2
  unfold E5 at h1 hb
  constructor
  ·intro e
   split at h1
   ·exact absurd rfl h1
   omega
  intro e;exfalso;unfold E5 at e;omega
 omega
theorem port_b{h:AZ}(h1:¬ BL h=0)(h2:h.Kind=1):BL h+1=portOf h:=by
 unfold BL portOf at *
 split at h1
 ·exact absurd rfl h1
 rename_i hb
 rw[if_neg hb,if_neg hb,if_pos h2]
 unfold E5 at hb ⊢
 split at hb
 ·exact absurd rfl hb
 rename_i h3
 rw[if_neg h3,if_pos h2];omega
theorem port_c{h:AZ}(h1:¬ BL h=0)(h2:¬ h.Kind=1):BL h+2=portOf h:=by
 unfold BL portOf at *
 split at h1
 ·exact absurd rfl h1
 rename_i hb
 rw[if_neg hb,if_neg hb,if_neg h2];omega
theorem PZ(w:World)(h:AZ)(hh:AZ.ok Any w h):Calls Tryd.prog 40 #[.agg (AZ.arr h)] w fun e w'=>e = .returned (.int .i64 (BL h))∧CE (fun _=>False) w w':=by
 obtain⟨z,hz⟩:∃ z,z=w.heap.size:=⟨_,rfl⟩
 refine Cb (args:=[.agg (AZ.arr h)]) 40 ⟨w,z,[(Ak w)]⟩ Tryd.func40 rfl (by kernel_rfl) (by kernel_rfl) (Em hz) ?_
 refine DI [0] [(0,.agg (AZ.arr h))] ?_
 refine q_c 7 0 [] [[o0,o0]] [] [(1,pt z)] ⟨w,z+1,[(Ak w),(bk z (AZ.arr h) 115)]⟩ rfl Ae ?_
 by_cases h1:(h.Words:Int)<1
 ·refine Au 9 0 [1] [[o0,(a1 1),oT,o0,o0,o0],[o0]] [Qb z,BT ((h.Words:Int)<1)] [(2,i6 0)] rfl ⟨rfl,bt,Ae⟩ ?_
  refine Az [] [] (i6 0) Ae ?_
  intro w2 hw2
  refine⟨congrArg (fun n=>Ending.returned (i6 n)) (?_:(0:Int)=BL h),AA hw2⟩
  first
   | exact L6 (N8 (by omega))
   | exact RH (by omega) (by omega) (by omega)
   | exact RQ (by omega) (by omega) (by omega) (by omega) (by omega) (by omega)
   | exact L6 (Nr (by omega) (by omega) (by omega) (by omega))
 by_cases h3:(16:Int)<h.Words
 ·refine Au 9 0 [1] [[o0,(a1 1),oF,o0,o0,(a1 1),oT,o0,o0],[o0]] [Qb z,BF ((h.Words:Int)<1),Qb z,BT ((h.Words:Int) > 16)] [(2,i6 0)] rfl ⟨rfl,bf,rfl,bt,Ae⟩ ?_
  refine Az [] [] (i6 0) Ae ?_
  intro w4 hw4
  refine⟨congrArg (fun n=>Ending.returned (i6 n)) (?_:(0:Int)=BL h),AA hw4⟩
  first
   | exact L6 (N8 (by omega))
   | exact RH (by omega) (by omega) (by omega)
   | exact RQ (by omega) (by omega) (by omega) (by omega) (by omega) (by omega)
   | exact L6 (Nr (by omega) (by omega) (by omega) (by omega))
 refine Au 5 0 [0] [[o0,(a1 1),oF,o0,o0,(a1 1),oF,o0,o0]] [Qb z,BF ((h.Words:Int)<1),Qb z,BF ((h.Words:Int) > 16)] [(1,pt z),(3,.bool false)] rfl ⟨rfl,bf,rfl,bf,Ae⟩ ?_
 by_cases h5:(h.Kind:Int)=1
 ·refine Au 9 0 [1] [[o0,(a1 1),oT,o0],[o0,(a1 1),(ov (i6 (2+h.Words))),o0]] [Qb z,ET h.Kind 1,Qb z,Wr ((2:Int)+h.Words) (2+h.Words)] [(2,i6 (2+h.Words))] rfl ⟨rfl,et,rfl,BQ,Ae⟩ ?_
  refine Az [] [] (i6 (2+h.Words)) Ae ?_
  intro w6 hw6
  refine⟨congrArg (fun n=>Ending.returned (i6 n)) (?_:(2+h.Words:Int)=BL h),AA hw6⟩
  first
   | exact L6 (N8 (by omega))
   | exact RH (by omega) (by omega) (by omega)
   | exact RQ (by omega) (by omega) (by omega) (by omega) (by omega) (by omega)
   | exact L6 (Nr (by omega) (by omega) (by omega) (by omega))
 refine Au 5 0 [0] [[o0,(a1 1),oF,o0]] [Qb z,EF h.Kind 1] [(1,pt z),(12,.bool false)] rfl ⟨rfl,ef,Ae⟩ ?_
 by_cases h7:(h.Kind:Int)=2
 ·by_cases h8:(h.Dx:Int)<1
  ·refine Au 12 0 [0] [[o0,(a1 1),oT,o0,o0,(a1 1),oF,o0,o0,o0,o0],[o0]] [Qb z,ET h.Kind 2,Qb z,BF ((h.Dx:Int)≥1)] [(2,i6 0)] rfl ⟨rfl,et,rfl,bf,Ae⟩ ?_
   refine Az [] [] (i6 0) Ae ?_
   intro w9 hw9
   refine⟨congrArg (fun n=>Ending.returned (i6 n)) (?_:(0:Int)=BL h),AA hw9⟩
   first
    | exact L6 (N8 (by omega))
    | exact RH (by omega) (by omega) (by omega)
    | exact RQ (by omega) (by omega) (by omega) (by omega) (by omega) (by omega)
    | exact L6 (Nr (by omega) (by omega) (by omega) (by omega))
  by_cases h10:(8:Int)<h.Dx
  ·refine Au 12 0 [0] [[o0,(a1 1),oT,o0,o0,(a1 1),oT,o0,o0,o0,(a1 1),oF,o0,o0],[o0]] [Qb z,ET h.Kind 2,Qb z,BT ((h.Dx:Int)≥1),Qb z,BF ((h.Dx:Int)≤8)] [(2,i6 0)] rfl ⟨rfl,et,rfl,bt,rfl,bf,Ae⟩ ?_
   refine Az [] [] (i6 0) Ae ?_
   intro w11 hw11
   refine⟨congrArg (fun n=>Ending.returned (i6 n)) (?_:(0:Int)=BL h),AA hw11⟩
   first
    | exact L6 (N8 (by omega))
    | exact RH (by omega) (by omega) (by omega)
    | exact RQ (by omega) (by omega) (by omega) (by omega) (by omega) (by omega)
    | exact L6 (Nr (by omega) (by omega) (by omega) (by omega))
  refine Au 6 0 [1] [[o0,(a1 1),oT,o0,o0,(a1 1),oT,o0,o0,o0,(a1 1),oT,o0,o0]] [Qb z,ET h.Kind 2,Qb z,BT ((h.Dx:Int)≥1),Qb z,BT ((h.Dx:Int)≤8)] [(1,pt z),(19,.bool true)] rfl ⟨rfl,et,rfl,bt,rfl,bt,Ae⟩ ?_
  have hm12:=mul_bd (a:=h.Dx) (b:=1+h.Words) (by omega) (by omega) (by omega) (by omega)
  refine Bq 3 0 [] [[o0,(a1 1),o0,(a1 1),(ov (i6 (1+h.Words))),(ov (i6 (h.Dx*(1+h.Words)))),(ov (i6 (1+(h.Dx*(1+h.Words))))),o0]] [Qb z,Qb z,Wr ((1:Int)+h.Words) (1+h.Words),Wr ((h.Dx:Int)*(1+h.Words)) (h.Dx*(1+h.Words)),Wr ((1:Int)+(h.Dx*(1+h.Words))) (1+(h.Dx*(1+h.Words)))] [(2,i6 (1+(h.Dx*(1+h.Words))))] rfl ⟨rfl,rfl,BQ,BQ,BQ,Ae⟩ ?_
  refine Az [] [] (i6 (1+(h.Dx*(1+h.Words)))) Ae ?_
  intro w13 hw13
  refine⟨congrArg (fun n=>Ending.returned (i6 n)) (?_:(1+(h.Dx*(1+h.Words)):Int)=BL h),AA hw13⟩
  first
   | exact L6 (N8 (by omega))
   | exact RH (by omega) (by omega) (by omega)
   | exact RQ (by omega) (by omega) (by omega) (by omega) (by omega) (by omega)
   | exact L6 (Nr (by omega) (by omega) (by omega) (by omega))
 refine Au 12 0 [0] [[o0,(a1 1),oF,o0,o0,o0,o0,o0],[o0]] [Qb z,EF h.Kind 2] [(2,i6 0)] rfl ⟨rfl,ef,Ae⟩ ?_
 refine Az [] [] (i6 0) Ae ?_
 intro w14 hw14
 refine⟨congrArg (fun n=>Ending.returned (i6 n)) (?_:(0:Int)=BL h),AA hw14⟩
 first
  | exact L6 (N8 (by omega))
  | exact RH (by omega) (by omega) (by omega)
  | exact RQ (by omega) (by omega) (by omega) (by omega) (by omega) (by omega)
  | exact L6 (Nr (by omega) (by omega) (by omega) (by omega))
theorem YV(w:World)(h:AZ)(hh:AZ.ok Any w h):Calls Tryd.prog 80 #[.agg (AZ.arr h)] w fun e w'=>e = .returned (.int .i64 (E5 h))∧CE (fun _=>False) w w':=by
 obtain⟨z,hz⟩:∃ z,z=w.heap.size:=⟨_,rfl⟩
 refine Cb (args:=[.agg (AZ.arr h)]) 35 ⟨w,z,[(Ak w)]⟩ Tryd.func80 rfl (by kernel_rfl) (by kernel_rfl) (Em hz) ?_
 refine DI [0] [(0,.agg (AZ.arr h))] ?_
 refine q_c 6 0 [] [[o0,o0]] [] [(1,pt z)] ⟨w,z+1,[(Ak w),(bk z (AZ.arr h) 115)]⟩ rfl Ae ?_
 by_cases h1:(h.Words:Int)<1
 ·refine Au 9 0 [1] [[o0,(a1 1),oT,o0,o0],[o0]] [Qb z,BT ((h.Words:Int)<1)] [(2,i6 0)] rfl ⟨rfl,bt,Ae⟩ ?_
  refine Az [] [] (i6 0) Ae ?_
  intro w2 hw2
  refine⟨congrArg (fun n=>Ending.returned (i6 n)) (?_:(0:Int)=E5 h),AA hw2⟩
  first
   | exact(N8 (by omega)).symm
   | exact(Sm (by omega) (by omega) (by omega)).symm
   | exact(SE (by omega) (by omega) (by omega) (by omega) (by omega) (by omega)).symm
   | exact(Nr (by omega) (by omega) (by omega) (by omega)).symm
 by_cases h3:(16:Int)<h.Words
 ·refine Au 9 0 [1] [[o0,(a1 1),oF,o0,o0,(a1 1),oT,o0],[o0]] [Qb z,BF ((h.Words:Int)<1),Qb z,BT ((h.Words:Int) > 16)] [(2,i6 0)] rfl ⟨rfl,bf,rfl,bt,Ae⟩ ?_
  refine Az [] [] (i6 0) Ae ?_
  intro w4 hw4
  refine⟨congrArg (fun n=>Ending.returned (i6 n)) (?_:(0:Int)=E5 h),AA hw4⟩
  first
   | exact(N8 (by omega)).symm
   | exact(Sm (by omega) (by omega) (by omega)).symm
   | exact(SE (by omega) (by omega) (by omega) (by omega) (by omega) (by omega)).symm
   | exact(Nr (by omega) (by omega) (by omega) (by omega)).symm
 refine Au 8 0 [0] [[o0,(a1 1),oF,o0,o0,(a1 1),oF,o0]] [Qb z,BF ((h.Words:Int)<1),Qb z,BF ((h.Words:Int) > 16)] [(1,pt z),(10,.bool false)] rfl ⟨rfl,bf,rfl,bf,Ae⟩ ?_
 by_cases h5:(h.Kind:Int)=1
 ·refine Au 9 0 [1] [[o0,(a1 1),oT],[o0,(a1 1),o0]] [Qb z,ET h.Kind 1,Qb z] [(2,i6 h.Words)] rfl ⟨rfl,et,rfl,Ae⟩ ?_
  refine Az [] [] (i6 h.Words) Ae ?_
  intro w6 hw6
  refine⟨congrArg (fun n=>Ending.returned (i6 n)) (?_:(h.Words:Int)=E5 h),AA hw6⟩
  first
   | exact(N8 (by omega)).symm
   | exact(Sm (by omega) (by omega) (by omega)).symm
   | exact(SE (by omega) (by omega) (by omega) (by omega) (by omega) (by omega)).symm
   | exact(Nr (by omega) (by omega) (by omega) (by omega)).symm
 refine Au 8 0 [0] [[o0,(a1 1),oF]] [Qb z,EF h.Kind 1] [(1,pt z),(13,.bool false)] rfl ⟨rfl,ef,Ae⟩ ?_
 by_cases h7:(h.Kind:Int)=2
 ·by_cases h8:(h.Dx:Int)<1
  ·refine Au 11 0 [0] [[o0,(a1 1),oT,o0,o0,(a1 1),oF,o0,o0,o0],[o0]] [Qb z,ET h.Kind 2,Qb z,BF ((h.Dx:Int)≥1)] [(2,i6 0)] rfl ⟨rfl,et,rfl,bf,Ae⟩ ?_
   refine Az [] [] (i6 0) Ae ?_
   intro w9 hw9
   refine⟨congrArg (fun n=>Ending.returned (i6 n)) (?_:(0:Int)=E5 h),AA hw9⟩
   first
    | exact(N8 (by omega)).symm
    | exact(Sm (by omega) (by omega) (by omega)).symm
    | exact(SE (by omega) (by omega) (by omega) (by omega) (by omega) (by omega)).symm
    | exact(Nr (by omega) (by omega) (by omega) (by omega)).symm
  by_cases h10:(8:Int)<h.Dx
  ·refine Au 11 0 [0] [[o0,(a1 1),oT,o0,o0,(a1 1),oT,o0,o0,o0,(a1 1),oF,o0],[o0]] [Qb z,ET h.Kind 2,Qb z,BT ((h.Dx:Int)≥1),Qb z,BF ((h.Dx:Int)≤8)] [(2,i6 0)] rfl ⟨rfl,et,rfl,bt,rfl,bf,Ae⟩ ?_
   refine Az [] [] (i6 0) Ae ?_
   intro w11 hw11
   refine⟨congrArg (fun n=>Ending.returned (i6 n)) (?_:(0:Int)=E5 h),AA hw11⟩
   first
    | exact(N8 (by omega)).symm
    | exact(Sm (by omega) (by omega) (by omega)).symm
    | exact(SE (by omega) (by omega) (by omega) (by omega) (by omega) (by omega)).symm
    | exact(Nr (by omega) (by omega) (by omega) (by omega)).symm
  refine Au 6 0 [1] [[o0,(a1 1),oT,o0,o0,(a1 1),oT,o0,o0,o0,(a1 1),oT,o0]] [Qb z,ET h.Kind 2,Qb z,BT ((h.Dx:Int)≥1),Qb z,BT ((h.Dx:Int)≤8)] [(1,pt z),(28,.bool true)] rfl ⟨rfl,et,rfl,bt,rfl,bt,Ae⟩ ?_
  have hm12:=mul_bd (a:=h.Dx) (b:=1+h.Words) (by omega) (by omega) (by omega) (by omega)
  refine Bq 3 0 [] [[o0,(a1 1),o0,(a1 1),(ov (i6 (1+h.Words))),(ov (i6 (h.Dx*(1+h.Words)))),o0]] [Qb z,Qb z,Wr ((1:Int)+h.Words) (1+h.Words),Wr ((h.Dx:Int)*(1+h.Words)) (h.Dx*(1+h.Words))] [(2,i6 (h.Dx*(1+h.Words)))] rfl ⟨rfl,rfl,BQ,BQ,Ae⟩ ?_
  refine Az [] [] (i6 (h.Dx*(1+h.Words))) Ae ?_
  intro w13 hw13
  refine⟨congrArg (fun n=>Ending.returned (i6 n)) (?_:(h.Dx*(1+h.Words):Int)=E5 h),AA hw13⟩
  first
   | exact(N8 (by omega)).symm
   | exact(Sm (by omega) (by omega) (by omega)).symm
   | exact(SE (by omega) (by omega) (by omega) (by omega) (by omega) (by omega)).symm
   | exact(Nr (by omega) (by omega) (by omega) (by omega)).symm
 refine Au 11 0 [0] [[o0,(a1 1),oF,o0,o0,o0,o0],[o0]] [Qb z,EF h.Kind 2] [(2,i6 0)] rfl ⟨rfl,ef,Ae⟩ ?_
 refine Az [] [] (i6 0) Ae ?_
 intro w14 hw14
 refine⟨congrArg (fun n=>Ending.returned (i6 n)) (?_:(0:Int)=E5 h),AA hw14⟩
 first
  | exact(N8 (by omega)).symm
  | exact(Sm (by omega) (by omega) (by omega)).symm
  | exact(SE (by omega) (by omega) (by omega) (by omega) (by omega) (by omega)).symm
  | exact(Nr (by omega) (by omega) (by omega) (by omega)).symm
theorem VY(w:World)(h:AZ)(hh:AZ.ok Any w h):Calls Tryd.prog 56 #[.agg (AZ.arr h)] w fun e w'=>e = .returned (.int .i64 (BL h))∧CE (fun _=>False) w w':=by
 obtain⟨z,hz⟩:∃ z,z=w.heap.size:=⟨_,rfl⟩
 refine Cb (args:=[.agg (AZ.arr h)]) 16 ⟨w,z,[(Ak w)]⟩ Tryd.func56 rfl (by kernel_rfl) (by kernel_rfl) (Em hz) ?_
 have hbd:=TJ h;have hsd:=NH h;have hwd:=body_w h
 refine DI [0] [(0,.agg (AZ.arr h))] ?_
 refine q_c 6 1 [] [[o0,o0],[(an 3 1)]] [Qb z,Qb z,Qb z] [(1,pt z),(4,.agg (AZ.arr h))] ⟨w,z+1,[(Ak w),(bk z (AZ.arr h) 115)]⟩ rfl ⟨rfl,rfl,rfl,Ae⟩ ?_
 refine AY 80 #[.agg (AZ.arr h)] (some 5) (i6 (E5 h)) (fun w1 hw1=>YV w1 h (hh.ext (hw1.ext rfl) (fun _ h=>h))) (fun n2 (hn3:z+1≤n2) => ?_)
 refine Bq 4 0 [] [[o0]] [] [(1,pt z),(3,i6 (E5 h))] rfl Ae ?_
 by_cases h4:(E5 h:Int)=0
 ·refine Au 9 0 [1] [[o0,oT],[o0]] [ET (E5 h) 0] [(2,i6 0)] rfl ⟨et,Ae⟩ ?_
  refine Az [] [] (i6 0) Ae ?_
  intro w5 hw5
  refine⟨congrArg (fun n=>Ending.returned (i6 n)) (?_:(0:Int)=BL h),AA hw5⟩
  unfold BL
  first
   | (rw[if_pos (by omega)])
   | (rw[if_neg (by omega),if_pos (by omega)])
   | (rw[if_neg (by omega),if_neg (by omega)])
 refine Au 8 0 [0] [[o0,oF]] [EF (E5 h) 0] [(1,pt z),(3,i6 (E5 h)),(7,.bool false)] rfl ⟨ef,Ae⟩ ?_
 by_cases h6:(h.Kind:Int)=1
 ·refine Au 9 0 [1] [[o0,(a1 1),oT],[o0,(a1 1),(ov (i6 (2+h.Words))),o0]] [Qb z,ET h.Kind 1,Qb z,Wr ((2:Int)+h.Words) (2+h.Words)] [(2,i6 (2+h.Words))] rfl ⟨rfl,et,rfl,BQ,Ae⟩ ?_
  refine Az [] [] (i6 (2+h.Words)) Ae ?_
  intro w7 hw7
  refine⟨congrArg (fun n=>Ending.returned (i6 n)) (?_:(2+h.Words:Int)=BL h),AA hw7⟩
  unfold BL
  first
   | (rw[if_pos (by omega)])
   | (rw[if_neg (by omega),if_pos (by omega)])
   | (rw[if_neg (by omega),if_neg (by omega)])
 refine Au 11 0 [0] [[o0,(a1 1),oF],[o0,(ov (i6 (1+(E5 h)))),o0]] [Qb z,EF h.Kind 1,Wr ((1:Int)+(E5 h)) (1+(E5 h))] [(2,i6 (1+(E5 h)))] rfl ⟨rfl,ef,BQ,Ae⟩ ?_
 refine Az [] [] (i6 (1+(E5 h))) Ae ?_
 intro w8 hw8
 refine⟨congrArg (fun n=>Ending.returned (i6 n)) (?_:(1+(E5 h):Int)=BL h),AA hw8⟩
 unfold BL
 first
  | (rw[if_pos (by omega)])
  | (rw[if_neg (by omega),if_pos (by omega)])
  | (rw[if_neg (by omega),if_neg (by omega)])
theorem UF(w:World)(h:AZ)(hh:AZ.ok Any w h):Calls Tryd.prog 54 #[.agg (AZ.arr h)] w fun e w'=>e = .returned (.int .i64 (portOf h))∧CE (fun _=>False) w w':=by
 obtain⟨z,hz⟩:∃ z,z=w.heap.size:=⟨_,rfl⟩
 refine Cb (args:=[.agg (AZ.arr h)]) 10 ⟨w,z,[(Ak w)]⟩ Tryd.func54 rfl (by kernel_rfl) (by kernel_rfl) (Em hz) ?_
 have hbd:=TJ h;have hsd:=NH h;have hwd:=body_w h
 refine DI [0] [(0,.agg (AZ.arr h))] ?_
 refine q_c 6 1 [] [[o0,o0],[(an 3 1)]] [Qb z,Qb z,Qb z] [(4,.agg (AZ.arr h))] ⟨w,z+1,[(Ak w),(bk z (AZ.arr h) 115)]⟩ rfl ⟨rfl,rfl,rfl,Ae⟩ ?_
 refine AY 80 #[.agg (AZ.arr h)] (some 5) (i6 (E5 h)) (fun w1 hw1=>YV w1 h (hh.ext (hw1.ext rfl) (fun _ h=>h))) (fun n2 (hn3:z+1≤n2) => ?_)
 refine Bq 4 0 [] [[o0]] [] [(3,i6 (E5 h))] rfl Ae ?_
 by_cases h4:(E5 h:Int)=0
 ·refine Au 9 0 [1] [[o0,oT],[o0]] [ET (E5 h) 0] [(2,i6 0)] rfl ⟨et,Ae⟩ ?_
  refine Az [] [] (i6 0) Ae ?_
  intro w5 hw5
  refine⟨congrArg (fun n=>Ending.returned (i6 n)) (?_:(0:Int)=portOf h),AA hw5⟩
  unfold portOf
  first
   | (rw[if_pos (by omega)])
   | (rw[if_neg (by omega)])
 refine Au 11 0 [0] [[o0,oF],[o0,(ov (i6 (3+(E5 h)))),o0]] [EF (E5 h) 0,Wr ((3:Int)+(E5 h)) (3+(E5 h))] [(2,i6 (3+(E5 h)))] rfl ⟨ef,BQ,Ae⟩ ?_
 refine Az [] [] (i6 (3+(E5 h))) Ae ?_
 intro w6 hw6
 refine⟨congrArg (fun n=>Ending.returned (i6 n)) (?_:(3+(E5 h):Int)=portOf h),AA hw6⟩
 unfold portOf
 first
  | (rw[if_pos (by omega)])
  | (rw[if_neg (by omega)])
theorem port_calls(w:World)(h:AZ)(hh:AZ.ok Any w h):Calls Tryd.prog 41 #[.agg (AZ.arr h)] w fun e w'=>e = .returned (.int .i64 (portOf h))∧CE (fun _=>False) w w':=by
 obtain⟨z,hz⟩:∃ z,z=w.heap.size:=⟨_,rfl⟩
 refine Cb (args:=[.agg (AZ.arr h)]) 17 ⟨w,z,[(Ak w)]⟩ Tryd.func41 rfl (by kernel_rfl) (by kernel_rfl) (Em hz) ?_
 have hbd:=TJ h;have hsd:=NH h;have hwd:=body_w h;have hsp:=Lh h
 refine DI [0] [(0,.agg (AZ.arr h))] ?_
 refine q_c 6 1 [] [[o0,o0],[(an 3 1)]] [Qb z,Qb z,Qb z] [(1,pt z),(4,.agg (AZ.arr h))] ⟨w,z+1,[(Ak w),(bk z (AZ.arr h) 115)]⟩ rfl ⟨rfl,rfl,rfl,Ae⟩ ?_
 refine AY 40 #[.agg (AZ.arr h)] (some 5) (i6 (BL h)) (fun w1 hw1=>PZ w1 h (hh.ext (hw1.ext rfl) (fun _ h=>h))) (fun n2 (hn3:z+1≤n2) => ?_)
 refine Bq 4 0 [] [[o0]] [] [(1,pt z),(3,i6 (BL h))] rfl Ae ?_
 by_cases h4:(BL h:Int)=0
 ·refine Au 9 0 [1] [[o0,oT,o0],[o0]] [ET (BL h) 0] [(2,i6 0)] rfl ⟨et,Ae⟩ ?_
  refine Az [] [] (i6 0) Ae ?_
  intro w5 hw5
  refine⟨congrArg (fun n=>Ending.returned (i6 n)) (?_:(0:Int)=portOf h),AA hw5⟩
  first
   | (have:=hsp.1 (by omega);omega)
   | exact port_b (by omega) (by omega)
   | exact port_c (by omega) (by omega)
 refine Au 5 0 [0] [[o0,oF,o0]] [EF (BL h) 0] [(1,pt z),(3,i6 (BL h)),(8,.bool false)] rfl ⟨ef,Ae⟩ ?_
 by_cases h6:(h.Kind:Int)=1
 ·refine Au 9 0 [1] [[o0,(a1 1),oT,o0],[o0,(ov (i6 ((BL h)+1))),o0]] [Qb z,ET h.Kind 1,Wr ((BL h:Int)+1) ((BL h)+1)] [(2,i6 ((BL h)+1))] rfl ⟨rfl,et,BQ,Ae⟩ ?_
  refine Az [] [] (i6 ((BL h)+1)) Ae ?_
  intro w7 hw7
  refine⟨congrArg (fun n=>Ending.returned (i6 n)) (?_:((BL h)+1:Int)=portOf h),AA hw7⟩
  first
   | (have:=hsp.1 (by omega);omega)
   | exact port_b (by omega) (by omega)
   | exact port_c (by omega) (by omega)
 refine Au 9 0 [0] [[o0,(a1 1),oF,o0],[o0,(ov (i6 ((BL h)+2))),o0]] [Qb z,EF h.Kind 1,Wr ((BL h:Int)+2) ((BL h)+2)] [(2,i6 ((BL h)+2))] rfl ⟨rfl,ef,BQ,Ae⟩ ?_
 refine Az [] [] (i6 ((BL h)+2)) Ae ?_
 intro w8 hw8
 refine⟨congrArg (fun n=>Ending.returned (i6 n)) (?_:((BL h)+2:Int)=portOf h),AA hw8⟩
 first
  | (have:=hsp.1 (by omega);omega)
  | exact port_b (by omega) (by omega)
  | exact port_c (by omega) (by omega)
theorem take_snoc{α:Type}[Inhabited α]{xs:List α}{k:Nat}(h:k<xs.length):xs.take (k+1)=xs.take k++[gd xs k]:=by
 rw[List.take_succ_eq_append_getElem h,Gv h]
def IW(k:Int)(b:Bool)(q:Ed):Bool:=decide (q.Channel=k)&&(q.Source==b)
def DL(x:Ar)(k:Int)(b:Bool):Nat:=x.Ap.xs.countP (IW k b)
theorem Xk{q:Ed}{k:Int}{b:Bool}(h1:q.Channel=k)(h2:q.Source=b):IW k b q=true:=by simp[IW,h1,h2]
theorem Wl{q:Ed}{k:Int}{b:Bool}(h1:¬ q.Channel=k):IW k b q=false:=by simp[IW,h1]
theorem UO{q:Ed}{k:Int}{b:Bool}(h2:¬ q.Source=b):IW k b q=false:=by simp[IW,h2]
theorem cnt_yes{xs:List Ed}{p:Ed→Bool}{j:Nat}(h:j<xs.length)(hp:p (gd xs j)=true):(xs.take (j+1)).countP p=(xs.take j).countP p+1:=by
 rw[take_snoc h,List.countP_append];simp only[List.countP_singleton,hp,if_true]
theorem cnt_no{xs:List Ed}{p:Ed→Bool}{j:Nat}(h:j<xs.length)(hp:p (gd xs j)=false):(xs.take (j+1)).countP p=(xs.take j).countP p:=by
 rw[take_snoc h,List.countP_append];simp[List.countP_singleton,hp]
theorem cnt_le{xs:List Ed}{p:Ed→Bool}{j:Nat}:(xs.take j).countP p≤j:=Nat.le_trans List.countP_le_length (by rw[List.length_take];omega)
def Gn{α:Type}(f:α→Nat)(xs:List α)(i:Nat):Nat:=((xs.take i).map f).sum
theorem Qq{α:Type}[Inhabited α]{f:α→Nat}{xs:List α}{i:Nat}(h:i<xs.length):Gn f xs (i+1)=Gn f xs i+f (gd xs i):=by
 unfold Gn;rw[take_snoc h];simp
theorem V5{α:Type}[Inhabited α]{f:α→Nat}{xs:List α}{B:Nat}(hf:∀ i,i<xs.length→f (gd xs i)≤B):∀ (i:Nat),i≤xs.length→Gn f xs i≤B*i
 | 0,_=>by simp[Gn]
 | i+1,h=>by
  have:=V5 hf i (by omega)
  have h2:=hf i (by omega)
  rw[Qq (by omega),Nat.mul_succ];omega
def Ju(c:Ai)(k:Nat)(b:Bool):Nat:=Gn (fun x=>DL x k b) c.Aa.xs c.Aa.xs.length
def Oy(c:Ai)(k:Nat):Bool:=decide (portOf (gd c.Aj.xs k)≠0) && !(decide ((gd c.Aj.xs k).Kind=1)&&decide ((gd c.Aj.xs k).Dx≠0))&&decide (Ju c k true=1)&&decide (1≤Ju c k false∧Ju c k false≤4)
def Ej(c:Ai):Bool:=decide (0≤c.Kernel∧c.Kernel<1024)&&decide (c.Aa.xs.length≤8)&&decide (c.Aj.xs.length≤16)&&c.Aa.xs.all (Ef c.Aj.xs.length)&&(List.range c.Aj.xs.length).all (Oy c)
theorem Pj{c:Ai}(h:¬ (0≤c.Kernel∧c.Kernel<1024)∨8<c.Aa.xs.length∨16<c.Aj.xs.length):Ej c=false:=by
 unfold Ej
 rcases h with h | h | h
 ·rw[decide_eq_false h];rfl
 ·rw[decide_eq_false (show ¬ c.Aa.xs.length≤8 by omega)];simp
 rw[decide_eq_false (show ¬ c.Aj.xs.length≤16 by omega)];simp
theorem conf_no2{c:Ai}{k:Nat}(hk:k<c.Aa.xs.length)(h:Ef c.Aj.xs.length (gd c.Aa.xs k)=false):Ej c=false:=by
 unfold Ej
 rw[NP hk h];simp
theorem J4{c:Ai}{k:Nat}(hk:k<c.Aj.xs.length)(h:Oy c k=false):Ej c=false:=by
 unfold Ej
 have:(List.range c.Aj.xs.length).all (Oy c)=false:=by
  rw[List.all_eq_false];exact⟨k,List.mem_range.2 hk,by simp[h]⟩
 rw[this];simp
theorem conf_yes{c:Ai}(h1:0≤c.Kernel∧c.Kernel<1024)(h2:c.Aa.xs.length≤8)(h3:c.Aj.xs.length≤16)(h4:∀ i,i<c.Aa.xs.length→Ef c.Aj.xs.length (gd c.Aa.xs i)=true)(h5:∀ i,i<c.Aj.xs.length→Oy c i=true):Ej c=true:=by
 unfold Ej
 rw[decide_eq_true h1,decide_eq_true h2,decide_eq_true h3,UN h4]
 simp only[Bool.and_true,Bool.true_and,List.all_eq_true,List.mem_range]
 exact h5
theorem Ol{n:Nat}{x:Ar}(h:Ef n x=true):x.Ap.xs.length≤8:=by
 unfold Ef at h;simp only[Bool.and_eq_true,decide_eq_true_eq]at h;exact h.1.1.2
theorem part_regs{n:Nat}{x:Ar}(h:Ef n x=true):x.Ah.xs.length≤8∧x.Ah.xs.all Kw=true:=by
 unfold Ef at h;simp only[Bool.and_eq_true,decide_eq_true_eq]at h;exact⟨h.1.1.1,h.1.2⟩
theorem Po{n:Nat}{x:Ar}(h:Ef n x=true)(k:Int)(b:Bool):DL x k b≤8:=Nat.le_trans List.countP_le_length (Ol h)
theorem KC{c:Ai}{k:Nat}(h:portOf (gd c.Aj.xs k)=0∨((gd c.Aj.xs k).Kind=1∧(gd c.Aj.xs k).Dx≠0)∨Ju c k true≠1∨Ju c k false<1∨4<Ju c k false):Oy c k=false:=by
 unfold Oy
 rcases h with h | ⟨h,h'⟩ | h | h | h
 ·simp[h]
 ·simp[h,h']
 ·simp[h]
 ·rw[decide_eq_false (show ¬ (1≤Ju c k false∧Ju c k false≤4)by omega)];simp
 rw[decide_eq_false (show ¬ (1≤Ju c k false∧Ju c k false≤4)by omega)];simp
theorem VS{c:Ai}{k:Nat}(h1:¬ portOf (gd c.Aj.xs k)=0)(h2:¬ ((gd c.Aj.xs k).Kind=1∧¬ (gd c.Aj.xs k).Dx=0))(h3:Ju c k true=1)(h4:1≤Ju c k false∧Ju c k false≤4):Oy c k=true:=by
 unfold Oy
 rw[decide_eq_true h3,decide_eq_true h4]
 simp[h1]
 by_cases e:(gd c.Aj.xs k).Kind=1
 ·exact .inr (Classical.not_not.1 (fun e2=>h2 ⟨e,e2⟩))
 exact .inl e
section
variable (z:Nat)(x:Ar)
abbrev Uy:=bk z (Ar.arr x) 52
abbrev Uf:=(20,Ac x.Ah.xs.length)
abbrev WM:=(53,Ac x.Ap.xs.length)
end
theorem rpart_calls(w:World)(x:Ar)(n:Nat)(hx:Ar.ok Any w x):Calls Tryd.prog 53 #[.agg (Ar.arr x),.int .i64 (n:Int)] w fun e w'=>e = .returned (.bool (Ef n x))∧CE (fun _=>False) w w':=by
 obtain⟨z,hz⟩:∃ z,z=w.heap.size:=⟨_,rfl⟩
 refine Cb (args:=[.agg (Ar.arr x),Ac n]) 75 ⟨w,z,[(Ak w)]⟩ Tryd.func53 rfl (by kernel_rfl) (by kernel_rfl) (Em hz) ?_
 refine DI [0,1] [(0,.agg (Ar.arr x)),(1,Ac n)] ?_
 refine q_c 6 0 [] [[o0,o0]] [] [(1,Ac n),(2,pt z)] ⟨w,z+1,[(Ak w),(Uy z x)]⟩ rfl Ae ?_
 by_cases h1:(8:Int)<(x.Ah.xs.length:Int)
 ·refine Au 9 0 [1] [[o0,(a1 1),o0,oT,o0,o0],[o0]] [Qb z,BT ((x.Ah.xs.length:Int) > 8)] [(4,.bool false)] rfl ⟨rfl,bt,Ae⟩ ?_
  refine Az [] [] (.bool false) Ae ?_
  intro w2 hw2
  refine⟨congrArg (fun b=>Ending.returned (Value.bool b)) (Eq.symm (?_:Ef n x=false)),AA hw2⟩
  unfold Ef
  first
   | (have e1:decide (x.Ah.xs.length≤8)=false:=decide_eq_false (by omega));simp[e1]
   | (have e1:decide (x.Ap.xs.length≤8)=false:=decide_eq_false (by omega));simp[e1]
 by_cases h3:(8:Int)<(x.Ap.xs.length:Int)
 ·refine Au 9 0 [1] [[o0,(a1 1),o0,oF,o0,o0,(a1 1),o0,oT,o0],[o0]] [Qb z,BF ((x.Ah.xs.length:Int) > 8),Qb z,BT ((x.Ap.xs.length:Int) > 8)] [(4,.bool false)] rfl ⟨rfl,bf,rfl,bt,Ae⟩ ?_
  refine Az [] [] (.bool false) Ae ?_
  intro w4 hw4
  refine⟨congrArg (fun b=>Ending.returned (Value.bool b)) (Eq.symm (?_:Ef n x=false)),AA hw4⟩
  unfold Ef
  first
   | (have e1:decide (x.Ah.xs.length≤8)=false:=decide_eq_false (by omega));simp[e1]
   | (have e1:decide (x.Ap.xs.length≤8)=false:=decide_eq_false (by omega));simp[e1]
 refine Au 12 0 [0] [[o0,(a1 1),o0,oF,o0,o0,(a1 1),o0,oF,o0],[o0,(a1 1),o0,o0]] [Qb z,BF ((x.Ah.xs.length:Int) > 8),Qb z,BF ((x.Ap.xs.length:Int) > 8),Qb z] [(1,Ac n),(2,pt z),(Uf x),(21,i6 0)] rfl ⟨rfl,bf,rfl,bf,rfl,Ae⟩ ?_
 refine Du (fun m a w'=>∃ (n6:Nat) (k:Nat),m=x.Ah.xs.length - k∧z+1≤n6∧(k≤x.Ah.xs.length)∧(∀ i,i<k→Kw (gd x.Ah.xs i)=true)∧St 75 [(1,Ac n),(2,pt z),(Uf x),(21,Ac k)] [] ⟨w,n6,[(Ak w),(Uy z x)]⟩ a w') (x.Ah.xs.length - 0) ?_ ?_
 ·intro a w' hs;exact⟨(z+1),0,rfl,Nat.le_refl _,Nat.zero_le _,fun i hi=>absurd hi (Nat.not_lt_zero i),hs⟩
 rintro m a w' ⟨n6,k,rfl,hn5,hkk,hr,hs⟩
 refine(?_:G Tryd.prog 75 [(1,Ac n),(2,pt z),(Uf x),(21,Ac k)] [] ⟨w,n6,[(Ak w),(Uy z x)]⟩ _ _ _) a w' hs
 clear hs a w'
 refine CB ?_
 by_cases h7:(k:Int)<(x.Ah.xs.length:Int)
 ·refine Au 14 0 [1] [[oT],[o0,o0]] [BT ((k:Int)<(x.Ah.xs.length:Int))] [(1,Ac n),(2,pt z),(Uf x),(21,Ac k),(5,Ac k)] rfl ⟨bt,Ae⟩ ?_
  obtain⟨b8,o9,ha10,hF12,hc11⟩:=(hx.Ah).1.all (show 0<x.Ah.xs.length by omega)
  replace ha10:x.Ah.a=some ⟨b8,o9,none⟩:=ha10
  have hc13:=hc11 k (show k<x.Ah.xs.length by omega)
  have he14:=(hx.Ah).2 k (show k<x.Ah.xs.length by omega)
  obtain⟨y15,hy15⟩:∃ y_,y_=gd x.Ah.xs k:=⟨_,rfl⟩
  rw[←hy15]at he14 hc13
  refine q_c 4 0 [] [[o0,(E8 1 b8 o9 x.Ah),o0,(oi k),(ol 0 (BB.arr y15)),o0,(an 4 2)]] [Qb z,DZ b8 o9 x.Ah,CW k,k<x.Ah.xs.length,Ce,GU w b8 (o9+k*4) (BB.arr y15),Qb n6,Qb n6,Qb n6,Qb n6] [(1,Ac n),(2,pt z),(Uf x),(21,Ac k),(6,pt n6)] ⟨w,n6+1,[(Ak w),(Uy z x),(bk n6 (BB.arr y15) 103)]⟩ rfl ⟨rfl,Ea ha10,rfl,(by omega),rfl,Ei hc13,rfl,rfl,rfl,rfl,Ae⟩ ?_
  by_cases h16:(y15.Bg:Int)<0
  ·refine Au 9 0 [1] [[o0,(a1 2),oT,o0,o0,o0,o0,o0,o0],[o0]] [Qb n6,BT ((y15.Bg:Int)<0)] [(4,.bool false)] rfl ⟨rfl,bt,Ae⟩ ?_
   refine Az [] [] (.bool false) Ae ?_
   intro w17 hw17
   refine⟨congrArg (fun b=>Ending.returned (Value.bool b)) (Eq.symm (?_:Ef n x=false)),AA hw17⟩
   unfold Ef
   have e1:x.Ah.xs.all Kw=false:=NP (k:=k) (by omega) (by rw[←hy15];exact decide_eq_false (by omega))
   simp[e1]
  by_cases h18:(256:Int)<y15.Bg
  ·refine Au 9 0 [1] [[o0,(a1 2),oF,o0,o0,(a1 2),oT,o0,o0,o0,o0,o0],[o0]] [Qb n6,BF ((y15.Bg:Int)<0),Qb n6,BT ((y15.Bg:Int) > 256)] [(4,.bool false)] rfl ⟨rfl,bf,rfl,bt,Ae⟩ ?_
   refine Az [] [] (.bool false) Ae ?_
   intro w19 hw19
   refine⟨congrArg (fun b=>Ending.returned (Value.bool b)) (Eq.symm (?_:Ef n x=false)),AA hw19⟩
   unfold Ef
   have e1:x.Ah.xs.all Kw=false:=NP (k:=k) (by omega) (by rw[←hy15];exact decide_eq_false (by omega))
   simp[e1]
  by_cases h20:(y15.AL:Int)<1
  ·refine Au 9 0 [1] [[o0,(a1 2),oF,o0,o0,(a1 2),oF,o0,o0,o0,(a1 2),oT,o0,o0,o0],[o0]] [Qb n6,BF ((y15.Bg:Int)<0),Qb n6,BF ((y15.Bg:Int) > 256),Qb n6,BT ((y15.AL:Int)<1)] [(4,.bool false)] rfl ⟨rfl,bf,rfl,bf,rfl,bt,Ae⟩ ?_
   refine Az [] [] (.bool false) Ae ?_
   intro w21 hw21
   refine⟨congrArg (fun b=>Ending.returned (Value.bool b)) (Eq.symm (?_:Ef n x=false)),AA hw21⟩
   unfold Ef
   have e1:x.Ah.xs.all Kw=false:=NP (k:=k) (by omega) (by rw[←hy15];exact decide_eq_false (by omega))
   simp[e1]
  by_cases h22:(256 - y15.Bg:Int)<y15.AL
  ·refine Au 9 0 [1] [[o0,(a1 2),oF,o0,o0,(a1 2),oF,o0,o0,o0,(a1 2),oF,o0,o0,o0,(a1 2),o0,(a1 2),(ov (i6 (256 - y15.Bg))),oT,o0],[o0]] [Qb n6,BF ((y15.Bg:Int)<0),Qb n6,BF ((y15.Bg:Int) > 256),Qb n6,BF ((y15.AL:Int)<1),Qb n6,Qb n6,Wr ((256:Int) - y15.Bg) (256 - y15.Bg),BT ((y15.AL:Int) > (256 - y15.Bg))] [(4,.bool false)] rfl ⟨rfl,bf,rfl,bf,rfl,bf,rfl,rfl,BQ,bt,Ae⟩ ?_
   refine Az [] [] (.bool false) Ae ?_
   intro w23 hw23
   refine⟨congrArg (fun b=>Ending.returned (Value.bool b)) (Eq.symm (?_:Ef n x=false)),AA hw23⟩
   unfold Ef
   have e1:x.Ah.xs.all Kw=false:=NP (k:=k) (by omega) (by rw[←hy15];exact decide_eq_false (by omega))
   simp[e1]
  refine Au 9 0 [0] [[o0,(a1 2),oF,o0,o0,(a1 2),oF,o0,o0,o0,(a1 2),oF,o0,o0,o0,(a1 2),o0,(a1 2),(ov (i6 (256 - y15.Bg))),oF,o0],[(ov (i6 ((k+1:Nat):Int))),o0]] [Qb n6,BF ((y15.Bg:Int)<0),Qb n6,BF ((y15.Bg:Int) > 256),Qb n6,BF ((y15.AL:Int)<1),Qb n6,Qb n6,Wr ((256:Int) - y15.Bg) (256 - y15.Bg),BF ((y15.AL:Int) > (256 - y15.Bg)),Wr ((k:Int)+1) (((k+1:Nat):Int))] [(1,Ac n),(2,pt z),(Uf x),(21,i6 ((k+1:Nat):Int))] rfl ⟨rfl,bf,rfl,bf,rfl,bf,rfl,rfl,BQ,bf,BQ,Ae⟩ ?_
  refine BX [0,1] [(Ak w),(Uy z x)] rfl rfl ?_
  refine BK [1,2,20,21] [(1,Ac n),(2,pt z),(Uf x),(21,i6 ((k+1:Nat):Int))] ?_
  refine BO (fun a w' hs=>⟨x.Ah.xs.length - (k+1),by omega,(n6+1),(k+1),rfl,by omega,by omega,upto hr (by rw[←hy15];exact decide_eq_true (by omega)),hs⟩)
 refine Au 16 0 [0] [[oF],[o0,(a1 1),o0,o0]] [BF ((k:Int)<(x.Ah.xs.length:Int)),Qb z] [(1,Ac n),(2,pt z),(WM x),(54,i6 0)] rfl ⟨bf,rfl,Ae⟩ ?_
 refine Du (fun m a w'=>∃ (n25:Nat) (j:Nat),m=x.Ap.xs.length - j∧n6≤n25∧(j≤x.Ap.xs.length)∧(∀ i,i<j→QL n (gd x.Ap.xs i)=true)∧St 75 [(1,Ac n),(2,pt z),(WM x),(54,Ac j)] [] ⟨w,n25,[(Ak w),(Uy z x)]⟩ a w') (x.Ap.xs.length - 0) ?_ ?_
 ·intro a w' hs;exact⟨n6,0,rfl,Nat.le_refl _,Nat.zero_le _,fun i hi=>absurd hi (Nat.not_lt_zero i),hs⟩
 rintro m a w' ⟨n25,j,rfl,hn24,hkj,hp,hs⟩
 refine(?_:G Tryd.prog 75 [(1,Ac n),(2,pt z),(WM x),(54,Ac j)] [] ⟨w,n25,[(Ak w),(Uy z x)]⟩ _ _ _) a w' hs
 clear hs a w'
 refine CB ?_
 by_cases h26:(j:Int)<(x.Ap.xs.length:Int)
 ·refine Au 14 0 [1] [[oT],[o0,o0]] [BT ((j:Int)<(x.Ap.xs.length:Int))] [(1,Ac n),(2,pt z),(WM x),(54,Ac j),(7,Ac j)] rfl ⟨bt,Ae⟩ ?_
  obtain⟨b27,o28,ha29,hF31,hc30⟩:=(hx.Ap).1.all (show 0<x.Ap.xs.length by omega)
  replace ha29:x.Ap.a=some ⟨b27,o28,none⟩:=ha29
  have hc32:=hc30 j (show j<x.Ap.xs.length by omega)
  have he33:=(hx.Ap).2 j (show j<x.Ap.xs.length by omega)
  obtain⟨y34,hy34⟩:∃ y_,y_=gd x.Ap.xs j:=⟨_,rfl⟩
  rw[←hy34]at he33 hc32
  by_cases h35:(y34.Channel:Int)<0
  ·refine Au 9 0 [1] [[o0,(E8 1 b27 o28 x.Ap),o0,(oi j),o0,(oa [.via 0 (i6 y34.Channel)]),oT,o0,o0],[o0]] [Qb z,DZ b27 o28 x.Ap,CW j,j<x.Ap.xs.length,Ce,Old w b27 (o28+j*2) (i6 y34.Channel),BT ((y34.Channel:Int)<0)] [(4,.bool false)] rfl ⟨rfl,Ea ha29,rfl,(by omega),rfl,Aw (hc32 0 _ rfl),bt,Ae⟩ ?_
   refine Az [] [] (.bool false) Ae ?_
   intro w36 hw36
   refine⟨congrArg (fun b=>Ending.returned (Value.bool b)) (Eq.symm (?_:Ef n x=false)),AA hw36⟩
   unfold Ef
   have e1:x.Ap.xs.all (QL n)=false:=NP (k:=j) (by omega) (by rw[←hy34];exact decide_eq_false (by omega))
   simp[e1]
  by_cases h37:(y34.Channel:Int)<(n:Int)
  ·refine Au 9 0 [0] [[o0,(E8 1 b27 o28 x.Ap),o0,(oi j),o0,(oa [.via 0 (i6 y34.Channel)]),oF,o0,o0,(E8 1 b27 o28 x.Ap),o0,(oi j),o0,(oa [.via 0 (i6 y34.Channel)]),o0,oF,o0],[(ov (i6 ((j+1:Nat):Int))),o0]] [Qb z,DZ b27 o28 x.Ap,CW j,j<x.Ap.xs.length,Ce,Old w b27 (o28+j*2) (i6 y34.Channel),BF ((y34.Channel:Int)<0),Qb z,DZ b27 o28 x.Ap,CW j,j<x.Ap.xs.length,Ce,Old w b27 (o28+j*2) (i6 y34.Channel),BF ((y34.Channel:Int)≥(n:Int)),Wr ((j:Int)+1) (((j+1:Nat):Int))] [(1,Ac n),(2,pt z),(WM x),(54,i6 ((j+1:Nat):Int))] rfl ⟨rfl,Ea ha29,rfl,(by omega),rfl,Aw (hc32 0 _ rfl),bf,rfl,Ea ha29,rfl,(by omega),rfl,Aw (hc32 0 _ rfl),bf,BQ,Ae⟩ ?_
   refine BO (fun a w' hs=>⟨x.Ap.xs.length - (j+1),by omega,n25,(j+1),rfl,by omega,by omega,upto hp (by rw[←hy34];exact decide_eq_true (by omega)),hs⟩)
  refine Au 9 0 [1] [[o0,(E8 1 b27 o28 x.Ap),o0,(oi j),o0,(oa [.via 0 (i6 y34.Channel)]),oF,o0,o0,(E8 1 b27 o28 x.Ap),o0,(oi j),o0,(oa [.via 0 (i6 y34.Channel)]),o0,oT,o0],[o0]] [Qb z,DZ b27 o28 x.Ap,CW j,j<x.Ap.xs.length,Ce,Old w b27 (o28+j*2) (i6 y34.Channel),BF ((y34.Channel:Int)<0),Qb z,DZ b27 o28 x.Ap,CW j,j<x.Ap.xs.length,Ce,Old w b27 (o28+j*2) (i6 y34.Channel),BT ((y34.Channel:Int)≥(n:Int))] [(4,.bool false)] rfl ⟨rfl,Ea ha29,rfl,(by omega),rfl,Aw (hc32 0 _ rfl),bf,rfl,Ea ha29,rfl,(by omega),rfl,Aw (hc32 0 _ rfl),bt,Ae⟩ ?_
  refine Az [] [] (.bool false) Ae ?_
  intro w38 hw38
  refine⟨congrArg (fun b=>Ending.returned (Value.bool b)) (Eq.symm (?_:Ef n x=false)),AA hw38⟩
  unfold Ef
  have e1:x.Ap.xs.all (QL n)=false:=NP (k:=j) (by omega) (by rw[←hy34];exact decide_eq_false (by omega))
  simp[e1]
 refine Au 15 0 [0] [[oF],[o0]] [BF ((j:Int)<(x.Ap.xs.length:Int))] [(4,.bool true)] rfl ⟨bf,Ae⟩ ?_
 refine Az [] [] (.bool true) Ae ?_
 intro w39 hw39
 refine⟨congrArg (fun b=>Ending.returned (Value.bool b)) (Eq.symm (?_:Ef n x=true)),AA hw39⟩
 have e1:x.Ah.xs.all Kw=true:=UN (fun i hi=>hr i (by omega))
 have e2:x.Ap.xs.all (QL n)=true:=UN (fun i hi=>hp i (by omega))
 simp only[Ef,e1,e2,Bool.and_true,Bool.and_eq_true,decide_eq_true_eq]
 omega
section
variable (x:Ar)(j:Nat)(ch:Int)(b:Bool)
abbrev Jy:=(7,i6 ((((x.Ap.xs.take j).countP (IW ch b))+1:Nat):Int))
abbrev JW:=(7,i6 (((x.Ap.xs.take j).countP (IW ch b):Nat):Int))
abbrev IZ:=(11,Ac x.Ap.xs.length)
abbrev Hl:=(12,i6 ((j+1:Nat):Int))
end
theorem NE(w:World)(x:Ar)(ch:Int)(b:Bool)(hx:Ar.ok Any w x):Calls Tryd.prog 55 #[.agg (Ar.arr x),.int .i64 ch,.bool b] w fun e w'=>e = .returned (.int .i64 (DL x ch b:Nat))∧CE (fun _=>False) w w':=by
 obtain⟨z,hz⟩:∃ z,z=w.heap.size:=⟨_,rfl⟩
 refine Cb (args:=[.agg (Ar.arr x),i6 ch,.bool b]) 37 ⟨w,z,[(Ak w)]⟩ Tryd.func55 rfl (by kernel_rfl) (by kernel_rfl) (Em hz) ?_
 have hlP:=hx.Ap.1.len
 refine DI [0,1,2] [(0,.agg (Ar.arr x)),(1,i6 ch),(2,.bool b)] ?_
 refine q_c 14 0 [] [[o0,o0],[o0],[o0,(a1 1),o0,o0]] [Qb z] [(1,i6 ch),(2,.bool b),(3,pt z),(7,i6 0),(IZ x),(12,i6 0)] ⟨w,z+1,[(Ak w),(bk z (Ar.arr x) 52)]⟩ rfl ⟨rfl,Ae⟩ ?_
 refine Du (fun m a w'=>∃ (n2:Nat) (j:Nat),m=x.Ap.xs.length - j∧z+1≤n2∧(j≤x.Ap.xs.length)∧St 37 [(1,i6 ch),(2,.bool b),(3,pt z),(JW x j ch b),(IZ x),(12,Ac j)] [] ⟨w,n2,[(Ak w),(bk z (Ar.arr x) 52)]⟩ a w') (x.Ap.xs.length - 0) ?_ ?_
 ·intro a w' hs;exact⟨(z+1),0,rfl,Nat.le_refl _,Nat.zero_le _,hs⟩
 rintro m a w' ⟨n2,j,rfl,hn1,hkj,hs⟩
 refine(?_:G Tryd.prog 37 [(1,i6 ch),(2,.bool b),(3,pt z),(JW x j ch b),(IZ x),(12,Ac j)] [] ⟨w,n2,[(Ak w),(bk z (Ar.arr x) 52)]⟩ _ _ _) a w' hs
 clear hs a w'
 have hcl:(x.Ap.xs.take j).countP (IW ch b)≤j:=cnt_le
 refine CB ?_
 by_cases h3:(j:Int)<(x.Ap.xs.length:Int)
 ·refine Au 14 0 [1] [[oT],[o0,o0]] [BT ((j:Int)<(x.Ap.xs.length:Int))] [(1,i6 ch),(2,.bool b),(3,pt z),(JW x j ch b),(IZ x),(12,Ac j),(8,Ac j)] rfl ⟨bt,Ae⟩ ?_
  obtain⟨b4,o5,ha6,hF8,hc7⟩:=(hx.Ap).1.all (show 0<x.Ap.xs.length by omega)
  replace ha6:x.Ap.a=some ⟨b4,o5,none⟩:=ha6
  have hc9:=hc7 j (show j<x.Ap.xs.length by omega)
  have he10:=(hx.Ap).2 j (show j<x.Ap.xs.length by omega)
  obtain⟨y11,hy11⟩:∃ y_,y_=gd x.Ap.xs j:=⟨_,rfl⟩
  rw[←hy11]at he10 hc9
  by_cases h12:(y11.Channel:Int)=ch
  ·by_cases h13:y11.Source=true
   ·by_cases h14:b=true
    ·refine Au 10 0 [1] [[o0,(E8 1 b4 o5 x.Ap),o0,(oi j),o0,(oa [.via 0 (i6 y11.Channel)]),o0,oT,o0,o0,(E8 1 b4 o5 x.Ap),o0,(oi j),o0,(oa [.via 0 (.bool y11.Source)]),(ov (.bool true)),(ov (.bool true)),o0],[o0,(ov (i6 ((((x.Ap.xs.take j).countP (IW ch b))+1:Nat):Int))),o0],[(ov (i6 ((j+1:Nat):Int))),o0]] [Qb z,DZ b4 o5 x.Ap,CW j,j<x.Ap.xs.length,Ce,Old w b4 (o5+j*2) (i6 y11.Channel),ET y11.Channel ch,Qb z,DZ b4 o5 x.Ap,CW j,j<x.Ap.xs.length,Ce,Old w b4 (o5+j*2+1) (.bool y11.Source),Value.bool b=Value.bool true,Value.bool ((y11.Source==true))=Value.bool true,Wr (((((x.Ap.xs.take j).countP (IW ch b):Nat):Int):Int)+1) (((((x.Ap.xs.take j).countP (IW ch b))+1:Nat):Int)),Wr ((j:Int)+1) (((j+1:Nat):Int))] [(1,i6 ch),(2,.bool b),(3,pt z),(Jy x j ch b),(IZ x),(Hl j)] rfl ⟨rfl,Ea ha6,rfl,(by omega),rfl,Aw (hc9 0 _ rfl),et,rfl,Ea ha6,rfl,(by omega),rfl,Aw (hc9 1 _ rfl),(congrArg Value.bool h14),by simp[h13],BQ,BQ,Ae⟩ ?_
     have hT:=cnt_yes (p:=IW ch b) (show j<x.Ap.xs.length by omega) (by rw[←hy11];exact Xk (by omega) (by revert h13 h14;cases y11.Source <;> cases b <;> simp))
     refine BK [1,2,3,7,11,12] [(1,i6 ch),(2,.bool b),(3,pt z),(Jy x j ch b),(IZ x),(Hl j)] ?_
     refine BO (fun a w' hs=>⟨x.Ap.xs.length - (j+1),by omega,n2,(j+1),rfl,by omega,by omega,by(try dsimp only[Jy,JW,IZ,Hl]at hs ⊢);rw[hT];exact hs⟩)
    refine Au 9 0 [0] [[o0,(E8 1 b4 o5 x.Ap),o0,(oi j),o0,(oa [.via 0 (i6 y11.Channel)]),o0,oT,o0,o0,(E8 1 b4 o5 x.Ap),o0,(oi j),o0,(oa [.via 0 (.bool y11.Source)]),(ov (.bool false)),(ov (.bool false)),o0],[(ov (i6 ((j+1:Nat):Int))),o0]] [Qb z,DZ b4 o5 x.Ap,CW j,j<x.Ap.xs.length,Ce,Old w b4 (o5+j*2) (i6 y11.Channel),ET y11.Channel ch,Qb z,DZ b4 o5 x.Ap,CW j,j<x.Ap.xs.length,Ce,Old w b4 (o5+j*2+1) (.bool y11.Source),Value.bool b=Value.bool false,Value.bool ((y11.Source==false))=Value.bool false,Wr ((j:Int)+1) (((j+1:Nat):Int))] [(1,i6 ch),(2,.bool b),(3,pt z),(JW x j ch b),(IZ x),(Hl j)] rfl ⟨rfl,Ea ha6,rfl,(by omega),rfl,Aw (hc9 0 _ rfl),et,rfl,Ea ha6,rfl,(by omega),rfl,Aw (hc9 1 _ rfl),(congrArg Value.bool (Bool.eq_false_iff.2 h14)),by simp[h13],BQ,Ae⟩ ?_
    have hT:=cnt_no (p:=IW ch b) (show j<x.Ap.xs.length by omega) (by rw[←hy11];exact UO (by revert h13 h14;cases y11.Source <;> cases b <;> simp))
    refine BK [1,2,3,7,11,12] [(1,i6 ch),(2,.bool b),(3,pt z),(JW x j ch b),(IZ x),(Hl j)] ?_
    refine BO (fun a w' hs=>⟨x.Ap.xs.length - (j+1),by omega,n2,(j+1),rfl,by omega,by omega,by(try dsimp only[Jy,JW,IZ,Hl]at hs ⊢);rw[hT];exact hs⟩)
   by_cases h15:b=true
   ·refine Au 9 0 [0] [[o0,(E8 1 b4 o5 x.Ap),o0,(oi j),o0,(oa [.via 0 (i6 y11.Channel)]),o0,oT,o0,o0,(E8 1 b4 o5 x.Ap),o0,(oi j),o0,(oa [.via 0 (.bool y11.Source)]),(ov (.bool true)),(ov (.bool false)),o0],[(ov (i6 ((j+1:Nat):Int))),o0]] [Qb z,DZ b4 o5 x.Ap,CW j,j<x.Ap.xs.length,Ce,Old w b4 (o5+j*2) (i6 y11.Channel),ET y11.Channel ch,Qb z,DZ b4 o5 x.Ap,CW j,j<x.Ap.xs.length,Ce,Old w b4 (o5+j*2+1) (.bool y11.Source),Value.bool b=Value.bool true,Value.bool ((y11.Source==true))=Value.bool false,Wr ((j:Int)+1) (((j+1:Nat):Int))] [(1,i6 ch),(2,.bool b),(3,pt z),(JW x j ch b),(IZ x),(Hl j)] rfl ⟨rfl,Ea ha6,rfl,(by omega),rfl,Aw (hc9 0 _ rfl),et,rfl,Ea ha6,rfl,(by omega),rfl,Aw (hc9 1 _ rfl),(congrArg Value.bool h15),by simp[h13],BQ,Ae⟩ ?_
    have hT:=cnt_no (p:=IW ch b) (show j<x.Ap.xs.length by omega) (by rw[←hy11];exact UO (by revert h13 h15;cases y11.Source <;> cases b <;> simp))
    refine BK [1,2,3,7,11,12] [(1,i6 ch),(2,.bool b),(3,pt z),(JW x j ch b),(IZ x),(Hl j)] ?_
    refine BO (fun a w' hs=>⟨x.Ap.xs.length - (j+1),by omega,n2,(j+1),rfl,by omega,by omega,by(try dsimp only[Jy,JW,IZ,Hl]at hs ⊢);rw[hT];exact hs⟩)
   refine Au 10 0 [1] [[o0,(E8 1 b4 o5 x.Ap),o0,(oi j),o0,(oa [.via 0 (i6 y11.Channel)]),o0,oT,o0,o0,(E8 1 b4 o5 x.Ap),o0,(oi j),o0,(oa [.via 0 (.bool y11.Source)]),(ov (.bool false)),(ov (.bool true)),o0],[o0,(ov (i6 ((((x.Ap.xs.take j).countP (IW ch b))+1:Nat):Int))),o0],[(ov (i6 ((j+1:Nat):Int))),o0]] [Qb z,DZ b4 o5 x.Ap,CW j,j<x.Ap.xs.length,Ce,Old w b4 (o5+j*2) (i6 y11.Channel),ET y11.Channel ch,Qb z,DZ b4 o5 x.Ap,CW j,j<x.Ap.xs.length,Ce,Old w b4 (o5+j*2+1) (.bool y11.Source),Value.bool b=Value.bool false,Value.bool ((y11.Source==false))=Value.bool true,Wr (((((x.Ap.xs.take j).countP (IW ch b):Nat):Int):Int)+1) (((((x.Ap.xs.take j).countP (IW ch b))+1:Nat):Int)),Wr ((j:Int)+1) (((j+1:Nat):Int))] [(1,i6 ch),(2,.bool b),(3,pt z),(Jy x j ch b),(IZ x),(Hl j)] rfl ⟨rfl,Ea ha6,rfl,(by omega),rfl,Aw (hc9 0 _ rfl),et,rfl,Ea ha6,rfl,(by omega),rfl,Aw (hc9 1 _ rfl),(congrArg Value.bool (Bool.eq_false_iff.2 h15)),by simp[h13],BQ,BQ,Ae⟩ ?_
   have hT:=cnt_yes (p:=IW ch b) (show j<x.Ap.xs.length by omega) (by rw[←hy11];exact Xk (by omega) (by revert h13 h15;cases y11.Source <;> cases b <;> simp))
   refine BK [1,2,3,7,11,12] [(1,i6 ch),(2,.bool b),(3,pt z),(Jy x j ch b),(IZ x),(Hl j)] ?_
   refine BO (fun a w' hs=>⟨x.Ap.xs.length - (j+1),by omega,n2,(j+1),rfl,by omega,by omega,by(try dsimp only[Jy,JW,IZ,Hl]at hs ⊢);rw[hT];exact hs⟩)
  refine Au 9 0 [0] [[o0,(E8 1 b4 o5 x.Ap),o0,(oi j),o0,(oa [.via 0 (i6 y11.Channel)]),o0,oF,o0,o0],[(ov (i6 ((j+1:Nat):Int))),o0]] [Qb z,DZ b4 o5 x.Ap,CW j,j<x.Ap.xs.length,Ce,Old w b4 (o5+j*2) (i6 y11.Channel),EF y11.Channel ch,Wr ((j:Int)+1) (((j+1:Nat):Int))] [(1,i6 ch),(2,.bool b),(3,pt z),(JW x j ch b),(IZ x),(Hl j)] rfl ⟨rfl,Ea ha6,rfl,(by omega),rfl,Aw (hc9 0 _ rfl),ef,BQ,Ae⟩ ?_
  have hT:=cnt_no (p:=IW ch b) (show j<x.Ap.xs.length by omega) (by rw[←hy11];exact Wl (by omega))
  refine BK [1,2,3,7,11,12] [(1,i6 ch),(2,.bool b),(3,pt z),(JW x j ch b),(IZ x),(Hl j)] ?_
  refine BO (fun a w' hs=>⟨x.Ap.xs.length - (j+1),by omega,n2,(j+1),rfl,by omega,by omega,by(try dsimp only[JW,IZ,Hl]at hs ⊢);rw[hT];exact hs⟩)
 refine Au 15 0 [0] [[oF],[o0,o0]] [BF ((j:Int)<(x.Ap.xs.length:Int))] [(6,i6 (((x.Ap.xs.take j).countP (IW ch b):Nat):Int))] rfl ⟨bf,Ae⟩ ?_
 refine Az [] [] (i6 (((x.Ap.xs.take j).countP (IW ch b):Nat):Int)) Ae ?_
 intro w16 hw16
 refine⟨congrArg (fun n=>Ending.returned (i6 n)) (?_:((((x.Ap.xs.take j).countP (IW ch b):Nat):Int):Int)=(DL x ch b:Int)),AA hw16⟩
 rw[show j=x.Ap.xs.length by omega,List.take_length];rfl
section
variable (n25:Nat)(y34:AZ)(z:Nat)(c:Ai)(k2 k3:Nat)(y52 y76:Ar)
abbrev Ub:=bk n25 (AZ.arr y34) 115
abbrev ML:=bk z (Ai.arr c) 26
abbrev Ze:=(6,i6 (((Gn (fun x=>DL x (k2:Int) true) c.Aa.xs k3)+(DL y52 (k2:Int) true):Nat):Int))
abbrev Za:=(6,i6 (((Gn (fun x=>DL x (k2:Int) true) c.Aa.xs k3)+(DL y76 (k2:Int) true):Nat):Int))
abbrev O8:=(7,i6 ((Gn (fun x=>DL x (k2:Int) false) c.Aa.xs k3:Nat):Int))
abbrev PY:=(6,i6 ((Gn (fun x=>DL x (k2:Int) true) c.Aa.xs k3:Nat):Int))
abbrev P6:=(31,Ac c.Aa.xs.length)
abbrev JP:=(72,Ac c.Aa.xs.length)
abbrev Hy:=(48,Ac c.Aj.xs.length)
end
theorem Y0(w:World)(c:Ai)(hc:Ai.ok Any w c):Calls Tryd.prog 30 #[.agg (Ai.arr c)] w fun e w'=>e = .returned (.bool (Ej c))∧CE (fun _=>False) w w':=by
 obtain⟨z,hz⟩:∃ z,z=w.heap.size:=⟨_,rfl⟩
 refine Cb (args:=[.agg (Ai.arr c)]) 106 ⟨w,z,[(Ak w)]⟩ Tryd.func30 rfl (by kernel_rfl) (by kernel_rfl) (Em hz) ?_
 have hlC:=hc.Aj.1.len
 refine DI [0] [(0,.agg (Ai.arr c))] ?_
 refine q_c 6 0 [] [[o0,o0]] [] [(1,pt z)] ⟨w,z+1,[(Ak w),(ML z c)]⟩ rfl Ae ?_
 by_cases h1:(c.Kernel:Int)<0
 ·refine Au 9 0 [1] [[o0,(a1 1),oT,o0,o0,o0,o0,o0,o0],[o0]] [Qb z,BT ((c.Kernel:Int)<0)] [(2,.bool false)] rfl ⟨rfl,bt,Ae⟩ ?_
  refine Az [] [] (.bool false) Ae ?_
  intro w2 hw2
  refine⟨congrArg (fun b=>Ending.returned (Value.bool b)) (Eq.symm (?_:Ej c=false)),AA hw2⟩
  exact Pj (by omega)
 by_cases h3:(c.Kernel:Int)<1024
 ·by_cases h4:(8:Int)<(c.Aa.xs.length:Int)
  ·refine Au 9 0 [1] [[o0,(a1 1),oF,o0,o0,(a1 1),oF,o0,o0,o0,(a1 1),o0,oT,o0,o0,o0],[o0]] [Qb z,BF ((c.Kernel:Int)<0),Qb z,BF ((c.Kernel:Int)≥1024),Qb z,BT ((c.Aa.xs.length:Int) > 8)] [(2,.bool false)] rfl ⟨rfl,bf,rfl,bf,rfl,bt,Ae⟩ ?_
   refine Az [] [] (.bool false) Ae ?_
   intro w5 hw5
   refine⟨congrArg (fun b=>Ending.returned (Value.bool b)) (Eq.symm (?_:Ej c=false)),AA hw5⟩
   exact Pj (by omega)
  by_cases h6:(16:Int)<(c.Aj.xs.length:Int)
  ·refine Au 9 0 [1] [[o0,(a1 1),oF,o0,o0,(a1 1),oF,o0,o0,o0,(a1 1),o0,oF,o0,o0,o0,(a1 1),o0,oT,o0],[o0]] [Qb z,BF ((c.Kernel:Int)<0),Qb z,BF ((c.Kernel:Int)≥1024),Qb z,BF ((c.Aa.xs.length:Int) > 8),Qb z,BT ((c.Aj.xs.length:Int) > 16)] [(2,.bool false)] rfl ⟨rfl,bf,rfl,bf,rfl,bf,rfl,bt,Ae⟩ ?_
   refine Az [] [] (.bool false) Ae ?_
   intro w7 hw7
   refine⟨congrArg (fun b=>Ending.returned (Value.bool b)) (Eq.symm (?_:Ej c=false)),AA hw7⟩
   exact Pj (by omega)
  refine Au 12 0 [0] [[o0,(a1 1),oF,o0,o0,(a1 1),oF,o0,o0,o0,(a1 1),o0,oF,o0,o0,o0,(a1 1),o0,oF,o0],[o0,(a1 1),o0,o0]] [Qb z,BF ((c.Kernel:Int)<0),Qb z,BF ((c.Kernel:Int)≥1024),Qb z,BF ((c.Aa.xs.length:Int) > 8),Qb z,BF ((c.Aj.xs.length:Int) > 16),Qb z] [(1,pt z),(P6 c),(32,i6 0)] rfl ⟨rfl,bf,rfl,bf,rfl,bf,rfl,bf,rfl,Ae⟩ ?_
  refine Du (fun m a w'=>∃ (n9:Nat) (k:Nat),m=c.Aa.xs.length - k∧z+1≤n9∧(k≤c.Aa.xs.length)∧(∀ i,i<k→Ef c.Aj.xs.length (gd c.Aa.xs i)=true)∧St 106 [(1,pt z),(P6 c),(32,Ac k)] [] ⟨w,n9,[(Ak w),(ML z c)]⟩ a w') (c.Aa.xs.length - 0) ?_ ?_
  ·intro a w' hs;exact⟨(z+1),0,rfl,Nat.le_refl _,Nat.zero_le _,fun i hi=>absurd hi (Nat.not_lt_zero i),hs⟩
  rintro m a w' ⟨n9,k,rfl,hn8,hkk,hp,hs⟩
  refine(?_:G Tryd.prog 106 [(1,pt z),(P6 c),(32,Ac k)] [] ⟨w,n9,[(Ak w),(ML z c)]⟩ _ _ _) a w' hs
  clear hs a w'
  refine CB ?_
  by_cases h10:(k:Int)<(c.Aa.xs.length:Int)
  ·refine Au 14 0 [1] [[oT],[o0,o0]] [BT ((k:Int)<(c.Aa.xs.length:Int))] [(1,pt z),(P6 c),(32,Ac k),(3,Ac k)] rfl ⟨bt,Ae⟩ ?_
   obtain⟨b11,o12,ha13,hF15,hc14⟩:=(hc.Aa).1.all (show 0<c.Aa.xs.length by omega)
   replace ha13:c.Aa.a=some ⟨b11,o12,none⟩:=ha13
   have hc16:=hc14 k (show k<c.Aa.xs.length by omega)
   have he17:=(hc.Aa).2 k (show k<c.Aa.xs.length by omega)
   obtain⟨y18,hy18⟩:∃ y_,y_=gd c.Aa.xs k:=⟨_,rfl⟩
   rw[←hy18]at he17 hc16
   refine DX 10 [0,1] [(Ak w),(ML z c)] rfl rfl ?_
   refine CU [(0,o0),(1,(E8 1 b11 o12 c.Aa)),(2,o0),(3,(oi k)),(4,(ol 0 (Ar.arr y18))),(5,o0),(6,(a1 1)),(7,o0)] [1,31,32,39,42] [Qb z,DZ b11 o12 c.Aa,CW k,k<c.Aa.xs.length,Ce,GU w b11 (o12+k*8) (Ar.arr y18),Qb z] (D7 8 2) [(1,pt z),(P6 c),(32,Ac k),(39,.agg (Ar.arr y18)),(42,Ac c.Aj.xs.length)] ⟨rfl,Ea ha13,rfl,(by omega),rfl,Ei hc16,rfl,Ae⟩ ?_
   refine Bl 8 ?_
   refine IG [] [] 53 #[.agg (Ar.arr y18),Ac c.Aj.xs.length] (some 43) (by as_aux_lemma=>kernel_rfl) rfl rfl Ae ?_
   intro w19 hw19
   refine(rpart_calls w19 y18 c.Aj.xs.length (he17.ext (hw19.ext rfl) (fun _ h=>h))).mono ?_
   rintro e w20 ⟨rfl,hkw20⟩
   have hnw20:n9≤w20.heap.size:=I5 hw19 hkw20
   have hs21:=hw19.keeps hkw20
   refine⟨_,_,rfl,hs21,.inr (fun c hc=>hs21.all c (by first | exact hc | exact EM (is:=[0,1]) rfl c hc)), ?_⟩
   refine Dw [1,31,32,43] [(1,pt z),(P6 c),(32,Ac k),(43,.bool (Ef c.Aj.xs.length y18))] ?_
   by_cases h22:(Ef c.Aj.xs.length y18)=true
   ·refine CU [(9,(ov (.bool false)))] [1,31,32,44] [Value.bool (!(Ef c.Aj.xs.length y18))=Value.bool false] (D7 10 0) [(1,pt z),(P6 c),(32,Ac k),(44,.bool false)] ⟨by simp[h22],Ae⟩ ?_
    refine CO ?_
    refine LX 7 0 [0] [[(ov (i6 ((k+1:Nat):Int))),o0]] [Wr ((k:Int)+1) (((k+1:Nat):Int))] [(1,pt z),(P6 c),(32,i6 ((k+1:Nat):Int))] rfl ⟨BQ,Ae⟩ ?_
    refine BO (fun a w' hs=>⟨c.Aa.xs.length - (k+1),by omega,w20.heap.size,(k+1),rfl,by omega,by omega,upto hp (by rw[←hy18];exact h22),hs⟩)
   refine CU [(9,(ov (.bool true)))] [1,31,32,44] [Value.bool (!(Ef c.Aj.xs.length y18))=Value.bool true] (D7 10 0) [(1,pt z),(P6 c),(32,Ac k),(44,.bool true)] ⟨by simp[h22],Ae⟩ ?_
   refine CO ?_
   refine LX 7 0 [1] [[o0]] [] [(2,.bool false)] rfl Ae ?_
   refine Az [] [] (.bool false) Ae ?_
   intro w23 hw23
   refine⟨congrArg (fun b=>Ending.returned (Value.bool b)) (Eq.symm (?_:Ej c=false)),AA hw23⟩
   exact conf_no2 (k:=k) (by omega) (by rw[←hy18];exact Bool.eq_false_iff.2 h22)
  refine Au 16 0 [0] [[oF],[o0,(a1 1),o0,o0]] [BF ((k:Int)<(c.Aa.xs.length:Int)),Qb z] [(1,pt z),(Hy c),(49,i6 0)] rfl ⟨bf,rfl,Ae⟩ ?_
  refine Du (fun m a w'=>∃ (n25:Nat) (k2:Nat),m=c.Aj.xs.length - k2∧n9≤n25∧(k2≤c.Aj.xs.length)∧(∀ i,i<k2→Oy c i=true)∧St 106 [(1,pt z),(Hy c),(49,Ac k2)] [] ⟨w,n25,[(Ak w),(ML z c)]⟩ a w') (c.Aj.xs.length - 0) ?_ ?_
  ·intro a w' hs;exact⟨n9,0,rfl,Nat.le_refl _,Nat.zero_le _,fun i hi=>absurd hi (Nat.not_lt_zero i),hs⟩
  rintro m a w' ⟨n25,k2,rfl,hn24,hkk2,hch,hs⟩
  refine(?_:G Tryd.prog 106 [(1,pt z),(Hy c),(49,Ac k2)] [] ⟨w,n25,[(Ak w),(ML z c)]⟩ _ _ _) a w' hs
  clear hs a w'
  refine CB ?_
  by_cases h26:(k2:Int)<(c.Aj.xs.length:Int)
  ·refine Au 14 0 [1] [[oT],[o0,o0]] [BT ((k2:Int)<(c.Aj.xs.length:Int))] [(1,pt z),(Hy c),(49,Ac k2),(4,Ac k2)] rfl ⟨bt,Ae⟩ ?_
   obtain⟨b27,o28,ha29,hF31,hc30⟩:=(hc.Aj).1.all (show 0<c.Aj.xs.length by omega)
   replace ha29:c.Aj.a=some ⟨b27,o28,none⟩:=ha29
   have hc32:=hc30 k2 (show k2<c.Aj.xs.length by omega)
   have he33:=(hc.Aj).2 k2 (show k2<c.Aj.xs.length by omega)
   obtain⟨y34,hy34⟩:∃ y_,y_=gd c.Aj.xs k2:=⟨_,rfl⟩
   rw[←hy34]at he33 hc32
   refine q_c 6 1 [] [[o0,(E8 1 b27 o28 c.Aj),o0,(oi k2),(ol 0 (AZ.arr y34)),o0,(an 3 2)],[(an 3 2)]] [Qb z,DZ b27 o28 c.Aj,CW k2,k2<c.Aj.xs.length,Ce,GU w b27 (o28+k2*3) (AZ.arr y34),Qb n25,Qb n25,Qb n25,Qb n25,Qb n25,Qb n25] [(1,pt z),(Hy c),(49,Ac k2),(4,Ac k2),(5,pt n25),(57,.agg (AZ.arr y34))] ⟨w,n25+1,[(Ak w),(ML z c),(Ub n25 y34)]⟩ rfl ⟨rfl,Ea ha29,rfl,(by omega),rfl,Ei hc32,rfl,rfl,rfl,rfl,rfl,rfl,Ae⟩ ?_
   refine AY 54 #[.agg (AZ.arr y34)] (some 58) (i6 (portOf y34)) (fun w35 hw35=>UF w35 y34 (he33.ext (hw35.ext rfl) (fun _ h=>h))) (fun n36 (hn37:n25+1≤n36) => ?_)
   refine Dc [1,48,49,4,5,58] [(1,pt z),(Hy c),(49,Ac k2),(4,Ac k2),(5,pt n25),(58,i6 (portOf y34))] ?_
   by_cases h38:(portOf y34:Int)=0
   ·refine Bq 8 0 [1] [[oT,o0,o0],[o0]] [ET (portOf y34) 0] [(2,.bool false)] rfl ⟨et,Ae⟩ ?_
    refine Az [] [] (.bool false) Ae ?_
    intro w39 hw39
    refine⟨congrArg (fun b=>Ending.returned (Value.bool b)) (Eq.symm (?_:Ej c=false)),AA hw39⟩
    exact J4 (k:=k2) (by omega) (KC (by rw[←hy34];first | omega | (right;right;unfold Ju;rw[show c.Aa.xs.length=k3 by omega];omega)))
   by_cases h40:(y34.Kind:Int)=1
   ·by_cases h41:(y34.Dx:Int)=0
    ·refine Bq 19 0 [0] [[oF,o0,o0,(a1 2),oT,o0,o0,(a1 2),oF,o0,o0],[o0],[o0],[o0,(a1 1),o0,o0]] [EF (portOf y34) 0,Qb n25,ET y34.Kind 1,Qb n25,NF y34.Dx 0,Qb z] [(1,pt z),(4,Ac k2),(6,i6 0),(7,i6 0),(Hy c),(49,Ac k2),(JP c),(73,i6 0)] rfl ⟨ef,rfl,et,rfl,nf,rfl,Ae⟩ ?_
     refine Du (fun m a w'=>∃ (n43:Nat) (k3:Nat),m=c.Aa.xs.length - k3∧n36≤n43∧(k3≤c.Aa.xs.length)∧St 106 [(1,pt z),(4,Ac k2),(PY c k2 k3),(O8 c k2 k3),(Hy c),(49,Ac k2),(JP c),(73,Ac k3)] [] ⟨w,n43,[(Ak w),(ML z c),(Ub n25 y34)]⟩ a w') (c.Aa.xs.length - 0) ?_ ?_
     ·intro a w' hs;exact⟨n36,0,rfl,Nat.le_refl _,Nat.zero_le _,hs⟩
     rintro m a w' ⟨n43,k3,rfl,hn42,hkk3,hs⟩
     refine(?_:G Tryd.prog 106 [(1,pt z),(4,Ac k2),(PY c k2 k3),(O8 c k2 k3),(Hy c),(49,Ac k2),(JP c),(73,Ac k3)] [] ⟨w,n43,[(Ak w),(ML z c),(Ub n25 y34)]⟩ _ _ _) a w' hs
     clear hs a w'
     have hsa:=V5 (f:=fun x=>DL x (k2:Int) true) (B:=8) (xs:=c.Aa.xs) (fun i hi=>Po (hp i (by omega)) _ _) k3 hkk3
     have hsb:=V5 (f:=fun x=>DL x (k2:Int) false) (B:=8) (xs:=c.Aa.xs) (fun i hi=>Po (hp i (by omega)) _ _) k3 hkk3
     refine CB ?_
     by_cases h44:(k3:Int)<(c.Aa.xs.length:Int)
     ·refine Au 14 0 [1] [[oT],[o0,o0]] [BT ((k3:Int)<(c.Aa.xs.length:Int))] [(1,pt z),(4,Ac k2),(PY c k2 k3),(O8 c k2 k3),(Hy c),(49,Ac k2),(JP c),(73,Ac k3),(8,Ac k3)] rfl ⟨bt,Ae⟩ ?_
      obtain⟨b45,o46,ha47,hF49,hc48⟩:=(hc.Aa).1.all (show 0<c.Aa.xs.length by omega)
      replace ha47:c.Aa.a=some ⟨b45,o46,none⟩:=ha47
      have hc50:=hc48 k3 (show k3<c.Aa.xs.length by omega)
      have he51:=(hc.Aa).2 k3 (show k3<c.Aa.xs.length by omega)
      obtain⟨y52,hy52⟩:∃ y_,y_=gd c.Aa.xs k3:=⟨_,rfl⟩
      rw[←hy52]at he51 hc50
      have hqy52:=hp k3 (by omega);rw[←hy52]at hqy52;have hl1y52:=Po hqy52 (k2:Int) true;have hl2y52:=Po hqy52 (k2:Int) false
      refine Au 1 7 [] [[o0,o0,(E8 1 b45 o46 c.Aa),o0,(oi k3),(ol 0 (Ar.arr y52)),o0]] [Qb z,DZ b45 o46 c.Aa,CW k3,k3<c.Aa.xs.length,Ce,GU w b45 (o46+k3*8) (Ar.arr y52)] [(1,pt z),(4,Ac k2),(O8 c k2 k3),(Hy c),(49,Ac k2),(JP c),(73,Ac k3),(8,Ac k3),(76,i6 ((Gn (fun x=>DL x (k2:Int) true) c.Aa.xs k3:Nat):Int)),(81,.agg (Ar.arr y52)),(82,Ac k2)] rfl ⟨rfl,Ea ha47,rfl,(by omega),rfl,Ei hc50,Ae⟩ ?_
      refine AY 55 #[.agg (Ar.arr y52),Ac k2,.bool true] (some 83) (i6 ((DL y52 (k2:Int) true:Nat):Int)) (fun w53 hw53=>NE w53 y52 (k2:Int) true (he51.ext (hw53.ext rfl) (fun _ h=>h))) (fun n54 (hn55:n43≤n54) => ?_)
      refine Bq 3 7 [] [[(ov (i6 (((Gn (fun x=>DL x (k2:Int) true) c.Aa.xs k3)+(DL y52 (k2:Int) true):Nat):Int))),o0],[o0,o0,(E8 1 b45 o46 c.Aa),o0,(oi k3),(ol 0 (Ar.arr y52)),o0]] [Wr ((((Gn (fun x=>DL x (k2:Int) true) c.Aa.xs k3:Nat):Int):Int)+((DL y52 (k2:Int) true:Nat):Int)) ((((Gn (fun x=>DL x (k2:Int) true) c.Aa.xs k3)+(DL y52 (k2:Int) true):Nat):Int)),Qb z,DZ b45 o46 c.Aa,CW k3,k3<c.Aa.xs.length,Ce,GU w b45 (o46+k3*8) (Ar.arr y52)] [(1,pt z),(4,Ac k2),(Hy c),(49,Ac k2),(JP c),(73,Ac k3),(Ze c k2 k3 y52),(85,i6 ((Gn (fun x=>DL x (k2:Int) false) c.Aa.xs k3:Nat):Int)),(90,.agg (Ar.arr y52)),(91,Ac k2)] rfl ⟨BQ,rfl,Ea ha47,rfl,(by omega),rfl,Ei hc50,Ae⟩ ?_
      refine AY 55 #[.agg (Ar.arr y52),Ac k2,.bool false] (some 92) (i6 ((DL y52 (k2:Int) false:Nat):Int)) (fun w56 hw56=>NE w56 y52 (k2:Int) false (he51.ext (hw56.ext rfl) (fun _ h=>h))) (fun n57 (hn58:n54≤n57) => ?_)
      refine Bq 5 0 [] [[(ov (i6 (((Gn (fun x=>DL x (k2:Int) false) c.Aa.xs k3)+(DL y52 (k2:Int) false):Nat):Int))),o0],[(ov (i6 ((k3+1:Nat):Int))),o0]] [Wr ((((Gn (fun x=>DL x (k2:Int) false) c.Aa.xs k3:Nat):Int):Int)+((DL y52 (k2:Int) false:Nat):Int)) ((((Gn (fun x=>DL x (k2:Int) false) c.Aa.xs k3)+(DL y52 (k2:Int) false):Nat):Int)),Wr ((k3:Int)+1) (((k3+1:Nat):Int))] [(1,pt z),(4,Ac k2),(Hy c),(49,Ac k2),(JP c),(73,i6 ((k3+1:Nat):Int)),(Ze c k2 k3 y52),(7,i6 (((Gn (fun x=>DL x (k2:Int) false) c.Aa.xs k3)+(DL y52 (k2:Int) false):Nat):Int))] rfl ⟨BQ,BQ,Ae⟩ ?_
      have hT1:=Qq (f:=fun x=>DL x (k2:Int) true) (show k3<c.Aa.xs.length by omega)
      have hT2:=Qq (f:=fun x=>DL x (k2:Int) false) (show k3<c.Aa.xs.length by omega)
      rw[←hy52]at hT1 hT2
      refine BK [1,4,6,7,48,49,72,73] [(1,pt z),(4,Ac k2),(Ze c k2 k3 y52),(7,i6 (((Gn (fun x=>DL x (k2:Int) false) c.Aa.xs k3)+(DL y52 (k2:Int) false):Nat):Int)),(Hy c),(49,Ac k2),(JP c),(73,i6 ((k3+1:Nat):Int))] ?_
      refine BO (fun a w' hs=>⟨c.Aa.xs.length - (k3+1),by omega,n57,(k3+1),rfl,by omega,by omega,by(try dsimp only[Ub,ML,Ze,O8,PY,P6,JP,Hy]at hs ⊢);rw[hT1,hT2];exact hs⟩)
     refine Au 11 0 [0] [[oF]] [BF ((k3:Int)<(c.Aa.xs.length:Int))] [(1,pt z),(4,Ac k2),(PY c k2 k3),(O8 c k2 k3),(Hy c),(49,Ac k2),(JP c),(73,Ac k3),(74,.bool false)] rfl ⟨bf,Ae⟩ ?_
     by_cases h59:(((Gn (fun x=>DL x (k2:Int) true) c.Aa.xs k3:Nat):Int):Int)=1
     ·by_cases h60:(((Gn (fun x=>DL x (k2:Int) false) c.Aa.xs k3:Nat):Int):Int)<1
      ·refine Au 9 0 [1] [[o0,oF,o0,o0,oT,o0,o0,o0],[o0]] [NF ((Gn (fun x=>DL x (k2:Int) true) c.Aa.xs k3:Nat):Int) 1,BT ((((Gn (fun x=>DL x (k2:Int) false) c.Aa.xs k3:Nat):Int):Int)<1)] [(2,.bool false)] rfl ⟨nf,bt,Ae⟩ ?_
       refine Az [] [] (.bool false) Ae ?_
       intro w61 hw61
       refine⟨congrArg (fun b=>Ending.returned (Value.bool b)) (Eq.symm (?_:Ej c=false)),AA hw61⟩
       exact J4 (k:=k2) (by omega) (KC (by rw[←hy34];first | omega | (right;right;unfold Ju;rw[show c.Aa.xs.length=k3 by omega];omega)))
      by_cases h62:(4:Int)<((Gn (fun x=>DL x (k2:Int) false) c.Aa.xs k3:Nat):Int)
      ·refine Au 9 0 [1] [[o0,oF,o0,o0,oF,o0,o0,o0,oT,o0],[o0]] [NF ((Gn (fun x=>DL x (k2:Int) true) c.Aa.xs k3:Nat):Int) 1,BF ((((Gn (fun x=>DL x (k2:Int) false) c.Aa.xs k3:Nat):Int):Int)<1),BT ((((Gn (fun x=>DL x (k2:Int) false) c.Aa.xs k3:Nat):Int):Int) > 4)] [(2,.bool false)] rfl ⟨nf,bf,bt,Ae⟩ ?_
       refine Az [] [] (.bool false) Ae ?_
       intro w63 hw63
       refine⟨congrArg (fun b=>Ending.returned (Value.bool b)) (Eq.symm (?_:Ej c=false)),AA hw63⟩
       exact J4 (k:=k2) (by omega) (KC (by rw[←hy34];first | omega | (right;right;unfold Ju;rw[show c.Aa.xs.length=k3 by omega];omega)))
      refine Au 9 0 [0] [[o0,oF,o0,o0,oF,o0,o0,o0,oF,o0],[(ov (i6 ((k2+1:Nat):Int))),o0]] [NF ((Gn (fun x=>DL x (k2:Int) true) c.Aa.xs k3:Nat):Int) 1,BF ((((Gn (fun x=>DL x (k2:Int) false) c.Aa.xs k3:Nat):Int):Int)<1),BF ((((Gn (fun x=>DL x (k2:Int) false) c.Aa.xs k3:Nat):Int):Int) > 4),Wr ((k2:Int)+1) (((k2+1:Nat):Int))] [(1,pt z),(Hy c),(49,i6 ((k2+1:Nat):Int))] rfl ⟨nf,bf,bf,BQ,Ae⟩ ?_
      refine BX [0,1] [(Ak w),(ML z c)] rfl rfl ?_
      refine BK [1,48,49] [(1,pt z),(Hy c),(49,i6 ((k2+1:Nat):Int))] ?_
      refine BO (fun a w' hs=>⟨c.Aj.xs.length - (k2+1),by omega,n43,(k2+1),rfl,by omega,by omega,upto hch (VS (by rw[←hy34];omega) (by rw[←hy34];omega) (by unfold Ju;rw[show c.Aa.xs.length=k3 by omega];omega) (by unfold Ju;rw[show c.Aa.xs.length=k3 by omega];omega)),hs⟩)
     refine Au 9 0 [1] [[o0,oT,o0,o0,o0,o0],[o0]] [NT ((Gn (fun x=>DL x (k2:Int) true) c.Aa.xs k3:Nat):Int) 1] [(2,.bool false)] rfl ⟨nt,Ae⟩ ?_
     refine Az [] [] (.bool false) Ae ?_
     intro w64 hw64
     refine⟨congrArg (fun b=>Ending.returned (Value.bool b)) (Eq.symm (?_:Ej c=false)),AA hw64⟩
     exact J4 (k:=k2) (by omega) (KC (by rw[←hy34];first | omega | (right;right;unfold Ju;rw[show c.Aa.xs.length=k3 by omega];omega)))
    refine Bq 8 0 [1] [[oF,o0,o0,(a1 2),oT,o0,o0,(a1 2),oT,o0,o0],[o0]] [EF (portOf y34) 0,Qb n25,ET y34.Kind 1,Qb n25,NT y34.Dx 0] [(2,.bool false)] rfl ⟨ef,rfl,et,rfl,nt,Ae⟩ ?_
    refine Az [] [] (.bool false) Ae ?_
    intro w65 hw65
    refine⟨congrArg (fun b=>Ending.returned (Value.bool b)) (Eq.symm (?_:Ej c=false)),AA hw65⟩
    exact J4 (k:=k2) (by omega) (KC (by rw[←hy34];first | omega | (right;right;unfold Ju;rw[show c.Aa.xs.length=k3 by omega];omega)))
   refine Bq 19 0 [0] [[oF,o0,o0,(a1 2),oF,o0,o0,o0],[o0],[o0],[o0,(a1 1),o0,o0]] [EF (portOf y34) 0,Qb n25,EF y34.Kind 1,Qb z] [(1,pt z),(4,Ac k2),(6,i6 0),(7,i6 0),(Hy c),(49,Ac k2),(JP c),(73,i6 0)] rfl ⟨ef,rfl,ef,rfl,Ae⟩ ?_
   refine Du (fun m a w'=>∃ (n67:Nat) (k3:Nat),m=c.Aa.xs.length - k3∧n36≤n67∧(k3≤c.Aa.xs.length)∧St 106 [(1,pt z),(4,Ac k2),(PY c k2 k3),(O8 c k2 k3),(Hy c),(49,Ac k2),(JP c),(73,Ac k3)] [] ⟨w,n67,[(Ak w),(ML z c),(Ub n25 y34)]⟩ a w') (c.Aa.xs.length - 0) ?_ ?_
   ·intro a w' hs;exact⟨n36,0,rfl,Nat.le_refl _,Nat.zero_le _,hs⟩
   rintro m a w' ⟨n67,k3,rfl,hn66,hkk3,hs⟩
   refine(?_:G Tryd.prog 106 [(1,pt z),(4,Ac k2),(PY c k2 k3),(O8 c k2 k3),(Hy c),(49,Ac k2),(JP c),(73,Ac k3)] [] ⟨w,n67,[(Ak w),(ML z c),(Ub n25 y34)]⟩ _ _ _) a w' hs
   clear hs a w'
   have hsa:=V5 (f:=fun x=>DL x (k2:Int) true) (B:=8) (xs:=c.Aa.xs) (fun i hi=>Po (hp i (by omega)) _ _) k3 hkk3
   have hsb:=V5 (f:=fun x=>DL x (k2:Int) false) (B:=8) (xs:=c.Aa.xs) (fun i hi=>Po (hp i (by omega)) _ _) k3 hkk3
   refine CB ?_
   by_cases h68:(k3:Int)<(c.Aa.xs.length:Int)
   ·refine Au 14 0 [1] [[oT],[o0,o0]] [BT ((k3:Int)<(c.Aa.xs.length:Int))] [(1,pt z),(4,Ac k2),(PY c k2 k3),(O8 c k2 k3),(Hy c),(49,Ac k2),(JP c),(73,Ac k3),(8,Ac k3)] rfl ⟨bt,Ae⟩ ?_
    obtain⟨b69,o70,ha71,hF73,hc72⟩:=(hc.Aa).1.all (show 0<c.Aa.xs.length by omega)
    replace ha71:c.Aa.a=some ⟨b69,o70,none⟩:=ha71
    have hc74:=hc72 k3 (show k3<c.Aa.xs.length by omega)
    have he75:=(hc.Aa).2 k3 (show k3<c.Aa.xs.length by omega)
    obtain⟨y76,hy76⟩:∃ y_,y_=gd c.Aa.xs k3:=⟨_,rfl⟩
    rw[←hy76]at he75 hc74
    have hqy76:=hp k3 (by omega);rw[←hy76]at hqy76;have hl1y76:=Po hqy76 (k2:Int) true;have hl2y76:=Po hqy76 (k2:Int) false
    refine Au 1 7 [] [[o0,o0,(E8 1 b69 o70 c.Aa),o0,(oi k3),(ol 0 (Ar.arr y76)),o0]] [Qb z,DZ b69 o70 c.Aa,CW k3,k3<c.Aa.xs.length,Ce,GU w b69 (o70+k3*8) (Ar.arr y76)] [(1,pt z),(4,Ac k2),(O8 c k2 k3),(Hy c),(49,Ac k2),(JP c),(73,Ac k3),(8,Ac k3),(76,i6 ((Gn (fun x=>DL x (k2:Int) true) c.Aa.xs k3:Nat):Int)),(81,.agg (Ar.arr y76)),(82,Ac k2)] rfl ⟨rfl,Ea ha71,rfl,(by omega),rfl,Ei hc74,Ae⟩ ?_
    refine AY 55 #[.agg (Ar.arr y76),Ac k2,.bool true] (some 83) (i6 ((DL y76 (k2:Int) true:Nat):Int)) (fun w77 hw77=>NE w77 y76 (k2:Int) true (he75.ext (hw77.ext rfl) (fun _ h=>h))) (fun n78 (hn79:n67≤n78) => ?_)
    refine Bq 3 7 [] [[(ov (i6 (((Gn (fun x=>DL x (k2:Int) true) c.Aa.xs k3)+(DL y76 (k2:Int) true):Nat):Int))),o0],[o0,o0,(E8 1 b69 o70 c.Aa),o0,(oi k3),(ol 0 (Ar.arr y76)),o0]] [Wr ((((Gn (fun x=>DL x (k2:Int) true) c.Aa.xs k3:Nat):Int):Int)+((DL y76 (k2:Int) true:Nat):Int)) ((((Gn (fun x=>DL x (k2:Int) true) c.Aa.xs k3)+(DL y76 (k2:Int) true):Nat):Int)),Qb z,DZ b69 o70 c.Aa,CW k3,k3<c.Aa.xs.length,Ce,GU w b69 (o70+k3*8) (Ar.arr y76)] [(1,pt z),(4,Ac k2),(Hy c),(49,Ac k2),(JP c),(73,Ac k3),(Za c k2 k3 y76),(85,i6 ((Gn (fun x=>DL x (k2:Int) false) c.Aa.xs k3:Nat):Int)),(90,.agg (Ar.arr y76)),(91,Ac k2)] rfl ⟨BQ,rfl,Ea ha71,rfl,(by omega),rfl,Ei hc74,Ae⟩ ?_
    refine AY 55 #[.agg (Ar.arr y76),Ac k2,.bool false] (some 92) (i6 ((DL y76 (k2:Int) false:Nat):Int)) (fun w80 hw80=>NE w80 y76 (k2:Int) false (he75.ext (hw80.ext rfl) (fun _ h=>h))) (fun n81 (hn82:n78≤n81) => ?_)
    refine Bq 5 0 [] [[(ov (i6 (((Gn (fun x=>DL x (k2:Int) false) c.Aa.xs k3)+(DL y76 (k2:Int) false):Nat):Int))),o0],[(ov (i6 ((k3+1:Nat):Int))),o0]] [Wr ((((Gn (fun x=>DL x (k2:Int) false) c.Aa.xs k3:Nat):Int):Int)+((DL y76 (k2:Int) false:Nat):Int)) ((((Gn (fun x=>DL x (k2:Int) false) c.Aa.xs k3)+(DL y76 (k2:Int) false):Nat):Int)),Wr ((k3:Int)+1) (((k3+1:Nat):Int))] [(1,pt z),(4,Ac k2),(Hy c),(49,Ac k2),(JP c),(73,i6 ((k3+1:Nat):Int)),(Za c k2 k3 y76),(7,i6 (((Gn (fun x=>DL x (k2:Int) false) c.Aa.xs k3)+(DL y76 (k2:Int) false):Nat):Int))] rfl ⟨BQ,BQ,Ae⟩ ?_
    have hT1:=Qq (f:=fun x=>DL x (k2:Int) true) (show k3<c.Aa.xs.length by omega)
    have hT2:=Qq (f:=fun x=>DL x (k2:Int) false) (show k3<c.Aa.xs.length by omega)
    rw[←hy76]at hT1 hT2
    refine BK [1,4,6,7,48,49,72,73] [(1,pt z),(4,Ac k2),(Za c k2 k3 y76),(7,i6 (((Gn (fun x=>DL x (k2:Int) false) c.Aa.xs k3)+(DL y76 (k2:Int) false):Nat):Int)),(Hy c),(49,Ac k2),(JP c),(73,i6 ((k3+1:Nat):Int))] ?_
    refine BO (fun a w' hs=>⟨c.Aa.xs.length - (k3+1),by omega,n81,(k3+1),rfl,by omega,by omega,by(try dsimp only[Ub,ML,Za,O8,PY,P6,JP,Hy]at hs ⊢);rw[hT1,hT2];exact hs⟩)
   refine Au 11 0 [0] [[oF]] [BF ((k3:Int)<(c.Aa.xs.length:Int))] [(1,pt z),(4,Ac k2),(PY c k2 k3),(O8 c k2 k3),(Hy c),(49,Ac k2),(JP c),(73,Ac k3),(74,.bool false)] rfl ⟨bf,Ae⟩ ?_
   by_cases h83:(((Gn (fun x=>DL x (k2:Int) true) c.Aa.xs k3:Nat):Int):Int)=1
   ·by_cases h84:(((Gn (fun x=>DL x (k2:Int) false) c.Aa.xs k3:Nat):Int):Int)<1
    ·refine Au 9 0 [1] [[o0,oF,o0,o0,oT,o0,o0,o0],[o0]] [NF ((Gn (fun x=>DL x (k2:Int) true) c.Aa.xs k3:Nat):Int) 1,BT ((((Gn (fun x=>DL x (k2:Int) false) c.Aa.xs k3:Nat):Int):Int)<1)] [(2,.bool false)] rfl ⟨nf,bt,Ae⟩ ?_
     refine Az [] [] (.bool false) Ae ?_
     intro w85 hw85
     refine⟨congrArg (fun b=>Ending.returned (Value.bool b)) (Eq.symm (?_:Ej c=false)),AA hw85⟩
     exact J4 (k:=k2) (by omega) (KC (by rw[←hy34];first | omega | (right;right;unfold Ju;rw[show c.Aa.xs.length=k3 by omega];omega)))
    by_cases h86:(4:Int)<((Gn (fun x=>DL x (k2:Int) false) c.Aa.xs k3:Nat):Int)
    ·refine Au 9 0 [1] [[o0,oF,o0,o0,oF,o0,o0,o0,oT,o0],[o0]] [NF ((Gn (fun x=>DL x (k2:Int) true) c.Aa.xs k3:Nat):Int) 1,BF ((((Gn (fun x=>DL x (k2:Int) false) c.Aa.xs k3:Nat):Int):Int)<1),BT ((((Gn (fun x=>DL x (k2:Int) false) c.Aa.xs k3:Nat):Int):Int) > 4)] [(2,.bool false)] rfl ⟨nf,bf,bt,Ae⟩ ?_
     refine Az [] [] (.bool false) Ae ?_
     intro w87 hw87
     refine⟨congrArg (fun b=>Ending.returned (Value.bool b)) (Eq.symm (?_:Ej c=false)),AA hw87⟩
     exact J4 (k:=k2) (by omega) (KC (by rw[←hy34];first | omega | (right;right;unfold Ju;rw[show c.Aa.xs.length=k3 by omega];omega)))
    refine Au 9 0 [0] [[o0,oF,o0,o0,oF,o0,o0,o0,oF,o0],[(ov (i6 ((k2+1:Nat):Int))),o0]] [NF ((Gn (fun x=>DL x (k2:Int) true) c.Aa.xs k3:Nat):Int) 1,BF ((((Gn (fun x=>DL x (k2:Int) false) c.Aa.xs k3:Nat):Int):Int)<1),BF ((((Gn (fun x=>DL x (k2:Int) false) c.Aa.xs k3:Nat):Int):Int) > 4),Wr ((k2:Int)+1) (((k2+1:Nat):Int))] [(1,pt z),(Hy c),(49,i6 ((k2+1:Nat):Int))] rfl ⟨nf,bf,bf,BQ,Ae⟩ ?_
    refine BX [0,1] [(Ak w),(ML z c)] rfl rfl ?_
    refine BK [1,48,49] [(1,pt z),(Hy c),(49,i6 ((k2+1:Nat):Int))] ?_
    refine BO (fun a w' hs=>⟨c.Aj.xs.length - (k2+1),by omega,n67,(k2+1),rfl,by omega,by omega,upto hch (VS (by rw[←hy34];omega) (by rw[←hy34];omega) (by unfold Ju;rw[show c.Aa.xs.length=k3 by omega];omega) (by unfold Ju;rw[show c.Aa.xs.length=k3 by omega];omega)),hs⟩)
   refine Au 9 0 [1] [[o0,oT,o0,o0,o0,o0],[o0]] [NT ((Gn (fun x=>DL x (k2:Int) true) c.Aa.xs k3:Nat):Int) 1] [(2,.bool false)] rfl ⟨nt,Ae⟩ ?_
   refine Az [] [] (.bool false) Ae ?_
   intro w88 hw88
   refine⟨congrArg (fun b=>Ending.returned (Value.bool b)) (Eq.symm (?_:Ej c=false)),AA hw88⟩
   exact J4 (k:=k2) (by omega) (KC (by rw[←hy34];first | omega | (right;right;unfold Ju;rw[show c.Aa.xs.length=k3 by omega];omega)))
  refine Au 15 0 [0] [[oF],[o0]] [BF ((k2:Int)<(c.Aj.xs.length:Int))] [(2,.bool true)] rfl ⟨bf,Ae⟩ ?_
  refine Az [] [] (.bool true) Ae ?_
  intro w89 hw89
  refine⟨congrArg (fun b=>Ending.returned (Value.bool b)) (Eq.symm (?_:Ej c=true)),AA hw89⟩
  exact conf_yes (by omega) (by omega) (by omega) (fun i hi=>hp i (by omega)) (fun i hi=>hch i (by omega))
 refine Au 9 0 [1] [[o0,(a1 1),oF,o0,o0,(a1 1),oT,o0,o0,o0,o0,o0],[o0]] [Qb z,BF ((c.Kernel:Int)<0),Qb z,BT ((c.Kernel:Int)≥1024)] [(2,.bool false)] rfl ⟨rfl,bf,rfl,bt,Ae⟩ ?_
 refine Az [] [] (.bool false) Ae ?_
 intro w90 hw90
 refine⟨congrArg (fun b=>Ending.returned (Value.bool b)) (Eq.symm (?_:Ej c=false)),AA hw90⟩
 exact Pj (by omega)
def CQ(p:Nat)(x:Ar)(k:Int)(b:Bool)(j:Nat):List Gp:=((List.range j).filter (fun q=>IW k b (gd x.Ap.xs q))).map (fun(q:Nat)=>(⟨(p:Int),(q:Int)⟩:Gp))
def Dj(c:Ai)(k:Int)(b:Bool)(i:Nat):List Gp:=(List.range i).flatMap (fun p=>CQ p (gd c.Aa.xs p) k b (gd c.Aa.xs p).Ap.xs.length)
def Cj(c:Ai)(k:Int)(b:Bool):List Gp:=Dj c k b c.Aa.xs.length
theorem Ph{p:Nat}{x:Ar}{k:Int}{b:Bool}{j:Nat}(h:IW k b (gd x.Ap.xs j)=true):CQ p x k b (j+1)=CQ p x k b j++[⟨(p:Int),(j:Int)⟩]:=by
 unfold CQ;rw[List.range_succ,List.filter_append,List.map_append];simp[h]
theorem Le{p:Nat}{x:Ar}{k:Int}{b:Bool}{j:Nat}(h:IW k b (gd x.Ap.xs j)=false):CQ p x k b (j+1)=CQ p x k b j:=by
 unfold CQ;rw[List.range_succ,List.filter_append,List.map_append];simp[h]
theorem QT{p:Nat}{x:Ar}{k:Int}{b:Bool}{j:Nat}:(CQ p x k b j).length≤j:=by
 unfold CQ;rw[List.length_map];exact Nat.le_trans (List.length_filter_le _ _) (by simp)
theorem LY{c:Ai}{k:Int}{b:Bool}{i:Nat}:Dj c k b (i+1)=Dj c k b i++CQ i (gd c.Aa.xs i) k b (gd c.Aa.xs i).Ap.xs.length:=by
 unfold Dj;rw[List.range_succ,List.flatMap_append];simp
theorem SS{c:Ai}{k:Int}{b:Bool}(hp:∀ i,i<c.Aa.xs.length→(gd c.Aa.xs i).Ap.xs.length≤8):∀ (i:Nat),i≤c.Aa.xs.length→(Dj c k b i).length≤8*i
 | 0,_=>by simp[Dj]
 | i+1,h=>by
  have h1:=SS (k:=k) (b:=b) hp i (by omega)
  have h2:=hp i (by omega)
  have h3:=QT (p:=i) (x:=gd c.Aa.xs i) (k:=k) (b:=b) (j:=(gd c.Aa.xs i).Ap.xs.length)
  rw[LY,List.length_append];omega
theorem cnt_range(xs:List Ed)(p:Ed→Bool):∀ (j:Nat),j≤xs.length→((List.range j).filter (fun q=>p (gd xs q))).length=(xs.take j).countP p
 | 0,_=>by simp
 | j+1,h=>by
  rw[List.range_succ,List.filter_append,List.length_append,cnt_range xs p j (by omega),take_snoc (by omega),List.countP_append]
  cases hp:p (gd xs j) <;> simp[hp]
theorem YR{c:Ai}{k:Int}{b:Bool}:∀ (i:Nat),i≤c.Aa.xs.length→(Dj c k b i).length=Gn (fun x=>DL x k b) c.Aa.xs i
 | 0,_=>by simp[Dj,Gn]
 | i+1,h=>by
  rw[LY,List.length_append,YR i (by omega),Qq (by omega)]
  congr 1
  unfold CQ DL
  rw[List.length_map,cnt_range _ _ _ (Nat.le_refl _),List.take_length]
theorem Rt(c:Ai)(k:Nat)(b:Bool):(Cj c k b).length=Ju c k b:=YR _ (Nat.le_refl _)
section
variable (n2:Nat)(y11:Ar)(z:Nat)(c:Ai)(aD2:Option Addr)(ch:Int)(i j cD2:Nat)(aS2:Option Addr)(cS2:Nat)(aD:Option Addr)(cD:Nat)(aS:Option Addr)(cS b4:Nat)(o5 b15 o16:Nat)
abbrev Gz:=bk n2 (Ar.arr y11) 52
abbrev EW:=bk z (Ai.arr c) 26
abbrev FB:=Cm z 121 2 Gp.cells (.slice aD2 ((Dj c ch false i++CQ i y11 ch false j).length) cD2) (Dj c ch false i++CQ i y11 ch false j)
abbrev FK:=Cm z 121 2 Gp.cells (.slice aS2 ((Dj c ch true i++CQ i y11 ch true j).length) cS2) (Dj c ch true i++CQ i y11 ch true j)
abbrev FC:=Cm z 121 2 Gp.cells (.slice aD ((Dj c ch false i).length) cD) (Dj c ch false i)
abbrev Hz:=Cm z 121 2 Gp.cells (.slice aS ((Dj c ch true i).length) cS) (Dj c ch true i)
abbrev FT:Dk:=(5,.slice aD2 ((Dj c ch false i++CQ i y11 ch false j).length) cD2)
abbrev FD:Dk:=(4,.slice aS2 ((Dj c ch true i++CQ i y11 ch true j).length) cS2)
abbrev EZ:Dk:=(11,.slice (some ⟨b4,o5,none⟩) c.Aa.xs.length c.Aa.cap)
abbrev GI:Dk:=(19,.slice (some ⟨b15,o16,none⟩) y11.Ap.xs.length y11.Ap.cap)
abbrev Eu:Dk:=(11,.slice c.Aa.a c.Aa.xs.length c.Aa.cap)
abbrev EU:Dk:=(19,.slice y11.Ap.a y11.Ap.xs.length y11.Ap.cap)
abbrev Ep:=(12,Ac c.Aa.xs.length)
abbrev H8:=(20,Ac y11.Ap.xs.length)
abbrev JY:Dk:=(5,.slice aD ((Dj c ch false i).length) cD)
abbrev Lu:=(21,i6 ((j+1:Nat):Int))
end
theorem Rj(w:World)(c:Ai)(ch:Int)(hc:Ai.ok Any w c)(hl:c.Aa.xs.length≤8)(hp:∀ i,i<c.Aa.xs.length→(gd c.Aa.xs i).Ap.xs.length≤8):Calls Tryd.prog 39 #[.agg (Ai.arr c),.int .i64 ch] w fun e w'=>∃ a1 c1 a2 c2,e = .returned (.tuple #[.slice a1 (Cj c ch true).length c1,.slice a2 (Cj c ch false).length c2])∧Wy Gp.cells 2 (New w.heap.size) w' ⟨a1,c1,Cj c ch true⟩∧Wy Gp.cells 2 (New w.heap.size) w' ⟨a2,c2,Cj c ch false⟩∧CE (fun _=>False) w w':=by
 obtain⟨z,hz⟩:∃ z,z=w.heap.size:=⟨_,rfl⟩
 refine Cb (args:=[.agg (Ai.arr c),i6 ch]) 50 ⟨w,z,[(Ak w)]⟩ Tryd.func39 rfl (by kernel_rfl) (by kernel_rfl) (Em hz) ?_
 refine DI [0,1] [(0,.agg (Ai.arr c)),(1,i6 ch)] ?_
 refine q_c 10 0 [] [[o0,o0,o0],[o0,(a1 1),o0,o0]] [Qb z] [(1,i6 ch),(4,.slice none 0 0),(5,.slice none 0 0),(Eu c),(Ep c),(13,i6 0)] ⟨w,z+1,[(Ak w),(EW z c)]⟩ rfl ⟨rfl,Ae⟩ ?_
 refine Pn z 121 2 Gp.cells ?_
 refine Pn z 121 2 Gp.cells ?_
 refine Du (fun m a w'=>∃ (n2:Nat) (i:Nat) (aS:Option Addr) (cS:Nat) (aD:Option Addr) (cD:Nat),m=c.Aa.xs.length - i∧z+1≤n2∧(i≤c.Aa.xs.length)∧St 50 [(1,i6 ch),(4,.slice aS ((Dj c ch true i).length) cS),(JY c ch i aD cD),(Eu c),(Ep c),(13,Ac i)] [] ⟨w,n2,[(Ak w),(EW z c),(Hz z c ch i aS cS),(FC z c ch i aD cD)]⟩ a w') (c.Aa.xs.length - 0) ?_ ?_
 ·intro a w' hs;exact⟨(z+1),0,none,0,none,0,rfl,Nat.le_refl _,Nat.zero_le _,hs⟩
 rintro m a w' ⟨n2,i,aS,cS,aD,cD,rfl,hn1,hki,hs⟩
 refine(?_:G Tryd.prog 50 [(1,i6 ch),(4,.slice aS ((Dj c ch true i).length) cS),(JY c ch i aD cD),(Eu c),(Ep c),(13,Ac i)] [] ⟨w,n2,[(Ak w),(EW z c),(Hz z c ch i aS cS),(FC z c ch i aD cD)]⟩ _ _ _) a w' hs
 clear hs a w'
 have hq3:=SS (k:=ch) (b:=true) hp i (by omega)
 have hq4:=SS (k:=ch) (b:=false) hp i (by omega)
 refine CB ?_
 by_cases h3:(i:Int)<(c.Aa.xs.length:Int)
 ·refine Au 10 0 [1] [[oT]] [BT ((i:Int)<(c.Aa.xs.length:Int))] [(1,i6 ch),(4,.slice aS ((Dj c ch true i).length) cS),(JY c ch i aD cD),(Eu c),(Ep c),(13,Ac i),(14,.bool true)] rfl ⟨bt,Ae⟩ ?_
  obtain⟨b4,o5,ha6,hF8,hc7⟩:=(hc.Aa).1.all (show 0<c.Aa.xs.length by omega)
  replace ha6:c.Aa.a=some ⟨b4,o5,none⟩:=ha6
  refine LH [(1,i6 ch),(4,.slice aS ((Dj c ch true i).length) cS),(JY c ch i aD cD),(EZ c b4 o5),(Ep c),(13,Ac i),(14,.bool true)] (by(try dsimp only[EW,FC,Hz,EZ,Eu,Ep,JY]);simp only[ha6]) ?_
  have hc9:=hc7 i (show i<c.Aa.xs.length by omega)
  have he10:=(hc.Aa).2 i (show i<c.Aa.xs.length by omega)
  obtain⟨y11,hy11⟩:∃ y_,y_=gd c.Aa.xs i:=⟨_,rfl⟩
  rw[←hy11]at he10 hc9
  have h8y11:=hp i (by omega);rw[←hy11]at h8y11
  refine q_c 8 0 [] [[o0,(oi i),(ol 0 (Ar.arr y11)),o0,o0,(an 8 4)],[o0,(a1 4),o0,o0]] [CW i,i<c.Aa.xs.length,Ce,GU w b4 (o5+i*8) (Ar.arr y11),Qb n2,Qb n2,Qb n2,Qb n2,Qb n2,Qb n2,Qb n2,Qb n2,Qb n2] [(1,i6 ch),(4,.slice aS ((Dj c ch true i).length) cS),(JY c ch i aD cD),(6,Ac i),(EZ c b4 o5),(Ep c),(13,Ac i),(EU y11),(H8 y11),(21,i6 0)] ⟨w,n2+1,[(Ak w),(EW z c),(Hz z c ch i aS cS),(FC z c ch i aD cD),(Gz n2 y11)]⟩ rfl ⟨rfl,(by omega),rfl,Ei hc9,rfl,rfl,rfl,rfl,rfl,rfl,rfl,rfl,rfl,Ae⟩ ?_
  refine Du (fun m a w'=>∃ (n13:Nat) (j:Nat) (aS2:Option Addr) (cS2:Nat) (aD2:Option Addr) (cD2:Nat),m=y11.Ap.xs.length - j∧n2+1≤n13∧(j≤y11.Ap.xs.length)∧St 50 [(1,i6 ch),(FD y11 c ch i j aS2 cS2),(FT y11 c aD2 ch i j cD2),(6,Ac i),(EZ c b4 o5),(Ep c),(13,Ac i),(EU y11),(H8 y11),(21,Ac j)] [] ⟨w,n13,[(Ak w),(EW z c),(FK y11 z c ch i j aS2 cS2),(FB y11 z c aD2 ch i j cD2),(Gz n2 y11)]⟩ a w') (y11.Ap.xs.length - 0) ?_ ?_
  ·intro a w' hs;exact⟨(n2+1),0,aS,cS,aD,cD,rfl,Nat.le_refl _,Nat.zero_le _,by(try dsimp only[Gz,EW,FB,FK,FC,Hz,FT,FD,EZ,Eu,EU,Ep,H8,JY]at hs ⊢);rw[show CQ i y11 ch true 0=[]from rfl,show CQ i y11 ch false 0=[]from rfl,List.append_nil,List.append_nil];exact hs⟩
  rintro m a w' ⟨n13,j,aS2,cS2,aD2,cD2,rfl,hn12,hkj,hs⟩
  refine(?_:G Tryd.prog 50 [(1,i6 ch),(FD y11 c ch i j aS2 cS2),(FT y11 c aD2 ch i j cD2),(6,Ac i),(EZ c b4 o5),(Ep c),(13,Ac i),(EU y11),(H8 y11),(21,Ac j)] [] ⟨w,n13,[(Ak w),(EW z c),(FK y11 z c ch i j aS2 cS2),(FB y11 z c aD2 ch i j cD2),(Gz n2 y11)]⟩ _ _ _) a w' hs
  clear hs a w'
  have hq1:(CQ i y11 ch true j).length≤j:=QT
  have hq2:(CQ i y11 ch false j).length≤j:=QT
  refine CB ?_
  by_cases h14:(j:Int)<(y11.Ap.xs.length:Int)
  ·refine Au 10 0 [1] [[oT]] [BT ((j:Int)<(y11.Ap.xs.length:Int))] [(1,i6 ch),(FD y11 c ch i j aS2 cS2),(FT y11 c aD2 ch i j cD2),(6,Ac i),(EZ c b4 o5),(Ep c),(13,Ac i),(EU y11),(H8 y11),(21,Ac j),(22,.bool true)] rfl ⟨bt,Ae⟩ ?_
   obtain⟨b15,o16,ha17,hF19,hc18⟩:=(he10.Ap).1.all (show 0<y11.Ap.xs.length by omega)
   replace ha17:y11.Ap.a=some ⟨b15,o16,none⟩:=ha17
   refine LH [(1,i6 ch),(FD y11 c ch i j aS2 cS2),(FT y11 c aD2 ch i j cD2),(6,Ac i),(EZ c b4 o5),(Ep c),(13,Ac i),(GI y11 b15 o16),(H8 y11),(21,Ac j),(22,.bool true)] (by(try dsimp only[Gz,EW,FB,FK,FC,Hz,FT,FD,EZ,GI,Eu,EU,Ep,H8,JY]);simp only[ha17]) ?_
   have hc20:=hc18 j (show j<y11.Ap.xs.length by omega)
   have he21:=(he10.Ap).2 j (show j<y11.Ap.xs.length by omega)
   obtain⟨y22,hy22⟩:∃ y_,y_=gd y11.Ap.xs j:=⟨_,rfl⟩
   rw[←hy22]at he21 hc20
   refine q_c 5 0 [] [[o0,(oi j),(ol 0 (Ed.arr y22)),o0,o0,(an 2 5)]] [CW j,j<y11.Ap.xs.length,Ce,GU w b15 (o16+j*2) (Ed.arr y22),Qb n13,Qb n13] [(1,i6 ch),(FD y11 c ch i j aS2 cS2),(FT y11 c aD2 ch i j cD2),(6,Ac i),(EZ c b4 o5),(Ep c),(13,Ac i),(GI y11 b15 o16),(H8 y11),(21,Ac j),(9,pt n13),(8,Ac j)] ⟨w,n13+1,[(Ak w),(EW z c),(FK y11 z c ch i j aS2 cS2),(FB y11 z c aD2 ch i j cD2),(Gz n2 y11),(bk n13 (Ed.arr y22) 127)]⟩ rfl ⟨rfl,(by omega),rfl,Ei hc20,rfl,rfl,Ae⟩ ?_
   by_cases h23:(y22.Channel:Int)=ch
   ·refine Au 8 0 [0] [[o0,(a1 5),o0,oF,o0],[o0,(a1 5),o0]] [Qb n13,NF y22.Channel ch,Qb n13] [(1,i6 ch),(FD y11 c ch i j aS2 cS2),(FT y11 c aD2 ch i j cD2),(6,Ac i),(EZ c b4 o5),(Ep c),(13,Ac i),(GI y11 b15 o16),(H8 y11),(21,Ac j),(8,Ac j),(37,.bool y22.Source)] rfl ⟨rfl,nf,rfl,Ae⟩ ?_
    by_cases h24:y22.Source=true
    ·refine q_c 2 5 [3] [[o0,o0,o0,o0,o0]] [Value.bool y22.Source=Value.bool true] [(1,i6 ch),(FT y11 c aD2 ch i j cD2),(6,Ac i),(EZ c b4 o5),(Ep c),(13,Ac i),(GI y11 b15 o16),(H8 y11),(21,Ac j),(40,.slice aS2 ((Dj c ch true i++CQ i y11 ch true j).length) cS2),(44,.slice (some ⟨n13+1,0,none⟩) 1 1)] ⟨w,n13+2,[(Ak w),(EW z c),(FK y11 z c ch i j aS2 cS2),(FB y11 z c aD2 ch i j cD2),(Gz n2 y11),(bk n13 (Ed.arr y22) 127),(bk (n13+1) #[(Ac i),Ac j] 121)]⟩ rfl ⟨(congrArg Value.bool h24),Ae⟩ ?_
     refine NY z 2 6 (Dj c ch true i++CQ i y11 ch true j) [(⟨(i:Int),(j:Int)⟩:Gp)] Gp.cells 121 2 16 (.slice aS2 ((Dj c ch true i++CQ i y11 ch true j).length) cS2) (n13+1) 1 1 #[(Ac i),Ac j] 121 (0,0) true (some 45) (by simp only[List.length_cons,List.length_nil,List.length_append];omega) (show z≤n13+2 by omega) (fun ax25 cp26 n27 (hn28:n13+2≤n27) => ?_)
     refine Bq 6 0 [] [[o0],[(ov (i6 ((j+1:Nat):Int))),o0]] [Wr ((j:Int)+1) (((j+1:Nat):Int))] [(1,i6 ch),(FT y11 c aD2 ch i j cD2),(6,Ac i),(EZ c b4 o5),(Ep c),(13,Ac i),(GI y11 b15 o16),(H8 y11),(Lu j),(4,.slice ax25 ((Dj c ch true i++CQ i y11 ch true j++[(⟨(i:Int),(j:Int)⟩:Gp)]).length) cp26)] rfl ⟨BQ,Ae⟩ ?_
     refine BX [0,1,2,3,4] [(Ak w),(EW z c),(Cm z 121 2 Gp.cells (.slice ax25 ((Dj c ch true i++CQ i y11 ch true j++[(⟨(i:Int),(j:Int)⟩:Gp)]).length) cp26) (Dj c ch true i++CQ i y11 ch true j++[(⟨(i:Int),(j:Int)⟩:Gp)])),(FB y11 z c aD2 ch i j cD2),(Gz n2 y11)] rfl rfl ?_
     have hTtrue:=Ph (p:=i) (x:=y11) (k:=ch) (b:=true) (j:=j) (by rw[←hy22];exact Xk (by omega) (by revert h24;cases y22.Source <;> simp))
     have hTfalse:=Le (p:=i) (x:=y11) (k:=ch) (b:=false) (j:=j) (by rw[←hy22];exact UO (by revert h24;cases y22.Source <;> simp))
     refine GR [1,4,5,6,11,12,13,19,20,21] [(1,i6 ch),(4,.slice ax25 ((Dj c ch true i++CQ i y11 ch true j++[(⟨(i:Int),(j:Int)⟩:Gp)]).length) cp26),(FT y11 c aD2 ch i j cD2),(6,Ac i),(EZ c b4 o5),(Ep c),(13,Ac i),(EU y11),(H8 y11),(Lu j)] (by(try dsimp only[Gz,EW,FB,FK,FC,Hz,FT,FD,EZ,GI,Eu,EU,Ep,H8,JY,Lu]);simp only[ha17];rfl) ?_
     refine BO (fun a w' hs=>⟨y11.Ap.xs.length - (j+1),by omega,n27,(j+1),ax25,cp26,aD2,cD2,rfl,by omega,by omega,by(try dsimp only[Gz,EW,FB,FK,FC,Hz,FT,FD,EZ,GI,Eu,EU,Ep,H8,JY,Lu]at hs ⊢);rw[hTtrue,←List.append_assoc,hTfalse];exact hs⟩)
    refine q_c 2 5 [2] [[o0,o0,o0,o0,o0]] [Value.bool y22.Source=Value.bool false] [(1,i6 ch),(FD y11 c ch i j aS2 cS2),(6,Ac i),(EZ c b4 o5),(Ep c),(13,Ac i),(GI y11 b15 o16),(H8 y11),(21,Ac j),(26,.slice aD2 ((Dj c ch false i++CQ i y11 ch false j).length) cD2),(30,.slice (some ⟨n13+1,0,none⟩) 1 1)] ⟨w,n13+2,[(Ak w),(EW z c),(FK y11 z c ch i j aS2 cS2),(FB y11 z c aD2 ch i j cD2),(Gz n2 y11),(bk n13 (Ed.arr y22) 127),(bk (n13+1) #[(Ac i),Ac j] 121)]⟩ rfl ⟨(congrArg Value.bool (Bool.eq_false_iff.2 h24)),Ae⟩ ?_
    refine NY z 3 6 (Dj c ch false i++CQ i y11 ch false j) [(⟨(i:Int),(j:Int)⟩:Gp)] Gp.cells 121 2 16 (.slice aD2 ((Dj c ch false i++CQ i y11 ch false j).length) cD2) (n13+1) 1 1 #[(Ac i),Ac j] 121 (0,0) true (some 31) (by simp only[List.length_cons,List.length_nil,List.length_append];omega) (show z≤n13+2 by omega) (fun ax29 cp30 n31 (hn32:n13+2≤n31) => ?_)
    refine Bq 6 0 [] [[o0],[(ov (i6 ((j+1:Nat):Int))),o0]] [Wr ((j:Int)+1) (((j+1:Nat):Int))] [(1,i6 ch),(FD y11 c ch i j aS2 cS2),(6,Ac i),(EZ c b4 o5),(Ep c),(13,Ac i),(GI y11 b15 o16),(H8 y11),(Lu j),(5,.slice ax29 ((Dj c ch false i++CQ i y11 ch false j++[(⟨(i:Int),(j:Int)⟩:Gp)]).length) cp30)] rfl ⟨BQ,Ae⟩ ?_
    refine BX [0,1,2,3,4] [(Ak w),(EW z c),(FK y11 z c ch i j aS2 cS2),(Cm z 121 2 Gp.cells (.slice ax29 ((Dj c ch false i++CQ i y11 ch false j++[(⟨(i:Int),(j:Int)⟩:Gp)]).length) cp30) (Dj c ch false i++CQ i y11 ch false j++[(⟨(i:Int),(j:Int)⟩:Gp)])),(Gz n2 y11)] rfl rfl ?_
    have hTtrue:=Le (p:=i) (x:=y11) (k:=ch) (b:=true) (j:=j) (by rw[←hy22];exact UO (by revert h24;cases y22.Source <;> simp))
    have hTfalse:=Ph (p:=i) (x:=y11) (k:=ch) (b:=false) (j:=j) (by rw[←hy22];exact Xk (by omega) (by revert h24;cases y22.Source <;> simp))
    refine GR [1,4,5,6,11,12,13,19,20,21] [(1,i6 ch),(FD y11 c ch i j aS2 cS2),(5,.slice ax29 ((Dj c ch false i++CQ i y11 ch false j++[(⟨(i:Int),(j:Int)⟩:Gp)]).length) cp30),(6,Ac i),(EZ c b4 o5),(Ep c),(13,Ac i),(EU y11),(H8 y11),(Lu j)] (by(try dsimp only[Gz,EW,FB,FK,FC,Hz,FT,FD,EZ,GI,Eu,EU,Ep,H8,JY,Lu]);simp only[ha17];rfl) ?_
    refine BO (fun a w' hs=>⟨y11.Ap.xs.length - (j+1),by omega,n31,(j+1),aS2,cS2,ax29,cp30,rfl,by omega,by omega,by(try dsimp only[Gz,EW,FB,FK,FC,Hz,FT,FD,EZ,GI,Eu,EU,Ep,H8,JY,Lu]at hs ⊢);rw[hTtrue,hTfalse,←List.append_assoc];exact hs⟩)
   refine Au 10 0 [1] [[o0,(a1 5),o0,oT,o0],[(ov (i6 ((j+1:Nat):Int))),o0]] [Qb n13,NT y22.Channel ch,Wr ((j:Int)+1) (((j+1:Nat):Int))] [(1,i6 ch),(FD y11 c ch i j aS2 cS2),(FT y11 c aD2 ch i j cD2),(6,Ac i),(EZ c b4 o5),(Ep c),(13,Ac i),(GI y11 b15 o16),(H8 y11),(Lu j)] rfl ⟨rfl,nt,BQ,Ae⟩ ?_
   refine BX [0,1,2,3,4] [(Ak w),(EW z c),(FK y11 z c ch i j aS2 cS2),(FB y11 z c aD2 ch i j cD2),(Gz n2 y11)] rfl rfl ?_
   have hTtrue:=Le (p:=i) (x:=y11) (k:=ch) (b:=true) (j:=j) (by rw[←hy22];exact Wl (by omega))
   have hTfalse:=Le (p:=i) (x:=y11) (k:=ch) (b:=false) (j:=j) (by rw[←hy22];exact Wl (by omega))
   refine GR [1,4,5,6,11,12,13,19,20,21] [(1,i6 ch),(FD y11 c ch i j aS2 cS2),(FT y11 c aD2 ch i j cD2),(6,Ac i),(EZ c b4 o5),(Ep c),(13,Ac i),(EU y11),(H8 y11),(Lu j)] (by(try dsimp only[Gz,EW,FB,FK,FC,Hz,FT,FD,EZ,GI,Eu,EU,Ep,H8,JY,Lu]);simp only[ha17];rfl) ?_
   refine BO (fun a w' hs=>⟨y11.Ap.xs.length - (j+1),by omega,(n13+1),(j+1),aS2,cS2,aD2,cD2,rfl,by omega,by omega,by(try dsimp only[Gz,EW,FB,FK,FC,Hz,FT,FD,EZ,GI,Eu,EU,Ep,H8,JY,Lu]at hs ⊢);rw[hTtrue,hTfalse];exact hs⟩)
  refine Au 13 0 [0] [[oF],[(ov (i6 ((i+1:Nat):Int))),o0]] [BF ((j:Int)<(y11.Ap.xs.length:Int)),Wr ((i:Int)+1) (((i+1:Nat):Int))] [(1,i6 ch),(FD y11 c ch i j aS2 cS2),(FT y11 c aD2 ch i j cD2),(EZ c b4 o5),(Ep c),(13,i6 ((i+1:Nat):Int))] rfl ⟨bf,BQ,Ae⟩ ?_
  refine BX [0,1,2,3] [(Ak w),(EW z c),(FK y11 z c ch i j aS2 cS2),(FB y11 z c aD2 ch i j cD2)] rfl rfl ?_
  refine GR [1,4,5,11,12,13] [(1,i6 ch),(FD y11 c ch i j aS2 cS2),(FT y11 c aD2 ch i j cD2),(Eu c),(Ep c),(13,i6 ((i+1:Nat):Int))] (by(try dsimp only[Gz,EW,FB,FK,FC,Hz,FT,FD,EZ,GI,Eu,EU,Ep,H8,JY,Lu]);simp only[ha6];rfl) ?_
  refine BO (fun a w' hs=>⟨c.Aa.xs.length - (i+1),by omega,n13,(i+1),aS2,cS2,aD2,cD2,rfl,by omega,by omega,by(try dsimp only[Gz,EW,FB,FK,FC,Hz,FT,FD,EZ,GI,Eu,EU,Ep,H8,JY,Lu]at hs ⊢);rw[LY,LY,←hy11,show y11.Ap.xs.length=j by omega];exact hs⟩)
 refine Au 15 0 [0] [[oF],[o0,o0,o0,o0]] [BF ((i:Int)<(c.Aa.xs.length:Int))] [(4,.slice aS ((Dj c ch true i).length) cS),(JY c ch i aD cD)] rfl ⟨bf,Ae⟩ ?_
 refine Az [] [] (.tuple #[.slice aS ((Dj c ch true i).length) cS,.slice aD ((Dj c ch false i).length) cD]) Ae ?_
 intro w33 hw33
 have e0:i=c.Aa.xs.length:=by omega
 subst e0
 refine⟨_,_,_,_,rfl,hz ▸ Sv (fun _=>rfl) (hw33.at (i:=2) rfl) (by unfold Cj;omega),hz ▸ Sv (fun _=>rfl) (hw33.at (i:=3) rfl) (by unfold Cj;omega),AA hw33⟩
section
variable (z:Nat)(c:Ai)(b11 o12:Nat)(b27 o28:Nat)
abbrev MH:=bk z (Ai.arr c) 26
abbrev Ur:Dk:=(30,.slice (some ⟨b11,o12,none⟩) c.Aa.xs.length c.Aa.cap)
abbrev Py:Dk:=(42,.slice (some ⟨b27,o28,none⟩) c.Aj.xs.length c.Aj.cap)
abbrev PS:Dk:=(30,.slice c.Aa.a c.Aa.xs.length c.Aa.cap)
abbrev QV:Dk:=(42,.slice c.Aj.a c.Aj.xs.length c.Aj.cap)
abbrev Nu:=(31,Ac c.Aa.xs.length)
abbrev Ls:=(43,Ac c.Aj.xs.length)
end
theorem can_calls(w:World)(c:Ai)(hc:Ai.ok Any w c):Calls Tryd.prog 37 #[.agg (Ai.arr c)] w fun e w'=>e = .returned (.bool (Ej c))∧CE (fun _=>False) w w':=by
 obtain⟨z,hz⟩:∃ z,z=w.heap.size:=⟨_,rfl⟩
 refine Cb (args:=[.agg (Ai.arr c)]) 82 ⟨w,z,[(Ak w)]⟩ Tryd.func37 rfl (by kernel_rfl) (by kernel_rfl) (Em hz) ?_
 have hlC:=hc.Aj.1.len
 refine DI [0] [(0,.agg (Ai.arr c))] ?_
 refine q_c 6 0 [] [[o0,o0]] [] [(1,pt z)] ⟨w,z+1,[(Ak w),(MH z c)]⟩ rfl Ae ?_
 by_cases h1:(c.Kernel:Int)<0
 ·refine Au 9 0 [1] [[o0,(a1 1),oT,o0,o0,o0,o0,o0,o0],[o0]] [Qb z,BT ((c.Kernel:Int)<0)] [(2,.bool false)] rfl ⟨rfl,bt,Ae⟩ ?_
  refine Az [] [] (.bool false) Ae ?_
  intro w2 hw2
  refine⟨congrArg (fun b=>Ending.returned (Value.bool b)) (Eq.symm (?_:Ej c=false)),AA hw2⟩
  exact Pj (by omega)
 by_cases h3:(c.Kernel:Int)<1024
 ·by_cases h4:(8:Int)<(c.Aa.xs.length:Int)
  ·refine Au 9 0 [1] [[o0,(a1 1),oF,o0,o0,(a1 1),oF,o0,o0,o0,(a1 1),o0,oT,o0,o0,o0],[o0]] [Qb z,BF ((c.Kernel:Int)<0),Qb z,BF ((c.Kernel:Int)≥1024),Qb z,BT ((c.Aa.xs.length:Int) > 8)] [(2,.bool false)] rfl ⟨rfl,bf,rfl,bf,rfl,bt,Ae⟩ ?_
   refine Az [] [] (.bool false) Ae ?_
   intro w5 hw5
   refine⟨congrArg (fun b=>Ending.returned (Value.bool b)) (Eq.symm (?_:Ej c=false)),AA hw5⟩
   exact Pj (by omega)
  by_cases h6:(16:Int)<(c.Aj.xs.length:Int)
  ·refine Au 9 0 [1] [[o0,(a1 1),oF,o0,o0,(a1 1),oF,o0,o0,o0,(a1 1),o0,oF,o0,o0,o0,(a1 1),o0,oT,o0],[o0]] [Qb z,BF ((c.Kernel:Int)<0),Qb z,BF ((c.Kernel:Int)≥1024),Qb z,BF ((c.Aa.xs.length:Int) > 8),Qb z,BT ((c.Aj.xs.length:Int) > 16)] [(2,.bool false)] rfl ⟨rfl,bf,rfl,bf,rfl,bf,rfl,bt,Ae⟩ ?_
   refine Az [] [] (.bool false) Ae ?_
   intro w7 hw7
   refine⟨congrArg (fun b=>Ending.returned (Value.bool b)) (Eq.symm (?_:Ej c=false)),AA hw7⟩
   exact Pj (by omega)
  refine Au 12 0 [0] [[o0,(a1 1),oF,o0,o0,(a1 1),oF,o0,o0,o0,(a1 1),o0,oF,o0,o0,o0,(a1 1),o0,oF,o0],[o0,(a1 1),o0,o0]] [Qb z,BF ((c.Kernel:Int)<0),Qb z,BF ((c.Kernel:Int)≥1024),Qb z,BF ((c.Aa.xs.length:Int) > 8),Qb z,BF ((c.Aj.xs.length:Int) > 16),Qb z] [(1,pt z),(PS c),(Nu c),(32,i6 0)] rfl ⟨rfl,bf,rfl,bf,rfl,bf,rfl,bf,rfl,Ae⟩ ?_
  refine Du (fun m a w'=>∃ (n9:Nat) (k:Nat),m=c.Aa.xs.length - k∧z+1≤n9∧(k≤c.Aa.xs.length)∧(∀ i,i<k→Ef c.Aj.xs.length (gd c.Aa.xs i)=true)∧St 82 [(1,pt z),(PS c),(Nu c),(32,Ac k)] [] ⟨w,n9,[(Ak w),(MH z c)]⟩ a w') (c.Aa.xs.length - 0) ?_ ?_
  ·intro a w' hs;exact⟨(z+1),0,rfl,Nat.le_refl _,Nat.zero_le _,fun i hi=>absurd hi (Nat.not_lt_zero i),hs⟩
  rintro m a w' ⟨n9,k,rfl,hn8,hkk,hp,hs⟩
  refine(?_:G Tryd.prog 82 [(1,pt z),(PS c),(Nu c),(32,Ac k)] [] ⟨w,n9,[(Ak w),(MH z c)]⟩ _ _ _) a w' hs
  clear hs a w'
  refine CB ?_
  by_cases h10:(k:Int)<(c.Aa.xs.length:Int)
  ·refine Au 10 0 [1] [[oT]] [BT ((k:Int)<(c.Aa.xs.length:Int))] [(1,pt z),(PS c),(Nu c),(32,Ac k),(33,.bool true)] rfl ⟨bt,Ae⟩ ?_
   obtain⟨b11,o12,ha13,hF15,hc14⟩:=(hc.Aa).1.all (show 0<c.Aa.xs.length by omega)
   replace ha13:c.Aa.a=some ⟨b11,o12,none⟩:=ha13
   refine LH [(1,pt z),(Ur c b11 o12),(Nu c),(32,Ac k),(33,.bool true)] (by(try dsimp only[MH,Ur,PS,Nu]);simp only[ha13]) ?_
   have hc16:=hc14 k (show k<c.Aa.xs.length by omega)
   have he17:=(hc.Aa).2 k (show k<c.Aa.xs.length by omega)
   obtain⟨y18,hy18⟩:∃ y_,y_=gd c.Aa.xs k:=⟨_,rfl⟩
   rw[←hy18]at he17 hc16
   refine q_c 5 2 [] [[(oi k),(ol 0 (Ar.arr y18)),o0,(an 8 2)],[(an 7 1),(an 8 2)]] [CW k,k<c.Aa.xs.length,Ce,GU w b11 (o12+k*8) (Ar.arr y18),Qb n9,Qb n9,Qb n9,Qb n9,Qb n9,Qb n9,Qb n9,Qb n9,Qb z,Qb z,Qb z,Qb z,Qb z,Qb z,Qb z,Qb n9,Qb n9,Qb n9,Qb n9,Qb n9,Qb n9,Qb n9,Qb n9] [(1,pt z),(Ur c b11 o12),(Nu c),(32,Ac k),(36,.agg (Ai.arr c)),(37,.agg (Ar.arr y18))] ⟨w,n9+1,[(Ak w),(MH z c),(bk n9 (Ar.arr y18) 52)]⟩ rfl ⟨rfl,(by omega),rfl,Ei hc16,rfl,rfl,rfl,rfl,rfl,rfl,rfl,rfl,rfl,rfl,rfl,rfl,rfl,rfl,rfl,rfl,rfl,rfl,rfl,rfl,rfl,rfl,rfl,Ae⟩ ?_
   refine AY 76 #[.agg (Ai.arr c),.agg (Ar.arr y18)] (some 38) (.bool (Ef c.Aj.xs.length y18)) (fun w19 hw19=>QK w19 c y18 (hc.ext (hw19.ext rfl) (fun _ h=>h)) (he17.ext (hw19.ext rfl) (fun _ h=>h))) (fun n20 (hn21:n9+1≤n20) => ?_)
   refine Dc [1,30,31,32,38] [(1,pt z),(Ur c b11 o12),(Nu c),(32,Ac k),(38,.bool (Ef c.Aj.xs.length y18))] ?_
   by_cases h22:(Ef c.Aj.xs.length y18)=true
   ·refine Bq 8 0 [0] [[(ov (.bool false))],[(ov (i6 ((k+1:Nat):Int))),o0]] [Value.bool (!(Ef c.Aj.xs.length y18))=Value.bool false,Wr ((k:Int)+1) (((k+1:Nat):Int))] [(1,pt z),(Ur c b11 o12),(Nu c),(32,i6 ((k+1:Nat):Int))] rfl ⟨by simp[h22],BQ,Ae⟩ ?_
    refine BX [0,1] [(Ak w),(MH z c)] rfl rfl ?_
    refine GR [1,30,31,32] [(1,pt z),(PS c),(Nu c),(32,i6 ((k+1:Nat):Int))] (by(try dsimp only[MH,Ur,PS,Nu]);simp only[ha13];rfl) ?_
    refine BO (fun a w' hs=>⟨c.Aa.xs.length - (k+1),by omega,n20,(k+1),rfl,by omega,by omega,upto hp (by rw[←hy18];exact h22),hs⟩)
   refine Bq 8 0 [1] [[(ov (.bool true))],[o0]] [Value.bool (!(Ef c.Aj.xs.length y18))=Value.bool true] [(2,.bool false)] rfl ⟨by simp[h22],Ae⟩ ?_
   refine Az [] [] (.bool false) Ae ?_
   intro w23 hw23
   refine⟨congrArg (fun b=>Ending.returned (Value.bool b)) (Eq.symm (?_:Ej c=false)),AA hw23⟩
   exact conf_no2 (k:=k) (by omega) (by rw[←hy18];exact Bool.eq_false_iff.2 h22)
  refine Au 16 0 [0] [[oF],[o0,(a1 1),o0,o0]] [BF ((k:Int)<(c.Aa.xs.length:Int)),Qb z] [(1,pt z),(QV c),(Ls c),(44,i6 0)] rfl ⟨bf,rfl,Ae⟩ ?_
  refine Du (fun m a w'=>∃ (n25:Nat) (k2:Nat),m=c.Aj.xs.length - k2∧n9≤n25∧(k2≤c.Aj.xs.length)∧(∀ i,i<k2→Oy c i=true)∧St 82 [(1,pt z),(QV c),(Ls c),(44,Ac k2)] [] ⟨w,n25,[(Ak w),(MH z c)]⟩ a w') (c.Aj.xs.length - 0) ?_ ?_
  ·intro a w' hs;exact⟨n9,0,rfl,Nat.le_refl _,Nat.zero_le _,fun i hi=>absurd hi (Nat.not_lt_zero i),hs⟩
  rintro m a w' ⟨n25,k2,rfl,hn24,hkk2,hch,hs⟩
  refine(?_:G Tryd.prog 82 [(1,pt z),(QV c),(Ls c),(44,Ac k2)] [] ⟨w,n25,[(Ak w),(MH z c)]⟩ _ _ _) a w' hs
  clear hs a w'
  refine CB ?_
  by_cases h26:(k2:Int)<(c.Aj.xs.length:Int)
  ·refine Au 10 0 [1] [[oT]] [BT ((k2:Int)<(c.Aj.xs.length:Int))] [(1,pt z),(QV c),(Ls c),(44,Ac k2),(45,.bool true)] rfl ⟨bt,Ae⟩ ?_
   obtain⟨b27,o28,ha29,hF31,hc30⟩:=(hc.Aj).1.all (show 0<c.Aj.xs.length by omega)
   replace ha29:c.Aj.a=some ⟨b27,o28,none⟩:=ha29
   refine LH [(1,pt z),(Py c b27 o28),(Ls c),(44,Ac k2),(45,.bool true)] (by(try dsimp only[MH,Ur,Py,PS,QV,Nu,Ls]);simp only[ha29]) ?_
   have hc32:=hc30 k2 (show k2<c.Aj.xs.length by omega)
   have he33:=(hc.Aj).2 k2 (show k2<c.Aj.xs.length by omega)
   obtain⟨y34,hy34⟩:∃ y_,y_=gd c.Aj.xs k2:=⟨_,rfl⟩
   rw[←hy34]at he33 hc32
   have hsb:=NH y34;have hsp:=Lh y34;have hec1:=Rt c k2 true;have hec2:=Rt c k2 false
   refine q_c 5 2 [] [[o0,(oi k2),(ol 0 (AZ.arr y34)),o0,o0,(an 3 2)],[(an 7 1),o0]] [CW k2,k2<c.Aj.xs.length,Ce,GU w b27 (o28+k2*3) (AZ.arr y34),Qb n25,Qb n25,Qb n25,Qb z,Qb z,Qb z,Qb z,Qb z,Qb z,Qb z] [(1,pt z),(Py c b27 o28),(Ls c),(44,Ac k2),(6,pt n25),(50,.agg (Ai.arr c)),(51,Ac k2)] ⟨w,n25+1,[(Ak w),(MH z c),(bk n25 (AZ.arr y34) 115)]⟩ rfl ⟨rfl,(by omega),rfl,Ei hc32,rfl,rfl,rfl,rfl,rfl,rfl,rfl,rfl,rfl,rfl,Ae⟩ ?_
   refine l_call [] [] 39 #[.agg (Ai.arr c),Ac k2] (some 52) Ae ?_
   intro w35 hw35
   refine(Rj w35 c (k2:Int) (hc.ext (hw35.ext rfl) (fun _ h=>h)) (by omega) (fun i hi=>Ol (hp i (by omega)))).mono ?_
   rintro e w36 ⟨ax37,cp38,ax39,cp40,rfl,hSw36,hDw36,hkw36⟩
   have hnw36:n25+1≤w36.heap.size:=I5 hw35 hkw36
   rw[hw35.size]at hSw36 hDw36
   refine⟨_,_,rfl,hw35.Ud hkw36, ?_⟩
   refine Bq 5 1 [] [[o0,o0,o0,o0,o0],[(an 3 2)]] [Qb n25,Qb n25,Qb n25] [(1,pt z),(Py c b27 o28),(Ls c),(44,Ac k2),(6,pt n25),(7,.slice ax37 ((Cj c (k2:Int) true).length) cp38),(8,.slice ax39 ((Cj c (k2:Int) false).length) cp40),(55,.agg (AZ.arr y34))] rfl ⟨rfl,rfl,rfl,Ae⟩ ?_
   refine AY 40 #[.agg (AZ.arr y34)] (some 56) (i6 (BL y34)) (fun w41 hw41=>PZ w41 y34 (he33.ext (hw41.ext rfl) (fun _ h=>h))) (fun n42 (hn43:w36.heap.size≤n42) => ?_)
   refine Dc [1,42,43,44,6,7,8,56] [(1,pt z),(Py c b27 o28),(Ls c),(44,Ac k2),(6,pt n25),(7,.slice ax37 ((Cj c (k2:Int) true).length) cp38),(8,.slice ax39 ((Cj c (k2:Int) false).length) cp40),(56,i6 (BL y34))] ?_
   by_cases h44:(BL y34:Int)=0
   ·refine Bq 8 0 [1] [[oT,o0,o0],[o0]] [ET (BL y34) 0] [(2,.bool false)] rfl ⟨et,Ae⟩ ?_
    refine Az [] [] (.bool false) Ae ?_
    intro w45 hw45
    refine⟨congrArg (fun b=>Ending.returned (Value.bool b)) (Eq.symm (?_:Ej c=false)),AA hw45⟩
    exact J4 (k:=k2) (by omega) (KC (by rw[←hy34];first | omega | (left;exact(Lh _).1 (by omega))))
   by_cases h46:(y34.Kind:Int)=1
   ·by_cases h47:(y34.Dx:Int)=0
    ·refine Bq 6 0 [0] [[oF,o0,o0,(a1 2),oT,o0,o0,(a1 2),oF,o0,o0]] [EF (BL y34) 0,Qb n25,ET y34.Kind 1,Qb n25,NF y34.Dx 0] [(1,pt z),(Py c b27 o28),(Ls c),(44,Ac k2),(7,.slice ax37 ((Cj c (k2:Int) true).length) cp38),(8,.slice ax39 ((Cj c (k2:Int) false).length) cp40),(67,.bool false)] rfl ⟨ef,rfl,et,rfl,nf,Ae⟩ ?_
     by_cases h48:((((Cj c (k2:Int) true).length:Nat):Int):Int)=1
     ·by_cases h49:((((Cj c (k2:Int) false).length:Nat):Int):Int)<1
      ·refine Au 9 0 [1] [[o0,o0,oF,o0,o0,o0,oT,o0,o0,o0],[o0]] [NF (((Cj c (k2:Int) true).length:Nat):Int) 1,BT (((((Cj c (k2:Int) false).length:Nat):Int):Int)<1)] [(2,.bool false)] rfl ⟨nf,bt,Ae⟩ ?_
       refine Az [] [] (.bool false) Ae ?_
       intro w50 hw50
       refine⟨congrArg (fun b=>Ending.returned (Value.bool b)) (Eq.symm (?_:Ej c=false)),AA hw50⟩
       exact J4 (k:=k2) (by omega) (KC (by rw[←hy34];first | omega | (left;exact(Lh _).1 (by omega))))
      by_cases h51:(4:Int)<(((Cj c (k2:Int) false).length:Nat):Int)
      ·refine Au 9 0 [1] [[o0,o0,oF,o0,o0,o0,oF,o0,o0,o0,o0,oT,o0],[o0]] [NF (((Cj c (k2:Int) true).length:Nat):Int) 1,BF (((((Cj c (k2:Int) false).length:Nat):Int):Int)<1),BT (((((Cj c (k2:Int) false).length:Nat):Int):Int) > 4)] [(2,.bool false)] rfl ⟨nf,bf,bt,Ae⟩ ?_
       refine Az [] [] (.bool false) Ae ?_
       intro w52 hw52
       refine⟨congrArg (fun b=>Ending.returned (Value.bool b)) (Eq.symm (?_:Ej c=false)),AA hw52⟩
       exact J4 (k:=k2) (by omega) (KC (by rw[←hy34];first | omega | (left;exact(Lh _).1 (by omega))))
      refine Au 9 0 [0] [[o0,o0,oF,o0,o0,o0,oF,o0,o0,o0,o0,oF,o0],[(ov (i6 ((k2+1:Nat):Int))),o0]] [NF (((Cj c (k2:Int) true).length:Nat):Int) 1,BF (((((Cj c (k2:Int) false).length:Nat):Int):Int)<1),BF (((((Cj c (k2:Int) false).length:Nat):Int):Int) > 4),Wr ((k2:Int)+1) (((k2+1:Nat):Int))] [(1,pt z),(Py c b27 o28),(Ls c),(44,i6 ((k2+1:Nat):Int))] rfl ⟨nf,bf,bf,BQ,Ae⟩ ?_
      refine BX [0,1] [(Ak w),(MH z c)] rfl rfl ?_
      refine GR [1,42,43,44] [(1,pt z),(QV c),(Ls c),(44,i6 ((k2+1:Nat):Int))] (by(try dsimp only[MH,Py,PS,QV,Nu,Ls]);simp only[ha29];rfl) ?_
      refine BO (fun a w' hs=>⟨c.Aj.xs.length - (k2+1),by omega,n42,(k2+1),rfl,by omega,by omega,upto hch (VS (by rw[←hy34];intro e;exact absurd (hsp.2 e) (by omega)) (by rw[←hy34];omega) (by omega) (by omega)),hs⟩)
     refine Au 9 0 [1] [[o0,o0,oT,o0,o0,o0,o0],[o0]] [NT (((Cj c (k2:Int) true).length:Nat):Int) 1] [(2,.bool false)] rfl ⟨nt,Ae⟩ ?_
     refine Az [] [] (.bool false) Ae ?_
     intro w53 hw53
     refine⟨congrArg (fun b=>Ending.returned (Value.bool b)) (Eq.symm (?_:Ej c=false)),AA hw53⟩
     exact J4 (k:=k2) (by omega) (KC (by rw[←hy34];first | omega | (left;exact(Lh _).1 (by omega))))
    refine Bq 8 0 [1] [[oF,o0,o0,(a1 2),oT,o0,o0,(a1 2),oT,o0,o0],[o0]] [EF (BL y34) 0,Qb n25,ET y34.Kind 1,Qb n25,NT y34.Dx 0] [(2,.bool false)] rfl ⟨ef,rfl,et,rfl,nt,Ae⟩ ?_
    refine Az [] [] (.bool false) Ae ?_
    intro w54 hw54
    refine⟨congrArg (fun b=>Ending.returned (Value.bool b)) (Eq.symm (?_:Ej c=false)),AA hw54⟩
    exact J4 (k:=k2) (by omega) (KC (by rw[←hy34];first | omega | (left;exact(Lh _).1 (by omega))))
   refine Bq 6 0 [0] [[oF,o0,o0,(a1 2),oF,o0,o0,o0]] [EF (BL y34) 0,Qb n25,EF y34.Kind 1] [(1,pt z),(Py c b27 o28),(Ls c),(44,Ac k2),(7,.slice ax37 ((Cj c (k2:Int) true).length) cp38),(8,.slice ax39 ((Cj c (k2:Int) false).length) cp40),(67,.bool false)] rfl ⟨ef,rfl,ef,Ae⟩ ?_
   by_cases h55:((((Cj c (k2:Int) true).length:Nat):Int):Int)=1
   ·by_cases h56:((((Cj c (k2:Int) false).length:Nat):Int):Int)<1
    ·refine Au 9 0 [1] [[o0,o0,oF,o0,o0,o0,oT,o0,o0,o0],[o0]] [NF (((Cj c (k2:Int) true).length:Nat):Int) 1,BT (((((Cj c (k2:Int) false).length:Nat):Int):Int)<1)] [(2,.bool false)] rfl ⟨nf,bt,Ae⟩ ?_
     refine Az [] [] (.bool false) Ae ?_
     intro w57 hw57
     refine⟨congrArg (fun b=>Ending.returned (Value.bool b)) (Eq.symm (?_:Ej c=false)),AA hw57⟩
     exact J4 (k:=k2) (by omega) (KC (by rw[←hy34];first | omega | (left;exact(Lh _).1 (by omega))))
    by_cases h58:(4:Int)<(((Cj c (k2:Int) false).length:Nat):Int)
    ·refine Au 9 0 [1] [[o0,o0,oF,o0,o0,o0,oF,o0,o0,o0,o0,oT,o0],[o0]] [NF (((Cj c (k2:Int) true).length:Nat):Int) 1,BF (((((Cj c (k2:Int) false).length:Nat):Int):Int)<1),BT (((((Cj c (k2:Int) false).length:Nat):Int):Int) > 4)] [(2,.bool false)] rfl ⟨nf,bf,bt,Ae⟩ ?_
     refine Az [] [] (.bool false) Ae ?_
     intro w59 hw59
     refine⟨congrArg (fun b=>Ending.returned (Value.bool b)) (Eq.symm (?_:Ej c=false)),AA hw59⟩
     exact J4 (k:=k2) (by omega) (KC (by rw[←hy34];first | omega | (left;exact(Lh _).1 (by omega))))
    refine Au 9 0 [0] [[o0,o0,oF,o0,o0,o0,oF,o0,o0,o0,o0,oF,o0],[(ov (i6 ((k2+1:Nat):Int))),o0]] [NF (((Cj c (k2:Int) true).length:Nat):Int) 1,BF (((((Cj c (k2:Int) false).length:Nat):Int):Int)<1),BF (((((Cj c (k2:Int) false).length:Nat):Int):Int) > 4),Wr ((k2:Int)+1) (((k2+1:Nat):Int))] [(1,pt z),(Py c b27 o28),(Ls c),(44,i6 ((k2+1:Nat):Int))] rfl ⟨nf,bf,bf,BQ,Ae⟩ ?_
    refine BX [0,1] [(Ak w),(MH z c)] rfl rfl ?_
    refine GR [1,42,43,44] [(1,pt z),(QV c),(Ls c),(44,i6 ((k2+1:Nat):Int))] (by(try dsimp only[MH,Py,PS,QV,Nu,Ls]);simp only[ha29];rfl) ?_
    refine BO (fun a w' hs=>⟨c.Aj.xs.length - (k2+1),by omega,n42,(k2+1),rfl,by omega,by omega,upto hch (VS (by rw[←hy34];intro e;exact absurd (hsp.2 e) (by omega)) (by rw[←hy34];omega) (by omega) (by omega)),hs⟩)
   refine Au 9 0 [1] [[o0,o0,oT,o0,o0,o0,o0],[o0]] [NT (((Cj c (k2:Int) true).length:Nat):Int) 1] [(2,.bool false)] rfl ⟨nt,Ae⟩ ?_
   refine Az [] [] (.bool false) Ae ?_
   intro w60 hw60
   refine⟨congrArg (fun b=>Ending.returned (Value.bool b)) (Eq.symm (?_:Ej c=false)),AA hw60⟩
   exact J4 (k:=k2) (by omega) (KC (by rw[←hy34];first | omega | (left;exact(Lh _).1 (by omega))))
  refine Au 15 0 [0] [[oF],[o0]] [BF ((k2:Int)<(c.Aj.xs.length:Int))] [(2,.bool true)] rfl ⟨bf,Ae⟩ ?_
  refine Az [] [] (.bool true) Ae ?_
  intro w61 hw61
  refine⟨congrArg (fun b=>Ending.returned (Value.bool b)) (Eq.symm (?_:Ej c=true)),AA hw61⟩
  exact conf_yes (by omega) (by omega) (by omega) (fun i hi=>hp i (by omega)) (fun i hi=>hch i (by omega))
 refine Au 9 0 [1] [[o0,(a1 1),oF,o0,o0,(a1 1),oT,o0,o0,o0,o0,o0],[o0]] [Qb z,BF ((c.Kernel:Int)<0),Qb z,BT ((c.Kernel:Int)≥1024)] [(2,.bool false)] rfl ⟨rfl,bf,rfl,bt,Ae⟩ ?_
 refine Az [] [] (.bool false) Ae ?_
 intro w62 hw62
 refine⟨congrArg (fun b=>Ending.returned (Value.bool b)) (Eq.symm (?_:Ej c=false)),AA hw62⟩
 exact Pj (by omega)
def O4(g:BB)(n:Nat):List Nat:=(List.range n).map (fun(k:Nat)=>((g.Bg+(k:Int)) / 16).toNat)
def Gf(x:Ar)(i:Nat):List Nat:=(List.range i).flatMap (fun r=>O4 (gd x.Ah.xs r) (gd x.Ah.xs r).AL.toNat)
def KN(l:List Nat):Array Value:=((List.range 16).map (fun t=>Value.bool (l.contains t))).toArray
theorem VW(l:List Nat):(KN l).size=16:=by simp[KN]
theorem ZV(l:List Nat){t:Nat}(h:t<16):(KN l)[t]? = some (Value.bool (l.contains t)):=by simp[KN,h]
theorem mark_push(l:List Nat)(t:Nat):KN (l++[t])=(KN l).setIfInBounds t (.bool true):=by
 apply Array.ext_getElem?
 intro i
 rw[Array.getElem?_setIfInBounds,VW]
 by_cases hi:i<16
 ·rw[ZV _ hi,ZV _ hi]
  by_cases e:t=i
  ·subst e;simp[hi]
  rw[if_neg e]
  simp[Ne.symm e]
 have h1:∀ l,(KN l)[i]? = none:=fun l=>Array.getElem?_eq_none (by rw[VW];omega)
 rw[h1,h1]
 by_cases e:t=i
 ·subst e;simp[hi]
 simp[e]
theorem tabsOf_succ{g:BB}{k:Nat}:O4 g (k+1)=O4 g k++[((g.Bg+(k:Int)) / 16).toNat]:=by
 unfold O4;rw[List.range_succ,List.map_append];rfl
theorem tabsUp_succ{x:Ar}{i:Nat}:Gf x (i+1)=Gf x i++O4 (gd x.Ah.xs i) (gd x.Ah.xs i).AL.toNat:=by
 unfold Gf;rw[List.range_succ,List.flatMap_append];simp
def Jr(x:Ar):Nat:=(List.range 16).countP (fun t=>(Gf x x.Ah.xs.length).contains t)
theorem UB{p:Nat→Bool}{j:Nat}:(List.range (j+1)).countP p=(List.range j).countP p+if p j then 1 else 0:=by
 rw[List.range_succ,List.countP_append];simp[List.countP_singleton]
theorem U3(x:Ar):Jr x≤16:=Nat.le_trans List.countP_le_length (by simp)
theorem blk_row{b:Nat}{c:Array Value}{t:TypeId}{r:Bool}:RowOf (.blk b (.cells c t (0,0)) r) b 0 c:=fun w hw i v hv=>by
 have hw':w.heap[b]? = some (.cells c t (0,0)):=hw
 simp only[World.cell?,hw',Nat.zero_add];simpa using hv
section
variable (n2:Nat)(y11:BB)(z:Nat)(x:Ar)(j b4 o5:Nat)(w:World)
abbrev PT:=bk n2 (BB.arr y11) 103
abbrev LP:=bk z (Ar.arr x) 52
abbrev YJ:=(7,i6 ((((List.range j).countP (fun t=>(Gf x x.Ah.xs.length).contains t))+1:Nat):Int))
abbrev Ug:=(7,i6 (((List.range j).countP (fun t=>(Gf x x.Ah.xs.length).contains t):Nat):Int))
abbrev NR:Dk:=(11,.slice (some ⟨b4,o5,none⟩) x.Ah.xs.length x.Ah.cap)
abbrev O6:Dk:=(11,.slice x.Ah.a x.Ah.xs.length x.Ah.cap)
abbrev KQ:=(12,Ac x.Ah.xs.length)
abbrev QP:Dk:=(30,.agg (KN (Gf x x.Ah.xs.length)))
abbrev KX:=(3,pt (z+1))
abbrev Y3:=[(Ak w),(LP z x),(bk (z+1) (KN (Gf x x.Ah.xs.length)) 142)]
end
theorem tables_calls(w:World)(x:Ar)(hx:Ar.ok Any w x)(hr:∀ i,i<x.Ah.xs.length→Kw (gd x.Ah.xs i)=true):Calls Tryd.prog 42 #[.agg (Ar.arr x)] w fun e w'=>e = .returned (.int .i64 (Jr x:Nat))∧CE (fun _=>False) w w':=by
 obtain⟨z,hz⟩:∃ z,z=w.heap.size:=⟨_,rfl⟩
 refine Cb (args:=[.agg (Ar.arr x)]) 39 ⟨w,z,[(Ak w)]⟩ Tryd.func42 rfl (by kernel_rfl) (by kernel_rfl) (Em hz) ?_
 have hlR:=hx.Ah.1.len
 refine DI [0] [(0,.agg (Ar.arr x))] ?_
 refine q_c 14 0 [] [[o0,o0],[o0],[o0,(a1 1),o0,o0]] [Qb z] [(KX z),(O6 x),(KQ x),(13,i6 0)] ⟨w,z+2,[(Ak w),(LP z x),(bk (z+1) #[.bool false,.bool false,.bool false,.bool false,.bool false,.bool false,.bool false,.bool false,.bool false,.bool false,.bool false,.bool false,.bool false,.bool false,.bool false,.bool false] 142)]⟩ rfl ⟨rfl,Ae⟩ ?_
 refine Du (fun m a w'=>∃ (n2:Nat) (i:Nat),m=x.Ah.xs.length - i∧z+2≤n2∧(i≤x.Ah.xs.length)∧St 39 [(KX z),(O6 x),(KQ x),(13,Ac i)] [] ⟨w,n2,[(Ak w),(LP z x),(bk (z+1) (KN (Gf x i)) 142)]⟩ a w') (x.Ah.xs.length - 0) ?_ ?_
 ·intro a w' hs;exact⟨(z+2),0,rfl,Nat.le_refl _,Nat.zero_le _,hs⟩
 rintro m a w' ⟨n2,i,rfl,hn1,hki,hs⟩
 refine(?_:G Tryd.prog 39 [(KX z),(O6 x),(KQ x),(13,Ac i)] [] ⟨w,n2,[(Ak w),(LP z x),(bk (z+1) (KN (Gf x i)) 142)]⟩ _ _ _) a w' hs
 clear hs a w'
 refine CB ?_
 by_cases h3:(i:Int)<(x.Ah.xs.length:Int)
 ·refine Au 10 0 [1] [[oT]] [BT ((i:Int)<(x.Ah.xs.length:Int))] [(KX z),(O6 x),(KQ x),(13,Ac i),(14,.bool true)] rfl ⟨bt,Ae⟩ ?_
  obtain⟨b4,o5,ha6,hF8,hc7⟩:=(hx.Ah).1.all (show 0<x.Ah.xs.length by omega)
  replace ha6:x.Ah.a=some ⟨b4,o5,none⟩:=ha6
  refine LH [(KX z),(NR x b4 o5),(KQ x),(13,Ac i),(14,.bool true)] (by(try dsimp only[LP,NR,O6,KQ,KX]);simp only[ha6]) ?_
  have hc9:=hc7 i (show i<x.Ah.xs.length by omega)
  have he10:=(hx.Ah).2 i (show i<x.Ah.xs.length by omega)
  obtain⟨y11,hy11⟩:∃ y_,y_=gd x.Ah.xs i:=⟨_,rfl⟩
  rw[←hy11]at he10 hc9
  have hrg:=hr i (by omega);rw[←hy11]at hrg;unfold Kw at hrg;rw[decide_eq_true_eq]at hrg
  refine q_c 8 0 [] [[(oi i),(ol 0 (BB.arr y11)),o0,(an 4 3)],[o0,(a1 3),o0]] [CW i,i<x.Ah.xs.length,Ce,GU w b4 (o5+i*4) (BB.arr y11),Qb n2,Qb n2,Qb n2,Qb n2,Qb n2] [(KX z),(5,pt n2),(NR x b4 o5),(KQ x),(13,Ac i),(18,i6 y11.AL),(19,i6 0)] ⟨w,n2+1,[(Ak w),(LP z x),(bk (z+1) (KN (Gf x i)) 142),(PT n2 y11)]⟩ rfl ⟨rfl,(by omega),rfl,Ei hc9,rfl,rfl,rfl,rfl,rfl,Ae⟩ ?_
  refine Du (fun m a w'=>∃ (n13:Nat) (k:Nat),m=y11.AL.toNat - k∧n2+1≤n13∧(k≤y11.AL.toNat)∧St 39 [(KX z),(5,pt n2),(NR x b4 o5),(KQ x),(13,Ac i),(18,i6 y11.AL),(19,Ac k)] [] ⟨w,n13,[(Ak w),(LP z x),(bk (z+1) (KN (Gf x i++O4 y11 k)) 142),(PT n2 y11)]⟩ a w') (y11.AL.toNat - 0) ?_ ?_
  ·intro a w' hs;exact⟨(n2+1),0,rfl,Nat.le_refl _,Nat.zero_le _,by(try dsimp only[PT,LP,NR,O6,KQ,KX]at hs ⊢);rw[show O4 y11 0=[]from rfl,List.append_nil];exact hs⟩
  rintro m a w' ⟨n13,k,rfl,hn12,hkk,hs⟩
  refine(?_:G Tryd.prog 39 [(KX z),(5,pt n2),(NR x b4 o5),(KQ x),(13,Ac i),(18,i6 y11.AL),(19,Ac k)] [] ⟨w,n13,[(Ak w),(LP z x),(bk (z+1) (KN (Gf x i++O4 y11 k)) 142),(PT n2 y11)]⟩ _ _ _) a w' hs
  clear hs a w'
  refine CB ?_
  by_cases h14:(k:Int)<y11.AL
  ·refine q_c 19 0 [1] [[oT],[o0,o0],[o0,(a1 3),o0,(ov (i6 (y11.Bg+(k:Int)))),(ov (i6 ((y11.Bg+(k:Int)) / 16))),(oi (((y11.Bg+(k:Int)) / 16).toNat)),(oa [.atv 2 undef])],[(ov (i6 ((k+1:Nat):Int))),o0]] [BT ((k:Int)<y11.AL),Qb n2,Wr ((y11.Bg:Int)+(k:Int)) (y11.Bg+(k:Int)),Wr (Int.tdiv (y11.Bg+(k:Int)) 16) ((y11.Bg+(k:Int)) / 16),((y11.Bg+(k:Int)) / 16:Int)=((((y11.Bg+(k:Int)) / 16).toNat:Nat):Int),((y11.Bg+(k:Int)) / 16).toNat<16,Ce,Ce,Qb (z+1),0+(((y11.Bg+(k:Int)) / 16).toNat)<(KN (Gf x i++O4 y11 k)).size,Wr ((k:Int)+1) (((k+1:Nat):Int))] [(KX z),(5,pt n2),(NR x b4 o5),(KQ x),(13,Ac i),(18,i6 y11.AL),(19,i6 ((k+1:Nat):Int))] ⟨w,n13,[(Ak w),(LP z x),(Ch.blk (z+1) (.cells ((KN (Gf x i++O4 y11 k)).setIfInBounds (0+(((y11.Bg+(k:Int)) / 16).toNat)) (.bool true)) 142 (0,0)) true),(PT n2 y11)]⟩ rfl ⟨bt,rfl,BQ,congrArg (Value.int .i64) (Ob (by omega) (by omega) (by omega)),(by omega),(by omega),rfl,rfl,rfl,(by rw[VW];omega),BQ,Ae⟩ ?_
   refine BO (fun a w' hs=>⟨y11.AL.toNat - (k+1),by omega,n13,(k+1),rfl,by omega,by omega,by(try dsimp only[PT,LP,NR,O6,KQ,KX]at hs ⊢);rw[tabsOf_succ,←List.append_assoc,mark_push];simpa only[Nat.zero_add]using hs⟩)
  refine Au 13 0 [0] [[oF],[(ov (i6 ((i+1:Nat):Int))),o0]] [BF ((k:Int)<y11.AL),Wr ((i:Int)+1) (((i+1:Nat):Int))] [(KX z),(NR x b4 o5),(KQ x),(13,i6 ((i+1:Nat):Int))] rfl ⟨bf,BQ,Ae⟩ ?_
  refine BX [0,1,2] [(Ak w),(LP z x),(bk (z+1) (KN (Gf x i++O4 y11 k)) 142)] rfl rfl ?_
  refine GR [3,11,12,13] [(KX z),(O6 x),(KQ x),(13,i6 ((i+1:Nat):Int))] (by(try dsimp only[PT,LP,NR,O6,KQ,KX]);simp only[ha6];rfl) ?_
  refine BO (fun a w' hs=>⟨x.Ah.xs.length - (i+1),by omega,n13,(i+1),rfl,by omega,by omega,by(try dsimp only[PT,LP,NR,O6,KQ,KX]at hs ⊢);rw[tabsUp_succ,←hy11,show y11.AL.toNat=k by omega];exact hs⟩)
 refine Au 20 0 [0] [[oF],[o0],[⟨.row 2 (KN (Gf x i)),none⟩,o0]] [BF ((i:Int)<(x.Ah.xs.length:Int)),RowOf (bk (z+1) (KN (Gf x i)) 142) (z+1) 0 (KN (Gf x i))] [(7,i6 0),(30,.agg (KN (Gf x i))),(31,i6 0)] rfl ⟨bf,blk_row,Ae⟩ ?_
 have e0:i=x.Ah.xs.length:=by omega
 subst e0
 refine Du (fun m a w'=>∃ (n16:Nat) (j:Nat),m=16 - j∧n2≤n16∧(j≤16)∧St 39 [(Ug x j),(QP x),(31,Ac j)] [] ⟨w,n16,(Y3 z x w)⟩ a w') (16 - 0) ?_ ?_
 ·intro a w' hs;exact⟨n2,0,rfl,Nat.le_refl _,Nat.zero_le _,hs⟩
 rintro m a w' ⟨n16,j,rfl,hn15,hkj,hs⟩
 refine(?_:G Tryd.prog 39 [(Ug x j),(QP x),(31,Ac j)] [] ⟨w,n16,(Y3 z x w)⟩ _ _ _) a w' hs
 clear hs a w'
 have hcl:(List.range j).countP (fun t=>(Gf x x.Ah.xs.length).contains t)≤j:=Nat.le_trans List.countP_le_length (by simp)
 refine CB ?_
 by_cases h17:(j:Int)<16
 ·refine Au 17 0 [1] [[oT],[⟨.aidx j (.bool ((Gf x x.Ah.xs.length).contains j)),none⟩,o0],[o0]] [BT ((j:Int)<16),CW j,j<16,((KN (Gf x x.Ah.xs.length)):Array Value)[GZ 1 j]? = some (.bool ((Gf x x.Ah.xs.length).contains j))] [(Ug x j),(QP x),(31,Ac j),(34,.bool ((Gf x x.Ah.xs.length).contains j))] rfl ⟨bt,rfl,(by omega),(ZV (t:=j) _ (by omega)),Ae⟩ ?_
  by_cases h18:((Gf x x.Ah.xs.length).contains j)=true
  ·refine Au 7 0 [3] [[o0,(ov (i6 ((((List.range j).countP (fun t=>(Gf x x.Ah.xs.length).contains t))+1:Nat):Int))),o0],[(ov (i6 ((j+1:Nat):Int))),o0]] [Value.bool ((Gf x x.Ah.xs.length).contains j)=Value.bool true,Wr (((((List.range j).countP (fun t=>(Gf x x.Ah.xs.length).contains t):Nat):Int):Int)+1) (((((List.range j).countP (fun t=>(Gf x x.Ah.xs.length).contains t))+1:Nat):Int)),Wr ((j:Int)+1) (((j+1:Nat):Int))] [(YJ x j),(QP x),(31,i6 ((j+1:Nat):Int))] rfl ⟨(congrArg Value.bool h18),BQ,BQ,Ae⟩ ?_
   have hT:=UB (p:=fun t=>(Gf x x.Ah.xs.length).contains t) (j:=j)
   simp only[h18,if_true,if_false,Nat.add_zero]at hT
   refine BK [7,30,31] [(YJ x j),(QP x),(31,i6 ((j+1:Nat):Int))] ?_
   refine BO (fun a w' hs=>⟨16 - (j+1),by omega,n16,(j+1),rfl,by omega,by omega,by(try dsimp only[PT,LP,YJ,Ug,NR,O6,KQ,QP,KX,Y3]at hs ⊢);rw[hT];exact hs⟩)
  refine Au 6 0 [2] [[(ov (i6 ((j+1:Nat):Int))),o0]] [Value.bool ((Gf x x.Ah.xs.length).contains j)=Value.bool false,Wr ((j:Int)+1) (((j+1:Nat):Int))] [(Ug x j),(QP x),(31,i6 ((j+1:Nat):Int))] rfl ⟨(congrArg Value.bool (Bool.eq_false_iff.2 h18)),BQ,Ae⟩ ?_
  have hT:=UB (p:=fun t=>(Gf x x.Ah.xs.length).contains t) (j:=j)
  simp only[(Bool.eq_false_iff.2 h18),Bool.false_eq_true,if_true,if_false,Nat.add_zero]at hT
  refine BK [7,30,31] [(Ug x j),(QP x),(31,i6 ((j+1:Nat):Int))] ?_
  refine BO (fun a w' hs=>⟨16 - (j+1),by omega,n16,(j+1),rfl,by omega,by omega,by(try dsimp only[PT,LP,YJ,Ug,NR,O6,KQ,QP,KX,Y3]at hs ⊢);rw[hT];exact hs⟩)
 refine Au 15 0 [0] [[oF],[o0,o0]] [BF ((j:Int)<16)] [(2,i6 (((List.range j).countP (fun t=>(Gf x x.Ah.xs.length).contains t):Nat):Int))] rfl ⟨bf,Ae⟩ ?_
 refine Az [] [] (i6 (((List.range j).countP (fun t=>(Gf x x.Ah.xs.length).contains t):Nat):Int)) Ae ?_
 intro w19 hw19
 refine⟨congrArg (fun n=>Ending.returned (i6 n)) (?_:((((List.range j).countP (fun t=>(Gf x x.Ah.xs.length).contains t):Nat):Int):Int)=(Jr x:Int)),AA hw19⟩
 rw[show j=16 by omega];rfl
open Go Go.RowKit Go.Proofs.YtjdmhijaanmccaaDoor.Eng Go.Proofs.YtjdmhijaanmccaaDoor.Mem
def CV(c:Ai)(i:Nat):Int:=c.Kernel*16+2+24*(i:Int)
def PM(c:Ai)(i:Nat):Aq:=⟨CV c i,CV c i+2,CV c i+2+17,0,⟨none,0,[]⟩⟩
def I8(c:Ai)(i:Nat):List Aq:=(List.range i).map (PM c)
theorem placesUp_succ{c:Ai}{i:Nat}:I8 c (i+1)=I8 c i++[PM c i]:=by unfold I8;rw[List.range_succ,List.map_append];rfl
theorem WH{c:Ai}{i:Nat}:(I8 c i).length=i:=by simp[I8]
theorem YQ{β:Type}[Inhabited β]{f:Nat→β}{n i:Nat}(h:i<n):gd ((List.range n).map f) i=f i:=by
 rw[Gv (by simpa using h)];simp
def Kv(c:Ai)(k:Nat):Nat:=(Cj c (k:Int) false).length
def cLen(c:Ai)(k:Nat):Int:=2+BL (gd c.Aj.xs k)+(Kv c k:Int)*portOf (gd c.Aj.xs k)
def CX(c:Ai):Nat→Int
 | 0=>CV c c.Aa.xs.length
 | k+1=>CX c k+cLen c k
def Iy(c:Ai)(k j:Nat):Int:=CX c k+2+BL (gd c.Aj.xs k)+(j:Int)*portOf (gd c.Aj.xs k)
def PV(c:Ai)(k d:Nat):BH:=⟨(gd (Cj c (k:Int) false) d).partition,(gd (Cj c (k:Int) false) d).port,Iy c k d⟩
def Ff(c:Ai)(k j:Nat):List BH:=(List.range j).map (PV c k)
theorem WT{c:Ai}{k j:Nat}:Ff c k (j+1)=Ff c k j++[PV c k j]:=by unfold Ff;rw[List.range_succ,List.map_append];rfl
theorem UI{c:Ai}{k j:Nat}:(Ff c k j).length=j:=by simp[Ff]
theorem dAt_succ{c:Ai}{k j:Nat}:Iy c k (j+1)=Iy c k j+portOf (gd c.Aj.xs k):=by
 unfold Iy;rw[show((j+1:Nat):Int)=(j:Int)+1 from by omega,Int.add_mul];omega
theorem cAt_succ{c:Ai}{k:Nat}:CX c (k+1)=Iy c k (Kv c k):=by unfold Iy;rw[CX,cLen];omega
def JF(c:Ai)(k:Nat)(s:Sl BH):A8:=⟨CX c k,CX c k+2,(gd (Cj c (k:Int) true) 0).partition,(gd (Cj c (k:Int) true) 0).port,s⟩
def Ov(c:Ai):Int:=(CX c c.Aj.xs.length+16 - 1) / 16
def Ec(c:Ai):Nat→Int
 | 0=>Ov c
 | i+1=>Ec c i+1+(Jr (gd c.Aa.xs i):Int)
def FP(c:Ai)(i n:Nat):List Int:=(List.range n).map (fun(k:Nat)=>Ec c i+1+(k:Int))
theorem Yc{c:Ai}{i n:Nat}:FP c i (n+1)=FP c i n++[Ec c i+1+(n:Int)]:=by unfold FP;rw[List.range_succ,List.map_append];rfl
theorem VN{c:Ai}{i n:Nat}:(FP c i n).length=n:=by simp[FP]
def GN(c:Ai)(i:Nat)(s:Sl Int):Aq:=⟨CV c i,CV c i+2,CV c i+2+17,Ec c i,s⟩
structure Fine(c:Ai):Prop where
 kn:0≤c.Kernel∧c.Kernel<1024
 pn:c.Aa.xs.length≤8
 cn:c.Aj.xs.length≤16
 parts:∀ i,i<c.Aa.xs.length→Ef c.Aj.xs.length (gd c.Aa.xs i)=true
 chans:∀ i,i<c.Aj.xs.length→Oy c i=true
theorem TM{c:Ai}(h:Ej c=true):Fine c:=by
 unfold Ej at h
 simp only[Bool.and_eq_true,decide_eq_true_eq,List.all_eq_true,List.mem_range]at h
 exact⟨h.1.1.1.1,h.1.1.1.2,h.1.1.2,fun i hi=>h.1.2 _ (by rw[Gv hi];exact List.getElem_mem hi),h.2⟩
theorem Fine.X7{c:Ai}(h:Fine c){k:Nat}(hk:k<c.Aj.xs.length):(Cj c (k:Int) true).length=1∧1≤Kv c k∧Kv c k≤4:=by
 have:=h.chans k hk
 unfold Oy at this
 simp only[Bool.and_eq_true,decide_eq_true_eq]at this
 have e1:=Rt c k true
 have e2:=Rt c k false
 unfold Kv
 omega
theorem ZT{c:Ai}(h:Fine c){k:Nat}(hk:k<c.Aj.xs.length):2≤cLen c k∧cLen c k≤695:=by
 have h1:=NH (gd c.Aj.xs k)
 have h2:=TU (gd c.Aj.xs k)
 have h3:=h.X7 hk
 unfold cLen
 have h4:=Int.mul_nonneg (show(0:Int)≤(Kv c k:Int)by omega) h2.1
 have h5:=Int.mul_le_mul (show(Kv c k:Int)≤4 by omega) h2.2 h2.1 (by omega)
 omega
theorem Sz{c:Ai}(h:Fine c):∀ (k:Nat),k≤c.Aj.xs.length→CV c c.Aa.xs.length≤CX c k∧CX c k≤CV c c.Aa.xs.length+695*k
 | 0,_=>by simp[CX]
 | k+1,hk=>by
  have h1:=Sz h k (by omega)
  have h2:=ZT h (show k<c.Aj.xs.length by omega)
  rw[CX];omega
theorem dAt_bd{c:Ai}(h:Fine c){k j:Nat}(hk:k<c.Aj.xs.length)(hj:j≤4):CX c k≤Iy c k j∧Iy c k j≤CX c k+695:=by
 have h1:=NH (gd c.Aj.xs k)
 have h2:=TU (gd c.Aj.xs k)
 unfold Iy
 have h4:=Int.mul_nonneg (show(0:Int)≤(j:Int)by omega) h2.1
 have h5:=Int.mul_le_mul (show(j:Int)≤4 by omega) h2.2 h2.1 (by omega)
 omega
theorem frame0_bd{c:Ai}(h:Fine c):0≤Ov c∧Ov c≤2000:=by
 have h1:=Sz h _ (Nat.le_refl _)
 have h2:=h.kn;have h3:=h.pn;have h4:=h.cn
 unfold Ov
 unfold CV at h1
 omega
theorem QO{c:Ai}(h:Fine c):∀ (i:Nat),i≤c.Aa.xs.length→0≤Ec c i∧Ec c i≤2000+17*i
 | 0,_=>by have:=frame0_bd h;simp only[Ec];omega
 | i+1,hi=>by
  have h1:=QO h i (by omega)
  have h2:=U3 (gd c.Aa.xs i)
  rw[Ec];omega
theorem gd_push{α:Type}[Inhabited α]{xs:List α}{y:α}:gd (xs++[y]) xs.length=y:=by rw[Gv (by simp)];simp
theorem gd_old{α:Type}[Inhabited α]{xs:List α}{y:α}{q:Nat}(h:q<xs.length):gd (xs++[y]) q=gd xs q:=by
 rw[Gv h,Gv (by simp;omega),List.getElem_append_left h]
theorem NM{α:Type}[Inhabited α]{xs:List α}{y:α}{q:Nat}(h:q<xs.length):gd (xs.set q y) q=y:=by rw[Gv (by simpa using h)];simp
theorem Wv{α:Type}[Inhabited α]{xs:List α}{y:α}{q p:Nat}(h:q≠p)(hp:p<xs.length):gd (xs.set q y) p=gd xs p:=by rw[Gv (by simpa using hp),Gv hp,List.getElem_set_ne h]
theorem take_set_succ{α:Type}{xs:List α}{y:α}{i:Nat}(h:i<xs.length):(xs.set i y).take (i+1)=xs.take i++[y]:=by
 rw[List.take_succ_eq_append_getElem (by simpa using h),List.getElem_set_self]
 rw[List.take_set_of_le (Nat.le_refl i)]
theorem chans_push{c:Ai}{cs:List A8}{k:Nat}(hl:cs.length=k)(h:∀ q,q<k→∃ a cp,gd cs q=JF c q ⟨a,cp,Ff c q (Kv c q)⟩){y:A8}{a:Option Addr}{cp:Nat}(hy:y=JF c k ⟨a,cp,Ff c k (Kv c k)⟩) :
   ∀ q,q<k+1→∃ a cp,gd (cs++[y]) q=JF c q ⟨a,cp,Ff c q (Kv c q)⟩:=by
 intro q hq
 by_cases e:q=k
 · subst e;subst hl;exact⟨a,cp,by rw[gd_push];exact hy⟩
 · rw[gd_old (by omega)];exact h q (by omega)
theorem VI{α:Type}[Inhabited α]{cells:α→List Value}{sz:Nat}{ok:(Nat→Prop)→World→α→Prop}{F:Nat→Prop}{W:World}:La cells sz ok F W ⟨none,0,[]⟩ :=
 ⟨⟨Nat.zero_le _,Nat.le_refl _,fun h=>absurd rfl h⟩,fun i hi=>absurd hi (Nat.not_lt_zero i)⟩
structure VG(c:Ai)(L:G9):Prop where
 bar:L.TB=c.Kernel*16
 fin:L.End=Ec c c.Aa.xs.length
 pl:L.Aa.xs.length=c.Aa.xs.length
 ps:∀ p,p<c.Aa.xs.length→∃ a cp,gd L.Aa.xs p=GN c p ⟨a,cp,FP c p (Jr (gd c.Aa.xs p))⟩
 cl:L.Aj.xs.length=c.Aj.xs.length
 cs:∀ k,k<c.Aj.xs.length→∃ a cp,gd L.Aj.xs k=JF c k ⟨a,cp,Ff c k (Kv c k)⟩
end Go.Proofs.YtjdmhijaanmccaaDoor.Ly
