/- Packed: Ag, La, Lb, Lc, Ld, Le, Lf, Lg, Lh. No conditions. -/
import Derived.Test.YtlccogilgegnfaaDoorPb2
import Derived.WalkKit
set_option maxHeartbeats 4000000
namespace Go.Proofs.YtlccogilgegnfaaDoor.Ad
open Go Go.Proofs.YtlccogilgegnfaaDoor.Eng Go.Proofs.YtlccogilgegnfaaDoor.Mem Go.Proofs.YtlccogilgegnfaaDoor.Ly
set_option linter.unusedSimpArgs false
set_option linter.unusedVariables false
set_option maxRecDepth 100000
def Nk(c:Ai)(k n:Nat)(x:Fq):List Am:=[Af (win x.Partition (-1) ((c.Aa.xs.length:Nat) - 1)&&win x.BN 1 16384) 419 ⟨(k:Int),(n:Int)⟩,Af (win x.AX 82 16384) 420 ⟨(k:Int),(n:Int)⟩,Af (!Ip c k x.Partition) 422 ⟨(k:Int),(n:Int)⟩]
def F6(c:Ai)(k n:Nat):Am:=AY (Nk c k n (gd (DU c k).xs n))
def sumW(xs:List Fq)(n:Nat):Int:=(List.range n).foldl (fun s i=>s+((gd xs i).BN+(gd xs i).AX)) 0
theorem sumW_succ(xs:List Fq)(n:Nat):sumW xs (n+1)=sumW xs n+((gd xs n).BN+(gd xs n).AX):=by unfold sumW;rw[List.range_succ,List.foldl_append];rfl
theorem LQ{l:List Am}(h:AY l=AQ):∀ x∈l,x=AQ:=by
 induction l with
 | nil=>intro x hx;cases hx
 | cons a r ih =>
  unfold AY at h
  by_cases e:a=AQ
  ·rw[if_pos e]at h
   intro x hx
   rcases List.mem_cons.1 hx with rfl | hx
   ·exact e
   exact ih h x hx
  rw[if_neg e]at h;exact absurd h e
theorem TJ{c:Ai}{k n:Nat}(h:F6 c k n=AQ):(1≤(gd (DU c k).xs n).BN∧(gd (DU c k).xs n).BN≤16384)∧(82≤(gd (DU c k).xs n).AX∧(gd (DU c k).xs n).AX≤16384):=by
 unfold F6 Nk at h
 have h1:=LQ h _ (List.mem_cons_self ..)
 have h2:=LQ h _ (List.mem_cons_of_mem _ (List.mem_cons_self ..))
 rw[Ho (by decide)]at h1 h2
 rw[Bool.and_eq_true]at h1
 exact⟨Dz h1.2,Dz h2⟩
def Ea(c:Ai)(k:Nat):Am:=if win ((DU c k).xs.length:Nat) 1 16=false then⟨418,⟨(k:Int), -1⟩⟩else if Fv AQ (F6 c k) (DU c k).xs.length=AQ then Af (decide (sumW (DU c k).xs (DU c k).xs.length=c.Gg)) 421 ⟨(k:Int), -1⟩else Fv AQ (F6 c k) (DU c k).xs.length
theorem TP{f:Nat→Am}:∀ {n:Nat},(∀ a,a<n→f a=AQ)→Fv AQ f n=AQ
 | 0,_=>MH _ _
 | n+1,h=>(PS (TP (fun a ha=>h a (by omega)))).trans (h n (by omega))
theorem coreQ_a{c:Ai}{k:Nat}(h:¬ win ((DU c k).xs.length:Nat) 1 16=true):Ea c k=⟨418,⟨(k:Int), -1⟩⟩:=if_pos (by simpa using h)
theorem Wh{c:Ai}{k n:Nat}(h:win ((DU c k).xs.length:Nat) 1 16=true)(hf:∀ a,a<n→F6 c k a=AQ)(hn:n<(DU c k).xs.length)(hne:F6 c k n≠AQ):Ea c k=F6 c k n:=by
 have h1:=PS (TP hf)
 have h2:=Lr (k:=n+1) (by rw[h1];exact hne) (show n+1≤(DU c k).xs.length by omega)
 rw[h1]at h2
 unfold Ea
 rw[if_neg (by rw[h];simp),h2,if_neg hne]
theorem YG{c:Ai}{k n:Nat}(h:win ((DU c k).xs.length:Nat) 1 16=true)(hf:∀ a,a<n→F6 c k a=AQ)(hn:n=(DU c k).xs.length):Ea c k=Af (decide (sumW (DU c k).xs n=c.Gg)) 421 ⟨(k:Int), -1⟩:=by
 subst hn
 unfold Ea
 rw[if_neg (by rw[h];simp),if_pos (TP hf)]
section
variable (n46:Nat)(y24:Fq)(k n:Nat)(b54 n43:Nat)(n85 b93:Nat)(n82 n125:Nat)(b133 n122:Nat)(n163 b171:Nat)(n160 b47:Nat)(b53 b32:Nat)(b86 b92:Nat)(b71 b126:Nat)(b132 b112:Nat)(b164 b170:Nat)(b150 z n15:Nat)(c:Ai)(b17 o18:Nat)(y8:Sl Fq)
abbrev Zz:=bk n46 #[i6 ((Af (win y24.BN 1 16384) 419 ⟨(k:Int),(n:Int)⟩).e),i6 ((Af (win y24.BN 1 16384) 419 ⟨(k:Int),(n:Int)⟩).Ag.First),i6 ((Af (win y24.BN 1 16384) 419 ⟨(k:Int),(n:Int)⟩).Ag.Second),i6 ((Af (win y24.AX 82 16384) 420 ⟨(k:Int),(n:Int)⟩).e),i6 ((Af (win y24.AX 82 16384) 420 ⟨(k:Int),(n:Int)⟩).Ag.First),i6 ((Af (win y24.AX 82 16384) 420 ⟨(k:Int),(n:Int)⟩).Ag.Second),i6 ((Af false 422 ⟨(k:Int),(n:Int)⟩).e),i6 ((Af false 422 ⟨(k:Int),(n:Int)⟩).Ag.First),i6 ((Af false 422 ⟨(k:Int),(n:Int)⟩).Ag.Second)] 132
abbrev Zu:=bk b54 #[i6 ((Af (win y24.BN 1 16384) 419 ⟨(k:Int),(n:Int)⟩).e),i6 ((Af (win y24.BN 1 16384) 419 ⟨(k:Int),(n:Int)⟩).Ag.First),i6 ((Af (win y24.BN 1 16384) 419 ⟨(k:Int),(n:Int)⟩).Ag.Second),i6 ((Af (win y24.AX 82 16384) 420 ⟨(k:Int),(n:Int)⟩).e),i6 ((Af (win y24.AX 82 16384) 420 ⟨(k:Int),(n:Int)⟩).Ag.First),i6 ((Af (win y24.AX 82 16384) 420 ⟨(k:Int),(n:Int)⟩).Ag.Second),i6 ((Af false 422 ⟨(k:Int),(n:Int)⟩).e),i6 ((Af false 422 ⟨(k:Int),(n:Int)⟩).Ag.First),i6 ((Af false 422 ⟨(k:Int),(n:Int)⟩).Ag.Second)] 132
abbrev WL:=bk n43 #[i6 ((Af (win y24.BN 1 16384) 419 ⟨(k:Int),(n:Int)⟩).e),i6 ((Af (win y24.BN 1 16384) 419 ⟨(k:Int),(n:Int)⟩).Ag.First),i6 ((Af (win y24.BN 1 16384) 419 ⟨(k:Int),(n:Int)⟩).Ag.Second),i6 ((Af (win y24.AX 82 16384) 420 ⟨(k:Int),(n:Int)⟩).e),i6 ((Af (win y24.AX 82 16384) 420 ⟨(k:Int),(n:Int)⟩).Ag.First),i6 ((Af (win y24.AX 82 16384) 420 ⟨(k:Int),(n:Int)⟩).Ag.Second),i6 ((Af false 422 ⟨(k:Int),(n:Int)⟩).e),i6 ((Af false 422 ⟨(k:Int),(n:Int)⟩).Ag.First),i6 ((Af false 422 ⟨(k:Int),(n:Int)⟩).Ag.Second)] 132
abbrev ZB:=bk n85 #[i6 ((Af (win y24.BN 1 16384) 419 ⟨(k:Int),(n:Int)⟩).e),i6 ((Af (win y24.BN 1 16384) 419 ⟨(k:Int),(n:Int)⟩).Ag.First),i6 ((Af (win y24.BN 1 16384) 419 ⟨(k:Int),(n:Int)⟩).Ag.Second),i6 ((Af (win y24.AX 82 16384) 420 ⟨(k:Int),(n:Int)⟩).e),i6 ((Af (win y24.AX 82 16384) 420 ⟨(k:Int),(n:Int)⟩).Ag.First),i6 ((Af (win y24.AX 82 16384) 420 ⟨(k:Int),(n:Int)⟩).Ag.Second),i6 ((Af true 422 ⟨(k:Int),(n:Int)⟩).e),i6 ((Af true 422 ⟨(k:Int),(n:Int)⟩).Ag.First),i6 ((Af true 422 ⟨(k:Int),(n:Int)⟩).Ag.Second)] 132
abbrev ZM:=bk b93 #[i6 ((Af (win y24.BN 1 16384) 419 ⟨(k:Int),(n:Int)⟩).e),i6 ((Af (win y24.BN 1 16384) 419 ⟨(k:Int),(n:Int)⟩).Ag.First),i6 ((Af (win y24.BN 1 16384) 419 ⟨(k:Int),(n:Int)⟩).Ag.Second),i6 ((Af (win y24.AX 82 16384) 420 ⟨(k:Int),(n:Int)⟩).e),i6 ((Af (win y24.AX 82 16384) 420 ⟨(k:Int),(n:Int)⟩).Ag.First),i6 ((Af (win y24.AX 82 16384) 420 ⟨(k:Int),(n:Int)⟩).Ag.Second),i6 ((Af true 422 ⟨(k:Int),(n:Int)⟩).e),i6 ((Af true 422 ⟨(k:Int),(n:Int)⟩).Ag.First),i6 ((Af true 422 ⟨(k:Int),(n:Int)⟩).Ag.Second)] 132
abbrev WV:=bk n82 #[i6 ((Af (win y24.BN 1 16384) 419 ⟨(k:Int),(n:Int)⟩).e),i6 ((Af (win y24.BN 1 16384) 419 ⟨(k:Int),(n:Int)⟩).Ag.First),i6 ((Af (win y24.BN 1 16384) 419 ⟨(k:Int),(n:Int)⟩).Ag.Second),i6 ((Af (win y24.AX 82 16384) 420 ⟨(k:Int),(n:Int)⟩).e),i6 ((Af (win y24.AX 82 16384) 420 ⟨(k:Int),(n:Int)⟩).Ag.First),i6 ((Af (win y24.AX 82 16384) 420 ⟨(k:Int),(n:Int)⟩).Ag.Second),i6 ((Af true 422 ⟨(k:Int),(n:Int)⟩).e),i6 ((Af true 422 ⟨(k:Int),(n:Int)⟩).Ag.First),i6 ((Af true 422 ⟨(k:Int),(n:Int)⟩).Ag.Second)] 132
abbrev Zp:=bk n125 #[i6 ((Af false 419 ⟨(k:Int),(n:Int)⟩).e),i6 ((Af false 419 ⟨(k:Int),(n:Int)⟩).Ag.First),i6 ((Af false 419 ⟨(k:Int),(n:Int)⟩).Ag.Second),i6 ((Af (win y24.AX 82 16384) 420 ⟨(k:Int),(n:Int)⟩).e),i6 ((Af (win y24.AX 82 16384) 420 ⟨(k:Int),(n:Int)⟩).Ag.First),i6 ((Af (win y24.AX 82 16384) 420 ⟨(k:Int),(n:Int)⟩).Ag.Second),i6 ((Af false 422 ⟨(k:Int),(n:Int)⟩).e),i6 ((Af false 422 ⟨(k:Int),(n:Int)⟩).Ag.First),i6 ((Af false 422 ⟨(k:Int),(n:Int)⟩).Ag.Second)] 132
abbrev ZA:=bk b133 #[i6 ((Af false 419 ⟨(k:Int),(n:Int)⟩).e),i6 ((Af false 419 ⟨(k:Int),(n:Int)⟩).Ag.First),i6 ((Af false 419 ⟨(k:Int),(n:Int)⟩).Ag.Second),i6 ((Af (win y24.AX 82 16384) 420 ⟨(k:Int),(n:Int)⟩).e),i6 ((Af (win y24.AX 82 16384) 420 ⟨(k:Int),(n:Int)⟩).Ag.First),i6 ((Af (win y24.AX 82 16384) 420 ⟨(k:Int),(n:Int)⟩).Ag.Second),i6 ((Af false 422 ⟨(k:Int),(n:Int)⟩).e),i6 ((Af false 422 ⟨(k:Int),(n:Int)⟩).Ag.First),i6 ((Af false 422 ⟨(k:Int),(n:Int)⟩).Ag.Second)] 132
abbrev Xr:=bk n122 #[i6 ((Af false 419 ⟨(k:Int),(n:Int)⟩).e),i6 ((Af false 419 ⟨(k:Int),(n:Int)⟩).Ag.First),i6 ((Af false 419 ⟨(k:Int),(n:Int)⟩).Ag.Second),i6 ((Af (win y24.AX 82 16384) 420 ⟨(k:Int),(n:Int)⟩).e),i6 ((Af (win y24.AX 82 16384) 420 ⟨(k:Int),(n:Int)⟩).Ag.First),i6 ((Af (win y24.AX 82 16384) 420 ⟨(k:Int),(n:Int)⟩).Ag.Second),i6 ((Af false 422 ⟨(k:Int),(n:Int)⟩).e),i6 ((Af false 422 ⟨(k:Int),(n:Int)⟩).Ag.First),i6 ((Af false 422 ⟨(k:Int),(n:Int)⟩).Ag.Second)] 132
abbrev ZK:=bk n163 #[i6 ((Af false 419 ⟨(k:Int),(n:Int)⟩).e),i6 ((Af false 419 ⟨(k:Int),(n:Int)⟩).Ag.First),i6 ((Af false 419 ⟨(k:Int),(n:Int)⟩).Ag.Second),i6 ((Af (win y24.AX 82 16384) 420 ⟨(k:Int),(n:Int)⟩).e),i6 ((Af (win y24.AX 82 16384) 420 ⟨(k:Int),(n:Int)⟩).Ag.First),i6 ((Af (win y24.AX 82 16384) 420 ⟨(k:Int),(n:Int)⟩).Ag.Second),i6 ((Af true 422 ⟨(k:Int),(n:Int)⟩).e),i6 ((Af true 422 ⟨(k:Int),(n:Int)⟩).Ag.First),i6 ((Af true 422 ⟨(k:Int),(n:Int)⟩).Ag.Second)] 132
abbrev XT:=bk b171 #[i6 ((Af false 419 ⟨(k:Int),(n:Int)⟩).e),i6 ((Af false 419 ⟨(k:Int),(n:Int)⟩).Ag.First),i6 ((Af false 419 ⟨(k:Int),(n:Int)⟩).Ag.Second),i6 ((Af (win y24.AX 82 16384) 420 ⟨(k:Int),(n:Int)⟩).e),i6 ((Af (win y24.AX 82 16384) 420 ⟨(k:Int),(n:Int)⟩).Ag.First),i6 ((Af (win y24.AX 82 16384) 420 ⟨(k:Int),(n:Int)⟩).Ag.Second),i6 ((Af true 422 ⟨(k:Int),(n:Int)⟩).e),i6 ((Af true 422 ⟨(k:Int),(n:Int)⟩).Ag.First),i6 ((Af true 422 ⟨(k:Int),(n:Int)⟩).Ag.Second)] 132
abbrev Vq:=bk n160 #[i6 ((Af false 419 ⟨(k:Int),(n:Int)⟩).e),i6 ((Af false 419 ⟨(k:Int),(n:Int)⟩).Ag.First),i6 ((Af false 419 ⟨(k:Int),(n:Int)⟩).Ag.Second),i6 ((Af (win y24.AX 82 16384) 420 ⟨(k:Int),(n:Int)⟩).e),i6 ((Af (win y24.AX 82 16384) 420 ⟨(k:Int),(n:Int)⟩).Ag.First),i6 ((Af (win y24.AX 82 16384) 420 ⟨(k:Int),(n:Int)⟩).Ag.Second),i6 ((Af true 422 ⟨(k:Int),(n:Int)⟩).e),i6 ((Af true 422 ⟨(k:Int),(n:Int)⟩).Ag.First),i6 ((Af true 422 ⟨(k:Int),(n:Int)⟩).Ag.Second)] 132
abbrev ZaA:Ch:= .blk b47 (.cells (Am.arr (AY [(Af (win y24.BN 1 16384) 419 ⟨(k:Int),(n:Int)⟩),(Af (win y24.AX 82 16384) 420 ⟨(k:Int),(n:Int)⟩),(Af false 422 ⟨(k:Int),(n:Int)⟩)])) 132 (0,0)) true
abbrev ZaO:Ch:= .blk b53 (.cells (Am.arr (AY [(Af (win y24.BN 1 16384) 419 ⟨(k:Int),(n:Int)⟩),(Af (win y24.AX 82 16384) 420 ⟨(k:Int),(n:Int)⟩),(Af false 422 ⟨(k:Int),(n:Int)⟩)])) 132 (0,0)) true
abbrev Zaz:Ch:= .blk b32 (.cells (Am.arr (AY [(Af (win y24.BN 1 16384) 419 ⟨(k:Int),(n:Int)⟩),(Af (win y24.AX 82 16384) 420 ⟨(k:Int),(n:Int)⟩),(Af false 422 ⟨(k:Int),(n:Int)⟩)])) 132 (0,0)) true
abbrev Zak:Ch:= .blk b86 (.cells (Am.arr (AY [(Af (win y24.BN 1 16384) 419 ⟨(k:Int),(n:Int)⟩),(Af (win y24.AX 82 16384) 420 ⟨(k:Int),(n:Int)⟩),(Af true 422 ⟨(k:Int),(n:Int)⟩)])) 132 (0,0)) true
abbrev ZaD:Ch:= .blk b92 (.cells (Am.arr (AY [(Af (win y24.BN 1 16384) 419 ⟨(k:Int),(n:Int)⟩),(Af (win y24.AX 82 16384) 420 ⟨(k:Int),(n:Int)⟩),(Af true 422 ⟨(k:Int),(n:Int)⟩)])) 132 (0,0)) true
abbrev Zan:Ch:= .blk b71 (.cells (Am.arr (AY [(Af (win y24.BN 1 16384) 419 ⟨(k:Int),(n:Int)⟩),(Af (win y24.AX 82 16384) 420 ⟨(k:Int),(n:Int)⟩),(Af true 422 ⟨(k:Int),(n:Int)⟩)])) 132 (0,0)) true
abbrev ZaU:Ch:= .blk b126 (.cells (Am.arr (AY [(Af false 419 ⟨(k:Int),(n:Int)⟩),(Af (win y24.AX 82 16384) 420 ⟨(k:Int),(n:Int)⟩),(Af false 422 ⟨(k:Int),(n:Int)⟩)])) 132 (0,0)) true
abbrev Zay:Ch:= .blk b132 (.cells (Am.arr (AY [(Af false 419 ⟨(k:Int),(n:Int)⟩),(Af (win y24.AX 82 16384) 420 ⟨(k:Int),(n:Int)⟩),(Af false 422 ⟨(k:Int),(n:Int)⟩)])) 132 (0,0)) true
abbrev ZaY:Ch:= .blk b112 (.cells (Am.arr (AY [(Af false 419 ⟨(k:Int),(n:Int)⟩),(Af (win y24.AX 82 16384) 420 ⟨(k:Int),(n:Int)⟩),(Af false 422 ⟨(k:Int),(n:Int)⟩)])) 132 (0,0)) true
abbrev Za9:Ch:= .blk b164 (.cells (Am.arr (AY [(Af false 419 ⟨(k:Int),(n:Int)⟩),(Af (win y24.AX 82 16384) 420 ⟨(k:Int),(n:Int)⟩),(Af true 422 ⟨(k:Int),(n:Int)⟩)])) 132 (0,0)) true
abbrev ZaL:Ch:= .blk b170 (.cells (Am.arr (AY [(Af false 419 ⟨(k:Int),(n:Int)⟩),(Af (win y24.AX 82 16384) 420 ⟨(k:Int),(n:Int)⟩),(Af true 422 ⟨(k:Int),(n:Int)⟩)])) 132 (0,0)) true
abbrev Zat:Ch:= .blk b150 (.cells (Am.arr (AY [(Af false 419 ⟨(k:Int),(n:Int)⟩),(Af (win y24.AX 82 16384) 420 ⟨(k:Int),(n:Int)⟩),(Af true 422 ⟨(k:Int),(n:Int)⟩)])) 132 (0,0)) true
abbrev Cb:=bk (z+1) #[i6 0,i6 0,i6 0] 132
abbrev Cf:=bk n15 (Fq.arr y24) 158
abbrev BU:=bk z (Ai.arr c) 26
abbrev Q3:D7:=(65,.agg (Am.arr (AY [(Af (win y24.BN 1 16384) 419 ⟨(k:Int),(n:Int)⟩),(Af (win y24.AX 82 16384) 420 ⟨(k:Int),(n:Int)⟩),(Af false 422 ⟨(k:Int),(n:Int)⟩)])))
abbrev QF:D7:=(65,.agg (Am.arr (AY [(Af (win y24.BN 1 16384) 419 ⟨(k:Int),(n:Int)⟩),(Af (win y24.AX 82 16384) 420 ⟨(k:Int),(n:Int)⟩),(Af true 422 ⟨(k:Int),(n:Int)⟩)])))
abbrev QG:D7:=(65,.agg (Am.arr (AY [(Af false 419 ⟨(k:Int),(n:Int)⟩),(Af (win y24.AX 82 16384) 420 ⟨(k:Int),(n:Int)⟩),(Af false 422 ⟨(k:Int),(n:Int)⟩)])))
abbrev QR:D7:=(65,.agg (Am.arr (AY [(Af false 419 ⟨(k:Int),(n:Int)⟩),(Af (win y24.AX 82 16384) 420 ⟨(k:Int),(n:Int)⟩),(Af true 422 ⟨(k:Int),(n:Int)⟩)])))
abbrev QM:D7:=(46,.agg (Am.arr (Af (win y24.BN 1 16384) 419 ⟨(k:Int),(n:Int)⟩)))
abbrev KO:D7:=(53,.agg (Am.arr (Af (win y24.AX 82 16384) 420 ⟨(k:Int),(n:Int)⟩)))
abbrev Pm:D7:=(63,.agg (Am.arr (Af false 422 ⟨(k:Int),(n:Int)⟩)))
abbrev QJ:D7:=(46,.agg (Am.arr (Af false 419 ⟨(k:Int),(n:Int)⟩)))
abbrev QK:D7:=(63,.agg (Am.arr (Af true 422 ⟨(k:Int),(n:Int)⟩)))
abbrev QD:=(36,i6 ((c.Aa.xs.length:Int) - 1))
abbrev BO:D7:=(24,.slice (some ⟨b17,o18,none⟩) y8.xs.length y8.cap)
abbrev BG:=(25,Ac y8.xs.length)
abbrev Bv:=(4,pt (z+1))
abbrev MM:D7:=(24,.slice y8.a y8.xs.length y8.cap)
abbrev BK:=(5,i6 (sumW (DU c k).xs n))
abbrev BQ:=(7,pt n15)
end
theorem core_calls(w:World)(hL:Js w)(c:Ai)(hc:Ai.ok Any w c)(k:Nat)(hk:k<c.Bc.xs.length):Calls Tryd.prog 74 #[.agg (Ai.arr c),.int .i64 (k:Int)] w fun e w'=>e = .returned (.agg (Am.arr (Ea c k)))∧Ce (fun _=>False) w w':=by
 obtain⟨z,hz⟩:∃ z,z=w.heap.size:=⟨_,rfl⟩
 refine Bf (args:=[.agg (Ai.arr c),Ac k]) 85 ⟨w,z,[(Ak w)]⟩ Tryd.func74 rfl (by kernel_rfl) (by kernel_rfl) (Ed hz) ?_
 have hpl:=hc.Bc.1.len;have hpp:=hc.Aa.1.len
 refine Di [0,1] [(0,.agg (Ai.arr c)),(1,Ac k)] ?_
 refine q_c 6 0 [] [[o0,o0]] [] [(1,Ac k),(2,pt z),(Bv z)] ⟨w,z+2,[(Ak w),(BU z c),(Cb z)]⟩ rfl Ae ?_
 obtain⟨b1,o2,ha3,hF5,hc4⟩:=(hc.Bc).1.all (show 0<c.Bc.xs.length by omega)
 replace ha3:c.Bc.a=some ⟨b1,o2,none⟩:=ha3
 have hc6:=hc4 k (show k<c.Bc.xs.length by omega)
 have he7:=(hc.Bc).2 k (show k<c.Bc.xs.length by omega)
 obtain⟨y8,hy8⟩:∃ y_,y_=gd c.Bc.xs k:=⟨_,rfl⟩
 rw[←hy8]at he7 hc6
 have hyly8:=he7.1.len
 refine Au 1 6 [] [[o0,(EM 1 b1 o2 c.Bc),o0,(oi k),(oa [.via 0 (.slice y8.a y8.xs.length y8.cap)]),o0]] [Qb z,Ej b1 o2 c.Bc,Dc k,k<c.Bc.xs.length,BM,Old w b1 (o2+k) (.slice y8.a y8.xs.length y8.cap)] [(1,Ac k),(2,pt z),(Bv z),(14,Ac y8.xs.length)] rfl ⟨rfl,Eg ha3,rfl,(by omega),rfl,Aw (hc6 0 _ rfl),Ae⟩ ?_
 refine Ba 64 #[(Ac y8.xs.length),i6 1,i6 16] (some 15) (.bool (win (y8.xs.length:Int) 1 16)) (fun w9 hw9=>BZ w9 (y8.xs.length:Int) 1 16) (fun n10 (hn11:z+2≤n10) => ?_)
 refine Dh [1,2,4,15] [(1,Ac k),(2,pt z),(Bv z),(15,.bool (win (y8.xs.length:Int) 1 16))] ?_
 by_cases h12:(win (y8.xs.length:Int) 1 16)=true
 ·have hd13:=Dz h12
  refine AZ 15 0 [0] [[(ov (.bool false))],[o0],[o0,(EM 1 b1 o2 c.Bc),o0,(oi k),(oa [.via 0 (.slice y8.a y8.xs.length y8.cap)]),o0,o0]] [Value.bool (!(win (y8.xs.length:Int) 1 16))=Value.bool false,Qb z,Ej b1 o2 c.Bc,Dc k,k<c.Bc.xs.length,BM,Old w b1 (o2+k) (.slice y8.a y8.xs.length y8.cap)] [(1,Ac k),(2,pt z),(Bv z),(5,i6 0),(MM y8),(BG y8),(26,i6 0)] rfl ⟨by simp[h12],rfl,Eg ha3,rfl,(by omega),rfl,Aw (hc6 0 _ rfl),Ae⟩ ?_
  refine D8 (fun m a w'=>∃ (n15:Nat) (n:Nat),m=y8.xs.length - n∧n10≤n15∧(n≤y8.xs.length)∧(∀ a,a<n→F6 c k a=AQ)∧(0≤sumW (DU c k).xs n∧sumW (DU c k).xs n≤n*32768)∧St 85 [(1,Ac k),(2,pt z),(Bv z),(BK k n c),(MM y8),(BG y8),(26,Ac n)] [] ⟨w,n15,[(Ak w),(BU z c),(Cb z)]⟩ a w') (y8.xs.length - 0) ?_ ?_
  ·intro a w' hs;exact⟨n10,0,rfl,Nat.le_refl _,Nat.zero_le _,fun i hi=>absurd hi (Nat.not_lt_zero i),by simp[sumW],hs⟩
  rintro m a w' ⟨n15,n,rfl,hn14,hkn,hf,hsu,hs⟩
  refine(?_:G Tryd.prog 85 [(1,Ac k),(2,pt z),(Bv z),(BK k n c),(MM y8),(BG y8),(26,Ac n)] [] ⟨w,n15,[(Ak w),(BU z c),(Cb z)]⟩ _ _ _) a w' hs
  clear hs a w'
  refine CW ?_
  by_cases h16:(n:Int)<(y8.xs.length:Int)
  ·refine Au 10 0 [1] [[oT]] [BT ((n:Int)<(y8.xs.length:Int))] [(1,Ac k),(2,pt z),(Bv z),(BK k n c),(MM y8),(BG y8),(26,Ac n),(27,.bool true)] rfl ⟨bt,Ae⟩ ?_
   obtain⟨b17,o18,ha19,hF21,hc20⟩:=(he7).1.all (show 0<y8.xs.length by omega)
   replace ha19:y8.a=some ⟨b17,o18,none⟩:=ha19
   refine Lj [(1,Ac k),(2,pt z),(Bv z),(BK k n c),(BO b17 o18 y8),(BG y8),(26,Ac n),(27,.bool true)] (by(try dsimp only[Cb,BU,BO,BG,Bv,MM,BK]);simp only[ha19]) ?_
   have hc22:=hc20 n (show n<y8.xs.length by omega)
   have he23:=(he7).2 n (show n<y8.xs.length by omega)
   obtain⟨y24,hy24⟩:∃ y_,y_=gd y8.xs n:=⟨_,rfl⟩
   rw[←hy24]at he23 hc22
   refine q_c 3 0 [] [[o0,(oi n),(ol 0 (Fq.arr y24)),o0,o0,(an 3 3)]] [Dc n,n<y8.xs.length,BM,GN w b17 (o18+n*3) (Fq.arr y24),Qb n15,Qb n15,Qb n15] [(1,Ac k),(2,pt z),(Bv z),(BK k n c),(BO b17 o18 y8),(BG y8),(26,Ac n),(BQ n15),(6,Ac n)] ⟨w,n15+1,[(Ak w),(BU z c),(Cb z),(Cf y24 n15)]⟩ rfl ⟨rfl,(by omega),rfl,Em hc22,rfl,rfl,rfl,Ae⟩ ?_
   refine UU (fun a w'=>∃ (n25:Nat) (b8:Nat),n15+1≤n25∧St 85 [(1,Ac k),(2,pt z),(Bv z),(BK k n c),(BQ n15),(8,pt b8),(BO b17 o18 y8),(BG y8),(26,Ac n)] [] ⟨w,n25,[(Ak w),(BU z c),(Cb z),(Cf y24 n15),(bk b8 (Am.arr (F6 c k n)) 132)]⟩ a w') ?_ ?_
   ·by_cases h27:(win y24.Partition (-1) ((c.Aa.xs.length:Int) - 1))=true
    ·have hd28:=Dz h27
     by_cases h29:(Ip c k y24.Partition)=true
     ·refine DZ 36 [0,1,2,3] [(Ak w),(BU z c),(Cb z),(Cf y24 n15)] rfl rfl ?_
      refine Ci [(0,o0),(1,(a1 3)),(2,o0),(3,(a1 1)),(4,o0),(5,(ov (i6 ((c.Aa.xs.length:Int) - 1)))),(12,o0),(13,o0),(16,o0),(17,(a1 3)),(19,o0),(20,o0),(23,(an 7 1)),(24,o0),(25,o0),(26,(a1 3)),(29,o0),(30,o0)] [1,2,4,5,24,25,26,7,32,36,43,44,48,50,51,54,55,57,60,61] [Qb n15,Qb z,Wr ((c.Aa.xs.length:Int) - 1) ((c.Aa.xs.length:Int) - 1),Qb n15,Qb z,Qb z,Qb z,Qb z,Qb z,Qb z,Qb z,Qb n15] [true,true,true,true,true,true,false,false,false,false,false,false,true,true,false,false,true,true,false,true,true,false,false,true,true,true,true,false,false,true,true,false,false,false,false,false,false] [(1,Ac k),(2,pt z),(Bv z),(BK k n c),(BO b17 o18 y8),(BG y8),(26,Ac n),(BQ n15),(32,i6 y24.Partition),(QD c),(43,Ac k),(44,Ac n),(48,i6 y24.AX),(50,Ac k),(51,Ac n),(54,.agg (Ai.arr c)),(55,Ac k),(57,i6 y24.Partition),(60,Ac k),(61,Ac n)] ⟨rfl,rfl,BP,rfl,rfl,rfl,rfl,rfl,rfl,rfl,rfl,rfl,Ae⟩ ?_
      refine Qo (fun x:{p:Nat×Nat×Nat // n15+1≤p.1∧n15+1≤p.2.1∧n15+1≤p.2.2}=>([(1,Ac k),(2,pt z),(Bv z),(BK k n c),(BO b17 o18 y8),(BG y8),(26,Ac n),(BQ n15),(8,pt x.1.2.2)],⟨w,x.1.1,[(Ak w),(BU z c),(Cb z),(Cf y24 n15),(.blk x.1.2.1 (.cells #[i6 ((Af (win y24.BN 1 16384) 419 ⟨(k:Int),(n:Int)⟩).e),i6 ((Af (win y24.BN 1 16384) 419 ⟨(k:Int),(n:Int)⟩).Ag.First),i6 ((Af (win y24.BN 1 16384) 419 ⟨(k:Int),(n:Int)⟩).Ag.Second),i6 ((Af (win y24.AX 82 16384) 420 ⟨(k:Int),(n:Int)⟩).e),i6 ((Af (win y24.AX 82 16384) 420 ⟨(k:Int),(n:Int)⟩).Ag.First),i6 ((Af (win y24.AX 82 16384) 420 ⟨(k:Int),(n:Int)⟩).Ag.Second),i6 ((Af false 422 ⟨(k:Int),(n:Int)⟩).e),i6 ((Af false 422 ⟨(k:Int),(n:Int)⟩).Ag.First),i6 ((Af false 422 ⟨(k:Int),(n:Int)⟩).Ag.Second)] 132 (0,0)) true),(.blk x.1.2.2 (.cells (Am.arr (AY [(Af (win y24.BN 1 16384) 419 ⟨(k:Int),(n:Int)⟩),(Af (win y24.AX 82 16384) 420 ⟨(k:Int),(n:Int)⟩),(Af false 422 ⟨(k:Int),(n:Int)⟩)])) 132 (0,0)) true)]⟩)) (fun hK => ?_) ?_
      ·refine P6 35 8 [.cl 6 (.bool (win y24.Partition (-1) ((c.Aa.xs.length:Int) - 1))),.tk 7 (ov (.bool true)),.tk 8 o0,.tk 9 (a1 3),.cl 10 (.bool (win y24.BN 1 16384)),.tk 11 o0,.cl 14 (.agg #[(Ac k),Ac n]),.cl 15 (.agg (Am.arr (Af (win y24.BN 1 16384) 419 ⟨(k:Int),(n:Int)⟩))),.cl 18 (.bool (win y24.AX 82 16384)),.cl 21 (.agg #[(Ac k),Ac n]),.cl 22 (.agg (Am.arr (Af (win y24.AX 82 16384) 420 ⟨(k:Int),(n:Int)⟩))),.cl 27 (.bool (Ip c k y24.Partition)),.tk 28 (ov (.bool false)),.cl 31 (.agg #[(Ac k),Ac n]),.cl 32 (.agg (Am.arr (Af false 422 ⟨(k:Int),(n:Int)⟩)))] [1,2,4,5,24,25,26,7,46,53,63] [(64,#[i6 y24.Partition,i6 (-1),i6 ((c.Aa.xs.length:Int) - 1)],.bool (win y24.Partition (-1) ((c.Aa.xs.length:Int) - 1))),(64,#[i6 y24.BN,i6 1,i6 16384],.bool (win y24.BN 1 16384)),(92,#[(Ac k),Ac n],.agg #[(Ac k),Ac n]),(63,#[.bool (win y24.BN 1 16384),i6 419,.agg #[(Ac k),Ac n]],.agg (Am.arr (Af (win y24.BN 1 16384) 419 ⟨(k:Int),(n:Int)⟩))),(64,#[i6 y24.AX,i6 82,i6 16384],.bool (win y24.AX 82 16384)),(92,#[(Ac k),Ac n],.agg #[(Ac k),Ac n]),(63,#[.bool (win y24.AX 82 16384),i6 420,.agg #[(Ac k),Ac n]],.agg (Am.arr (Af (win y24.AX 82 16384) 420 ⟨(k:Int),(n:Int)⟩))),(94,#[.agg (Ai.arr c),Ac k,i6 y24.Partition],.bool (Ip c k y24.Partition)),(92,#[(Ac k),Ac n],.agg #[(Ac k),Ac n]),(63,#[.bool false,i6 422,.agg #[(Ac k),Ac n]],.agg (Am.arr (Af false 422 ⟨(k:Int),(n:Int)⟩)))] (Dw 33 4) [Value.bool (win y24.Partition (-1) ((c.Aa.xs.length:Int) - 1))=Value.bool true,Qb n15,Value.bool (!(Ip c k y24.Partition))=Value.bool false] [(1,Ac k),(2,pt z),(Bv z),(BK k n c),(BO b17 o18 y8),(BG y8),(26,Ac n),(BQ n15),(QM y24 k n),(KO y24 k n),(Pm k n)] (.cells #[i6 0,i6 0,i6 0] 132 (0,0)) [0,1,2,3] ⟨(congrArg Value.bool h27),rfl,by simp[h29],Ae⟩ ⟨fun w33 hw33=>BZ w33 y24.Partition (-1) ((c.Aa.xs.length:Int) - 1),fun w34 hw34=>BZ w34 y24.BN 1 16384,fun w35 hw35=>G7 w35 (k:Int) (n:Int),fun w36 hw36=>Bo w36 (hL.ext (hw36.ext rfl)) (win y24.BN 1 16384) 419 (k:Int) (n:Int),fun w37 hw37=>BZ w37 y24.AX 82 16384,fun w38 hw38=>G7 w38 (k:Int) (n:Int),fun w39 hw39=>Bo w39 (hL.ext (hw39.ext rfl)) (win y24.AX 82 16384) 420 (k:Int) (n:Int),fun w40 hw40=>SL w40 c (hc.ext (hw40.ext rfl) (fun _ h=>h)) k hk y24.Partition,fun w41 hw41=>G7 w41 (k:Int) (n:Int),fun w42 hw42=>Bo w42 (hL.ext (hw42.ext rfl)) false 422 (k:Int) (n:Int),Ae⟩ ?_ (fun hv45 n43 hn44 => ?_)
       ·rintro⟨⟨n46,b47⟩,hb48⟩
        simp only at hb48
        refine Bq 33 ?_
        refine BC o0 [8,1,2,4,5,24,25,26,7,64] [] [(8,pt b47),(1,Ac k),(2,pt z),(Bv z),(BK k n c),(BO b17 o18 y8),(BG y8),(26,Ac n),(BQ n15),(64,.slice (some ⟨n46,0,none⟩) 3 3)] ⟨w,n46+1,[(Ak w),(BU z c),(Cb z),(Cf y24 n15),(bk b47 #[i6 0,i6 0,i6 0] 132),(Zz n46 y24 k n)]⟩ [0,1,2,3] Ae (.inr rfl) ?_
        refine Bq 34 ?_
        refine GZ 87 #[.slice (some ⟨n46,0,none⟩) 3 3] (some 65) (.agg (Am.arr (AY [(Af (win y24.BN 1 16384) 419 ⟨(k:Int),(n:Int)⟩),(Af (win y24.AX 82 16384) 420 ⟨(k:Int),(n:Int)⟩),(Af false 422 ⟨(k:Int),(n:Int)⟩)]))) [8,1,2,4,5,24,25,26,7,65] [(8,pt b47),(1,Ac k),(2,pt z),(Bv z),(BK k n c),(BO b17 o18 y8),(BG y8),(26,Ac n),(BQ n15),(Q3 y24 k n)] [0,1,2,3] (fun w49 hw49=>DD w49 (hL.ext (hw49.ext rfl)) ⟨some ⟨n46,0,none⟩,3,[(Af (win y24.BN 1 16384) 419 ⟨(k:Int),(n:Int)⟩),(Af (win y24.AX 82 16384) 420 ⟨(k:Int),(n:Int)⟩),(Af false 422 ⟨(k:Int),(n:Int)⟩)]⟩ (E8 hw49 (i:=5) [(Af (win y24.BN 1 16384) 419 ⟨(k:Int),(n:Int)⟩),(Af (win y24.AX 82 16384) 420 ⟨(k:Int),(n:Int)⟩),(Af false 422 ⟨(k:Int),(n:Int)⟩)]) (show 3≤1000 by decide)) (fun n50 hn51 => ?_)
        replace hn51:n46+1≤n50:=hn51
        refine Bq 36 ?_
        refine BC (an 3 4) [8,1,2,4,5,24,25,26,7] [Qb b47,Qb b47,Qb b47] [(8,pt b47),(1,Ac k),(2,pt z),(Bv z),(BK k n c),(BO b17 o18 y8),(BG y8),(26,Ac n),(BQ n15)] ⟨w,n50,[(Ak w),(BU z c),(Cb z),(Cf y24 n15),(ZaA y24 k n b47),(Zz n46 y24 k n)]⟩ [] ⟨rfl,rfl,rfl,Ae⟩ (.inl rfl) ?_
        refine DX 37 [0,1,2,3,4,5] [(Ak w),(BU z c),(Cb z),(Cf y24 n15),(ZaA y24 k n b47),(Zz n46 y24 k n)] rfl rfl ?_
        refine CE ?_
        refine BI [1,2,4,5,24,25,26,7,8] [(1,Ac k),(2,pt z),(Bv z),(BK k n c),(BO b17 o18 y8),(BG y8),(26,Ac n),(BQ n15),(8,pt b47)] ?_
        refine Cc [0,1,2,3,5,4] [(Ak w),(BU z c),(Cb z),(Cf y24 n15),(Zz n46 y24 k n),(ZaA y24 k n b47)] rfl rfl ?_
        exact hK ⟨(n50,n46,b47),by first | omega | (dsimp only;omega)⟩
       replace hn44:n15+1≤n43:=hn44
       refine Oe (fun x:{p:Nat×Nat×Nat // n43≤p.1∧n43≤p.2.1∧n43≤p.2.2}=>[(1,Ac k),(2,pt z),(Bv z),(BK k n c),(BO b17 o18 y8),(BG y8),(26,Ac n),(BQ n15),(8,pt x.1.2.1),(Q3 y24 k n)]) (fun x=>⟨w,x.1.1,[(Ak w),(BU z c),(Cb z),(Cf y24 n15),(.blk x.1.2.1 (.cells #[i6 0,i6 0,i6 0] 132 (0,0)) true),(.blk x.1.2.2 (.cells #[i6 ((Af (win y24.BN 1 16384) 419 ⟨(k:Int),(n:Int)⟩).e),i6 ((Af (win y24.BN 1 16384) 419 ⟨(k:Int),(n:Int)⟩).Ag.First),i6 ((Af (win y24.BN 1 16384) 419 ⟨(k:Int),(n:Int)⟩).Ag.Second),i6 ((Af (win y24.AX 82 16384) 420 ⟨(k:Int),(n:Int)⟩).e),i6 ((Af (win y24.AX 82 16384) 420 ⟨(k:Int),(n:Int)⟩).Ag.First),i6 ((Af (win y24.AX 82 16384) 420 ⟨(k:Int),(n:Int)⟩).Ag.Second),i6 ((Af false 422 ⟨(k:Int),(n:Int)⟩).e),i6 ((Af false 422 ⟨(k:Int),(n:Int)⟩).Ag.First),i6 ((Af false 422 ⟨(k:Int),(n:Int)⟩).Ag.Second)] 132 (0,0)) true)]⟩) 1 (Dw 36 1) ?_ (fun hv55 => ?_)
       ·rintro⟨⟨n52,b53,b54⟩,hb56⟩
        simp only at hb56
        show Wg _ _ [(1,Ac k),(2,pt z),(Bv z),(BK k n c),(BO b17 o18 y8),(BG y8),(26,Ac n),(BQ n15),(8,pt b53),(Q3 y24 k n)] _ ⟨w,n52,[(Ak w),(BU z c),(Cb z),(Cf y24 n15),(bk b53 #[i6 0,i6 0,i6 0] 132),(Zu y24 k n b54)]⟩ _ _ _ _ _ _ _
        refine Bq 36 ?_
        refine BC (an 3 4) [1,2,4,5,24,25,26,7,8] [Qb b53,Qb b53,Qb b53] [(1,Ac k),(2,pt z),(Bv z),(BK k n c),(BO b17 o18 y8),(BG y8),(26,Ac n),(BQ n15),(8,pt b53)] ⟨w,n52,[(Ak w),(BU z c),(Cb z),(Cf y24 n15),(ZaO y24 k n b53),(Zu y24 k n b54)]⟩ [] ⟨rfl,rfl,rfl,Ae⟩ (.inl rfl) ?_
        refine DX 37 [0,1,2,3,4,5] [(Ak w),(BU z c),(Cb z),(Cf y24 n15),(ZaO y24 k n b53),(Zu y24 k n b54)] rfl rfl ?_
        refine CE ?_
        refine BI [1,2,4,5,24,25,26,7,8] [(1,Ac k),(2,pt z),(Bv z),(BK k n c),(BO b17 o18 y8),(BG y8),(26,Ac n),(BQ n15),(8,pt b53)] ?_
        refine Cc [0,1,2,3,5,4] [(Ak w),(BU z c),(Cb z),(Cf y24 n15),(Zu y24 k n b54),(ZaO y24 k n b53)] rfl rfl ?_
        exact hK ⟨(n52,b54,b53),by first | omega | (dsimp only;omega)⟩
       refine Oe (fun x:{p:Nat×Nat×Nat // n43≤p.1∧n43≤p.2.1∧n43≤p.2.2}=>[(1,Ac k),(2,pt z),(Bv z),(BK k n c),(BO b17 o18 y8),(BG y8),(26,Ac n),(BQ n15),(8,pt x.1.2.1),(64,.slice (some ⟨x.1.2.2,0,none⟩) 3 3)]) (fun x=>⟨w,x.1.1,[(Ak w),(BU z c),(Cb z),(Cf y24 n15),(.blk x.1.2.1 (.cells #[i6 0,i6 0,i6 0] 132 (0,0)) true),(.blk x.1.2.2 (.cells #[i6 ((Af (win y24.BN 1 16384) 419 ⟨(k:Int),(n:Int)⟩).e),i6 ((Af (win y24.BN 1 16384) 419 ⟨(k:Int),(n:Int)⟩).Ag.First),i6 ((Af (win y24.BN 1 16384) 419 ⟨(k:Int),(n:Int)⟩).Ag.Second),i6 ((Af (win y24.AX 82 16384) 420 ⟨(k:Int),(n:Int)⟩).e),i6 ((Af (win y24.AX 82 16384) 420 ⟨(k:Int),(n:Int)⟩).Ag.First),i6 ((Af (win y24.AX 82 16384) 420 ⟨(k:Int),(n:Int)⟩).Ag.Second),i6 ((Af false 422 ⟨(k:Int),(n:Int)⟩).e),i6 ((Af false 422 ⟨(k:Int),(n:Int)⟩).Ag.First),i6 ((Af false 422 ⟨(k:Int),(n:Int)⟩).Ag.Second)] 132 (0,0)) true)]⟩) 2 [true,true,true,true,true,true,true,true,true,true,true,true,true,true,true,true,true,true,true,true,true,true,true,true,true,true,true,true,true,true,true,true,true,true,false,true,false] ?_ (fun hv60 => ?_)
       ·rintro⟨⟨n57,b58,b59⟩,hb61⟩
        simp only at hb61
        show Wg _ _ [(1,Ac k),(2,pt z),(Bv z),(BK k n c),(BO b17 o18 y8),(BG y8),(26,Ac n),(BQ n15),(8,pt b58),(64,.slice (some ⟨b59,0,none⟩) 3 3)] _ ⟨w,n57,[(Ak w),(BU z c),(Cb z),(Cf y24 n15),(bk b58 #[i6 0,i6 0,i6 0] 132),(bk b59 #[i6 ((Af (win y24.BN 1 16384) 419 ⟨(k:Int),(n:Int)⟩).e),i6 ((Af (win y24.BN 1 16384) 419 ⟨(k:Int),(n:Int)⟩).Ag.First),i6 ((Af (win y24.BN 1 16384) 419 ⟨(k:Int),(n:Int)⟩).Ag.Second),i6 ((Af (win y24.AX 82 16384) 420 ⟨(k:Int),(n:Int)⟩).e),i6 ((Af (win y24.AX 82 16384) 420 ⟨(k:Int),(n:Int)⟩).Ag.First),i6 ((Af (win y24.AX 82 16384) 420 ⟨(k:Int),(n:Int)⟩).Ag.Second),i6 ((Af false 422 ⟨(k:Int),(n:Int)⟩).e),i6 ((Af false 422 ⟨(k:Int),(n:Int)⟩).Ag.First),i6 ((Af false 422 ⟨(k:Int),(n:Int)⟩).Ag.Second)] 132)]⟩ _ _ _ _ _ _ _
        refine Bq 34 ?_
        refine GZ 87 #[.slice (some ⟨b59,0,none⟩) 3 3] (some 65) (.agg (Am.arr (AY [(Af (win y24.BN 1 16384) 419 ⟨(k:Int),(n:Int)⟩),(Af (win y24.AX 82 16384) 420 ⟨(k:Int),(n:Int)⟩),(Af false 422 ⟨(k:Int),(n:Int)⟩)]))) [1,2,4,5,24,25,26,7,8,65] [(1,Ac k),(2,pt z),(Bv z),(BK k n c),(BO b17 o18 y8),(BG y8),(26,Ac n),(BQ n15),(8,pt b58),(Q3 y24 k n)] [0,1,2,3] (fun w62 hw62=>DD w62 (hL.ext (hw62.ext rfl)) ⟨some ⟨b59,0,none⟩,3,[(Af (win y24.BN 1 16384) 419 ⟨(k:Int),(n:Int)⟩),(Af (win y24.AX 82 16384) 420 ⟨(k:Int),(n:Int)⟩),(Af false 422 ⟨(k:Int),(n:Int)⟩)]⟩ (E8 hw62 (i:=5) [(Af (win y24.BN 1 16384) 419 ⟨(k:Int),(n:Int)⟩),(Af (win y24.AX 82 16384) 420 ⟨(k:Int),(n:Int)⟩),(Af false 422 ⟨(k:Int),(n:Int)⟩)]) (show 3≤1000 by decide)) (fun n63 hn64 => ?_)
        replace hn64:n57≤n63:=hn64
        refine CY [1,2,4,5,24,25,26,7,8,65] [(1,Ac k),(2,pt z),(Bv z),(BK k n c),(BO b17 o18 y8),(BG y8),(26,Ac n),(BQ n15),(8,pt b58),(Q3 y24 k n)] ?_
        exact hv55 ⟨(n63,b58,b59),by first | omega | (dsimp only;omega)⟩
       refine Jr [33,35] ?_
       refine List.forall_mem_cons.2 ⟨?_,List.forall_mem_cons.2 ⟨?_,fun _ h=>absurd h List.not_mem_nil⟩⟩
       ·refine BC o0 [1,2,4,5,24,25,26,7,64] [] [(1,Ac k),(2,pt z),(Bv z),(BK k n c),(BO b17 o18 y8),(BG y8),(26,Ac n),(BQ n15),(64,.slice (some ⟨n43,0,none⟩) 3 3)] ⟨w,n43+1,[(Ak w),(BU z c),(Cb z),(Cf y24 n15),(WL y24 k n n43)]⟩ [0,1,2,3] Ae (.inr rfl) ?_
        refine Jr [34,35] ?_
        refine List.forall_mem_cons.2 ⟨?_,List.forall_mem_cons.2 ⟨?_,fun _ h=>absurd h List.not_mem_nil⟩⟩
        ·refine GZ 87 #[.slice (some ⟨n43,0,none⟩) 3 3] (some 65) (.agg (Am.arr (AY [(Af (win y24.BN 1 16384) 419 ⟨(k:Int),(n:Int)⟩),(Af (win y24.AX 82 16384) 420 ⟨(k:Int),(n:Int)⟩),(Af false 422 ⟨(k:Int),(n:Int)⟩)]))) [1,2,4,5,24,25,26,7,65] [(1,Ac k),(2,pt z),(Bv z),(BK k n c),(BO b17 o18 y8),(BG y8),(26,Ac n),(BQ n15),(Q3 y24 k n)] [0,1,2,3] (fun w65 hw65=>DD w65 (hL.ext (hw65.ext rfl)) ⟨some ⟨n43,0,none⟩,3,[(Af (win y24.BN 1 16384) 419 ⟨(k:Int),(n:Int)⟩),(Af (win y24.AX 82 16384) 420 ⟨(k:Int),(n:Int)⟩),(Af false 422 ⟨(k:Int),(n:Int)⟩)]⟩ (E8 hw65 (i:=4) [(Af (win y24.BN 1 16384) 419 ⟨(k:Int),(n:Int)⟩),(Af (win y24.AX 82 16384) 420 ⟨(k:Int),(n:Int)⟩),(Af false 422 ⟨(k:Int),(n:Int)⟩)]) (show 3≤1000 by decide)) (fun n66 hn67 => ?_)
         replace hn67:n43+1≤n66:=hn67
         refine Bq 35 ?_
         refine BC o0 [1,2,4,5,24,25,26,7,65,8] [] [(1,Ac k),(2,pt z),(Bv z),(BK k n c),(BO b17 o18 y8),(BG y8),(26,Ac n),(BQ n15),(Q3 y24 k n),(8,pt n66)] ⟨w,n66+1,[(Ak w),(BU z c),(Cb z),(Cf y24 n15),(WL y24 k n n43),(bk n66 #[i6 0,i6 0,i6 0] 132)]⟩ [0,1,2,3] Ae (.inr rfl) ?_
         refine MF [0,1,2,3,5,4] [(Ak w),(BU z c),(Cb z),(Cf y24 n15),(bk n66 #[i6 0,i6 0,i6 0] 132),(WL y24 k n n43)] rfl rfl ?_
         refine CY [1,2,4,5,24,25,26,7,8,65] [(1,Ac k),(2,pt z),(Bv z),(BK k n c),(BO b17 o18 y8),(BG y8),(26,Ac n),(BQ n15),(8,pt n66),(Q3 y24 k n)] ?_
         exact hv55 ⟨(n66+1,n66,n43),by first | omega | (dsimp only;omega)⟩
        refine BC o0 [1,2,4,5,24,25,26,7,64,8] [] [(1,Ac k),(2,pt z),(Bv z),(BK k n c),(BO b17 o18 y8),(BG y8),(26,Ac n),(BQ n15),(64,.slice (some ⟨n43,0,none⟩) 3 3),(8,pt (n43+1))] ⟨w,n43+2,[(Ak w),(BU z c),(Cb z),(Cf y24 n15),(WL y24 k n n43),(bk (n43+1) #[i6 0,i6 0,i6 0] 132)]⟩ [0,1,2,3] Ae (.inr rfl) ?_
        refine MF [0,1,2,3,5,4] [(Ak w),(BU z c),(Cb z),(Cf y24 n15),(bk (n43+1) #[i6 0,i6 0,i6 0] 132),(WL y24 k n n43)] rfl rfl ?_
        refine CY [1,2,4,5,24,25,26,7,8,64] [(1,Ac k),(2,pt z),(Bv z),(BK k n c),(BO b17 o18 y8),(BG y8),(26,Ac n),(BQ n15),(8,pt (n43+1)),(64,.slice (some ⟨n43,0,none⟩) 3 3)] ?_
        exact hv60 ⟨(n43+2,n43+1,n43),by first | omega | (dsimp only;omega)⟩
       refine BC o0 [1,2,4,5,24,25,26,7,46,53,63,8] [] [(1,Ac k),(2,pt z),(Bv z),(BK k n c),(BO b17 o18 y8),(BG y8),(26,Ac n),(BQ n15),(QM y24 k n),(KO y24 k n),(Pm k n),(8,pt n43)] ⟨w,n43+1,[(Ak w),(BU z c),(Cb z),(Cf y24 n15),(bk n43 #[i6 0,i6 0,i6 0] 132)]⟩ [0,1,2,3] Ae (.inr rfl) ?_
       refine CY [8,1,2,4,5,24,25,26,7,46,53,63] [(8,pt n43),(1,Ac k),(2,pt z),(Bv z),(BK k n c),(BO b17 o18 y8),(BG y8),(26,Ac n),(BQ n15),(QM y24 k n),(KO y24 k n),(Pm k n)] ?_
       exact hv45 ⟨(n43+1,n43),by first | omega | (dsimp only;omega)⟩
      rintro⟨⟨n30,b31,b32⟩,hJ68⟩
      simp only at hJ68
      show E _ _ [(1,Ac k),(2,pt z),(Bv z),(BK k n c),(BO b17 o18 y8),(BG y8),(26,Ac n),(BQ n15),(8,pt b32)] _ ⟨w,n30,[(Ak w),(BU z c),(Cb z),(Cf y24 n15),(bk b31 #[i6 ((Af (win y24.BN 1 16384) 419 ⟨(k:Int),(n:Int)⟩).e),i6 ((Af (win y24.BN 1 16384) 419 ⟨(k:Int),(n:Int)⟩).Ag.First),i6 ((Af (win y24.BN 1 16384) 419 ⟨(k:Int),(n:Int)⟩).Ag.Second),i6 ((Af (win y24.AX 82 16384) 420 ⟨(k:Int),(n:Int)⟩).e),i6 ((Af (win y24.AX 82 16384) 420 ⟨(k:Int),(n:Int)⟩).Ag.First),i6 ((Af (win y24.AX 82 16384) 420 ⟨(k:Int),(n:Int)⟩).Ag.Second),i6 ((Af false 422 ⟨(k:Int),(n:Int)⟩).e),i6 ((Af false 422 ⟨(k:Int),(n:Int)⟩).Ag.First),i6 ((Af false 422 ⟨(k:Int),(n:Int)⟩).Ag.Second)] 132),(Zaz y24 k n b32)]⟩ _ _ _
      refine Cc [0,1,2,3,5] [(Ak w),(BU z c),(Cb z),(Cf y24 n15),(Zaz y24 k n b32)] rfl rfl ?_
      have e0:gd (DU c k).xs n=y24:=(by rw[hy24,hy8])
      have eA:F6 c k n=(AY [(Af (win y24.BN 1 16384) 419 ⟨(k:Int),(n:Int)⟩),(Af (win y24.AX 82 16384) 420 ⟨(k:Int),(n:Int)⟩),(Af false 422 ⟨(k:Int),(n:Int)⟩)]):=(by unfold F6 Nk;simp only[e0];simp[h27,h29])
      refine BI [1,2,4,5,7,8,24,25,26] [(1,Ac k),(2,pt z),(Bv z),(BK k n c),(BQ n15),(8,pt b32),(BO b17 o18 y8),(BG y8),(26,Ac n)] ?_
      refine BR (fun a w' hs=>⟨n30,b32,by omega,(by(try dsimp only[Zaz,Cb,Cf,BU,QM,KO,Pm,QD,BO,BG,Bv,MM,BK,BQ]at hs ⊢);rw[eA];exact hs)⟩)
     refine DZ 36 [0,1,2,3] [(Ak w),(BU z c),(Cb z),(Cf y24 n15)] rfl rfl ?_
     refine Ci [(0,o0),(1,(a1 3)),(2,o0),(3,(a1 1)),(4,o0),(5,(ov (i6 ((c.Aa.xs.length:Int) - 1)))),(12,o0),(13,o0),(16,o0),(17,(a1 3)),(19,o0),(20,o0),(23,(an 7 1)),(24,o0),(25,o0),(26,(a1 3)),(29,o0),(30,o0)] [1,2,4,5,24,25,26,7,32,36,43,44,48,50,51,54,55,57,60,61] [Qb n15,Qb z,Wr ((c.Aa.xs.length:Int) - 1) ((c.Aa.xs.length:Int) - 1),Qb n15,Qb z,Qb z,Qb z,Qb z,Qb z,Qb z,Qb z,Qb n15] [true,true,true,true,true,true,false,false,false,false,false,false,true,true,false,false,true,true,false,true,true,false,false,true,true,true,true,false,false,true,true,false,false,false,false,false,false] [(1,Ac k),(2,pt z),(Bv z),(BK k n c),(BO b17 o18 y8),(BG y8),(26,Ac n),(BQ n15),(32,i6 y24.Partition),(QD c),(43,Ac k),(44,Ac n),(48,i6 y24.AX),(50,Ac k),(51,Ac n),(54,.agg (Ai.arr c)),(55,Ac k),(57,i6 y24.Partition),(60,Ac k),(61,Ac n)] ⟨rfl,rfl,BP,rfl,rfl,rfl,rfl,rfl,rfl,rfl,rfl,rfl,Ae⟩ ?_
     refine Qo (fun x:{p:Nat×Nat×Nat // n15+1≤p.1∧n15+1≤p.2.1∧n15+1≤p.2.2}=>([(1,Ac k),(2,pt z),(Bv z),(BK k n c),(BO b17 o18 y8),(BG y8),(26,Ac n),(BQ n15),(8,pt x.1.2.2)],⟨w,x.1.1,[(Ak w),(BU z c),(Cb z),(Cf y24 n15),(.blk x.1.2.1 (.cells #[i6 ((Af (win y24.BN 1 16384) 419 ⟨(k:Int),(n:Int)⟩).e),i6 ((Af (win y24.BN 1 16384) 419 ⟨(k:Int),(n:Int)⟩).Ag.First),i6 ((Af (win y24.BN 1 16384) 419 ⟨(k:Int),(n:Int)⟩).Ag.Second),i6 ((Af (win y24.AX 82 16384) 420 ⟨(k:Int),(n:Int)⟩).e),i6 ((Af (win y24.AX 82 16384) 420 ⟨(k:Int),(n:Int)⟩).Ag.First),i6 ((Af (win y24.AX 82 16384) 420 ⟨(k:Int),(n:Int)⟩).Ag.Second),i6 ((Af true 422 ⟨(k:Int),(n:Int)⟩).e),i6 ((Af true 422 ⟨(k:Int),(n:Int)⟩).Ag.First),i6 ((Af true 422 ⟨(k:Int),(n:Int)⟩).Ag.Second)] 132 (0,0)) true),(.blk x.1.2.2 (.cells (Am.arr (AY [(Af (win y24.BN 1 16384) 419 ⟨(k:Int),(n:Int)⟩),(Af (win y24.AX 82 16384) 420 ⟨(k:Int),(n:Int)⟩),(Af true 422 ⟨(k:Int),(n:Int)⟩)])) 132 (0,0)) true)]⟩)) (fun hK => ?_) ?_
     ·refine P6 35 8 [.cl 6 (.bool (win y24.Partition (-1) ((c.Aa.xs.length:Int) - 1))),.tk 7 (ov (.bool true)),.tk 8 o0,.tk 9 (a1 3),.cl 10 (.bool (win y24.BN 1 16384)),.tk 11 o0,.cl 14 (.agg #[(Ac k),Ac n]),.cl 15 (.agg (Am.arr (Af (win y24.BN 1 16384) 419 ⟨(k:Int),(n:Int)⟩))),.cl 18 (.bool (win y24.AX 82 16384)),.cl 21 (.agg #[(Ac k),Ac n]),.cl 22 (.agg (Am.arr (Af (win y24.AX 82 16384) 420 ⟨(k:Int),(n:Int)⟩))),.cl 27 (.bool (Ip c k y24.Partition)),.tk 28 (ov (.bool true)),.cl 31 (.agg #[(Ac k),Ac n]),.cl 32 (.agg (Am.arr (Af true 422 ⟨(k:Int),(n:Int)⟩)))] [1,2,4,5,24,25,26,7,46,53,63] [(64,#[i6 y24.Partition,i6 (-1),i6 ((c.Aa.xs.length:Int) - 1)],.bool (win y24.Partition (-1) ((c.Aa.xs.length:Int) - 1))),(64,#[i6 y24.BN,i6 1,i6 16384],.bool (win y24.BN 1 16384)),(92,#[(Ac k),Ac n],.agg #[(Ac k),Ac n]),(63,#[.bool (win y24.BN 1 16384),i6 419,.agg #[(Ac k),Ac n]],.agg (Am.arr (Af (win y24.BN 1 16384) 419 ⟨(k:Int),(n:Int)⟩))),(64,#[i6 y24.AX,i6 82,i6 16384],.bool (win y24.AX 82 16384)),(92,#[(Ac k),Ac n],.agg #[(Ac k),Ac n]),(63,#[.bool (win y24.AX 82 16384),i6 420,.agg #[(Ac k),Ac n]],.agg (Am.arr (Af (win y24.AX 82 16384) 420 ⟨(k:Int),(n:Int)⟩))),(94,#[.agg (Ai.arr c),Ac k,i6 y24.Partition],.bool (Ip c k y24.Partition)),(92,#[(Ac k),Ac n],.agg #[(Ac k),Ac n]),(63,#[.bool true,i6 422,.agg #[(Ac k),Ac n]],.agg (Am.arr (Af true 422 ⟨(k:Int),(n:Int)⟩)))] (Dw 33 4) [Value.bool (win y24.Partition (-1) ((c.Aa.xs.length:Int) - 1))=Value.bool true,Qb n15,Value.bool (!(Ip c k y24.Partition))=Value.bool true] [(1,Ac k),(2,pt z),(Bv z),(BK k n c),(BO b17 o18 y8),(BG y8),(26,Ac n),(BQ n15),(QM y24 k n),(KO y24 k n),(QK k n)] (.cells #[i6 0,i6 0,i6 0] 132 (0,0)) [0,1,2,3] ⟨(congrArg Value.bool h27),rfl,by simp[h29],Ae⟩ ⟨fun w72 hw72=>BZ w72 y24.Partition (-1) ((c.Aa.xs.length:Int) - 1),fun w73 hw73=>BZ w73 y24.BN 1 16384,fun w74 hw74=>G7 w74 (k:Int) (n:Int),fun w75 hw75=>Bo w75 (hL.ext (hw75.ext rfl)) (win y24.BN 1 16384) 419 (k:Int) (n:Int),fun w76 hw76=>BZ w76 y24.AX 82 16384,fun w77 hw77=>G7 w77 (k:Int) (n:Int),fun w78 hw78=>Bo w78 (hL.ext (hw78.ext rfl)) (win y24.AX 82 16384) 420 (k:Int) (n:Int),fun w79 hw79=>SL w79 c (hc.ext (hw79.ext rfl) (fun _ h=>h)) k hk y24.Partition,fun w80 hw80=>G7 w80 (k:Int) (n:Int),fun w81 hw81=>Bo w81 (hL.ext (hw81.ext rfl)) true 422 (k:Int) (n:Int),Ae⟩ ?_ (fun hv84 n82 hn83 => ?_)
      ·rintro⟨⟨n85,b86⟩,hb87⟩
       simp only at hb87
       refine Bq 33 ?_
       refine BC o0 [8,1,2,4,5,24,25,26,7,64] [] [(8,pt b86),(1,Ac k),(2,pt z),(Bv z),(BK k n c),(BO b17 o18 y8),(BG y8),(26,Ac n),(BQ n15),(64,.slice (some ⟨n85,0,none⟩) 3 3)] ⟨w,n85+1,[(Ak w),(BU z c),(Cb z),(Cf y24 n15),(bk b86 #[i6 0,i6 0,i6 0] 132),(ZB y24 k n n85)]⟩ [0,1,2,3] Ae (.inr rfl) ?_
       refine Bq 34 ?_
       refine GZ 87 #[.slice (some ⟨n85,0,none⟩) 3 3] (some 65) (.agg (Am.arr (AY [(Af (win y24.BN 1 16384) 419 ⟨(k:Int),(n:Int)⟩),(Af (win y24.AX 82 16384) 420 ⟨(k:Int),(n:Int)⟩),(Af true 422 ⟨(k:Int),(n:Int)⟩)]))) [8,1,2,4,5,24,25,26,7,65] [(8,pt b86),(1,Ac k),(2,pt z),(Bv z),(BK k n c),(BO b17 o18 y8),(BG y8),(26,Ac n),(BQ n15),(QF y24 k n)] [0,1,2,3] (fun w88 hw88=>DD w88 (hL.ext (hw88.ext rfl)) ⟨some ⟨n85,0,none⟩,3,[(Af (win y24.BN 1 16384) 419 ⟨(k:Int),(n:Int)⟩),(Af (win y24.AX 82 16384) 420 ⟨(k:Int),(n:Int)⟩),(Af true 422 ⟨(k:Int),(n:Int)⟩)]⟩ (E8 hw88 (i:=5) [(Af (win y24.BN 1 16384) 419 ⟨(k:Int),(n:Int)⟩),(Af (win y24.AX 82 16384) 420 ⟨(k:Int),(n:Int)⟩),(Af true 422 ⟨(k:Int),(n:Int)⟩)]) (show 3≤1000 by decide)) (fun n89 hn90 => ?_)
       replace hn90:n85+1≤n89:=hn90
       refine Bq 36 ?_
       refine BC (an 3 4) [8,1,2,4,5,24,25,26,7] [Qb b86,Qb b86,Qb b86] [(8,pt b86),(1,Ac k),(2,pt z),(Bv z),(BK k n c),(BO b17 o18 y8),(BG y8),(26,Ac n),(BQ n15)] ⟨w,n89,[(Ak w),(BU z c),(Cb z),(Cf y24 n15),(Zak y24 k n b86),(ZB y24 k n n85)]⟩ [] ⟨rfl,rfl,rfl,Ae⟩ (.inl rfl) ?_
       refine DX 37 [0,1,2,3,4,5] [(Ak w),(BU z c),(Cb z),(Cf y24 n15),(Zak y24 k n b86),(ZB y24 k n n85)] rfl rfl ?_
       refine CE ?_
       refine BI [1,2,4,5,24,25,26,7,8] [(1,Ac k),(2,pt z),(Bv z),(BK k n c),(BO b17 o18 y8),(BG y8),(26,Ac n),(BQ n15),(8,pt b86)] ?_
       refine Cc [0,1,2,3,5,4] [(Ak w),(BU z c),(Cb z),(Cf y24 n15),(ZB y24 k n n85),(Zak y24 k n b86)] rfl rfl ?_
       exact hK ⟨(n89,n85,b86),by first | omega | (dsimp only;omega)⟩
      replace hn83:n15+1≤n82:=hn83
      refine Oe (fun x:{p:Nat×Nat×Nat // n82≤p.1∧n82≤p.2.1∧n82≤p.2.2}=>[(1,Ac k),(2,pt z),(Bv z),(BK k n c),(BO b17 o18 y8),(BG y8),(26,Ac n),(BQ n15),(8,pt x.1.2.1),(QF y24 k n)]) (fun x=>⟨w,x.1.1,[(Ak w),(BU z c),(Cb z),(Cf y24 n15),(.blk x.1.2.1 (.cells #[i6 0,i6 0,i6 0] 132 (0,0)) true),(.blk x.1.2.2 (.cells #[i6 ((Af (win y24.BN 1 16384) 419 ⟨(k:Int),(n:Int)⟩).e),i6 ((Af (win y24.BN 1 16384) 419 ⟨(k:Int),(n:Int)⟩).Ag.First),i6 ((Af (win y24.BN 1 16384) 419 ⟨(k:Int),(n:Int)⟩).Ag.Second),i6 ((Af (win y24.AX 82 16384) 420 ⟨(k:Int),(n:Int)⟩).e),i6 ((Af (win y24.AX 82 16384) 420 ⟨(k:Int),(n:Int)⟩).Ag.First),i6 ((Af (win y24.AX 82 16384) 420 ⟨(k:Int),(n:Int)⟩).Ag.Second),i6 ((Af true 422 ⟨(k:Int),(n:Int)⟩).e),i6 ((Af true 422 ⟨(k:Int),(n:Int)⟩).Ag.First),i6 ((Af true 422 ⟨(k:Int),(n:Int)⟩).Ag.Second)] 132 (0,0)) true)]⟩) 1 (Dw 36 1) ?_ (fun hv94 => ?_)
      ·rintro⟨⟨n91,b92,b93⟩,hb95⟩
       simp only at hb95
       show Wg _ _ [(1,Ac k),(2,pt z),(Bv z),(BK k n c),(BO b17 o18 y8),(BG y8),(26,Ac n),(BQ n15),(8,pt b92),(QF y24 k n)] _ ⟨w,n91,[(Ak w),(BU z c),(Cb z),(Cf y24 n15),(bk b92 #[i6 0,i6 0,i6 0] 132),(ZM y24 k n b93)]⟩ _ _ _ _ _ _ _
       refine Bq 36 ?_
       refine BC (an 3 4) [1,2,4,5,24,25,26,7,8] [Qb b92,Qb b92,Qb b92] [(1,Ac k),(2,pt z),(Bv z),(BK k n c),(BO b17 o18 y8),(BG y8),(26,Ac n),(BQ n15),(8,pt b92)] ⟨w,n91,[(Ak w),(BU z c),(Cb z),(Cf y24 n15),(ZaD y24 k n b92),(ZM y24 k n b93)]⟩ [] ⟨rfl,rfl,rfl,Ae⟩ (.inl rfl) ?_
       refine DX 37 [0,1,2,3,4,5] [(Ak w),(BU z c),(Cb z),(Cf y24 n15),(ZaD y24 k n b92),(ZM y24 k n b93)] rfl rfl ?_
       refine CE ?_
       refine BI [1,2,4,5,24,25,26,7,8] [(1,Ac k),(2,pt z),(Bv z),(BK k n c),(BO b17 o18 y8),(BG y8),(26,Ac n),(BQ n15),(8,pt b92)] ?_
       refine Cc [0,1,2,3,5,4] [(Ak w),(BU z c),(Cb z),(Cf y24 n15),(ZM y24 k n b93),(ZaD y24 k n b92)] rfl rfl ?_
       exact hK ⟨(n91,b93,b92),by first | omega | (dsimp only;omega)⟩
      refine Oe (fun x:{p:Nat×Nat×Nat // n82≤p.1∧n82≤p.2.1∧n82≤p.2.2}=>[(1,Ac k),(2,pt z),(Bv z),(BK k n c),(BO b17 o18 y8),(BG y8),(26,Ac n),(BQ n15),(8,pt x.1.2.1),(64,.slice (some ⟨x.1.2.2,0,none⟩) 3 3)]) (fun x=>⟨w,x.1.1,[(Ak w),(BU z c),(Cb z),(Cf y24 n15),(.blk x.1.2.1 (.cells #[i6 0,i6 0,i6 0] 132 (0,0)) true),(.blk x.1.2.2 (.cells #[i6 ((Af (win y24.BN 1 16384) 419 ⟨(k:Int),(n:Int)⟩).e),i6 ((Af (win y24.BN 1 16384) 419 ⟨(k:Int),(n:Int)⟩).Ag.First),i6 ((Af (win y24.BN 1 16384) 419 ⟨(k:Int),(n:Int)⟩).Ag.Second),i6 ((Af (win y24.AX 82 16384) 420 ⟨(k:Int),(n:Int)⟩).e),i6 ((Af (win y24.AX 82 16384) 420 ⟨(k:Int),(n:Int)⟩).Ag.First),i6 ((Af (win y24.AX 82 16384) 420 ⟨(k:Int),(n:Int)⟩).Ag.Second),i6 ((Af true 422 ⟨(k:Int),(n:Int)⟩).e),i6 ((Af true 422 ⟨(k:Int),(n:Int)⟩).Ag.First),i6 ((Af true 422 ⟨(k:Int),(n:Int)⟩).Ag.Second)] 132 (0,0)) true)]⟩) 2 [true,true,true,true,true,true,true,true,true,true,true,true,true,true,true,true,true,true,true,true,true,true,true,true,true,true,true,true,true,true,true,true,true,true,false,true,false] ?_ (fun hv99 => ?_)
      ·rintro⟨⟨n96,b97,b98⟩,hb100⟩
       simp only at hb100
       show Wg _ _ [(1,Ac k),(2,pt z),(Bv z),(BK k n c),(BO b17 o18 y8),(BG y8),(26,Ac n),(BQ n15),(8,pt b97),(64,.slice (some ⟨b98,0,none⟩) 3 3)] _ ⟨w,n96,[(Ak w),(BU z c),(Cb z),(Cf y24 n15),(bk b97 #[i6 0,i6 0,i6 0] 132),(bk b98 #[i6 ((Af (win y24.BN 1 16384) 419 ⟨(k:Int),(n:Int)⟩).e),i6 ((Af (win y24.BN 1 16384) 419 ⟨(k:Int),(n:Int)⟩).Ag.First),i6 ((Af (win y24.BN 1 16384) 419 ⟨(k:Int),(n:Int)⟩).Ag.Second),i6 ((Af (win y24.AX 82 16384) 420 ⟨(k:Int),(n:Int)⟩).e),i6 ((Af (win y24.AX 82 16384) 420 ⟨(k:Int),(n:Int)⟩).Ag.First),i6 ((Af (win y24.AX 82 16384) 420 ⟨(k:Int),(n:Int)⟩).Ag.Second),i6 ((Af true 422 ⟨(k:Int),(n:Int)⟩).e),i6 ((Af true 422 ⟨(k:Int),(n:Int)⟩).Ag.First),i6 ((Af true 422 ⟨(k:Int),(n:Int)⟩).Ag.Second)] 132)]⟩ _ _ _ _ _ _ _
       refine Bq 34 ?_
       refine GZ 87 #[.slice (some ⟨b98,0,none⟩) 3 3] (some 65) (.agg (Am.arr (AY [(Af (win y24.BN 1 16384) 419 ⟨(k:Int),(n:Int)⟩),(Af (win y24.AX 82 16384) 420 ⟨(k:Int),(n:Int)⟩),(Af true 422 ⟨(k:Int),(n:Int)⟩)]))) [1,2,4,5,24,25,26,7,8,65] [(1,Ac k),(2,pt z),(Bv z),(BK k n c),(BO b17 o18 y8),(BG y8),(26,Ac n),(BQ n15),(8,pt b97),(QF y24 k n)] [0,1,2,3] (fun w101 hw101=>DD w101 (hL.ext (hw101.ext rfl)) ⟨some ⟨b98,0,none⟩,3,[(Af (win y24.BN 1 16384) 419 ⟨(k:Int),(n:Int)⟩),(Af (win y24.AX 82 16384) 420 ⟨(k:Int),(n:Int)⟩),(Af true 422 ⟨(k:Int),(n:Int)⟩)]⟩ (E8 hw101 (i:=5) [(Af (win y24.BN 1 16384) 419 ⟨(k:Int),(n:Int)⟩),(Af (win y24.AX 82 16384) 420 ⟨(k:Int),(n:Int)⟩),(Af true 422 ⟨(k:Int),(n:Int)⟩)]) (show 3≤1000 by decide)) (fun n102 hn103 => ?_)
       replace hn103:n96≤n102:=hn103
       refine CY [1,2,4,5,24,25,26,7,8,65] [(1,Ac k),(2,pt z),(Bv z),(BK k n c),(BO b17 o18 y8),(BG y8),(26,Ac n),(BQ n15),(8,pt b97),(QF y24 k n)] ?_
       exact hv94 ⟨(n102,b97,b98),by first | omega | (dsimp only;omega)⟩
      refine Jr [33,35] ?_
      refine List.forall_mem_cons.2 ⟨?_,List.forall_mem_cons.2 ⟨?_,fun _ h=>absurd h List.not_mem_nil⟩⟩
      ·refine BC o0 [1,2,4,5,24,25,26,7,64] [] [(1,Ac k),(2,pt z),(Bv z),(BK k n c),(BO b17 o18 y8),(BG y8),(26,Ac n),(BQ n15),(64,.slice (some ⟨n82,0,none⟩) 3 3)] ⟨w,n82+1,[(Ak w),(BU z c),(Cb z),(Cf y24 n15),(WV y24 k n n82)]⟩ [0,1,2,3] Ae (.inr rfl) ?_
       refine Jr [34,35] ?_
       refine List.forall_mem_cons.2 ⟨?_,List.forall_mem_cons.2 ⟨?_,fun _ h=>absurd h List.not_mem_nil⟩⟩
       ·refine GZ 87 #[.slice (some ⟨n82,0,none⟩) 3 3] (some 65) (.agg (Am.arr (AY [(Af (win y24.BN 1 16384) 419 ⟨(k:Int),(n:Int)⟩),(Af (win y24.AX 82 16384) 420 ⟨(k:Int),(n:Int)⟩),(Af true 422 ⟨(k:Int),(n:Int)⟩)]))) [1,2,4,5,24,25,26,7,65] [(1,Ac k),(2,pt z),(Bv z),(BK k n c),(BO b17 o18 y8),(BG y8),(26,Ac n),(BQ n15),(QF y24 k n)] [0,1,2,3] (fun w104 hw104=>DD w104 (hL.ext (hw104.ext rfl)) ⟨some ⟨n82,0,none⟩,3,[(Af (win y24.BN 1 16384) 419 ⟨(k:Int),(n:Int)⟩),(Af (win y24.AX 82 16384) 420 ⟨(k:Int),(n:Int)⟩),(Af true 422 ⟨(k:Int),(n:Int)⟩)]⟩ (E8 hw104 (i:=4) [(Af (win y24.BN 1 16384) 419 ⟨(k:Int),(n:Int)⟩),(Af (win y24.AX 82 16384) 420 ⟨(k:Int),(n:Int)⟩),(Af true 422 ⟨(k:Int),(n:Int)⟩)]) (show 3≤1000 by decide)) (fun n105 hn106 => ?_)
        replace hn106:n82+1≤n105:=hn106
        refine Bq 35 ?_
        refine BC o0 [1,2,4,5,24,25,26,7,65,8] [] [(1,Ac k),(2,pt z),(Bv z),(BK k n c),(BO b17 o18 y8),(BG y8),(26,Ac n),(BQ n15),(QF y24 k n),(8,pt n105)] ⟨w,n105+1,[(Ak w),(BU z c),(Cb z),(Cf y24 n15),(WV y24 k n n82),(bk n105 #[i6 0,i6 0,i6 0] 132)]⟩ [0,1,2,3] Ae (.inr rfl) ?_
        refine MF [0,1,2,3,5,4] [(Ak w),(BU z c),(Cb z),(Cf y24 n15),(bk n105 #[i6 0,i6 0,i6 0] 132),(WV y24 k n n82)] rfl rfl ?_
        refine CY [1,2,4,5,24,25,26,7,8,65] [(1,Ac k),(2,pt z),(Bv z),(BK k n c),(BO b17 o18 y8),(BG y8),(26,Ac n),(BQ n15),(8,pt n105),(QF y24 k n)] ?_
        exact hv94 ⟨(n105+1,n105,n82),by first | omega | (dsimp only;omega)⟩
       refine BC o0 [1,2,4,5,24,25,26,7,64,8] [] [(1,Ac k),(2,pt z),(Bv z),(BK k n c),(BO b17 o18 y8),(BG y8),(26,Ac n),(BQ n15),(64,.slice (some ⟨n82,0,none⟩) 3 3),(8,pt (n82+1))] ⟨w,n82+2,[(Ak w),(BU z c),(Cb z),(Cf y24 n15),(WV y24 k n n82),(bk (n82+1) #[i6 0,i6 0,i6 0] 132)]⟩ [0,1,2,3] Ae (.inr rfl) ?_
       refine MF [0,1,2,3,5,4] [(Ak w),(BU z c),(Cb z),(Cf y24 n15),(bk (n82+1) #[i6 0,i6 0,i6 0] 132),(WV y24 k n n82)] rfl rfl ?_
       refine CY [1,2,4,5,24,25,26,7,8,64] [(1,Ac k),(2,pt z),(Bv z),(BK k n c),(BO b17 o18 y8),(BG y8),(26,Ac n),(BQ n15),(8,pt (n82+1)),(64,.slice (some ⟨n82,0,none⟩) 3 3)] ?_
       exact hv99 ⟨(n82+2,n82+1,n82),by first | omega | (dsimp only;omega)⟩
      refine BC o0 [1,2,4,5,24,25,26,7,46,53,63,8] [] [(1,Ac k),(2,pt z),(Bv z),(BK k n c),(BO b17 o18 y8),(BG y8),(26,Ac n),(BQ n15),(QM y24 k n),(KO y24 k n),(QK k n),(8,pt n82)] ⟨w,n82+1,[(Ak w),(BU z c),(Cb z),(Cf y24 n15),(bk n82 #[i6 0,i6 0,i6 0] 132)]⟩ [0,1,2,3] Ae (.inr rfl) ?_
      refine CY [8,1,2,4,5,24,25,26,7,46,53,63] [(8,pt n82),(1,Ac k),(2,pt z),(Bv z),(BK k n c),(BO b17 o18 y8),(BG y8),(26,Ac n),(BQ n15),(QM y24 k n),(KO y24 k n),(QK k n)] ?_
      exact hv84 ⟨(n82+1,n82),by first | omega | (dsimp only;omega)⟩
     rintro⟨⟨n69,b70,b71⟩,hJ107⟩
     simp only at hJ107
     show E _ _ [(1,Ac k),(2,pt z),(Bv z),(BK k n c),(BO b17 o18 y8),(BG y8),(26,Ac n),(BQ n15),(8,pt b71)] _ ⟨w,n69,[(Ak w),(BU z c),(Cb z),(Cf y24 n15),(bk b70 #[i6 ((Af (win y24.BN 1 16384) 419 ⟨(k:Int),(n:Int)⟩).e),i6 ((Af (win y24.BN 1 16384) 419 ⟨(k:Int),(n:Int)⟩).Ag.First),i6 ((Af (win y24.BN 1 16384) 419 ⟨(k:Int),(n:Int)⟩).Ag.Second),i6 ((Af (win y24.AX 82 16384) 420 ⟨(k:Int),(n:Int)⟩).e),i6 ((Af (win y24.AX 82 16384) 420 ⟨(k:Int),(n:Int)⟩).Ag.First),i6 ((Af (win y24.AX 82 16384) 420 ⟨(k:Int),(n:Int)⟩).Ag.Second),i6 ((Af true 422 ⟨(k:Int),(n:Int)⟩).e),i6 ((Af true 422 ⟨(k:Int),(n:Int)⟩).Ag.First),i6 ((Af true 422 ⟨(k:Int),(n:Int)⟩).Ag.Second)] 132),(Zan y24 k n b71)]⟩ _ _ _
     refine Cc [0,1,2,3,5] [(Ak w),(BU z c),(Cb z),(Cf y24 n15),(Zan y24 k n b71)] rfl rfl ?_
     have e0:gd (DU c k).xs n=y24:=(by rw[hy24,hy8])
     have eA:F6 c k n=(AY [(Af (win y24.BN 1 16384) 419 ⟨(k:Int),(n:Int)⟩),(Af (win y24.AX 82 16384) 420 ⟨(k:Int),(n:Int)⟩),(Af true 422 ⟨(k:Int),(n:Int)⟩)]):=(by unfold F6 Nk;simp only[e0];simp[h27,h29])
     refine BI [1,2,4,5,7,8,24,25,26] [(1,Ac k),(2,pt z),(Bv z),(BK k n c),(BQ n15),(8,pt b71),(BO b17 o18 y8),(BG y8),(26,Ac n)] ?_
     refine BR (fun a w' hs=>⟨n69,b71,by omega,(by(try dsimp only[Zan,Cb,Cf,BU,QM,KO,Pm,QK,QD,BO,BG,Bv,MM,BK,BQ]at hs ⊢);rw[eA];exact hs)⟩)
    have hd108:=FI h27
    by_cases h109:(Ip c k y24.Partition)=true
    ·refine DZ 36 [0,1,2,3] [(Ak w),(BU z c),(Cb z),(Cf y24 n15)] rfl rfl ?_
     refine Ci [(0,o0),(1,(a1 3)),(2,o0),(3,(a1 1)),(4,o0),(5,(ov (i6 ((c.Aa.xs.length:Int) - 1)))),(12,o0),(13,o0),(16,o0),(17,(a1 3)),(19,o0),(20,o0),(23,(an 7 1)),(24,o0),(25,o0),(26,(a1 3)),(29,o0),(30,o0)] [1,2,4,5,24,25,26,7,32,36,43,44,48,50,51,54,55,57,60,61] [Qb n15,Qb z,Wr ((c.Aa.xs.length:Int) - 1) ((c.Aa.xs.length:Int) - 1),Qb n15,Qb z,Qb z,Qb z,Qb z,Qb z,Qb z,Qb z,Qb n15] [true,true,true,true,true,true,false,false,false,false,false,false,true,true,false,false,true,true,false,true,true,false,false,true,true,true,true,false,false,true,true,false,false,false,false,false,false] [(1,Ac k),(2,pt z),(Bv z),(BK k n c),(BO b17 o18 y8),(BG y8),(26,Ac n),(BQ n15),(32,i6 y24.Partition),(QD c),(43,Ac k),(44,Ac n),(48,i6 y24.AX),(50,Ac k),(51,Ac n),(54,.agg (Ai.arr c)),(55,Ac k),(57,i6 y24.Partition),(60,Ac k),(61,Ac n)] ⟨rfl,rfl,BP,rfl,rfl,rfl,rfl,rfl,rfl,rfl,rfl,rfl,Ae⟩ ?_
     refine Qo (fun x:{p:Nat×Nat×Nat // n15+1≤p.1∧n15+1≤p.2.1∧n15+1≤p.2.2}=>([(1,Ac k),(2,pt z),(Bv z),(BK k n c),(BO b17 o18 y8),(BG y8),(26,Ac n),(BQ n15),(8,pt x.1.2.2)],⟨w,x.1.1,[(Ak w),(BU z c),(Cb z),(Cf y24 n15),(.blk x.1.2.1 (.cells #[i6 ((Af false 419 ⟨(k:Int),(n:Int)⟩).e),i6 ((Af false 419 ⟨(k:Int),(n:Int)⟩).Ag.First),i6 ((Af false 419 ⟨(k:Int),(n:Int)⟩).Ag.Second),i6 ((Af (win y24.AX 82 16384) 420 ⟨(k:Int),(n:Int)⟩).e),i6 ((Af (win y24.AX 82 16384) 420 ⟨(k:Int),(n:Int)⟩).Ag.First),i6 ((Af (win y24.AX 82 16384) 420 ⟨(k:Int),(n:Int)⟩).Ag.Second),i6 ((Af false 422 ⟨(k:Int),(n:Int)⟩).e),i6 ((Af false 422 ⟨(k:Int),(n:Int)⟩).Ag.First),i6 ((Af false 422 ⟨(k:Int),(n:Int)⟩).Ag.Second)] 132 (0,0)) true),(.blk x.1.2.2 (.cells (Am.arr (AY [(Af false 419 ⟨(k:Int),(n:Int)⟩),(Af (win y24.AX 82 16384) 420 ⟨(k:Int),(n:Int)⟩),(Af false 422 ⟨(k:Int),(n:Int)⟩)])) 132 (0,0)) true)]⟩)) (fun hK => ?_) ?_
     ·refine P6 35 8 [.cl 6 (.bool (win y24.Partition (-1) ((c.Aa.xs.length:Int) - 1))),.tk 7 (ov (.bool false)),.tk 8 o0,.tk 9 o0,.tk 10 o0,.tk 11 o0,.cl 14 (.agg #[(Ac k),Ac n]),.cl 15 (.agg (Am.arr (Af false 419 ⟨(k:Int),(n:Int)⟩))),.cl 18 (.bool (win y24.AX 82 16384)),.cl 21 (.agg #[(Ac k),Ac n]),.cl 22 (.agg (Am.arr (Af (win y24.AX 82 16384) 420 ⟨(k:Int),(n:Int)⟩))),.cl 27 (.bool (Ip c k y24.Partition)),.tk 28 (ov (.bool false)),.cl 31 (.agg #[(Ac k),Ac n]),.cl 32 (.agg (Am.arr (Af false 422 ⟨(k:Int),(n:Int)⟩)))] [1,2,4,5,24,25,26,7,46,53,63] [(64,#[i6 y24.Partition,i6 (-1),i6 ((c.Aa.xs.length:Int) - 1)],.bool (win y24.Partition (-1) ((c.Aa.xs.length:Int) - 1))),(92,#[(Ac k),Ac n],.agg #[(Ac k),Ac n]),(63,#[.bool false,i6 419,.agg #[(Ac k),Ac n]],.agg (Am.arr (Af false 419 ⟨(k:Int),(n:Int)⟩))),(64,#[i6 y24.AX,i6 82,i6 16384],.bool (win y24.AX 82 16384)),(92,#[(Ac k),Ac n],.agg #[(Ac k),Ac n]),(63,#[.bool (win y24.AX 82 16384),i6 420,.agg #[(Ac k),Ac n]],.agg (Am.arr (Af (win y24.AX 82 16384) 420 ⟨(k:Int),(n:Int)⟩))),(94,#[.agg (Ai.arr c),Ac k,i6 y24.Partition],.bool (Ip c k y24.Partition)),(92,#[(Ac k),Ac n],.agg #[(Ac k),Ac n]),(63,#[.bool false,i6 422,.agg #[(Ac k),Ac n]],.agg (Am.arr (Af false 422 ⟨(k:Int),(n:Int)⟩)))] (Dw 33 4) [Value.bool (win y24.Partition (-1) ((c.Aa.xs.length:Int) - 1))=Value.bool false,Value.bool (!(Ip c k y24.Partition))=Value.bool false] [(1,Ac k),(2,pt z),(Bv z),(BK k n c),(BO b17 o18 y8),(BG y8),(26,Ac n),(BQ n15),(QJ k n),(KO y24 k n),(Pm k n)] (.cells #[i6 0,i6 0,i6 0] 132 (0,0)) [0,1,2,3] ⟨(congrArg Value.bool (Bool.eq_false_iff.2 h27)),by simp[h109],Ae⟩ ⟨fun w113 hw113=>BZ w113 y24.Partition (-1) ((c.Aa.xs.length:Int) - 1),fun w114 hw114=>G7 w114 (k:Int) (n:Int),fun w115 hw115=>Bo w115 (hL.ext (hw115.ext rfl)) false 419 (k:Int) (n:Int),fun w116 hw116=>BZ w116 y24.AX 82 16384,fun w117 hw117=>G7 w117 (k:Int) (n:Int),fun w118 hw118=>Bo w118 (hL.ext (hw118.ext rfl)) (win y24.AX 82 16384) 420 (k:Int) (n:Int),fun w119 hw119=>SL w119 c (hc.ext (hw119.ext rfl) (fun _ h=>h)) k hk y24.Partition,fun w120 hw120=>G7 w120 (k:Int) (n:Int),fun w121 hw121=>Bo w121 (hL.ext (hw121.ext rfl)) false 422 (k:Int) (n:Int),Ae⟩ ?_ (fun hv124 n122 hn123 => ?_)
      ·rintro⟨⟨n125,b126⟩,hb127⟩
       simp only at hb127
       refine Bq 33 ?_
       refine BC o0 [8,1,2,4,5,24,25,26,7,64] [] [(8,pt b126),(1,Ac k),(2,pt z),(Bv z),(BK k n c),(BO b17 o18 y8),(BG y8),(26,Ac n),(BQ n15),(64,.slice (some ⟨n125,0,none⟩) 3 3)] ⟨w,n125+1,[(Ak w),(BU z c),(Cb z),(Cf y24 n15),(bk b126 #[i6 0,i6 0,i6 0] 132),(Zp y24 k n n125)]⟩ [0,1,2,3] Ae (.inr rfl) ?_
       refine Bq 34 ?_
       refine GZ 87 #[.slice (some ⟨n125,0,none⟩) 3 3] (some 65) (.agg (Am.arr (AY [(Af false 419 ⟨(k:Int),(n:Int)⟩),(Af (win y24.AX 82 16384) 420 ⟨(k:Int),(n:Int)⟩),(Af false 422 ⟨(k:Int),(n:Int)⟩)]))) [8,1,2,4,5,24,25,26,7,65] [(8,pt b126),(1,Ac k),(2,pt z),(Bv z),(BK k n c),(BO b17 o18 y8),(BG y8),(26,Ac n),(BQ n15),(QG y24 k n)] [0,1,2,3] (fun w128 hw128=>DD w128 (hL.ext (hw128.ext rfl)) ⟨some ⟨n125,0,none⟩,3,[(Af false 419 ⟨(k:Int),(n:Int)⟩),(Af (win y24.AX 82 16384) 420 ⟨(k:Int),(n:Int)⟩),(Af false 422 ⟨(k:Int),(n:Int)⟩)]⟩ (E8 hw128 (i:=5) [(Af false 419 ⟨(k:Int),(n:Int)⟩),(Af (win y24.AX 82 16384) 420 ⟨(k:Int),(n:Int)⟩),(Af false 422 ⟨(k:Int),(n:Int)⟩)]) (show 3≤1000 by decide)) (fun n129 hn130 => ?_)
       replace hn130:n125+1≤n129:=hn130
       refine Bq 36 ?_
       refine BC (an 3 4) [8,1,2,4,5,24,25,26,7] [Qb b126,Qb b126,Qb b126] [(8,pt b126),(1,Ac k),(2,pt z),(Bv z),(BK k n c),(BO b17 o18 y8),(BG y8),(26,Ac n),(BQ n15)] ⟨w,n129,[(Ak w),(BU z c),(Cb z),(Cf y24 n15),(ZaU y24 k n b126),(Zp y24 k n n125)]⟩ [] ⟨rfl,rfl,rfl,Ae⟩ (.inl rfl) ?_
       refine DX 37 [0,1,2,3,4,5] [(Ak w),(BU z c),(Cb z),(Cf y24 n15),(ZaU y24 k n b126),(Zp y24 k n n125)] rfl rfl ?_
       refine CE ?_
       refine BI [1,2,4,5,24,25,26,7,8] [(1,Ac k),(2,pt z),(Bv z),(BK k n c),(BO b17 o18 y8),(BG y8),(26,Ac n),(BQ n15),(8,pt b126)] ?_
       refine Cc [0,1,2,3,5,4] [(Ak w),(BU z c),(Cb z),(Cf y24 n15),(Zp y24 k n n125),(ZaU y24 k n b126)] rfl rfl ?_
       exact hK ⟨(n129,n125,b126),by first | omega | (dsimp only;omega)⟩
      replace hn123:n15+1≤n122:=hn123
      refine Oe (fun x:{p:Nat×Nat×Nat // n122≤p.1∧n122≤p.2.1∧n122≤p.2.2}=>[(1,Ac k),(2,pt z),(Bv z),(BK k n c),(BO b17 o18 y8),(BG y8),(26,Ac n),(BQ n15),(8,pt x.1.2.1),(QG y24 k n)]) (fun x=>⟨w,x.1.1,[(Ak w),(BU z c),(Cb z),(Cf y24 n15),(.blk x.1.2.1 (.cells #[i6 0,i6 0,i6 0] 132 (0,0)) true),(.blk x.1.2.2 (.cells #[i6 ((Af false 419 ⟨(k:Int),(n:Int)⟩).e),i6 ((Af false 419 ⟨(k:Int),(n:Int)⟩).Ag.First),i6 ((Af false 419 ⟨(k:Int),(n:Int)⟩).Ag.Second),i6 ((Af (win y24.AX 82 16384) 420 ⟨(k:Int),(n:Int)⟩).e),i6 ((Af (win y24.AX 82 16384) 420 ⟨(k:Int),(n:Int)⟩).Ag.First),i6 ((Af (win y24.AX 82 16384) 420 ⟨(k:Int),(n:Int)⟩).Ag.Second),i6 ((Af false 422 ⟨(k:Int),(n:Int)⟩).e),i6 ((Af false 422 ⟨(k:Int),(n:Int)⟩).Ag.First),i6 ((Af false 422 ⟨(k:Int),(n:Int)⟩).Ag.Second)] 132 (0,0)) true)]⟩) 1 (Dw 36 1) ?_ (fun hv134 => ?_)
      ·rintro⟨⟨n131,b132,b133⟩,hb135⟩
       simp only at hb135
       show Wg _ _ [(1,Ac k),(2,pt z),(Bv z),(BK k n c),(BO b17 o18 y8),(BG y8),(26,Ac n),(BQ n15),(8,pt b132),(QG y24 k n)] _ ⟨w,n131,[(Ak w),(BU z c),(Cb z),(Cf y24 n15),(bk b132 #[i6 0,i6 0,i6 0] 132),(ZA y24 k n b133)]⟩ _ _ _ _ _ _ _
       refine Bq 36 ?_
       refine BC (an 3 4) [1,2,4,5,24,25,26,7,8] [Qb b132,Qb b132,Qb b132] [(1,Ac k),(2,pt z),(Bv z),(BK k n c),(BO b17 o18 y8),(BG y8),(26,Ac n),(BQ n15),(8,pt b132)] ⟨w,n131,[(Ak w),(BU z c),(Cb z),(Cf y24 n15),(Zay y24 k n b132),(ZA y24 k n b133)]⟩ [] ⟨rfl,rfl,rfl,Ae⟩ (.inl rfl) ?_
       refine DX 37 [0,1,2,3,4,5] [(Ak w),(BU z c),(Cb z),(Cf y24 n15),(Zay y24 k n b132),(ZA y24 k n b133)] rfl rfl ?_
       refine CE ?_
       refine BI [1,2,4,5,24,25,26,7,8] [(1,Ac k),(2,pt z),(Bv z),(BK k n c),(BO b17 o18 y8),(BG y8),(26,Ac n),(BQ n15),(8,pt b132)] ?_
       refine Cc [0,1,2,3,5,4] [(Ak w),(BU z c),(Cb z),(Cf y24 n15),(ZA y24 k n b133),(Zay y24 k n b132)] rfl rfl ?_
       exact hK ⟨(n131,b133,b132),by first | omega | (dsimp only;omega)⟩
      refine Oe (fun x:{p:Nat×Nat×Nat // n122≤p.1∧n122≤p.2.1∧n122≤p.2.2}=>[(1,Ac k),(2,pt z),(Bv z),(BK k n c),(BO b17 o18 y8),(BG y8),(26,Ac n),(BQ n15),(8,pt x.1.2.1),(64,.slice (some ⟨x.1.2.2,0,none⟩) 3 3)]) (fun x=>⟨w,x.1.1,[(Ak w),(BU z c),(Cb z),(Cf y24 n15),(.blk x.1.2.1 (.cells #[i6 0,i6 0,i6 0] 132 (0,0)) true),(.blk x.1.2.2 (.cells #[i6 ((Af false 419 ⟨(k:Int),(n:Int)⟩).e),i6 ((Af false 419 ⟨(k:Int),(n:Int)⟩).Ag.First),i6 ((Af false 419 ⟨(k:Int),(n:Int)⟩).Ag.Second),i6 ((Af (win y24.AX 82 16384) 420 ⟨(k:Int),(n:Int)⟩).e),i6 ((Af (win y24.AX 82 16384) 420 ⟨(k:Int),(n:Int)⟩).Ag.First),i6 ((Af (win y24.AX 82 16384) 420 ⟨(k:Int),(n:Int)⟩).Ag.Second),i6 ((Af false 422 ⟨(k:Int),(n:Int)⟩).e),i6 ((Af false 422 ⟨(k:Int),(n:Int)⟩).Ag.First),i6 ((Af false 422 ⟨(k:Int),(n:Int)⟩).Ag.Second)] 132 (0,0)) true)]⟩) 2 [true,true,true,true,true,true,true,true,true,true,true,true,true,true,true,true,true,true,true,true,true,true,true,true,true,true,true,true,true,true,true,true,true,true,false,true,false] ?_ (fun hv139 => ?_)
      ·rintro⟨⟨n136,b137,b138⟩,hb140⟩
       simp only at hb140
       show Wg _ _ [(1,Ac k),(2,pt z),(Bv z),(BK k n c),(BO b17 o18 y8),(BG y8),(26,Ac n),(BQ n15),(8,pt b137),(64,.slice (some ⟨b138,0,none⟩) 3 3)] _ ⟨w,n136,[(Ak w),(BU z c),(Cb z),(Cf y24 n15),(bk b137 #[i6 0,i6 0,i6 0] 132),(bk b138 #[i6 ((Af false 419 ⟨(k:Int),(n:Int)⟩).e),i6 ((Af false 419 ⟨(k:Int),(n:Int)⟩).Ag.First),i6 ((Af false 419 ⟨(k:Int),(n:Int)⟩).Ag.Second),i6 ((Af (win y24.AX 82 16384) 420 ⟨(k:Int),(n:Int)⟩).e),i6 ((Af (win y24.AX 82 16384) 420 ⟨(k:Int),(n:Int)⟩).Ag.First),i6 ((Af (win y24.AX 82 16384) 420 ⟨(k:Int),(n:Int)⟩).Ag.Second),i6 ((Af false 422 ⟨(k:Int),(n:Int)⟩).e),i6 ((Af false 422 ⟨(k:Int),(n:Int)⟩).Ag.First),i6 ((Af false 422 ⟨(k:Int),(n:Int)⟩).Ag.Second)] 132)]⟩ _ _ _ _ _ _ _
       refine Bq 34 ?_
       refine GZ 87 #[.slice (some ⟨b138,0,none⟩) 3 3] (some 65) (.agg (Am.arr (AY [(Af false 419 ⟨(k:Int),(n:Int)⟩),(Af (win y24.AX 82 16384) 420 ⟨(k:Int),(n:Int)⟩),(Af false 422 ⟨(k:Int),(n:Int)⟩)]))) [1,2,4,5,24,25,26,7,8,65] [(1,Ac k),(2,pt z),(Bv z),(BK k n c),(BO b17 o18 y8),(BG y8),(26,Ac n),(BQ n15),(8,pt b137),(QG y24 k n)] [0,1,2,3] (fun w141 hw141=>DD w141 (hL.ext (hw141.ext rfl)) ⟨some ⟨b138,0,none⟩,3,[(Af false 419 ⟨(k:Int),(n:Int)⟩),(Af (win y24.AX 82 16384) 420 ⟨(k:Int),(n:Int)⟩),(Af false 422 ⟨(k:Int),(n:Int)⟩)]⟩ (E8 hw141 (i:=5) [(Af false 419 ⟨(k:Int),(n:Int)⟩),(Af (win y24.AX 82 16384) 420 ⟨(k:Int),(n:Int)⟩),(Af false 422 ⟨(k:Int),(n:Int)⟩)]) (show 3≤1000 by decide)) (fun n142 hn143 => ?_)
       replace hn143:n136≤n142:=hn143
       refine CY [1,2,4,5,24,25,26,7,8,65] [(1,Ac k),(2,pt z),(Bv z),(BK k n c),(BO b17 o18 y8),(BG y8),(26,Ac n),(BQ n15),(8,pt b137),(QG y24 k n)] ?_
       exact hv134 ⟨(n142,b137,b138),by first | omega | (dsimp only;omega)⟩
      refine Jr [33,35] ?_
      refine List.forall_mem_cons.2 ⟨?_,List.forall_mem_cons.2 ⟨?_,fun _ h=>absurd h List.not_mem_nil⟩⟩
      ·refine BC o0 [1,2,4,5,24,25,26,7,64] [] [(1,Ac k),(2,pt z),(Bv z),(BK k n c),(BO b17 o18 y8),(BG y8),(26,Ac n),(BQ n15),(64,.slice (some ⟨n122,0,none⟩) 3 3)] ⟨w,n122+1,[(Ak w),(BU z c),(Cb z),(Cf y24 n15),(Xr y24 k n n122)]⟩ [0,1,2,3] Ae (.inr rfl) ?_
       refine Jr [34,35] ?_
       refine List.forall_mem_cons.2 ⟨?_,List.forall_mem_cons.2 ⟨?_,fun _ h=>absurd h List.not_mem_nil⟩⟩
       ·refine GZ 87 #[.slice (some ⟨n122,0,none⟩) 3 3] (some 65) (.agg (Am.arr (AY [(Af false 419 ⟨(k:Int),(n:Int)⟩),(Af (win y24.AX 82 16384) 420 ⟨(k:Int),(n:Int)⟩),(Af false 422 ⟨(k:Int),(n:Int)⟩)]))) [1,2,4,5,24,25,26,7,65] [(1,Ac k),(2,pt z),(Bv z),(BK k n c),(BO b17 o18 y8),(BG y8),(26,Ac n),(BQ n15),(QG y24 k n)] [0,1,2,3] (fun w144 hw144=>DD w144 (hL.ext (hw144.ext rfl)) ⟨some ⟨n122,0,none⟩,3,[(Af false 419 ⟨(k:Int),(n:Int)⟩),(Af (win y24.AX 82 16384) 420 ⟨(k:Int),(n:Int)⟩),(Af false 422 ⟨(k:Int),(n:Int)⟩)]⟩ (E8 hw144 (i:=4) [(Af false 419 ⟨(k:Int),(n:Int)⟩),(Af (win y24.AX 82 16384) 420 ⟨(k:Int),(n:Int)⟩),(Af false 422 ⟨(k:Int),(n:Int)⟩)]) (show 3≤1000 by decide)) (fun n145 hn146 => ?_)
        replace hn146:n122+1≤n145:=hn146
        refine Bq 35 ?_
        refine BC o0 [1,2,4,5,24,25,26,7,65,8] [] [(1,Ac k),(2,pt z),(Bv z),(BK k n c),(BO b17 o18 y8),(BG y8),(26,Ac n),(BQ n15),(QG y24 k n),(8,pt n145)] ⟨w,n145+1,[(Ak w),(BU z c),(Cb z),(Cf y24 n15),(Xr y24 k n n122),(bk n145 #[i6 0,i6 0,i6 0] 132)]⟩ [0,1,2,3] Ae (.inr rfl) ?_
        refine MF [0,1,2,3,5,4] [(Ak w),(BU z c),(Cb z),(Cf y24 n15),(bk n145 #[i6 0,i6 0,i6 0] 132),(Xr y24 k n n122)] rfl rfl ?_
        refine CY [1,2,4,5,24,25,26,7,8,65] [(1,Ac k),(2,pt z),(Bv z),(BK k n c),(BO b17 o18 y8),(BG y8),(26,Ac n),(BQ n15),(8,pt n145),(QG y24 k n)] ?_
        exact hv134 ⟨(n145+1,n145,n122),by first | omega | (dsimp only;omega)⟩
       refine BC o0 [1,2,4,5,24,25,26,7,64,8] [] [(1,Ac k),(2,pt z),(Bv z),(BK k n c),(BO b17 o18 y8),(BG y8),(26,Ac n),(BQ n15),(64,.slice (some ⟨n122,0,none⟩) 3 3),(8,pt (n122+1))] ⟨w,n122+2,[(Ak w),(BU z c),(Cb z),(Cf y24 n15),(Xr y24 k n n122),(bk (n122+1) #[i6 0,i6 0,i6 0] 132)]⟩ [0,1,2,3] Ae (.inr rfl) ?_
       refine MF [0,1,2,3,5,4] [(Ak w),(BU z c),(Cb z),(Cf y24 n15),(bk (n122+1) #[i6 0,i6 0,i6 0] 132),(Xr y24 k n n122)] rfl rfl ?_
       refine CY [1,2,4,5,24,25,26,7,8,64] [(1,Ac k),(2,pt z),(Bv z),(BK k n c),(BO b17 o18 y8),(BG y8),(26,Ac n),(BQ n15),(8,pt (n122+1)),(64,.slice (some ⟨n122,0,none⟩) 3 3)] ?_
       exact hv139 ⟨(n122+2,n122+1,n122),by first | omega | (dsimp only;omega)⟩
      refine BC o0 [1,2,4,5,24,25,26,7,46,53,63,8] [] [(1,Ac k),(2,pt z),(Bv z),(BK k n c),(BO b17 o18 y8),(BG y8),(26,Ac n),(BQ n15),(QJ k n),(KO y24 k n),(Pm k n),(8,pt n122)] ⟨w,n122+1,[(Ak w),(BU z c),(Cb z),(Cf y24 n15),(bk n122 #[i6 0,i6 0,i6 0] 132)]⟩ [0,1,2,3] Ae (.inr rfl) ?_
      refine CY [8,1,2,4,5,24,25,26,7,46,53,63] [(8,pt n122),(1,Ac k),(2,pt z),(Bv z),(BK k n c),(BO b17 o18 y8),(BG y8),(26,Ac n),(BQ n15),(QJ k n),(KO y24 k n),(Pm k n)] ?_
      exact hv124 ⟨(n122+1,n122),by first | omega | (dsimp only;omega)⟩
     rintro⟨⟨n110,b111,b112⟩,hJ147⟩
     simp only at hJ147
     show E _ _ [(1,Ac k),(2,pt z),(Bv z),(BK k n c),(BO b17 o18 y8),(BG y8),(26,Ac n),(BQ n15),(8,pt b112)] _ ⟨w,n110,[(Ak w),(BU z c),(Cb z),(Cf y24 n15),(bk b111 #[i6 ((Af false 419 ⟨(k:Int),(n:Int)⟩).e),i6 ((Af false 419 ⟨(k:Int),(n:Int)⟩).Ag.First),i6 ((Af false 419 ⟨(k:Int),(n:Int)⟩).Ag.Second),i6 ((Af (win y24.AX 82 16384) 420 ⟨(k:Int),(n:Int)⟩).e),i6 ((Af (win y24.AX 82 16384) 420 ⟨(k:Int),(n:Int)⟩).Ag.First),i6 ((Af (win y24.AX 82 16384) 420 ⟨(k:Int),(n:Int)⟩).Ag.Second),i6 ((Af false 422 ⟨(k:Int),(n:Int)⟩).e),i6 ((Af false 422 ⟨(k:Int),(n:Int)⟩).Ag.First),i6 ((Af false 422 ⟨(k:Int),(n:Int)⟩).Ag.Second)] 132),(ZaY y24 k n b112)]⟩ _ _ _
     refine Cc [0,1,2,3,5] [(Ak w),(BU z c),(Cb z),(Cf y24 n15),(ZaY y24 k n b112)] rfl rfl ?_
     have e0:gd (DU c k).xs n=y24:=(by rw[hy24,hy8])
     have eA:F6 c k n=(AY [(Af false 419 ⟨(k:Int),(n:Int)⟩),(Af (win y24.AX 82 16384) 420 ⟨(k:Int),(n:Int)⟩),(Af false 422 ⟨(k:Int),(n:Int)⟩)]):=(by unfold F6 Nk;simp only[e0];simp[h27,h109])
     refine BI [1,2,4,5,7,8,24,25,26] [(1,Ac k),(2,pt z),(Bv z),(BK k n c),(BQ n15),(8,pt b112),(BO b17 o18 y8),(BG y8),(26,Ac n)] ?_
     refine BR (fun a w' hs=>⟨n110,b112,by omega,(by(try dsimp only[ZaY,Cb,Cf,BU,KO,Pm,QJ,QD,BO,BG,Bv,MM,BK,BQ]at hs ⊢);rw[eA];exact hs)⟩)
    refine DZ 36 [0,1,2,3] [(Ak w),(BU z c),(Cb z),(Cf y24 n15)] rfl rfl ?_
    refine Ci [(0,o0),(1,(a1 3)),(2,o0),(3,(a1 1)),(4,o0),(5,(ov (i6 ((c.Aa.xs.length:Int) - 1)))),(12,o0),(13,o0),(16,o0),(17,(a1 3)),(19,o0),(20,o0),(23,(an 7 1)),(24,o0),(25,o0),(26,(a1 3)),(29,o0),(30,o0)] [1,2,4,5,24,25,26,7,32,36,43,44,48,50,51,54,55,57,60,61] [Qb n15,Qb z,Wr ((c.Aa.xs.length:Int) - 1) ((c.Aa.xs.length:Int) - 1),Qb n15,Qb z,Qb z,Qb z,Qb z,Qb z,Qb z,Qb z,Qb n15] [true,true,true,true,true,true,false,false,false,false,false,false,true,true,false,false,true,true,false,true,true,false,false,true,true,true,true,false,false,true,true,false,false,false,false,false,false] [(1,Ac k),(2,pt z),(Bv z),(BK k n c),(BO b17 o18 y8),(BG y8),(26,Ac n),(BQ n15),(32,i6 y24.Partition),(QD c),(43,Ac k),(44,Ac n),(48,i6 y24.AX),(50,Ac k),(51,Ac n),(54,.agg (Ai.arr c)),(55,Ac k),(57,i6 y24.Partition),(60,Ac k),(61,Ac n)] ⟨rfl,rfl,BP,rfl,rfl,rfl,rfl,rfl,rfl,rfl,rfl,rfl,Ae⟩ ?_
    refine Qo (fun x:{p:Nat×Nat×Nat // n15+1≤p.1∧n15+1≤p.2.1∧n15+1≤p.2.2}=>([(1,Ac k),(2,pt z),(Bv z),(BK k n c),(BO b17 o18 y8),(BG y8),(26,Ac n),(BQ n15),(8,pt x.1.2.2)],⟨w,x.1.1,[(Ak w),(BU z c),(Cb z),(Cf y24 n15),(.blk x.1.2.1 (.cells #[i6 ((Af false 419 ⟨(k:Int),(n:Int)⟩).e),i6 ((Af false 419 ⟨(k:Int),(n:Int)⟩).Ag.First),i6 ((Af false 419 ⟨(k:Int),(n:Int)⟩).Ag.Second),i6 ((Af (win y24.AX 82 16384) 420 ⟨(k:Int),(n:Int)⟩).e),i6 ((Af (win y24.AX 82 16384) 420 ⟨(k:Int),(n:Int)⟩).Ag.First),i6 ((Af (win y24.AX 82 16384) 420 ⟨(k:Int),(n:Int)⟩).Ag.Second),i6 ((Af true 422 ⟨(k:Int),(n:Int)⟩).e),i6 ((Af true 422 ⟨(k:Int),(n:Int)⟩).Ag.First),i6 ((Af true 422 ⟨(k:Int),(n:Int)⟩).Ag.Second)] 132 (0,0)) true),(.blk x.1.2.2 (.cells (Am.arr (AY [(Af false 419 ⟨(k:Int),(n:Int)⟩),(Af (win y24.AX 82 16384) 420 ⟨(k:Int),(n:Int)⟩),(Af true 422 ⟨(k:Int),(n:Int)⟩)])) 132 (0,0)) true)]⟩)) (fun hK => ?_) ?_
    ·refine P6 35 8 [.cl 6 (.bool (win y24.Partition (-1) ((c.Aa.xs.length:Int) - 1))),.tk 7 (ov (.bool false)),.tk 8 o0,.tk 9 o0,.tk 10 o0,.tk 11 o0,.cl 14 (.agg #[(Ac k),Ac n]),.cl 15 (.agg (Am.arr (Af false 419 ⟨(k:Int),(n:Int)⟩))),.cl 18 (.bool (win y24.AX 82 16384)),.cl 21 (.agg #[(Ac k),Ac n]),.cl 22 (.agg (Am.arr (Af (win y24.AX 82 16384) 420 ⟨(k:Int),(n:Int)⟩))),.cl 27 (.bool (Ip c k y24.Partition)),.tk 28 (ov (.bool true)),.cl 31 (.agg #[(Ac k),Ac n]),.cl 32 (.agg (Am.arr (Af true 422 ⟨(k:Int),(n:Int)⟩)))] [1,2,4,5,24,25,26,7,46,53,63] [(64,#[i6 y24.Partition,i6 (-1),i6 ((c.Aa.xs.length:Int) - 1)],.bool (win y24.Partition (-1) ((c.Aa.xs.length:Int) - 1))),(92,#[(Ac k),Ac n],.agg #[(Ac k),Ac n]),(63,#[.bool false,i6 419,.agg #[(Ac k),Ac n]],.agg (Am.arr (Af false 419 ⟨(k:Int),(n:Int)⟩))),(64,#[i6 y24.AX,i6 82,i6 16384],.bool (win y24.AX 82 16384)),(92,#[(Ac k),Ac n],.agg #[(Ac k),Ac n]),(63,#[.bool (win y24.AX 82 16384),i6 420,.agg #[(Ac k),Ac n]],.agg (Am.arr (Af (win y24.AX 82 16384) 420 ⟨(k:Int),(n:Int)⟩))),(94,#[.agg (Ai.arr c),Ac k,i6 y24.Partition],.bool (Ip c k y24.Partition)),(92,#[(Ac k),Ac n],.agg #[(Ac k),Ac n]),(63,#[.bool true,i6 422,.agg #[(Ac k),Ac n]],.agg (Am.arr (Af true 422 ⟨(k:Int),(n:Int)⟩)))] (Dw 33 4) [Value.bool (win y24.Partition (-1) ((c.Aa.xs.length:Int) - 1))=Value.bool false,Value.bool (!(Ip c k y24.Partition))=Value.bool true] [(1,Ac k),(2,pt z),(Bv z),(BK k n c),(BO b17 o18 y8),(BG y8),(26,Ac n),(BQ n15),(QJ k n),(KO y24 k n),(QK k n)] (.cells #[i6 0,i6 0,i6 0] 132 (0,0)) [0,1,2,3] ⟨(congrArg Value.bool (Bool.eq_false_iff.2 h27)),by simp[h109],Ae⟩ ⟨fun w151 hw151=>BZ w151 y24.Partition (-1) ((c.Aa.xs.length:Int) - 1),fun w152 hw152=>G7 w152 (k:Int) (n:Int),fun w153 hw153=>Bo w153 (hL.ext (hw153.ext rfl)) false 419 (k:Int) (n:Int),fun w154 hw154=>BZ w154 y24.AX 82 16384,fun w155 hw155=>G7 w155 (k:Int) (n:Int),fun w156 hw156=>Bo w156 (hL.ext (hw156.ext rfl)) (win y24.AX 82 16384) 420 (k:Int) (n:Int),fun w157 hw157=>SL w157 c (hc.ext (hw157.ext rfl) (fun _ h=>h)) k hk y24.Partition,fun w158 hw158=>G7 w158 (k:Int) (n:Int),fun w159 hw159=>Bo w159 (hL.ext (hw159.ext rfl)) true 422 (k:Int) (n:Int),Ae⟩ ?_ (fun hv162 n160 hn161 => ?_)
     ·rintro⟨⟨n163,b164⟩,hb165⟩
      simp only at hb165
      refine Bq 33 ?_
      refine BC o0 [8,1,2,4,5,24,25,26,7,64] [] [(8,pt b164),(1,Ac k),(2,pt z),(Bv z),(BK k n c),(BO b17 o18 y8),(BG y8),(26,Ac n),(BQ n15),(64,.slice (some ⟨n163,0,none⟩) 3 3)] ⟨w,n163+1,[(Ak w),(BU z c),(Cb z),(Cf y24 n15),(bk b164 #[i6 0,i6 0,i6 0] 132),(ZK y24 k n n163)]⟩ [0,1,2,3] Ae (.inr rfl) ?_
      refine Bq 34 ?_
      refine GZ 87 #[.slice (some ⟨n163,0,none⟩) 3 3] (some 65) (.agg (Am.arr (AY [(Af false 419 ⟨(k:Int),(n:Int)⟩),(Af (win y24.AX 82 16384) 420 ⟨(k:Int),(n:Int)⟩),(Af true 422 ⟨(k:Int),(n:Int)⟩)]))) [8,1,2,4,5,24,25,26,7,65] [(8,pt b164),(1,Ac k),(2,pt z),(Bv z),(BK k n c),(BO b17 o18 y8),(BG y8),(26,Ac n),(BQ n15),(QR y24 k n)] [0,1,2,3] (fun w166 hw166=>DD w166 (hL.ext (hw166.ext rfl)) ⟨some ⟨n163,0,none⟩,3,[(Af false 419 ⟨(k:Int),(n:Int)⟩),(Af (win y24.AX 82 16384) 420 ⟨(k:Int),(n:Int)⟩),(Af true 422 ⟨(k:Int),(n:Int)⟩)]⟩ (E8 hw166 (i:=5) [(Af false 419 ⟨(k:Int),(n:Int)⟩),(Af (win y24.AX 82 16384) 420 ⟨(k:Int),(n:Int)⟩),(Af true 422 ⟨(k:Int),(n:Int)⟩)]) (show 3≤1000 by decide)) (fun n167 hn168 => ?_)
      replace hn168:n163+1≤n167:=hn168
      refine Bq 36 ?_
      refine BC (an 3 4) [8,1,2,4,5,24,25,26,7] [Qb b164,Qb b164,Qb b164] [(8,pt b164),(1,Ac k),(2,pt z),(Bv z),(BK k n c),(BO b17 o18 y8),(BG y8),(26,Ac n),(BQ n15)] ⟨w,n167,[(Ak w),(BU z c),(Cb z),(Cf y24 n15),(Za9 y24 k n b164),(ZK y24 k n n163)]⟩ [] ⟨rfl,rfl,rfl,Ae⟩ (.inl rfl) ?_
      refine DX 37 [0,1,2,3,4,5] [(Ak w),(BU z c),(Cb z),(Cf y24 n15),(Za9 y24 k n b164),(ZK y24 k n n163)] rfl rfl ?_
      refine CE ?_
      refine BI [1,2,4,5,24,25,26,7,8] [(1,Ac k),(2,pt z),(Bv z),(BK k n c),(BO b17 o18 y8),(BG y8),(26,Ac n),(BQ n15),(8,pt b164)] ?_
      refine Cc [0,1,2,3,5,4] [(Ak w),(BU z c),(Cb z),(Cf y24 n15),(ZK y24 k n n163),(Za9 y24 k n b164)] rfl rfl ?_
      exact hK ⟨(n167,n163,b164),by first | omega | (dsimp only;omega)⟩
     replace hn161:n15+1≤n160:=hn161
     refine Oe (fun x:{p:Nat×Nat×Nat // n160≤p.1∧n160≤p.2.1∧n160≤p.2.2}=>[(1,Ac k),(2,pt z),(Bv z),(BK k n c),(BO b17 o18 y8),(BG y8),(26,Ac n),(BQ n15),(8,pt x.1.2.1),(QR y24 k n)]) (fun x=>⟨w,x.1.1,[(Ak w),(BU z c),(Cb z),(Cf y24 n15),(.blk x.1.2.1 (.cells #[i6 0,i6 0,i6 0] 132 (0,0)) true),(.blk x.1.2.2 (.cells #[i6 ((Af false 419 ⟨(k:Int),(n:Int)⟩).e),i6 ((Af false 419 ⟨(k:Int),(n:Int)⟩).Ag.First),i6 ((Af false 419 ⟨(k:Int),(n:Int)⟩).Ag.Second),i6 ((Af (win y24.AX 82 16384) 420 ⟨(k:Int),(n:Int)⟩).e),i6 ((Af (win y24.AX 82 16384) 420 ⟨(k:Int),(n:Int)⟩).Ag.First),i6 ((Af (win y24.AX 82 16384) 420 ⟨(k:Int),(n:Int)⟩).Ag.Second),i6 ((Af true 422 ⟨(k:Int),(n:Int)⟩).e),i6 ((Af true 422 ⟨(k:Int),(n:Int)⟩).Ag.First),i6 ((Af true 422 ⟨(k:Int),(n:Int)⟩).Ag.Second)] 132 (0,0)) true)]⟩) 1 (Dw 36 1) ?_ (fun hv172 => ?_)
     ·rintro⟨⟨n169,b170,b171⟩,hb173⟩
      simp only at hb173
      show Wg _ _ [(1,Ac k),(2,pt z),(Bv z),(BK k n c),(BO b17 o18 y8),(BG y8),(26,Ac n),(BQ n15),(8,pt b170),(QR y24 k n)] _ ⟨w,n169,[(Ak w),(BU z c),(Cb z),(Cf y24 n15),(bk b170 #[i6 0,i6 0,i6 0] 132),(XT y24 k n b171)]⟩ _ _ _ _ _ _ _
      refine Bq 36 ?_
      refine BC (an 3 4) [1,2,4,5,24,25,26,7,8] [Qb b170,Qb b170,Qb b170] [(1,Ac k),(2,pt z),(Bv z),(BK k n c),(BO b17 o18 y8),(BG y8),(26,Ac n),(BQ n15),(8,pt b170)] ⟨w,n169,[(Ak w),(BU z c),(Cb z),(Cf y24 n15),(ZaL y24 k n b170),(XT y24 k n b171)]⟩ [] ⟨rfl,rfl,rfl,Ae⟩ (.inl rfl) ?_
      refine DX 37 [0,1,2,3,4,5] [(Ak w),(BU z c),(Cb z),(Cf y24 n15),(ZaL y24 k n b170),(XT y24 k n b171)] rfl rfl ?_
      refine CE ?_
      refine BI [1,2,4,5,24,25,26,7,8] [(1,Ac k),(2,pt z),(Bv z),(BK k n c),(BO b17 o18 y8),(BG y8),(26,Ac n),(BQ n15),(8,pt b170)] ?_
      refine Cc [0,1,2,3,5,4] [(Ak w),(BU z c),(Cb z),(Cf y24 n15),(XT y24 k n b171),(ZaL y24 k n b170)] rfl rfl ?_
      exact hK ⟨(n169,b171,b170),by first | omega | (dsimp only;omega)⟩
     refine Oe (fun x:{p:Nat×Nat×Nat // n160≤p.1∧n160≤p.2.1∧n160≤p.2.2}=>[(1,Ac k),(2,pt z),(Bv z),(BK k n c),(BO b17 o18 y8),(BG y8),(26,Ac n),(BQ n15),(8,pt x.1.2.1),(64,.slice (some ⟨x.1.2.2,0,none⟩) 3 3)]) (fun x=>⟨w,x.1.1,[(Ak w),(BU z c),(Cb z),(Cf y24 n15),(.blk x.1.2.1 (.cells #[i6 0,i6 0,i6 0] 132 (0,0)) true),(.blk x.1.2.2 (.cells #[i6 ((Af false 419 ⟨(k:Int),(n:Int)⟩).e),i6 ((Af false 419 ⟨(k:Int),(n:Int)⟩).Ag.First),i6 ((Af false 419 ⟨(k:Int),(n:Int)⟩).Ag.Second),i6 ((Af (win y24.AX 82 16384) 420 ⟨(k:Int),(n:Int)⟩).e),i6 ((Af (win y24.AX 82 16384) 420 ⟨(k:Int),(n:Int)⟩).Ag.First),i6 ((Af (win y24.AX 82 16384) 420 ⟨(k:Int),(n:Int)⟩).Ag.Second),i6 ((Af true 422 ⟨(k:Int),(n:Int)⟩).e),i6 ((Af true 422 ⟨(k:Int),(n:Int)⟩).Ag.First),i6 ((Af true 422 ⟨(k:Int),(n:Int)⟩).Ag.Second)] 132 (0,0)) true)]⟩) 2 [true,true,true,true,true,true,true,true,true,true,true,true,true,true,true,true,true,true,true,true,true,true,true,true,true,true,true,true,true,true,true,true,true,true,false,true,false] ?_ (fun hv177 => ?_)
     ·rintro⟨⟨n174,b175,b176⟩,hb178⟩
      simp only at hb178
      show Wg _ _ [(1,Ac k),(2,pt z),(Bv z),(BK k n c),(BO b17 o18 y8),(BG y8),(26,Ac n),(BQ n15),(8,pt b175),(64,.slice (some ⟨b176,0,none⟩) 3 3)] _ ⟨w,n174,[(Ak w),(BU z c),(Cb z),(Cf y24 n15),(bk b175 #[i6 0,i6 0,i6 0] 132),(bk b176 #[i6 ((Af false 419 ⟨(k:Int),(n:Int)⟩).e),i6 ((Af false 419 ⟨(k:Int),(n:Int)⟩).Ag.First),i6 ((Af false 419 ⟨(k:Int),(n:Int)⟩).Ag.Second),i6 ((Af (win y24.AX 82 16384) 420 ⟨(k:Int),(n:Int)⟩).e),i6 ((Af (win y24.AX 82 16384) 420 ⟨(k:Int),(n:Int)⟩).Ag.First),i6 ((Af (win y24.AX 82 16384) 420 ⟨(k:Int),(n:Int)⟩).Ag.Second),i6 ((Af true 422 ⟨(k:Int),(n:Int)⟩).e),i6 ((Af true 422 ⟨(k:Int),(n:Int)⟩).Ag.First),i6 ((Af true 422 ⟨(k:Int),(n:Int)⟩).Ag.Second)] 132)]⟩ _ _ _ _ _ _ _
      refine Bq 34 ?_
      refine GZ 87 #[.slice (some ⟨b176,0,none⟩) 3 3] (some 65) (.agg (Am.arr (AY [(Af false 419 ⟨(k:Int),(n:Int)⟩),(Af (win y24.AX 82 16384) 420 ⟨(k:Int),(n:Int)⟩),(Af true 422 ⟨(k:Int),(n:Int)⟩)]))) [1,2,4,5,24,25,26,7,8,65] [(1,Ac k),(2,pt z),(Bv z),(BK k n c),(BO b17 o18 y8),(BG y8),(26,Ac n),(BQ n15),(8,pt b175),(QR y24 k n)] [0,1,2,3] (fun w179 hw179=>DD w179 (hL.ext (hw179.ext rfl)) ⟨some ⟨b176,0,none⟩,3,[(Af false 419 ⟨(k:Int),(n:Int)⟩),(Af (win y24.AX 82 16384) 420 ⟨(k:Int),(n:Int)⟩),(Af true 422 ⟨(k:Int),(n:Int)⟩)]⟩ (E8 hw179 (i:=5) [(Af false 419 ⟨(k:Int),(n:Int)⟩),(Af (win y24.AX 82 16384) 420 ⟨(k:Int),(n:Int)⟩),(Af true 422 ⟨(k:Int),(n:Int)⟩)]) (show 3≤1000 by decide)) (fun n180 hn181 => ?_)
      replace hn181:n174≤n180:=hn181
      refine CY [1,2,4,5,24,25,26,7,8,65] [(1,Ac k),(2,pt z),(Bv z),(BK k n c),(BO b17 o18 y8),(BG y8),(26,Ac n),(BQ n15),(8,pt b175),(QR y24 k n)] ?_
      exact hv172 ⟨(n180,b175,b176),by first | omega | (dsimp only;omega)⟩
     refine Jr [33,35] ?_
     refine List.forall_mem_cons.2 ⟨?_,List.forall_mem_cons.2 ⟨?_,fun _ h=>absurd h List.not_mem_nil⟩⟩
     ·refine BC o0 [1,2,4,5,24,25,26,7,64] [] [(1,Ac k),(2,pt z),(Bv z),(BK k n c),(BO b17 o18 y8),(BG y8),(26,Ac n),(BQ n15),(64,.slice (some ⟨n160,0,none⟩) 3 3)] ⟨w,n160+1,[(Ak w),(BU z c),(Cb z),(Cf y24 n15),(Vq y24 k n n160)]⟩ [0,1,2,3] Ae (.inr rfl) ?_
      refine Jr [34,35] ?_
      refine List.forall_mem_cons.2 ⟨?_,List.forall_mem_cons.2 ⟨?_,fun _ h=>absurd h List.not_mem_nil⟩⟩
      ·refine GZ 87 #[.slice (some ⟨n160,0,none⟩) 3 3] (some 65) (.agg (Am.arr (AY [(Af false 419 ⟨(k:Int),(n:Int)⟩),(Af (win y24.AX 82 16384) 420 ⟨(k:Int),(n:Int)⟩),(Af true 422 ⟨(k:Int),(n:Int)⟩)]))) [1,2,4,5,24,25,26,7,65] [(1,Ac k),(2,pt z),(Bv z),(BK k n c),(BO b17 o18 y8),(BG y8),(26,Ac n),(BQ n15),(QR y24 k n)] [0,1,2,3] (fun w182 hw182=>DD w182 (hL.ext (hw182.ext rfl)) ⟨some ⟨n160,0,none⟩,3,[(Af false 419 ⟨(k:Int),(n:Int)⟩),(Af (win y24.AX 82 16384) 420 ⟨(k:Int),(n:Int)⟩),(Af true 422 ⟨(k:Int),(n:Int)⟩)]⟩ (E8 hw182 (i:=4) [(Af false 419 ⟨(k:Int),(n:Int)⟩),(Af (win y24.AX 82 16384) 420 ⟨(k:Int),(n:Int)⟩),(Af true 422 ⟨(k:Int),(n:Int)⟩)]) (show 3≤1000 by decide)) (fun n183 hn184 => ?_)
       replace hn184:n160+1≤n183:=hn184
       refine Bq 35 ?_
       refine BC o0 [1,2,4,5,24,25,26,7,65,8] [] [(1,Ac k),(2,pt z),(Bv z),(BK k n c),(BO b17 o18 y8),(BG y8),(26,Ac n),(BQ n15),(QR y24 k n),(8,pt n183)] ⟨w,n183+1,[(Ak w),(BU z c),(Cb z),(Cf y24 n15),(Vq y24 k n n160),(bk n183 #[i6 0,i6 0,i6 0] 132)]⟩ [0,1,2,3] Ae (.inr rfl) ?_
       refine MF [0,1,2,3,5,4] [(Ak w),(BU z c),(Cb z),(Cf y24 n15),(bk n183 #[i6 0,i6 0,i6 0] 132),(Vq y24 k n n160)] rfl rfl ?_
       refine CY [1,2,4,5,24,25,26,7,8,65] [(1,Ac k),(2,pt z),(Bv z),(BK k n c),(BO b17 o18 y8),(BG y8),(26,Ac n),(BQ n15),(8,pt n183),(QR y24 k n)] ?_
       exact hv172 ⟨(n183+1,n183,n160),by first | omega | (dsimp only;omega)⟩
      refine BC o0 [1,2,4,5,24,25,26,7,64,8] [] [(1,Ac k),(2,pt z),(Bv z),(BK k n c),(BO b17 o18 y8),(BG y8),(26,Ac n),(BQ n15),(64,.slice (some ⟨n160,0,none⟩) 3 3),(8,pt (n160+1))] ⟨w,n160+2,[(Ak w),(BU z c),(Cb z),(Cf y24 n15),(Vq y24 k n n160),(bk (n160+1) #[i6 0,i6 0,i6 0] 132)]⟩ [0,1,2,3] Ae (.inr rfl) ?_
      refine MF [0,1,2,3,5,4] [(Ak w),(BU z c),(Cb z),(Cf y24 n15),(bk (n160+1) #[i6 0,i6 0,i6 0] 132),(Vq y24 k n n160)] rfl rfl ?_
      refine CY [1,2,4,5,24,25,26,7,8,64] [(1,Ac k),(2,pt z),(Bv z),(BK k n c),(BO b17 o18 y8),(BG y8),(26,Ac n),(BQ n15),(8,pt (n160+1)),(64,.slice (some ⟨n160,0,none⟩) 3 3)] ?_
      exact hv177 ⟨(n160+2,n160+1,n160),by first | omega | (dsimp only;omega)⟩
     refine BC o0 [1,2,4,5,24,25,26,7,46,53,63,8] [] [(1,Ac k),(2,pt z),(Bv z),(BK k n c),(BO b17 o18 y8),(BG y8),(26,Ac n),(BQ n15),(QJ k n),(KO y24 k n),(QK k n),(8,pt n160)] ⟨w,n160+1,[(Ak w),(BU z c),(Cb z),(Cf y24 n15),(bk n160 #[i6 0,i6 0,i6 0] 132)]⟩ [0,1,2,3] Ae (.inr rfl) ?_
     refine CY [8,1,2,4,5,24,25,26,7,46,53,63] [(8,pt n160),(1,Ac k),(2,pt z),(Bv z),(BK k n c),(BO b17 o18 y8),(BG y8),(26,Ac n),(BQ n15),(QJ k n),(KO y24 k n),(QK k n)] ?_
     exact hv162 ⟨(n160+1,n160),by first | omega | (dsimp only;omega)⟩
    rintro⟨⟨n148,b149,b150⟩,hJ185⟩
    simp only at hJ185
    show E _ _ [(1,Ac k),(2,pt z),(Bv z),(BK k n c),(BO b17 o18 y8),(BG y8),(26,Ac n),(BQ n15),(8,pt b150)] _ ⟨w,n148,[(Ak w),(BU z c),(Cb z),(Cf y24 n15),(bk b149 #[i6 ((Af false 419 ⟨(k:Int),(n:Int)⟩).e),i6 ((Af false 419 ⟨(k:Int),(n:Int)⟩).Ag.First),i6 ((Af false 419 ⟨(k:Int),(n:Int)⟩).Ag.Second),i6 ((Af (win y24.AX 82 16384) 420 ⟨(k:Int),(n:Int)⟩).e),i6 ((Af (win y24.AX 82 16384) 420 ⟨(k:Int),(n:Int)⟩).Ag.First),i6 ((Af (win y24.AX 82 16384) 420 ⟨(k:Int),(n:Int)⟩).Ag.Second),i6 ((Af true 422 ⟨(k:Int),(n:Int)⟩).e),i6 ((Af true 422 ⟨(k:Int),(n:Int)⟩).Ag.First),i6 ((Af true 422 ⟨(k:Int),(n:Int)⟩).Ag.Second)] 132),(Zat y24 k n b150)]⟩ _ _ _
    refine Cc [0,1,2,3,5] [(Ak w),(BU z c),(Cb z),(Cf y24 n15),(Zat y24 k n b150)] rfl rfl ?_
    have e0:gd (DU c k).xs n=y24:=(by rw[hy24,hy8])
    have eA:F6 c k n=(AY [(Af false 419 ⟨(k:Int),(n:Int)⟩),(Af (win y24.AX 82 16384) 420 ⟨(k:Int),(n:Int)⟩),(Af true 422 ⟨(k:Int),(n:Int)⟩)]):=(by unfold F6 Nk;simp only[e0];simp[h27,h109])
    refine BI [1,2,4,5,7,8,24,25,26] [(1,Ac k),(2,pt z),(Bv z),(BK k n c),(BQ n15),(8,pt b150),(BO b17 o18 y8),(BG y8),(26,Ac n)] ?_
    refine BR (fun a w' hs=>⟨n148,b150,by omega,(by(try dsimp only[Zat,Cb,Cf,BU,KO,Pm,QJ,QK,QD,BO,BG,Bv,MM,BK,BQ]at hs ⊢);rw[eA];exact hs)⟩)
   rintro a w' ⟨n25,b8,hn26,hs⟩
   refine(?_:G Tryd.prog 85 [(1,Ac k),(2,pt z),(Bv z),(BK k n c),(BQ n15),(8,pt b8),(BO b17 o18 y8),(BG y8),(26,Ac n)] [] ⟨w,n25,[(Ak w),(BU z c),(Cb z),(Cf y24 n15),(bk b8 (Am.arr (F6 c k n)) 132)]⟩ _ _ _) a w' hs
   clear hs a w'
   refine CW <| CW ?_
   by_cases h186:(((F6 c k n).e:Int)==(0:Int)&&((((F6 c k n).Ag.First:Int)==(0:Int)&&(((F6 c k n).Ag.Second:Int)==(0:Int)&&true))&&true))=true
   ·have hbd0:=TJ (G9.1 h186);rw[show gd (DU c k).xs n=y24 from(by rw[hy24,hy8])]at hbd0
    refine Au 12 0 [0] [[(an 3 4),(oa [.via 0 (i6 0),.via 0 (i6 0),.via 0 (i6 0)]),⟨.seq true,none⟩],[o0,o0,(a1 3),o0,(a1 3),(ov (i6 (y24.BN+y24.AX))),(ov (i6 ((sumW (DU c k).xs n)+(y24.BN+y24.AX)))),o0],[(ov (i6 ((n+1:Nat):Int))),o0]] [Qb b8,Qb b8,Qb b8,Old w 0 0 (i6 0),Old w 0 1 (i6 0),Old w 0 2 (i6 0),(((F6 c k n).e:Int)==(0:Int)&&((((F6 c k n).Ag.First:Int)==(0:Int)&&(((F6 c k n).Ag.Second:Int)==(0:Int)&&true))&&true))=true,Qb n15,Qb n15,Wr ((y24.BN:Int)+y24.AX) (y24.BN+y24.AX),Wr ((sumW (DU c k).xs n:Int)+(y24.BN+y24.AX)) ((sumW (DU c k).xs n)+(y24.BN+y24.AX)),Wr ((n:Int)+1) (((n+1:Nat):Int))] [(1,Ac k),(2,pt z),(Bv z),(5,i6 ((sumW (DU c k).xs n)+(y24.BN+y24.AX))),(BO b17 o18 y8),(BG y8),(26,i6 ((n+1:Nat):Int))] rfl ⟨rfl,rfl,rfl,Aw (hL.2 0 _ rfl),Aw (hL.2 1 _ rfl),Aw (hL.2 2 _ rfl),h186,rfl,rfl,BP,BP,BP,Ae⟩ ?_
    refine Cc [0,1,2] [(Ak w),(BU z c),(Cb z)] rfl rfl ?_
    have e0:gd (DU c k).xs n=y24:=(by rw[hy24,hy8])
    have hnn:=G9.1 h186
    have hbd:=TJ hnn
    have eS:=sumW_succ (DU c k).xs n
    rw[e0]at hbd eS
    have hss:0≤sumW (DU c k).xs (n+1)∧sumW (DU c k).xs (n+1)≤((n+1:Nat):Int)*32768:=(by rw[eS];omega)
    refine GH [1,2,4,5,24,25,26] [(1,Ac k),(2,pt z),(Bv z),(5,i6 ((sumW (DU c k).xs n)+(y24.BN+y24.AX))),(MM y8),(BG y8),(26,i6 ((n+1:Nat):Int))] (by(try dsimp only[Cb,Cf,BU,BO,BG,Bv,MM,BK,BQ]);simp only[ha19];rfl) ?_
    refine BR (fun a w' hs=>⟨y8.xs.length - (n+1),by omega,n25,(n+1),rfl,by omega,by omega,EP hf hnn,hss,(by(try dsimp only[Cb,Cf,BU,BO,BG,Bv,MM,BK,BQ]at hs ⊢);rw[eS];exact hs)⟩)
   refine q_c 9 0 [1] [[(an 3 4),(oa [.via 0 (i6 0),.via 0 (i6 0),.via 0 (i6 0)]),⟨.seq false,none⟩],[(an 3 4),(an 3 2)]] [Qb b8,Qb b8,Qb b8,Old w 0 0 (i6 0),Old w 0 1 (i6 0),Old w 0 2 (i6 0),(((F6 c k n).e:Int)==(0:Int)&&((((F6 c k n).Ag.First:Int)==(0:Int)&&(((F6 c k n).Ag.Second:Int)==(0:Int)&&true))&&true))=false,Qb b8,Qb b8,Qb b8,Qb (z+1),Qb (z+1),Qb (z+1)] [(Bv z)] ⟨w,n25,[(Ak w),(BU z c),(bk (z+1) (Am.arr (F6 c k n)) 132),(Cf y24 n15),(bk b8 (Am.arr (F6 c k n)) 132)]⟩ rfl ⟨rfl,rfl,rfl,Aw (hL.2 0 _ rfl),Aw (hL.2 1 _ rfl),Aw (hL.2 2 _ rfl),(Bool.eq_false_iff.2 h186),rfl,rfl,rfl,rfl,rfl,rfl,Ae⟩ ?_
   refine Az [.at 2,.at 2,.at 2] [Qb (z+1),Qb (z+1),Qb (z+1)] (.agg #[i6 ((F6 c k n).e),i6 ((F6 c k n).Ag.First),i6 ((F6 c k n).Ag.Second)]) ⟨rfl,rfl,rfl,Ae⟩ ?_
   intro w187 hw187
   exact⟨congrArg (fun t=>Ending.returned (Value.agg (Am.arr t))) (Wh (by have e1:DU c k=y8:=hy8.symm;rw[e1];exact h12) hf (by have e1:DU c k=y8:=hy8.symm;rw[e1];omega) (fun e=>h186 (G9.2 e))).symm,AB hw187⟩
  refine Au 11 0 [0] [[oF]] [BF ((n:Int)<(y8.xs.length:Int))] [(1,Ac k),(2,pt z),(Bv z),(BK k n c),(MM y8),(BG y8),(26,Ac n),(27,.bool false)] rfl ⟨bf,Ae⟩ ?_
  by_cases h188:(sumW (DU c k).xs n:Int)=c.Gg
  ·refine DZ 7 [0,1,2] [(Ak w),(BU z c),(Cb z)] rfl rfl ?_
   refine Ll [.tk 0 o0,.tk 1 o0,.tk 2 (a1 1),.tk 3 oT,.tk 4 o0,.cl 5 (.agg #[(Ac k),i6 (-1)]),.cl 6 (.agg (Am.arr (Af true 421 ⟨(k:Int), -1⟩)))] [4,84] [(89,#[(Ac k)],.agg #[(Ac k),i6 (-1)]),(63,#[.bool true,i6 421,.agg #[(Ac k),i6 (-1)]],.agg (Am.arr (Af true 421 ⟨(k:Int), -1⟩)))] (Dw 7 1) [Qb z,ET (sumW (DU c k).xs n) c.Gg] [(Bv z),(84,.agg (Am.arr (Af true 421 ⟨(k:Int), -1⟩)))] [0,1,2] ⟨rfl,et,Ae⟩ ⟨fun w189 hw189=>D6 w189 (k:Int),fun w190 hw190=>Bo w190 (hL.ext (hw190.ext rfl)) true 421 (k:Int) (-1),Ae⟩ (fun n191 hn192 => ?_)
   replace hn192:n15≤n191:=hn192
   refine Bq 7 ?_
   refine BC (an 3 2) [4] [Qb (z+1),Qb (z+1),Qb (z+1)] [(Bv z)] ⟨w,n191,[(Ak w),(BU z c),(.blk (z+1) (.cells (Am.arr (Af true 421 ⟨(k:Int), -1⟩)) 132 (0,0)) true)]⟩ [] ⟨rfl,rfl,rfl,Ae⟩ (.inl rfl) ?_
   refine DX 8 [0,1,2] [(Ak w),(BU z c),(.blk (z+1) (.cells (Am.arr (Af true 421 ⟨(k:Int), -1⟩)) 132 (0,0)) true)] rfl rfl ?_
   refine CE ?_
   refine BI [4] [(Bv z)] ?_
   refine Gy <| Iu <| Az [.at 2,.at 2,.at 2] [Qb (z+1),Qb (z+1),Qb (z+1)] (.agg #[i6 ((Af true 421 ⟨(k:Int), -1⟩).e),i6 ((Af true 421 ⟨(k:Int), -1⟩).Ag.First),i6 ((Af true 421 ⟨(k:Int), -1⟩).Ag.Second)]) ⟨rfl,rfl,rfl,Ae⟩ ?_
   intro w193 hw193
   exact⟨congrArg (fun t=>Ending.returned (Value.agg (Am.arr t))) ((YG (by have e1:DU c k=y8:=hy8.symm;rw[e1];exact h12) hf (by have e1:DU c k=y8:=hy8.symm;rw[e1];omega)).trans (by first | rw[decide_eq_true (by assumption)] | rw[decide_eq_false (by assumption)])).symm,AB hw193⟩
  refine DZ 7 [0,1,2] [(Ak w),(BU z c),(Cb z)] rfl rfl ?_
  refine Ll [.tk 0 o0,.tk 1 o0,.tk 2 (a1 1),.tk 3 oF,.tk 4 o0,.cl 5 (.agg #[(Ac k),i6 (-1)]),.cl 6 (.agg (Am.arr (Af false 421 ⟨(k:Int), -1⟩)))] [4,84] [(89,#[(Ac k)],.agg #[(Ac k),i6 (-1)]),(63,#[.bool false,i6 421,.agg #[(Ac k),i6 (-1)]],.agg (Am.arr (Af false 421 ⟨(k:Int), -1⟩)))] (Dw 7 1) [Qb z,EF (sumW (DU c k).xs n) c.Gg] [(Bv z),(84,.agg (Am.arr (Af false 421 ⟨(k:Int), -1⟩)))] [0,1,2] ⟨rfl,ef,Ae⟩ ⟨fun w194 hw194=>D6 w194 (k:Int),fun w195 hw195=>Bo w195 (hL.ext (hw195.ext rfl)) false 421 (k:Int) (-1),Ae⟩ (fun n196 hn197 => ?_)
  replace hn197:n15≤n196:=hn197
  refine Bq 7 ?_
  refine BC (an 3 2) [4] [Qb (z+1),Qb (z+1),Qb (z+1)] [(Bv z)] ⟨w,n196,[(Ak w),(BU z c),(.blk (z+1) (.cells (Am.arr (Af false 421 ⟨(k:Int), -1⟩)) 132 (0,0)) true)]⟩ [] ⟨rfl,rfl,rfl,Ae⟩ (.inl rfl) ?_
  refine DX 8 [0,1,2] [(Ak w),(BU z c),(.blk (z+1) (.cells (Am.arr (Af false 421 ⟨(k:Int), -1⟩)) 132 (0,0)) true)] rfl rfl ?_
  refine CE ?_
  refine BI [4] [(Bv z)] ?_
  refine Gy <| Iu <| Az [.at 2,.at 2,.at 2] [Qb (z+1),Qb (z+1),Qb (z+1)] (.agg #[i6 ((Af false 421 ⟨(k:Int), -1⟩).e),i6 ((Af false 421 ⟨(k:Int), -1⟩).Ag.First),i6 ((Af false 421 ⟨(k:Int), -1⟩).Ag.Second)]) ⟨rfl,rfl,rfl,Ae⟩ ?_
  intro w198 hw198
  exact⟨congrArg (fun t=>Ending.returned (Value.agg (Am.arr t))) ((YG (by have e1:DU c k=y8:=hy8.symm;rw[e1];exact h12) hf (by have e1:DU c k=y8:=hy8.symm;rw[e1];omega)).trans (by first | rw[decide_eq_true (by assumption)] | rw[decide_eq_false (by assumption)])).symm,AB hw198⟩
 have hd199:=FI h12
 refine AZ 5 1 [1] [[(ov (.bool true))],[o0]] [Value.bool (!(win (y8.xs.length:Int) 1 16))=Value.bool true] [(Bv z),(17,Ac k)] rfl ⟨by simp[h12],Ae⟩ ?_
 refine Ba 89 #[(Ac k)] (some 18) (.agg #[(Ac k),i6 (-1)]) (fun w200 hw200=>D6 w200 (k:Int)) (fun n201 (hn202:n10≤n201) => ?_)
 refine EI 3 0 [] [[o0,(an 3 2)]] [Qb (z+1),Qb (z+1),Qb (z+1)] [(Bv z)] ⟨w,n201,[(Ak w),(BU z c),(bk (z+1) #[i6 418,Ac k,i6 (-1)] 132)]⟩ rfl ⟨rfl,rfl,rfl,Ae⟩ ?_
 refine Az [.at 2,.at 2,.at 2] [Qb (z+1),Qb (z+1),Qb (z+1)] (.agg #[i6 418,Ac k,i6 (-1)]) ⟨rfl,rfl,rfl,Ae⟩ ?_
 intro w203 hw203
 exact⟨congrArg (fun t=>Ending.returned (Value.agg (Am.arr t))) (coreQ_a (by have e1:DU c k=y8:=hy8.symm;rw[e1];exact h12)).symm,AB hw203⟩
end Go.Proofs.YtlccogilgegnfaaDoor.Ad
namespace Go.Proofs.YtlccogilgegnfaaDoor.Ly
open Go Go.Proofs.YtlccogilgegnfaaDoor.Eng Go.Proofs.YtlccogilgegnfaaDoor.Mem
set_option linter.unusedSimpArgs false
set_option linter.unusedVariables false
set_option maxRecDepth 100000
def KF(g:CS):Bool:=decide (0≤g.Bl∧g.Bl≤256∧1≤g.AO∧g.AO≤256 - g.Bl)
def QZ(n:Nat)(q:EE):Bool:=decide (0≤q.Channel∧q.Channel<n)
def Ei(n:Nat)(x:Aq):Bool:=decide (x.Ah.xs.length≤8)&&decide (x.Ap.xs.length≤8)&&x.Ah.xs.all KF&&x.Ap.xs.all (QZ n)
theorem Ov{α:Type}[Inhabited α]{p:α→Bool}{xs:List α}{k:Nat}(hk:k<xs.length)(h:p (gd xs k)=false):xs.all p=false:=by
 rw[List.all_eq_false]
 refine⟨xs[k],List.getElem_mem hk, ?_⟩
 rw[EW hk]at h
 simpa using h
theorem Vz{α:Type}[Inhabited α]{p:α→Bool}{xs:List α}(h:∀ i,i<xs.length→p (gd xs i)=true):xs.all p=true:=by
 rw[List.all_eq_true]
 intro y hy
 obtain⟨i,hi,rfl⟩:=List.getElem_of_mem hy
 have:=h i hi
 rwa [EW hi]at this
theorem upto{p:Nat→Prop}{k:Nat}(h:∀ i,i<k→p i)(hk:p k):∀ i,i<k+1→p i:=fun i hi=>by
 by_cases e:i=k
 ·subst e;exact hk
 exact h i (by omega)
section
variable (z:Nat)(x:Aq)(c:Ai)(b8 o9:Nat)
abbrev KZ:=bk (z+1) (Aq.arr x) 35
abbrev KX:=bk z (Ai.arr c) 26
abbrev OL:D7:=(20,.slice (some ⟨b8,o9,none⟩) x.Ah.xs.length x.Ah.cap)
abbrev ND:D7:=(20,.slice x.Ah.a x.Ah.xs.length x.Ah.cap)
abbrev OH:D7:=(49,.slice x.Ap.a x.Ap.xs.length x.Ap.cap)
abbrev KW:=(21,Ac x.Ah.xs.length)
abbrev MS:=(50,Ac x.Ap.xs.length)
abbrev KY:=(3,pt (z+1))
end
theorem Rf(w:World)(c:Ai)(x:Aq)(hc:Ai.ok Any w c)(hx:Aq.ok Any w x):Calls Tryd.prog 77 #[.agg (Ai.arr c),.agg (Aq.arr x)] w fun e w'=>e = .returned (.bool (Ei c.Aj.xs.length x))∧Ce (fun _=>False) w w':=by
 obtain⟨z,hz⟩:∃ z,z=w.heap.size:=⟨_,rfl⟩
 refine Bf (args:=[.agg (Ai.arr c),.agg (Aq.arr x)]) 67 ⟨w,z,[(Ak w)]⟩ Tryd.func77 rfl (by kernel_rfl) (by kernel_rfl) (Ed hz) ?_
 refine Di [0,1] [(0,.agg (Ai.arr c)),(1,.agg (Aq.arr x))] ?_
 refine q_c 6 0 [] [[o0,o0,o0]] [] [(2,pt z),(KY z)] ⟨w,z+2,[(Ak w),(KX z c),(KZ z x)]⟩ rfl Ae ?_
 by_cases h1:(8:Int)<(x.Ah.xs.length:Int)
 ·refine Au 9 0 [1] [[o0,(a1 2),o0,oT,o0,o0],[o0]] [Qb (z+1),BT ((x.Ah.xs.length:Int) > 8)] [(4,.bool false)] rfl ⟨rfl,bt,Ae⟩ ?_
  refine Az [] [] (.bool false) Ae ?_
  intro w2 hw2
  refine⟨congrArg (fun b=>Ending.returned (Value.bool b)) (Eq.symm (?_:Ei c.Aj.xs.length x=false)),AB hw2⟩
  unfold Ei
  first
   | (have e1:decide (x.Ah.xs.length≤8)=false:=decide_eq_false (by omega));simp[e1]
   | (have e1:decide (x.Ap.xs.length≤8)=false:=decide_eq_false (by omega));simp[e1]
 by_cases h3:(8:Int)<(x.Ap.xs.length:Int)
 ·refine Au 9 0 [1] [[o0,(a1 2),o0,oF,o0,o0,(a1 2),o0,oT,o0],[o0]] [Qb (z+1),BF ((x.Ah.xs.length:Int) > 8),Qb (z+1),BT ((x.Ap.xs.length:Int) > 8)] [(4,.bool false)] rfl ⟨rfl,bf,rfl,bt,Ae⟩ ?_
  refine Az [] [] (.bool false) Ae ?_
  intro w4 hw4
  refine⟨congrArg (fun b=>Ending.returned (Value.bool b)) (Eq.symm (?_:Ei c.Aj.xs.length x=false)),AB hw4⟩
  unfold Ei
  first
   | (have e1:decide (x.Ah.xs.length≤8)=false:=decide_eq_false (by omega));simp[e1]
   | (have e1:decide (x.Ap.xs.length≤8)=false:=decide_eq_false (by omega));simp[e1]
 refine Au 12 0 [0] [[o0,(a1 2),o0,oF,o0,o0,(a1 2),o0,oF,o0],[o0,(a1 2),o0,o0]] [Qb (z+1),BF ((x.Ah.xs.length:Int) > 8),Qb (z+1),BF ((x.Ap.xs.length:Int) > 8),Qb (z+1)] [(2,pt z),(KY z),(ND x),(KW x),(22,i6 0)] rfl ⟨rfl,bf,rfl,bf,rfl,Ae⟩ ?_
 refine D8 (fun m a w'=>∃ (n6:Nat) (k:Nat),m=x.Ah.xs.length - k∧z+2≤n6∧(k≤x.Ah.xs.length)∧(∀ i,i<k→KF (gd x.Ah.xs i)=true)∧St 67 [(2,pt z),(KY z),(ND x),(KW x),(22,Ac k)] [] ⟨w,n6,[(Ak w),(KX z c),(KZ z x)]⟩ a w') (x.Ah.xs.length - 0) ?_ ?_
 ·intro a w' hs;exact⟨(z+2),0,rfl,Nat.le_refl _,Nat.zero_le _,fun i hi=>absurd hi (Nat.not_lt_zero i),hs⟩
 rintro m a w' ⟨n6,k,rfl,hn5,hkk,hr,hs⟩
 refine(?_:G Tryd.prog 67 [(2,pt z),(KY z),(ND x),(KW x),(22,Ac k)] [] ⟨w,n6,[(Ak w),(KX z c),(KZ z x)]⟩ _ _ _) a w' hs
 clear hs a w'
 refine CW ?_
 by_cases h7:(k:Int)<(x.Ah.xs.length:Int)
 ·refine Au 10 0 [1] [[oT]] [BT ((k:Int)<(x.Ah.xs.length:Int))] [(2,pt z),(KY z),(ND x),(KW x),(22,Ac k),(23,.bool true)] rfl ⟨bt,Ae⟩ ?_
  obtain⟨b8,o9,ha10,hF12,hc11⟩:=(hx.Ah).1.all (show 0<x.Ah.xs.length by omega)
  replace ha10:x.Ah.a=some ⟨b8,o9,none⟩:=ha10
  refine Lj [(2,pt z),(KY z),(OL x b8 o9),(KW x),(22,Ac k),(23,.bool true)] (by(try dsimp only[KZ,KX,OL,ND,KW,KY]);simp only[ha10]) ?_
  have hc13:=hc11 k (show k<x.Ah.xs.length by omega)
  have he14:=(hx.Ah).2 k (show k<x.Ah.xs.length by omega)
  obtain⟨y15,hy15⟩:∃ y_,y_=gd x.Ah.xs k:=⟨_,rfl⟩
  rw[←hy15]at he14 hc13
  refine q_c 4 0 [] [[(oi k),(ol 0 (CS.arr y15)),o0,(an 4 3)]] [Dc k,k<x.Ah.xs.length,BM,GN w b8 (o9+k*4) (CS.arr y15),Qb n6,Qb n6,Qb n6,Qb n6] [(2,pt z),(KY z),(OL x b8 o9),(KW x),(22,Ac k),(6,pt n6)] ⟨w,n6+1,[(Ak w),(KX z c),(KZ z x),(bk n6 (CS.arr y15) 147)]⟩ rfl ⟨rfl,(by omega),rfl,Em hc13,rfl,rfl,rfl,rfl,Ae⟩ ?_
  by_cases h16:(y15.Bl:Int)<0
  ·refine Au 9 0 [1] [[o0,(a1 3),oT,o0,o0,o0,o0,o0,o0],[o0]] [Qb n6,BT ((y15.Bl:Int)<0)] [(4,.bool false)] rfl ⟨rfl,bt,Ae⟩ ?_
   refine Az [] [] (.bool false) Ae ?_
   intro w17 hw17
   refine⟨congrArg (fun b=>Ending.returned (Value.bool b)) (Eq.symm (?_:Ei c.Aj.xs.length x=false)),AB hw17⟩
   unfold Ei
   have e1:x.Ah.xs.all KF=false:=Ov (k:=k) (by omega) (by rw[←hy15];exact decide_eq_false (by omega))
   simp[e1]
  by_cases h18:(256:Int)<y15.Bl
  ·refine Au 9 0 [1] [[o0,(a1 3),oF,o0,o0,(a1 3),oT,o0,o0,o0,o0,o0],[o0]] [Qb n6,BF ((y15.Bl:Int)<0),Qb n6,BT ((y15.Bl:Int) > 256)] [(4,.bool false)] rfl ⟨rfl,bf,rfl,bt,Ae⟩ ?_
   refine Az [] [] (.bool false) Ae ?_
   intro w19 hw19
   refine⟨congrArg (fun b=>Ending.returned (Value.bool b)) (Eq.symm (?_:Ei c.Aj.xs.length x=false)),AB hw19⟩
   unfold Ei
   have e1:x.Ah.xs.all KF=false:=Ov (k:=k) (by omega) (by rw[←hy15];exact decide_eq_false (by omega))
   simp[e1]
  by_cases h20:(y15.AO:Int)<1
  ·refine Au 9 0 [1] [[o0,(a1 3),oF,o0,o0,(a1 3),oF,o0,o0,o0,(a1 3),oT,o0,o0,o0],[o0]] [Qb n6,BF ((y15.Bl:Int)<0),Qb n6,BF ((y15.Bl:Int) > 256),Qb n6,BT ((y15.AO:Int)<1)] [(4,.bool false)] rfl ⟨rfl,bf,rfl,bf,rfl,bt,Ae⟩ ?_
   refine Az [] [] (.bool false) Ae ?_
   intro w21 hw21
   refine⟨congrArg (fun b=>Ending.returned (Value.bool b)) (Eq.symm (?_:Ei c.Aj.xs.length x=false)),AB hw21⟩
   unfold Ei
   have e1:x.Ah.xs.all KF=false:=Ov (k:=k) (by omega) (by rw[←hy15];exact decide_eq_false (by omega))
   simp[e1]
  by_cases h22:(256 - y15.Bl:Int)<y15.AO
  ·refine Au 9 0 [1] [[o0,(a1 3),oF,o0,o0,(a1 3),oF,o0,o0,o0,(a1 3),oF,o0,o0,o0,(a1 3),o0,(a1 3),(ov (i6 (256 - y15.Bl))),oT,o0],[o0]] [Qb n6,BF ((y15.Bl:Int)<0),Qb n6,BF ((y15.Bl:Int) > 256),Qb n6,BF ((y15.AO:Int)<1),Qb n6,Qb n6,Wr ((256:Int) - y15.Bl) (256 - y15.Bl),BT ((y15.AO:Int) > (256 - y15.Bl))] [(4,.bool false)] rfl ⟨rfl,bf,rfl,bf,rfl,bf,rfl,rfl,BP,bt,Ae⟩ ?_
   refine Az [] [] (.bool false) Ae ?_
   intro w23 hw23
   refine⟨congrArg (fun b=>Ending.returned (Value.bool b)) (Eq.symm (?_:Ei c.Aj.xs.length x=false)),AB hw23⟩
   unfold Ei
   have e1:x.Ah.xs.all KF=false:=Ov (k:=k) (by omega) (by rw[←hy15];exact decide_eq_false (by omega))
   simp[e1]
  refine Au 9 0 [0] [[o0,(a1 3),oF,o0,o0,(a1 3),oF,o0,o0,o0,(a1 3),oF,o0,o0,o0,(a1 3),o0,(a1 3),(ov (i6 (256 - y15.Bl))),oF,o0],[(ov (i6 ((k+1:Nat):Int))),o0]] [Qb n6,BF ((y15.Bl:Int)<0),Qb n6,BF ((y15.Bl:Int) > 256),Qb n6,BF ((y15.AO:Int)<1),Qb n6,Qb n6,Wr ((256:Int) - y15.Bl) (256 - y15.Bl),BF ((y15.AO:Int) > (256 - y15.Bl)),Wr ((k:Int)+1) (((k+1:Nat):Int))] [(2,pt z),(KY z),(OL x b8 o9),(KW x),(22,i6 ((k+1:Nat):Int))] rfl ⟨rfl,bf,rfl,bf,rfl,bf,rfl,rfl,BP,bf,BP,Ae⟩ ?_
  refine Cc [0,1,2] [(Ak w),(KX z c),(KZ z x)] rfl rfl ?_
  refine GH [2,3,20,21,22] [(2,pt z),(KY z),(ND x),(KW x),(22,i6 ((k+1:Nat):Int))] (by(try dsimp only[KZ,KX,OL,ND,KW,KY]);simp only[ha10];rfl) ?_
  refine BR (fun a w' hs=>⟨x.Ah.xs.length - (k+1),by omega,(n6+1),(k+1),rfl,by omega,by omega,upto hr (by rw[←hy15];exact decide_eq_true (by omega)),hs⟩)
 refine Au 16 0 [0] [[oF],[o0,(a1 2),o0,o0]] [BF ((k:Int)<(x.Ah.xs.length:Int)),Qb (z+1)] [(2,pt z),(OH x),(MS x),(51,i6 0)] rfl ⟨bf,rfl,Ae⟩ ?_
 refine D8 (fun m a w'=>∃ (n25:Nat) (j:Nat),m=x.Ap.xs.length - j∧n6≤n25∧(j≤x.Ap.xs.length)∧(∀ i,i<j→QZ c.Aj.xs.length (gd x.Ap.xs i)=true)∧St 67 [(2,pt z),(OH x),(MS x),(51,Ac j)] [] ⟨w,n25,[(Ak w),(KX z c),(KZ z x)]⟩ a w') (x.Ap.xs.length - 0) ?_ ?_
 ·intro a w' hs;exact⟨n6,0,rfl,Nat.le_refl _,Nat.zero_le _,fun i hi=>absurd hi (Nat.not_lt_zero i),hs⟩
 rintro m a w' ⟨n25,j,rfl,hn24,hkj,hp,hs⟩
 refine(?_:G Tryd.prog 67 [(2,pt z),(OH x),(MS x),(51,Ac j)] [] ⟨w,n25,[(Ak w),(KX z c),(KZ z x)]⟩ _ _ _) a w' hs
 clear hs a w'
 refine CW ?_
 by_cases h26:(j:Int)<(x.Ap.xs.length:Int)
 ·refine Au 10 0 [1] [[oT]] [BT ((j:Int)<(x.Ap.xs.length:Int))] [(2,pt z),(OH x),(MS x),(51,Ac j),(52,.bool true)] rfl ⟨bt,Ae⟩ ?_
  obtain⟨b27,o28,ha29,hF31,hc30⟩:=(hx.Ap).1.all (show 0<x.Ap.xs.length by omega)
  replace ha29:x.Ap.a=some ⟨b27,o28,none⟩:=ha29
  refine Lj [(2,pt z),(49,.slice (some ⟨b27,o28,none⟩) x.Ap.xs.length x.Ap.cap),(MS x),(51,Ac j),(52,.bool true)] (by(try dsimp only[KZ,KX,OL,ND,OH,KW,MS,KY]);simp only[ha29]) ?_
  have hc32:=hc30 j (show j<x.Ap.xs.length by omega)
  have he33:=(hx.Ap).2 j (show j<x.Ap.xs.length by omega)
  obtain⟨y34,hy34⟩:∃ y_,y_=gd x.Ap.xs j:=⟨_,rfl⟩
  rw[←hy34]at he33 hc32
  refine q_c 4 0 [] [[(oi j),(ol 0 (EE.arr y34)),o0,(an 2 3)]] [Dc j,j<x.Ap.xs.length,BM,GN w b27 (o28+j*2) (EE.arr y34),Qb n25,Qb n25] [(2,pt z),(49,.slice (some ⟨b27,o28,none⟩) x.Ap.xs.length x.Ap.cap),(MS x),(51,Ac j),(8,pt n25)] ⟨w,n25+1,[(Ak w),(KX z c),(KZ z x),(bk n25 (EE.arr y34) 127)]⟩ rfl ⟨rfl,(by omega),rfl,Em hc32,rfl,rfl,Ae⟩ ?_
  by_cases h35:(y34.Channel:Int)<0
  ·refine Au 9 0 [1] [[o0,(a1 3),oT,o0,o0],[o0]] [Qb n25,BT ((y34.Channel:Int)<0)] [(4,.bool false)] rfl ⟨rfl,bt,Ae⟩ ?_
   refine Az [] [] (.bool false) Ae ?_
   intro w36 hw36
   refine⟨congrArg (fun b=>Ending.returned (Value.bool b)) (Eq.symm (?_:Ei c.Aj.xs.length x=false)),AB hw36⟩
   unfold Ei
   have e1:x.Ap.xs.all (QZ c.Aj.xs.length)=false:=Ov (k:=j) (by omega) (by rw[←hy34];exact decide_eq_false (by omega))
   simp[e1]
  by_cases h37:(y34.Channel:Int)<(c.Aj.xs.length:Int)
  ·refine Au 9 0 [0] [[o0,(a1 3),oF,o0,o0,(a1 3),o0,(a1 1),o0,oF,o0],[(ov (i6 ((j+1:Nat):Int))),o0]] [Qb n25,BF ((y34.Channel:Int)<0),Qb n25,Qb z,BF ((y34.Channel:Int)≥(c.Aj.xs.length:Int)),Wr ((j:Int)+1) (((j+1:Nat):Int))] [(2,pt z),(49,.slice (some ⟨b27,o28,none⟩) x.Ap.xs.length x.Ap.cap),(MS x),(51,i6 ((j+1:Nat):Int))] rfl ⟨rfl,bf,rfl,rfl,bf,BP,Ae⟩ ?_
   refine Cc [0,1,2] [(Ak w),(KX z c),(KZ z x)] rfl rfl ?_
   refine GH [2,49,50,51] [(2,pt z),(OH x),(MS x),(51,i6 ((j+1:Nat):Int))] (by(try dsimp only[KZ,KX,ND,OH,KW,MS,KY]);simp only[ha29];rfl) ?_
   refine BR (fun a w' hs=>⟨x.Ap.xs.length - (j+1),by omega,(n25+1),(j+1),rfl,by omega,by omega,upto hp (by rw[←hy34];exact decide_eq_true (by omega)),hs⟩)
  refine Au 9 0 [1] [[o0,(a1 3),oF,o0,o0,(a1 3),o0,(a1 1),o0,oT,o0],[o0]] [Qb n25,BF ((y34.Channel:Int)<0),Qb n25,Qb z,BT ((y34.Channel:Int)≥(c.Aj.xs.length:Int))] [(4,.bool false)] rfl ⟨rfl,bf,rfl,rfl,bt,Ae⟩ ?_
  refine Az [] [] (.bool false) Ae ?_
  intro w38 hw38
  refine⟨congrArg (fun b=>Ending.returned (Value.bool b)) (Eq.symm (?_:Ei c.Aj.xs.length x=false)),AB hw38⟩
  unfold Ei
  have e1:x.Ap.xs.all (QZ c.Aj.xs.length)=false:=Ov (k:=j) (by omega) (by rw[←hy34];exact decide_eq_false (by omega))
  simp[e1]
 refine Au 15 0 [0] [[oF],[o0]] [BF ((j:Int)<(x.Ap.xs.length:Int))] [(4,.bool true)] rfl ⟨bf,Ae⟩ ?_
 refine Az [] [] (.bool true) Ae ?_
 intro w39 hw39
 refine⟨congrArg (fun b=>Ending.returned (Value.bool b)) (Eq.symm (?_:Ei c.Aj.xs.length x=true)),AB hw39⟩
 have e1:x.Ah.xs.all KF=true:=Vz (fun i hi=>hr i (by omega))
 have e2:x.Ap.xs.all (QZ c.Aj.xs.length)=true:=Vz (fun i hi=>hp i (by omega))
 simp only[Ei,e1,e2,Bool.and_true,Bool.and_eq_true,decide_eq_true_eq]
 omega
def EC(h:Be):Int:=if h.Words<1∨h.Words > 16 then 0 else if h.Kind=1 then h.Words else if h.Kind=2∧1≤h.Dy∧h.Dy≤8 then h.Dy*(1+h.Words)else 0
def BL(h:Be):Int:=if EC h=0 then 0 else if h.Kind=1 then 2+h.Words else 1+EC h
def portOf(h:Be):Int:=if EC h=0 then 0 else 3+EC h
theorem Ui(h:Be):0≤EC h∧EC h≤136:=by
 unfold EC
 split
 ·omega
 split
 ·omega
 split
 ·rename_i h1 h2 h3
  have hd:h.Dy=1∨h.Dy=2∨h.Dy=3∨h.Dy=4∨h.Dy=5∨h.Dy=6∨h.Dy=7∨h.Dy=8:=by omega
  rcases hd with e | e | e | e | e | e | e | e <;> rw[e] <;> omega
 omega
theorem NG{h:Be}(h1:h.Words<1∨h.Words > 16):EC h=0:=by unfold EC;rw[if_pos h1]
theorem Td{h:Be}(h1:¬ h.Words<1)(h2:¬ 16<h.Words)(h3:h.Kind=1):EC h=h.Words:=by unfold EC;rw[if_neg (by omega),if_pos h3]
theorem SY{h:Be}(h1:¬ h.Words<1)(h2:¬ 16<h.Words)(h3:¬ h.Kind=1)(h4:h.Kind=2)(h5:1≤h.Dy)(h6:h.Dy≤8):EC h=h.Dy*(1+h.Words):=by unfold EC;rw[if_neg (by omega),if_neg h3,if_pos ⟨h4,h5,h6⟩]
theorem NC{h:Be}(h1:¬ h.Words<1)(h2:¬ 16<h.Words)(h3:¬ h.Kind=1)(h4:¬ (h.Kind=2∧1≤h.Dy∧h.Dy≤8)):EC h=0:=by unfold EC;rw[if_neg (by omega),if_neg h3,if_neg h4]
theorem body_w(h:Be):EC h=0∨(1≤h.Words∧h.Words≤16):=by
 unfold EC;split
 ·exact .inl rfl
 right;omega
theorem LU{h:Be}(h1:EC h=0):0=BL h:=by unfold BL;rw[if_pos h1]
theorem SA{h:Be}(h1:¬ h.Words<1)(h2:¬ 16<h.Words)(h3:h.Kind=1):2+h.Words=BL h:=by unfold BL;rw[Td h1 h2 h3,if_neg (by omega),if_pos h3]
theorem RY{h:Be}(h1:¬ h.Words<1)(h2:¬ 16<h.Words)(h3:¬ h.Kind=1)(h4:h.Kind=2)(h5:1≤h.Dy)(h6:h.Dy≤8):1+h.Dy*(1+h.Words)=BL h:=by
 unfold BL;rw[SY h1 h2 h3 h4 h5 h6,if_neg ?_,if_neg h3]
 have:=Int.mul_pos (show 0<h.Dy by omega) (show 0<1+h.Words by omega)
 omega
theorem NZ(h:Be):0≤BL h∧BL h≤137:=by
 have hb:=Ui h
 unfold BL
 split
 ·omega
 split
 ·rename_i h1 h2
  unfold EC at h1
  split at h1
  ·exact absurd rfl h1
  omega
 omega
theorem Uh(h:Be):0≤portOf h∧portOf h≤139:=by
 have hb:=Ui h
 unfold portOf
 split <;> omega
theorem Lp(h:Be):BL h=0↔portOf h=0:=by
 have hb:=Ui h
 unfold BL portOf
 split
 ·simp
 split
 ·rename_i h1 h2
  unfold EC at h1 hb
  constructor
  ·intro e
   split at h1
   ·exact absurd rfl h1
   omega
  intro e;exfalso;unfold EC at e;omega
 omega
theorem port_b{h:Be}(h1:¬ BL h=0)(h2:h.Kind=1):BL h+1=portOf h:=by
 unfold BL portOf at *
 split at h1
 ·exact absurd rfl h1
 rename_i hb
 rw[if_neg hb,if_neg hb,if_pos h2]
 unfold EC at hb ⊢
 split at hb
 ·exact absurd rfl hb
 rename_i h3
 rw[if_neg h3,if_pos h2];omega
theorem port_c{h:Be}(h1:¬ BL h=0)(h2:¬ h.Kind=1):BL h+2=portOf h:=by
 unfold BL portOf at *
 split at h1
 ·exact absurd rfl h1
 rename_i hb
 rw[if_neg hb,if_neg hb,if_neg h2];omega
theorem Ql(w:World)(h:Be)(hh:Be.ok Any w h):Calls Tryd.prog 47 #[.agg (Be.arr h)] w fun e w'=>e = .returned (.int .i64 (BL h))∧Ce (fun _=>False) w w':=by
 obtain⟨z,hz⟩:∃ z,z=w.heap.size:=⟨_,rfl⟩
 refine Bf (args:=[.agg (Be.arr h)]) 40 ⟨w,z,[(Ak w)]⟩ Tryd.func47 rfl (by kernel_rfl) (by kernel_rfl) (Ed hz) ?_
 refine Di [0] [(0,.agg (Be.arr h))] ?_
 refine q_c 7 0 [] [[o0,o0]] [] [(1,pt z)] ⟨w,z+1,[(Ak w),(bk z (Be.arr h) 123)]⟩ rfl Ae ?_
 by_cases h1:(h.Words:Int)<1
 ·refine Au 9 0 [1] [[o0,(a1 1),oT,o0,o0,o0],[o0]] [Qb z,BT ((h.Words:Int)<1)] [(2,i6 0)] rfl ⟨rfl,bt,Ae⟩ ?_
  refine Az [] [] (i6 0) Ae ?_
  intro w2 hw2
  refine⟨congrArg (fun n=>Ending.returned (i6 n)) (?_:(0:Int)=BL h),AB hw2⟩
  first
   | exact LU (NG (by omega))
   | exact SA (by omega) (by omega) (by omega)
   | exact RY (by omega) (by omega) (by omega) (by omega) (by omega) (by omega)
   | exact LU (NC (by omega) (by omega) (by omega) (by omega))
 by_cases h3:(16:Int)<h.Words
 ·refine Au 9 0 [1] [[o0,(a1 1),oF,o0,o0,(a1 1),oT,o0,o0],[o0]] [Qb z,BF ((h.Words:Int)<1),Qb z,BT ((h.Words:Int) > 16)] [(2,i6 0)] rfl ⟨rfl,bf,rfl,bt,Ae⟩ ?_
  refine Az [] [] (i6 0) Ae ?_
  intro w4 hw4
  refine⟨congrArg (fun n=>Ending.returned (i6 n)) (?_:(0:Int)=BL h),AB hw4⟩
  first
   | exact LU (NG (by omega))
   | exact SA (by omega) (by omega) (by omega)
   | exact RY (by omega) (by omega) (by omega) (by omega) (by omega) (by omega)
   | exact LU (NC (by omega) (by omega) (by omega) (by omega))
 refine Au 5 0 [0] [[o0,(a1 1),oF,o0,o0,(a1 1),oF,o0,o0]] [Qb z,BF ((h.Words:Int)<1),Qb z,BF ((h.Words:Int) > 16)] [(1,pt z),(3,.bool false)] rfl ⟨rfl,bf,rfl,bf,Ae⟩ ?_
 by_cases h5:(h.Kind:Int)=1
 ·refine Au 9 0 [1] [[o0,(a1 1),oT,o0],[o0,(a1 1),(ov (i6 (2+h.Words))),o0]] [Qb z,ET h.Kind 1,Qb z,Wr ((2:Int)+h.Words) (2+h.Words)] [(2,i6 (2+h.Words))] rfl ⟨rfl,et,rfl,BP,Ae⟩ ?_
  refine Az [] [] (i6 (2+h.Words)) Ae ?_
  intro w6 hw6
  refine⟨congrArg (fun n=>Ending.returned (i6 n)) (?_:(2+h.Words:Int)=BL h),AB hw6⟩
  first
   | exact LU (NG (by omega))
   | exact SA (by omega) (by omega) (by omega)
   | exact RY (by omega) (by omega) (by omega) (by omega) (by omega) (by omega)
   | exact LU (NC (by omega) (by omega) (by omega) (by omega))
 refine Au 5 0 [0] [[o0,(a1 1),oF,o0]] [Qb z,EF h.Kind 1] [(1,pt z),(12,.bool false)] rfl ⟨rfl,ef,Ae⟩ ?_
 by_cases h7:(h.Kind:Int)=2
 ·by_cases h8:(h.Dy:Int)<1
  ·refine Au 12 0 [0] [[o0,(a1 1),oT,o0,o0,(a1 1),oF,o0,o0,o0,o0],[o0]] [Qb z,ET h.Kind 2,Qb z,BF ((h.Dy:Int)≥1)] [(2,i6 0)] rfl ⟨rfl,et,rfl,bf,Ae⟩ ?_
   refine Az [] [] (i6 0) Ae ?_
   intro w9 hw9
   refine⟨congrArg (fun n=>Ending.returned (i6 n)) (?_:(0:Int)=BL h),AB hw9⟩
   first
    | exact LU (NG (by omega))
    | exact SA (by omega) (by omega) (by omega)
    | exact RY (by omega) (by omega) (by omega) (by omega) (by omega) (by omega)
    | exact LU (NC (by omega) (by omega) (by omega) (by omega))
  by_cases h10:(8:Int)<h.Dy
  ·refine Au 12 0 [0] [[o0,(a1 1),oT,o0,o0,(a1 1),oT,o0,o0,o0,(a1 1),oF,o0,o0],[o0]] [Qb z,ET h.Kind 2,Qb z,BT ((h.Dy:Int)≥1),Qb z,BF ((h.Dy:Int)≤8)] [(2,i6 0)] rfl ⟨rfl,et,rfl,bt,rfl,bf,Ae⟩ ?_
   refine Az [] [] (i6 0) Ae ?_
   intro w11 hw11
   refine⟨congrArg (fun n=>Ending.returned (i6 n)) (?_:(0:Int)=BL h),AB hw11⟩
   first
    | exact LU (NG (by omega))
    | exact SA (by omega) (by omega) (by omega)
    | exact RY (by omega) (by omega) (by omega) (by omega) (by omega) (by omega)
    | exact LU (NC (by omega) (by omega) (by omega) (by omega))
  refine Au 6 0 [1] [[o0,(a1 1),oT,o0,o0,(a1 1),oT,o0,o0,o0,(a1 1),oT,o0,o0]] [Qb z,ET h.Kind 2,Qb z,BT ((h.Dy:Int)≥1),Qb z,BT ((h.Dy:Int)≤8)] [(1,pt z),(19,.bool true)] rfl ⟨rfl,et,rfl,bt,rfl,bt,Ae⟩ ?_
  have hm12:=mul_bd (a:=h.Dy) (b:=1+h.Words) (by omega) (by omega) (by omega) (by omega)
  refine AZ 3 0 [] [[o0,(a1 1),o0,(a1 1),(ov (i6 (1+h.Words))),(ov (i6 (h.Dy*(1+h.Words)))),(ov (i6 (1+(h.Dy*(1+h.Words))))),o0]] [Qb z,Qb z,Wr ((1:Int)+h.Words) (1+h.Words),Wr ((h.Dy:Int)*(1+h.Words)) (h.Dy*(1+h.Words)),Wr ((1:Int)+(h.Dy*(1+h.Words))) (1+(h.Dy*(1+h.Words)))] [(2,i6 (1+(h.Dy*(1+h.Words))))] rfl ⟨rfl,rfl,BP,BP,BP,Ae⟩ ?_
  refine Az [] [] (i6 (1+(h.Dy*(1+h.Words)))) Ae ?_
  intro w13 hw13
  refine⟨congrArg (fun n=>Ending.returned (i6 n)) (?_:(1+(h.Dy*(1+h.Words)):Int)=BL h),AB hw13⟩
  first
   | exact LU (NG (by omega))
   | exact SA (by omega) (by omega) (by omega)
   | exact RY (by omega) (by omega) (by omega) (by omega) (by omega) (by omega)
   | exact LU (NC (by omega) (by omega) (by omega) (by omega))
 refine Au 12 0 [0] [[o0,(a1 1),oF,o0,o0,o0,o0,o0],[o0]] [Qb z,EF h.Kind 2] [(2,i6 0)] rfl ⟨rfl,ef,Ae⟩ ?_
 refine Az [] [] (i6 0) Ae ?_
 intro w14 hw14
 refine⟨congrArg (fun n=>Ending.returned (i6 n)) (?_:(0:Int)=BL h),AB hw14⟩
 first
  | exact LU (NG (by omega))
  | exact SA (by omega) (by omega) (by omega)
  | exact RY (by omega) (by omega) (by omega) (by omega) (by omega) (by omega)
  | exact LU (NC (by omega) (by omega) (by omega) (by omega))
theorem Zaa(w:World)(h:Be)(hh:Be.ok Any w h):Calls Tryd.prog 61 #[.agg (Be.arr h)] w fun e w'=>e = .returned (.int .i64 (EC h))∧Ce (fun _=>False) w w':=by
 obtain⟨z,hz⟩:∃ z,z=w.heap.size:=⟨_,rfl⟩
 refine Bf (args:=[.agg (Be.arr h)]) 35 ⟨w,z,[(Ak w)]⟩ Tryd.func61 rfl (by kernel_rfl) (by kernel_rfl) (Ed hz) ?_
 refine Di [0] [(0,.agg (Be.arr h))] ?_
 refine q_c 6 0 [] [[o0,o0]] [] [(1,pt z)] ⟨w,z+1,[(Ak w),(bk z (Be.arr h) 123)]⟩ rfl Ae ?_
 by_cases h1:(h.Words:Int)<1
 ·refine Au 9 0 [1] [[o0,(a1 1),oT,o0,o0],[o0]] [Qb z,BT ((h.Words:Int)<1)] [(2,i6 0)] rfl ⟨rfl,bt,Ae⟩ ?_
  refine Az [] [] (i6 0) Ae ?_
  intro w2 hw2
  refine⟨congrArg (fun n=>Ending.returned (i6 n)) (?_:(0:Int)=EC h),AB hw2⟩
  first
   | exact(NG (by omega)).symm
   | exact(Td (by omega) (by omega) (by omega)).symm
   | exact(SY (by omega) (by omega) (by omega) (by omega) (by omega) (by omega)).symm
   | exact(NC (by omega) (by omega) (by omega) (by omega)).symm
 by_cases h3:(16:Int)<h.Words
 ·refine Au 9 0 [1] [[o0,(a1 1),oF,o0,o0,(a1 1),oT,o0],[o0]] [Qb z,BF ((h.Words:Int)<1),Qb z,BT ((h.Words:Int) > 16)] [(2,i6 0)] rfl ⟨rfl,bf,rfl,bt,Ae⟩ ?_
  refine Az [] [] (i6 0) Ae ?_
  intro w4 hw4
  refine⟨congrArg (fun n=>Ending.returned (i6 n)) (?_:(0:Int)=EC h),AB hw4⟩
  first
   | exact(NG (by omega)).symm
   | exact(Td (by omega) (by omega) (by omega)).symm
   | exact(SY (by omega) (by omega) (by omega) (by omega) (by omega) (by omega)).symm
   | exact(NC (by omega) (by omega) (by omega) (by omega)).symm
 refine Au 8 0 [0] [[o0,(a1 1),oF,o0,o0,(a1 1),oF,o0]] [Qb z,BF ((h.Words:Int)<1),Qb z,BF ((h.Words:Int) > 16)] [(1,pt z),(10,.bool false)] rfl ⟨rfl,bf,rfl,bf,Ae⟩ ?_
 by_cases h5:(h.Kind:Int)=1
 ·refine Au 9 0 [1] [[o0,(a1 1),oT],[o0,(a1 1),o0]] [Qb z,ET h.Kind 1,Qb z] [(2,i6 h.Words)] rfl ⟨rfl,et,rfl,Ae⟩ ?_
  refine Az [] [] (i6 h.Words) Ae ?_
  intro w6 hw6
  refine⟨congrArg (fun n=>Ending.returned (i6 n)) (?_:(h.Words:Int)=EC h),AB hw6⟩
  first
   | exact(NG (by omega)).symm
   | exact(Td (by omega) (by omega) (by omega)).symm
   | exact(SY (by omega) (by omega) (by omega) (by omega) (by omega) (by omega)).symm
   | exact(NC (by omega) (by omega) (by omega) (by omega)).symm
 refine Au 8 0 [0] [[o0,(a1 1),oF]] [Qb z,EF h.Kind 1] [(1,pt z),(13,.bool false)] rfl ⟨rfl,ef,Ae⟩ ?_
 by_cases h7:(h.Kind:Int)=2
 ·by_cases h8:(h.Dy:Int)<1
  ·refine Au 11 0 [0] [[o0,(a1 1),oT,o0,o0,(a1 1),oF,o0,o0,o0],[o0]] [Qb z,ET h.Kind 2,Qb z,BF ((h.Dy:Int)≥1)] [(2,i6 0)] rfl ⟨rfl,et,rfl,bf,Ae⟩ ?_
   refine Az [] [] (i6 0) Ae ?_
   intro w9 hw9
   refine⟨congrArg (fun n=>Ending.returned (i6 n)) (?_:(0:Int)=EC h),AB hw9⟩
   first
    | exact(NG (by omega)).symm
    | exact(Td (by omega) (by omega) (by omega)).symm
    | exact(SY (by omega) (by omega) (by omega) (by omega) (by omega) (by omega)).symm
    | exact(NC (by omega) (by omega) (by omega) (by omega)).symm
  by_cases h10:(8:Int)<h.Dy
  ·refine Au 11 0 [0] [[o0,(a1 1),oT,o0,o0,(a1 1),oT,o0,o0,o0,(a1 1),oF,o0],[o0]] [Qb z,ET h.Kind 2,Qb z,BT ((h.Dy:Int)≥1),Qb z,BF ((h.Dy:Int)≤8)] [(2,i6 0)] rfl ⟨rfl,et,rfl,bt,rfl,bf,Ae⟩ ?_
   refine Az [] [] (i6 0) Ae ?_
   intro w11 hw11
   refine⟨congrArg (fun n=>Ending.returned (i6 n)) (?_:(0:Int)=EC h),AB hw11⟩
   first
    | exact(NG (by omega)).symm
    | exact(Td (by omega) (by omega) (by omega)).symm
    | exact(SY (by omega) (by omega) (by omega) (by omega) (by omega) (by omega)).symm
    | exact(NC (by omega) (by omega) (by omega) (by omega)).symm
  refine Au 6 0 [1] [[o0,(a1 1),oT,o0,o0,(a1 1),oT,o0,o0,o0,(a1 1),oT,o0]] [Qb z,ET h.Kind 2,Qb z,BT ((h.Dy:Int)≥1),Qb z,BT ((h.Dy:Int)≤8)] [(1,pt z),(28,.bool true)] rfl ⟨rfl,et,rfl,bt,rfl,bt,Ae⟩ ?_
  have hm12:=mul_bd (a:=h.Dy) (b:=1+h.Words) (by omega) (by omega) (by omega) (by omega)
  refine AZ 3 0 [] [[o0,(a1 1),o0,(a1 1),(ov (i6 (1+h.Words))),(ov (i6 (h.Dy*(1+h.Words)))),o0]] [Qb z,Qb z,Wr ((1:Int)+h.Words) (1+h.Words),Wr ((h.Dy:Int)*(1+h.Words)) (h.Dy*(1+h.Words))] [(2,i6 (h.Dy*(1+h.Words)))] rfl ⟨rfl,rfl,BP,BP,Ae⟩ ?_
  refine Az [] [] (i6 (h.Dy*(1+h.Words))) Ae ?_
  intro w13 hw13
  refine⟨congrArg (fun n=>Ending.returned (i6 n)) (?_:(h.Dy*(1+h.Words):Int)=EC h),AB hw13⟩
  first
   | exact(NG (by omega)).symm
   | exact(Td (by omega) (by omega) (by omega)).symm
   | exact(SY (by omega) (by omega) (by omega) (by omega) (by omega) (by omega)).symm
   | exact(NC (by omega) (by omega) (by omega) (by omega)).symm
 refine Au 11 0 [0] [[o0,(a1 1),oF,o0,o0,o0,o0],[o0]] [Qb z,EF h.Kind 2] [(2,i6 0)] rfl ⟨rfl,ef,Ae⟩ ?_
 refine Az [] [] (i6 0) Ae ?_
 intro w14 hw14
 refine⟨congrArg (fun n=>Ending.returned (i6 n)) (?_:(0:Int)=EC h),AB hw14⟩
 first
  | exact(NG (by omega)).symm
  | exact(Td (by omega) (by omega) (by omega)).symm
  | exact(SY (by omega) (by omega) (by omega) (by omega) (by omega) (by omega)).symm
  | exact(NC (by omega) (by omega) (by omega) (by omega)).symm
theorem Xd(w:World)(h:Be)(hh:Be.ok Any w h):Calls Tryd.prog 41 #[.agg (Be.arr h)] w fun e w'=>e = .returned (.int .i64 (BL h))∧Ce (fun _=>False) w w':=by
 obtain⟨z,hz⟩:∃ z,z=w.heap.size:=⟨_,rfl⟩
 refine Bf (args:=[.agg (Be.arr h)]) 16 ⟨w,z,[(Ak w)]⟩ Tryd.func41 rfl (by kernel_rfl) (by kernel_rfl) (Ed hz) ?_
 have hbd:=Ui h;have hsd:=NZ h;have hwd:=body_w h
 refine Di [0] [(0,.agg (Be.arr h))] ?_
 refine q_c 6 1 [] [[o0,o0],[(an 3 1)]] [Qb z,Qb z,Qb z] [(1,pt z),(4,.agg (Be.arr h))] ⟨w,z+1,[(Ak w),(bk z (Be.arr h) 123)]⟩ rfl ⟨rfl,rfl,rfl,Ae⟩ ?_
 refine Ba 61 #[.agg (Be.arr h)] (some 5) (i6 (EC h)) (fun w1 hw1=>Zaa w1 h (hh.ext (hw1.ext rfl) (fun _ h=>h))) (fun n2 (hn3:z+1≤n2) => ?_)
 refine AZ 4 0 [] [[o0]] [] [(1,pt z),(3,i6 (EC h))] rfl Ae ?_
 by_cases h4:(EC h:Int)=0
 ·refine Au 9 0 [1] [[o0,oT],[o0]] [ET (EC h) 0] [(2,i6 0)] rfl ⟨et,Ae⟩ ?_
  refine Az [] [] (i6 0) Ae ?_
  intro w5 hw5
  refine⟨congrArg (fun n=>Ending.returned (i6 n)) (?_:(0:Int)=BL h),AB hw5⟩
  unfold BL
  first
   | (rw[if_pos (by omega)])
   | (rw[if_neg (by omega),if_pos (by omega)])
   | (rw[if_neg (by omega),if_neg (by omega)])
 refine Au 8 0 [0] [[o0,oF]] [EF (EC h) 0] [(1,pt z),(3,i6 (EC h)),(7,.bool false)] rfl ⟨ef,Ae⟩ ?_
 by_cases h6:(h.Kind:Int)=1
 ·refine Au 9 0 [1] [[o0,(a1 1),oT],[o0,(a1 1),(ov (i6 (2+h.Words))),o0]] [Qb z,ET h.Kind 1,Qb z,Wr ((2:Int)+h.Words) (2+h.Words)] [(2,i6 (2+h.Words))] rfl ⟨rfl,et,rfl,BP,Ae⟩ ?_
  refine Az [] [] (i6 (2+h.Words)) Ae ?_
  intro w7 hw7
  refine⟨congrArg (fun n=>Ending.returned (i6 n)) (?_:(2+h.Words:Int)=BL h),AB hw7⟩
  unfold BL
  first
   | (rw[if_pos (by omega)])
   | (rw[if_neg (by omega),if_pos (by omega)])
   | (rw[if_neg (by omega),if_neg (by omega)])
 refine Au 11 0 [0] [[o0,(a1 1),oF],[o0,(ov (i6 (1+(EC h)))),o0]] [Qb z,EF h.Kind 1,Wr ((1:Int)+(EC h)) (1+(EC h))] [(2,i6 (1+(EC h)))] rfl ⟨rfl,ef,BP,Ae⟩ ?_
 refine Az [] [] (i6 (1+(EC h))) Ae ?_
 intro w8 hw8
 refine⟨congrArg (fun n=>Ending.returned (i6 n)) (?_:(1+(EC h):Int)=BL h),AB hw8⟩
 unfold BL
 first
  | (rw[if_pos (by omega)])
  | (rw[if_neg (by omega),if_pos (by omega)])
  | (rw[if_neg (by omega),if_neg (by omega)])
theorem Vk(w:World)(h:Be)(hh:Be.ok Any w h):Calls Tryd.prog 39 #[.agg (Be.arr h)] w fun e w'=>e = .returned (.int .i64 (portOf h))∧Ce (fun _=>False) w w':=by
 obtain⟨z,hz⟩:∃ z,z=w.heap.size:=⟨_,rfl⟩
 refine Bf (args:=[.agg (Be.arr h)]) 10 ⟨w,z,[(Ak w)]⟩ Tryd.func39 rfl (by kernel_rfl) (by kernel_rfl) (Ed hz) ?_
 have hbd:=Ui h;have hsd:=NZ h;have hwd:=body_w h
 refine Di [0] [(0,.agg (Be.arr h))] ?_
 refine q_c 6 1 [] [[o0,o0],[(an 3 1)]] [Qb z,Qb z,Qb z] [(4,.agg (Be.arr h))] ⟨w,z+1,[(Ak w),(bk z (Be.arr h) 123)]⟩ rfl ⟨rfl,rfl,rfl,Ae⟩ ?_
 refine Ba 61 #[.agg (Be.arr h)] (some 5) (i6 (EC h)) (fun w1 hw1=>Zaa w1 h (hh.ext (hw1.ext rfl) (fun _ h=>h))) (fun n2 (hn3:z+1≤n2) => ?_)
 refine AZ 4 0 [] [[o0]] [] [(3,i6 (EC h))] rfl Ae ?_
 by_cases h4:(EC h:Int)=0
 ·refine Au 9 0 [1] [[o0,oT],[o0]] [ET (EC h) 0] [(2,i6 0)] rfl ⟨et,Ae⟩ ?_
  refine Az [] [] (i6 0) Ae ?_
  intro w5 hw5
  refine⟨congrArg (fun n=>Ending.returned (i6 n)) (?_:(0:Int)=portOf h),AB hw5⟩
  unfold portOf
  first
   | (rw[if_pos (by omega)])
   | (rw[if_neg (by omega)])
 refine Au 11 0 [0] [[o0,oF],[o0,(ov (i6 (3+(EC h)))),o0]] [EF (EC h) 0,Wr ((3:Int)+(EC h)) (3+(EC h))] [(2,i6 (3+(EC h)))] rfl ⟨ef,BP,Ae⟩ ?_
 refine Az [] [] (i6 (3+(EC h))) Ae ?_
 intro w6 hw6
 refine⟨congrArg (fun n=>Ending.returned (i6 n)) (?_:(3+(EC h):Int)=portOf h),AB hw6⟩
 unfold portOf
 first
  | (rw[if_pos (by omega)])
  | (rw[if_neg (by omega)])
theorem port_calls(w:World)(h:Be)(hh:Be.ok Any w h):Calls Tryd.prog 48 #[.agg (Be.arr h)] w fun e w'=>e = .returned (.int .i64 (portOf h))∧Ce (fun _=>False) w w':=by
 obtain⟨z,hz⟩:∃ z,z=w.heap.size:=⟨_,rfl⟩
 refine Bf (args:=[.agg (Be.arr h)]) 17 ⟨w,z,[(Ak w)]⟩ Tryd.func48 rfl (by kernel_rfl) (by kernel_rfl) (Ed hz) ?_
 have hbd:=Ui h;have hsd:=NZ h;have hwd:=body_w h;have hsp:=Lp h
 refine Di [0] [(0,.agg (Be.arr h))] ?_
 refine q_c 6 1 [] [[o0,o0],[(an 3 1)]] [Qb z,Qb z,Qb z] [(1,pt z),(4,.agg (Be.arr h))] ⟨w,z+1,[(Ak w),(bk z (Be.arr h) 123)]⟩ rfl ⟨rfl,rfl,rfl,Ae⟩ ?_
 refine Ba 47 #[.agg (Be.arr h)] (some 5) (i6 (BL h)) (fun w1 hw1=>Ql w1 h (hh.ext (hw1.ext rfl) (fun _ h=>h))) (fun n2 (hn3:z+1≤n2) => ?_)
 refine AZ 4 0 [] [[o0]] [] [(1,pt z),(3,i6 (BL h))] rfl Ae ?_
 by_cases h4:(BL h:Int)=0
 ·refine Au 9 0 [1] [[o0,oT,o0],[o0]] [ET (BL h) 0] [(2,i6 0)] rfl ⟨et,Ae⟩ ?_
  refine Az [] [] (i6 0) Ae ?_
  intro w5 hw5
  refine⟨congrArg (fun n=>Ending.returned (i6 n)) (?_:(0:Int)=portOf h),AB hw5⟩
  first
   | (have:=hsp.1 (by omega);omega)
   | exact port_b (by omega) (by omega)
   | exact port_c (by omega) (by omega)
 refine Au 5 0 [0] [[o0,oF,o0]] [EF (BL h) 0] [(1,pt z),(3,i6 (BL h)),(8,.bool false)] rfl ⟨ef,Ae⟩ ?_
 by_cases h6:(h.Kind:Int)=1
 ·refine Au 9 0 [1] [[o0,(a1 1),oT,o0],[o0,(ov (i6 ((BL h)+1))),o0]] [Qb z,ET h.Kind 1,Wr ((BL h:Int)+1) ((BL h)+1)] [(2,i6 ((BL h)+1))] rfl ⟨rfl,et,BP,Ae⟩ ?_
  refine Az [] [] (i6 ((BL h)+1)) Ae ?_
  intro w7 hw7
  refine⟨congrArg (fun n=>Ending.returned (i6 n)) (?_:((BL h)+1:Int)=portOf h),AB hw7⟩
  first
   | (have:=hsp.1 (by omega);omega)
   | exact port_b (by omega) (by omega)
   | exact port_c (by omega) (by omega)
 refine Au 9 0 [0] [[o0,(a1 1),oF,o0],[o0,(ov (i6 ((BL h)+2))),o0]] [Qb z,EF h.Kind 1,Wr ((BL h:Int)+2) ((BL h)+2)] [(2,i6 ((BL h)+2))] rfl ⟨rfl,ef,BP,Ae⟩ ?_
 refine Az [] [] (i6 ((BL h)+2)) Ae ?_
 intro w8 hw8
 refine⟨congrArg (fun n=>Ending.returned (i6 n)) (?_:((BL h)+2:Int)=portOf h),AB hw8⟩
 first
  | (have:=hsp.1 (by omega);omega)
  | exact port_b (by omega) (by omega)
  | exact port_c (by omega) (by omega)
theorem take_snoc{α:Type}[Inhabited α]{xs:List α}{k:Nat}(h:k<xs.length):xs.take (k+1)=xs.take k++[gd xs k]:=by
 rw[List.take_succ_eq_append_getElem h,EW h]
def Jh(k:Int)(b:Bool)(q:EE):Bool:=decide (q.Channel=k)&&(q.Source==b)
def DN(x:Aq)(k:Int)(b:Bool):Nat:=x.Ap.xs.countP (Jh k b)
theorem YE{q:EE}{k:Int}{b:Bool}(h1:q.Channel=k)(h2:q.Source=b):Jh k b q=true:=by simp[Jh,h1,h2]
theorem Xq{q:EE}{k:Int}{b:Bool}(h1:¬ q.Channel=k):Jh k b q=false:=by simp[Jh,h1]
theorem VQ{q:EE}{k:Int}{b:Bool}(h2:¬ q.Source=b):Jh k b q=false:=by simp[Jh,h2]
theorem cnt_yes{xs:List EE}{p:EE→Bool}{j:Nat}(h:j<xs.length)(hp:p (gd xs j)=true):(xs.take (j+1)).countP p=(xs.take j).countP p+1:=by
 rw[take_snoc h,List.countP_append];simp only[List.countP_singleton,hp,if_true]
theorem cnt_no{xs:List EE}{p:EE→Bool}{j:Nat}(h:j<xs.length)(hp:p (gd xs j)=false):(xs.take (j+1)).countP p=(xs.take j).countP p:=by
 rw[take_snoc h,List.countP_append];simp[List.countP_singleton,hp]
theorem cnt_le{xs:List EE}{p:EE→Bool}{j:Nat}:(xs.take j).countP p≤j:=Nat.le_trans List.countP_le_length (by rw[List.length_take];omega)
def Gt{α:Type}(f:α→Nat)(xs:List α)(i:Nat):Nat:=((xs.take i).map f).sum
theorem Qz{α:Type}[Inhabited α]{f:α→Nat}{xs:List α}{i:Nat}(h:i<xs.length):Gt f xs (i+1)=Gt f xs i+f (gd xs i):=by
 unfold Gt;rw[take_snoc h];simp
theorem VL{α:Type}[Inhabited α]{f:α→Nat}{xs:List α}{B:Nat}(hf:∀ i,i<xs.length→f (gd xs i)≤B):∀ (i:Nat),i≤xs.length→Gt f xs i≤B*i
 | 0,_=>by simp[Gt]
 | i+1,h=>by
  have:=VL hf i (by omega)
  have h2:=hf i (by omega)
  rw[Qz (by omega),Nat.mul_succ];omega
def J4(c:Ai)(k:Nat)(b:Bool):Nat:=Gt (fun x=>DN x k b) c.Aa.xs c.Aa.xs.length
def OT(c:Ai)(k:Nat):Bool:=decide (portOf (gd c.Aj.xs k)≠0) && !(decide ((gd c.Aj.xs k).Kind=1)&&decide ((gd c.Aj.xs k).Dy≠0))&&decide (J4 c k true=1)&&decide (1≤J4 c k false∧J4 c k false≤4)
def Ep(c:Ai):Bool:=decide (0≤c.Kernel∧c.Kernel<1024)&&decide (c.Aa.xs.length≤8)&&decide (c.Aj.xs.length≤16)&&c.Aa.xs.all (Ei c.Aj.xs.length)&&(List.range c.Aj.xs.length).all (OT c)
theorem PL{c:Ai}(h:¬ (0≤c.Kernel∧c.Kernel<1024)∨8<c.Aa.xs.length∨16<c.Aj.xs.length):Ep c=false:=by
 unfold Ep
 rcases h with h | h | h
 ·rw[decide_eq_false h];rfl
 ·rw[decide_eq_false (show ¬ c.Aa.xs.length≤8 by omega)];simp
 rw[decide_eq_false (show ¬ c.Aj.xs.length≤16 by omega)];simp
theorem conf_no2{c:Ai}{k:Nat}(hk:k<c.Aa.xs.length)(h:Ei c.Aj.xs.length (gd c.Aa.xs k)=false):Ep c=false:=by
 unfold Ep
 rw[Ov hk h];simp
theorem JG{c:Ai}{k:Nat}(hk:k<c.Aj.xs.length)(h:OT c k=false):Ep c=false:=by
 unfold Ep
 have:(List.range c.Aj.xs.length).all (OT c)=false:=by
  rw[List.all_eq_false];exact⟨k,List.mem_range.2 hk,by simp[h]⟩
 rw[this];simp
theorem conf_yes{c:Ai}(h1:0≤c.Kernel∧c.Kernel<1024)(h2:c.Aa.xs.length≤8)(h3:c.Aj.xs.length≤16)(h4:∀ i,i<c.Aa.xs.length→Ei c.Aj.xs.length (gd c.Aa.xs i)=true)(h5:∀ i,i<c.Aj.xs.length→OT c i=true):Ep c=true:=by
 unfold Ep
 rw[decide_eq_true h1,decide_eq_true h2,decide_eq_true h3,Vz h4]
 simp only[Bool.and_true,Bool.true_and,List.all_eq_true,List.mem_range]
 exact h5
theorem O6{n:Nat}{x:Aq}(h:Ei n x=true):x.Ap.xs.length≤8:=by
 unfold Ei at h;simp only[Bool.and_eq_true,decide_eq_true_eq]at h;exact h.1.1.2
theorem part_regs{n:Nat}{x:Aq}(h:Ei n x=true):x.Ah.xs.length≤8∧x.Ah.xs.all KF=true:=by
 unfold Ei at h;simp only[Bool.and_eq_true,decide_eq_true_eq]at h;exact⟨h.1.1.1,h.1.2⟩
theorem Pz{n:Nat}{x:Aq}(h:Ei n x=true)(k:Int)(b:Bool):DN x k b≤8:=Nat.le_trans List.countP_le_length (O6 h)
theorem KJ{c:Ai}{k:Nat}(h:portOf (gd c.Aj.xs k)=0∨((gd c.Aj.xs k).Kind=1∧(gd c.Aj.xs k).Dy≠0)∨J4 c k true≠1∨J4 c k false<1∨4<J4 c k false):OT c k=false:=by
 unfold OT
 rcases h with h | ⟨h,h'⟩ | h | h | h
 ·simp[h]
 ·simp[h,h']
 ·simp[h]
 ·rw[decide_eq_false (show ¬ (1≤J4 c k false∧J4 c k false≤4)by omega)];simp
 rw[decide_eq_false (show ¬ (1≤J4 c k false∧J4 c k false≤4)by omega)];simp
theorem Wu{c:Ai}{k:Nat}(h1:¬ portOf (gd c.Aj.xs k)=0)(h2:¬ ((gd c.Aj.xs k).Kind=1∧¬ (gd c.Aj.xs k).Dy=0))(h3:J4 c k true=1)(h4:1≤J4 c k false∧J4 c k false≤4):OT c k=true:=by
 unfold OT
 rw[decide_eq_true h3,decide_eq_true h4]
 simp[h1]
 by_cases e:(gd c.Aj.xs k).Kind=1
 ·exact .inr (Classical.not_not.1 (fun e2=>h2 ⟨e,e2⟩))
 exact .inl e
section
variable (z:Nat)(x:Aq)
abbrev Uu:=bk z (Aq.arr x) 35
abbrev UN:=(20,Ac x.Ah.xs.length)
abbrev XJ:=(53,Ac x.Ap.xs.length)
end
theorem rpart_calls(w:World)(x:Aq)(n:Nat)(hx:Aq.ok Any w x):Calls Tryd.prog 38 #[.agg (Aq.arr x),.int .i64 (n:Int)] w fun e w'=>e = .returned (.bool (Ei n x))∧Ce (fun _=>False) w w':=by
 obtain⟨z,hz⟩:∃ z,z=w.heap.size:=⟨_,rfl⟩
 refine Bf (args:=[.agg (Aq.arr x),Ac n]) 75 ⟨w,z,[(Ak w)]⟩ Tryd.func38 rfl (by kernel_rfl) (by kernel_rfl) (Ed hz) ?_
 refine Di [0,1] [(0,.agg (Aq.arr x)),(1,Ac n)] ?_
 refine q_c 6 0 [] [[o0,o0]] [] [(1,Ac n),(2,pt z)] ⟨w,z+1,[(Ak w),(Uu z x)]⟩ rfl Ae ?_
 by_cases h1:(8:Int)<(x.Ah.xs.length:Int)
 ·refine Au 9 0 [1] [[o0,(a1 1),o0,oT,o0,o0],[o0]] [Qb z,BT ((x.Ah.xs.length:Int) > 8)] [(4,.bool false)] rfl ⟨rfl,bt,Ae⟩ ?_
  refine Az [] [] (.bool false) Ae ?_
  intro w2 hw2
  refine⟨congrArg (fun b=>Ending.returned (Value.bool b)) (Eq.symm (?_:Ei n x=false)),AB hw2⟩
  unfold Ei
  first
   | (have e1:decide (x.Ah.xs.length≤8)=false:=decide_eq_false (by omega));simp[e1]
   | (have e1:decide (x.Ap.xs.length≤8)=false:=decide_eq_false (by omega));simp[e1]
 by_cases h3:(8:Int)<(x.Ap.xs.length:Int)
 ·refine Au 9 0 [1] [[o0,(a1 1),o0,oF,o0,o0,(a1 1),o0,oT,o0],[o0]] [Qb z,BF ((x.Ah.xs.length:Int) > 8),Qb z,BT ((x.Ap.xs.length:Int) > 8)] [(4,.bool false)] rfl ⟨rfl,bf,rfl,bt,Ae⟩ ?_
  refine Az [] [] (.bool false) Ae ?_
  intro w4 hw4
  refine⟨congrArg (fun b=>Ending.returned (Value.bool b)) (Eq.symm (?_:Ei n x=false)),AB hw4⟩
  unfold Ei
  first
   | (have e1:decide (x.Ah.xs.length≤8)=false:=decide_eq_false (by omega));simp[e1]
   | (have e1:decide (x.Ap.xs.length≤8)=false:=decide_eq_false (by omega));simp[e1]
 refine Au 12 0 [0] [[o0,(a1 1),o0,oF,o0,o0,(a1 1),o0,oF,o0],[o0,(a1 1),o0,o0]] [Qb z,BF ((x.Ah.xs.length:Int) > 8),Qb z,BF ((x.Ap.xs.length:Int) > 8),Qb z] [(1,Ac n),(2,pt z),(UN x),(21,i6 0)] rfl ⟨rfl,bf,rfl,bf,rfl,Ae⟩ ?_
 refine D8 (fun m a w'=>∃ (n6:Nat) (k:Nat),m=x.Ah.xs.length - k∧z+1≤n6∧(k≤x.Ah.xs.length)∧(∀ i,i<k→KF (gd x.Ah.xs i)=true)∧St 75 [(1,Ac n),(2,pt z),(UN x),(21,Ac k)] [] ⟨w,n6,[(Ak w),(Uu z x)]⟩ a w') (x.Ah.xs.length - 0) ?_ ?_
 ·intro a w' hs;exact⟨(z+1),0,rfl,Nat.le_refl _,Nat.zero_le _,fun i hi=>absurd hi (Nat.not_lt_zero i),hs⟩
 rintro m a w' ⟨n6,k,rfl,hn5,hkk,hr,hs⟩
 refine(?_:G Tryd.prog 75 [(1,Ac n),(2,pt z),(UN x),(21,Ac k)] [] ⟨w,n6,[(Ak w),(Uu z x)]⟩ _ _ _) a w' hs
 clear hs a w'
 refine CW ?_
 by_cases h7:(k:Int)<(x.Ah.xs.length:Int)
 ·refine Au 14 0 [1] [[oT],[o0,o0]] [BT ((k:Int)<(x.Ah.xs.length:Int))] [(1,Ac n),(2,pt z),(UN x),(21,Ac k),(5,Ac k)] rfl ⟨bt,Ae⟩ ?_
  obtain⟨b8,o9,ha10,hF12,hc11⟩:=(hx.Ah).1.all (show 0<x.Ah.xs.length by omega)
  replace ha10:x.Ah.a=some ⟨b8,o9,none⟩:=ha10
  have hc13:=hc11 k (show k<x.Ah.xs.length by omega)
  have he14:=(hx.Ah).2 k (show k<x.Ah.xs.length by omega)
  obtain⟨y15,hy15⟩:∃ y_,y_=gd x.Ah.xs k:=⟨_,rfl⟩
  rw[←hy15]at he14 hc13
  refine q_c 4 0 [] [[o0,(EM 1 b8 o9 x.Ah),o0,(oi k),(ol 0 (CS.arr y15)),o0,(an 4 2)]] [Qb z,Ej b8 o9 x.Ah,Dc k,k<x.Ah.xs.length,BM,GN w b8 (o9+k*4) (CS.arr y15),Qb n6,Qb n6,Qb n6,Qb n6] [(1,Ac n),(2,pt z),(UN x),(21,Ac k),(6,pt n6)] ⟨w,n6+1,[(Ak w),(Uu z x),(bk n6 (CS.arr y15) 147)]⟩ rfl ⟨rfl,Eg ha10,rfl,(by omega),rfl,Em hc13,rfl,rfl,rfl,rfl,Ae⟩ ?_
  by_cases h16:(y15.Bl:Int)<0
  ·refine Au 9 0 [1] [[o0,(a1 2),oT,o0,o0,o0,o0,o0,o0],[o0]] [Qb n6,BT ((y15.Bl:Int)<0)] [(4,.bool false)] rfl ⟨rfl,bt,Ae⟩ ?_
   refine Az [] [] (.bool false) Ae ?_
   intro w17 hw17
   refine⟨congrArg (fun b=>Ending.returned (Value.bool b)) (Eq.symm (?_:Ei n x=false)),AB hw17⟩
   unfold Ei
   have e1:x.Ah.xs.all KF=false:=Ov (k:=k) (by omega) (by rw[←hy15];exact decide_eq_false (by omega))
   simp[e1]
  by_cases h18:(256:Int)<y15.Bl
  ·refine Au 9 0 [1] [[o0,(a1 2),oF,o0,o0,(a1 2),oT,o0,o0,o0,o0,o0],[o0]] [Qb n6,BF ((y15.Bl:Int)<0),Qb n6,BT ((y15.Bl:Int) > 256)] [(4,.bool false)] rfl ⟨rfl,bf,rfl,bt,Ae⟩ ?_
   refine Az [] [] (.bool false) Ae ?_
   intro w19 hw19
   refine⟨congrArg (fun b=>Ending.returned (Value.bool b)) (Eq.symm (?_:Ei n x=false)),AB hw19⟩
   unfold Ei
   have e1:x.Ah.xs.all KF=false:=Ov (k:=k) (by omega) (by rw[←hy15];exact decide_eq_false (by omega))
   simp[e1]
  by_cases h20:(y15.AO:Int)<1
  ·refine Au 9 0 [1] [[o0,(a1 2),oF,o0,o0,(a1 2),oF,o0,o0,o0,(a1 2),oT,o0,o0,o0],[o0]] [Qb n6,BF ((y15.Bl:Int)<0),Qb n6,BF ((y15.Bl:Int) > 256),Qb n6,BT ((y15.AO:Int)<1)] [(4,.bool false)] rfl ⟨rfl,bf,rfl,bf,rfl,bt,Ae⟩ ?_
   refine Az [] [] (.bool false) Ae ?_
   intro w21 hw21
   refine⟨congrArg (fun b=>Ending.returned (Value.bool b)) (Eq.symm (?_:Ei n x=false)),AB hw21⟩
   unfold Ei
   have e1:x.Ah.xs.all KF=false:=Ov (k:=k) (by omega) (by rw[←hy15];exact decide_eq_false (by omega))
   simp[e1]
  by_cases h22:(256 - y15.Bl:Int)<y15.AO
  ·refine Au 9 0 [1] [[o0,(a1 2),oF,o0,o0,(a1 2),oF,o0,o0,o0,(a1 2),oF,o0,o0,o0,(a1 2),o0,(a1 2),(ov (i6 (256 - y15.Bl))),oT,o0],[o0]] [Qb n6,BF ((y15.Bl:Int)<0),Qb n6,BF ((y15.Bl:Int) > 256),Qb n6,BF ((y15.AO:Int)<1),Qb n6,Qb n6,Wr ((256:Int) - y15.Bl) (256 - y15.Bl),BT ((y15.AO:Int) > (256 - y15.Bl))] [(4,.bool false)] rfl ⟨rfl,bf,rfl,bf,rfl,bf,rfl,rfl,BP,bt,Ae⟩ ?_
   refine Az [] [] (.bool false) Ae ?_
   intro w23 hw23
   refine⟨congrArg (fun b=>Ending.returned (Value.bool b)) (Eq.symm (?_:Ei n x=false)),AB hw23⟩
   unfold Ei
   have e1:x.Ah.xs.all KF=false:=Ov (k:=k) (by omega) (by rw[←hy15];exact decide_eq_false (by omega))
   simp[e1]
  refine Au 9 0 [0] [[o0,(a1 2),oF,o0,o0,(a1 2),oF,o0,o0,o0,(a1 2),oF,o0,o0,o0,(a1 2),o0,(a1 2),(ov (i6 (256 - y15.Bl))),oF,o0],[(ov (i6 ((k+1:Nat):Int))),o0]] [Qb n6,BF ((y15.Bl:Int)<0),Qb n6,BF ((y15.Bl:Int) > 256),Qb n6,BF ((y15.AO:Int)<1),Qb n6,Qb n6,Wr ((256:Int) - y15.Bl) (256 - y15.Bl),BF ((y15.AO:Int) > (256 - y15.Bl)),Wr ((k:Int)+1) (((k+1:Nat):Int))] [(1,Ac n),(2,pt z),(UN x),(21,i6 ((k+1:Nat):Int))] rfl ⟨rfl,bf,rfl,bf,rfl,bf,rfl,rfl,BP,bf,BP,Ae⟩ ?_
  refine Cc [0,1] [(Ak w),(Uu z x)] rfl rfl ?_
  refine BI [1,2,20,21] [(1,Ac n),(2,pt z),(UN x),(21,i6 ((k+1:Nat):Int))] ?_
  refine BR (fun a w' hs=>⟨x.Ah.xs.length - (k+1),by omega,(n6+1),(k+1),rfl,by omega,by omega,upto hr (by rw[←hy15];exact decide_eq_true (by omega)),hs⟩)
 refine Au 16 0 [0] [[oF],[o0,(a1 1),o0,o0]] [BF ((k:Int)<(x.Ah.xs.length:Int)),Qb z] [(1,Ac n),(2,pt z),(XJ x),(54,i6 0)] rfl ⟨bf,rfl,Ae⟩ ?_
 refine D8 (fun m a w'=>∃ (n25:Nat) (j:Nat),m=x.Ap.xs.length - j∧n6≤n25∧(j≤x.Ap.xs.length)∧(∀ i,i<j→QZ n (gd x.Ap.xs i)=true)∧St 75 [(1,Ac n),(2,pt z),(XJ x),(54,Ac j)] [] ⟨w,n25,[(Ak w),(Uu z x)]⟩ a w') (x.Ap.xs.length - 0) ?_ ?_
 ·intro a w' hs;exact⟨n6,0,rfl,Nat.le_refl _,Nat.zero_le _,fun i hi=>absurd hi (Nat.not_lt_zero i),hs⟩
 rintro m a w' ⟨n25,j,rfl,hn24,hkj,hp,hs⟩
 refine(?_:G Tryd.prog 75 [(1,Ac n),(2,pt z),(XJ x),(54,Ac j)] [] ⟨w,n25,[(Ak w),(Uu z x)]⟩ _ _ _) a w' hs
 clear hs a w'
 refine CW ?_
 by_cases h26:(j:Int)<(x.Ap.xs.length:Int)
 ·refine Au 14 0 [1] [[oT],[o0,o0]] [BT ((j:Int)<(x.Ap.xs.length:Int))] [(1,Ac n),(2,pt z),(XJ x),(54,Ac j),(7,Ac j)] rfl ⟨bt,Ae⟩ ?_
  obtain⟨b27,o28,ha29,hF31,hc30⟩:=(hx.Ap).1.all (show 0<x.Ap.xs.length by omega)
  replace ha29:x.Ap.a=some ⟨b27,o28,none⟩:=ha29
  have hc32:=hc30 j (show j<x.Ap.xs.length by omega)
  have he33:=(hx.Ap).2 j (show j<x.Ap.xs.length by omega)
  obtain⟨y34,hy34⟩:∃ y_,y_=gd x.Ap.xs j:=⟨_,rfl⟩
  rw[←hy34]at he33 hc32
  by_cases h35:(y34.Channel:Int)<0
  ·refine Au 9 0 [1] [[o0,(EM 1 b27 o28 x.Ap),o0,(oi j),o0,(oa [.via 0 (i6 y34.Channel)]),oT,o0,o0],[o0]] [Qb z,Ej b27 o28 x.Ap,Dc j,j<x.Ap.xs.length,BM,Old w b27 (o28+j*2) (i6 y34.Channel),BT ((y34.Channel:Int)<0)] [(4,.bool false)] rfl ⟨rfl,Eg ha29,rfl,(by omega),rfl,Aw (hc32 0 _ rfl),bt,Ae⟩ ?_
   refine Az [] [] (.bool false) Ae ?_
   intro w36 hw36
   refine⟨congrArg (fun b=>Ending.returned (Value.bool b)) (Eq.symm (?_:Ei n x=false)),AB hw36⟩
   unfold Ei
   have e1:x.Ap.xs.all (QZ n)=false:=Ov (k:=j) (by omega) (by rw[←hy34];exact decide_eq_false (by omega))
   simp[e1]
  by_cases h37:(y34.Channel:Int)<(n:Int)
  ·refine Au 9 0 [0] [[o0,(EM 1 b27 o28 x.Ap),o0,(oi j),o0,(oa [.via 0 (i6 y34.Channel)]),oF,o0,o0,(EM 1 b27 o28 x.Ap),o0,(oi j),o0,(oa [.via 0 (i6 y34.Channel)]),o0,oF,o0],[(ov (i6 ((j+1:Nat):Int))),o0]] [Qb z,Ej b27 o28 x.Ap,Dc j,j<x.Ap.xs.length,BM,Old w b27 (o28+j*2) (i6 y34.Channel),BF ((y34.Channel:Int)<0),Qb z,Ej b27 o28 x.Ap,Dc j,j<x.Ap.xs.length,BM,Old w b27 (o28+j*2) (i6 y34.Channel),BF ((y34.Channel:Int)≥(n:Int)),Wr ((j:Int)+1) (((j+1:Nat):Int))] [(1,Ac n),(2,pt z),(XJ x),(54,i6 ((j+1:Nat):Int))] rfl ⟨rfl,Eg ha29,rfl,(by omega),rfl,Aw (hc32 0 _ rfl),bf,rfl,Eg ha29,rfl,(by omega),rfl,Aw (hc32 0 _ rfl),bf,BP,Ae⟩ ?_
   refine BR (fun a w' hs=>⟨x.Ap.xs.length - (j+1),by omega,n25,(j+1),rfl,by omega,by omega,upto hp (by rw[←hy34];exact decide_eq_true (by omega)),hs⟩)
  refine Au 9 0 [1] [[o0,(EM 1 b27 o28 x.Ap),o0,(oi j),o0,(oa [.via 0 (i6 y34.Channel)]),oF,o0,o0,(EM 1 b27 o28 x.Ap),o0,(oi j),o0,(oa [.via 0 (i6 y34.Channel)]),o0,oT,o0],[o0]] [Qb z,Ej b27 o28 x.Ap,Dc j,j<x.Ap.xs.length,BM,Old w b27 (o28+j*2) (i6 y34.Channel),BF ((y34.Channel:Int)<0),Qb z,Ej b27 o28 x.Ap,Dc j,j<x.Ap.xs.length,BM,Old w b27 (o28+j*2) (i6 y34.Channel),BT ((y34.Channel:Int)≥(n:Int))] [(4,.bool false)] rfl ⟨rfl,Eg ha29,rfl,(by omega),rfl,Aw (hc32 0 _ rfl),bf,rfl,Eg ha29,rfl,(by omega),rfl,Aw (hc32 0 _ rfl),bt,Ae⟩ ?_
  refine Az [] [] (.bool false) Ae ?_
  intro w38 hw38
  refine⟨congrArg (fun b=>Ending.returned (Value.bool b)) (Eq.symm (?_:Ei n x=false)),AB hw38⟩
  unfold Ei
  have e1:x.Ap.xs.all (QZ n)=false:=Ov (k:=j) (by omega) (by rw[←hy34];exact decide_eq_false (by omega))
  simp[e1]
 refine Au 15 0 [0] [[oF],[o0]] [BF ((j:Int)<(x.Ap.xs.length:Int))] [(4,.bool true)] rfl ⟨bf,Ae⟩ ?_
 refine Az [] [] (.bool true) Ae ?_
 intro w39 hw39
 refine⟨congrArg (fun b=>Ending.returned (Value.bool b)) (Eq.symm (?_:Ei n x=true)),AB hw39⟩
 have e1:x.Ah.xs.all KF=true:=Vz (fun i hi=>hr i (by omega))
 have e2:x.Ap.xs.all (QZ n)=true:=Vz (fun i hi=>hp i (by omega))
 simp only[Ei,e1,e2,Bool.and_true,Bool.and_eq_true,decide_eq_true_eq]
 omega
section
variable (x:Aq)(j:Nat)(ch:Int)(b:Bool)
abbrev JE:=(7,i6 ((((x.Ap.xs.take j).countP (Jh ch b))+1:Nat):Int))
abbrev Ky:=(7,i6 (((x.Ap.xs.take j).countP (Jh ch b):Nat):Int))
abbrev Je:=(11,Ac x.Ap.xs.length)
abbrev Hq:=(12,i6 ((j+1:Nat):Int))
end
theorem NW(w:World)(x:Aq)(ch:Int)(b:Bool)(hx:Aq.ok Any w x):Calls Tryd.prog 40 #[.agg (Aq.arr x),.int .i64 ch,.bool b] w fun e w'=>e = .returned (.int .i64 (DN x ch b:Nat))∧Ce (fun _=>False) w w':=by
 obtain⟨z,hz⟩:∃ z,z=w.heap.size:=⟨_,rfl⟩
 refine Bf (args:=[.agg (Aq.arr x),i6 ch,.bool b]) 37 ⟨w,z,[(Ak w)]⟩ Tryd.func40 rfl (by kernel_rfl) (by kernel_rfl) (Ed hz) ?_
 have hlP:=hx.Ap.1.len
 refine Di [0,1,2] [(0,.agg (Aq.arr x)),(1,i6 ch),(2,.bool b)] ?_
 refine q_c 14 0 [] [[o0,o0],[o0],[o0,(a1 1),o0,o0]] [Qb z] [(1,i6 ch),(2,.bool b),(3,pt z),(7,i6 0),(Je x),(12,i6 0)] ⟨w,z+1,[(Ak w),(bk z (Aq.arr x) 35)]⟩ rfl ⟨rfl,Ae⟩ ?_
 refine D8 (fun m a w'=>∃ (n2:Nat) (j:Nat),m=x.Ap.xs.length - j∧z+1≤n2∧(j≤x.Ap.xs.length)∧St 37 [(1,i6 ch),(2,.bool b),(3,pt z),(Ky x j ch b),(Je x),(12,Ac j)] [] ⟨w,n2,[(Ak w),(bk z (Aq.arr x) 35)]⟩ a w') (x.Ap.xs.length - 0) ?_ ?_
 ·intro a w' hs;exact⟨(z+1),0,rfl,Nat.le_refl _,Nat.zero_le _,hs⟩
 rintro m a w' ⟨n2,j,rfl,hn1,hkj,hs⟩
 refine(?_:G Tryd.prog 37 [(1,i6 ch),(2,.bool b),(3,pt z),(Ky x j ch b),(Je x),(12,Ac j)] [] ⟨w,n2,[(Ak w),(bk z (Aq.arr x) 35)]⟩ _ _ _) a w' hs
 clear hs a w'
 have hcl:(x.Ap.xs.take j).countP (Jh ch b)≤j:=cnt_le
 refine CW ?_
 by_cases h3:(j:Int)<(x.Ap.xs.length:Int)
 ·refine Au 14 0 [1] [[oT],[o0,o0]] [BT ((j:Int)<(x.Ap.xs.length:Int))] [(1,i6 ch),(2,.bool b),(3,pt z),(Ky x j ch b),(Je x),(12,Ac j),(8,Ac j)] rfl ⟨bt,Ae⟩ ?_
  obtain⟨b4,o5,ha6,hF8,hc7⟩:=(hx.Ap).1.all (show 0<x.Ap.xs.length by omega)
  replace ha6:x.Ap.a=some ⟨b4,o5,none⟩:=ha6
  have hc9:=hc7 j (show j<x.Ap.xs.length by omega)
  have he10:=(hx.Ap).2 j (show j<x.Ap.xs.length by omega)
  obtain⟨y11,hy11⟩:∃ y_,y_=gd x.Ap.xs j:=⟨_,rfl⟩
  rw[←hy11]at he10 hc9
  by_cases h12:(y11.Channel:Int)=ch
  ·by_cases h13:y11.Source=true
   ·by_cases h14:b=true
    ·refine Au 10 0 [1] [[o0,(EM 1 b4 o5 x.Ap),o0,(oi j),o0,(oa [.via 0 (i6 y11.Channel)]),o0,oT,o0,o0,(EM 1 b4 o5 x.Ap),o0,(oi j),o0,(oa [.via 0 (.bool y11.Source)]),(ov (.bool true)),(ov (.bool true)),o0],[o0,(ov (i6 ((((x.Ap.xs.take j).countP (Jh ch b))+1:Nat):Int))),o0],[(ov (i6 ((j+1:Nat):Int))),o0]] [Qb z,Ej b4 o5 x.Ap,Dc j,j<x.Ap.xs.length,BM,Old w b4 (o5+j*2) (i6 y11.Channel),ET y11.Channel ch,Qb z,Ej b4 o5 x.Ap,Dc j,j<x.Ap.xs.length,BM,Old w b4 (o5+j*2+1) (.bool y11.Source),Value.bool b=Value.bool true,Value.bool ((y11.Source==true))=Value.bool true,Wr (((((x.Ap.xs.take j).countP (Jh ch b):Nat):Int):Int)+1) (((((x.Ap.xs.take j).countP (Jh ch b))+1:Nat):Int)),Wr ((j:Int)+1) (((j+1:Nat):Int))] [(1,i6 ch),(2,.bool b),(3,pt z),(JE x j ch b),(Je x),(Hq j)] rfl ⟨rfl,Eg ha6,rfl,(by omega),rfl,Aw (hc9 0 _ rfl),et,rfl,Eg ha6,rfl,(by omega),rfl,Aw (hc9 1 _ rfl),(congrArg Value.bool h14),by simp[h13],BP,BP,Ae⟩ ?_
     have hT:=cnt_yes (p:=Jh ch b) (show j<x.Ap.xs.length by omega) (by rw[←hy11];exact YE (by omega) (by revert h13 h14;cases y11.Source <;> cases b <;> simp))
     refine BI [1,2,3,7,11,12] [(1,i6 ch),(2,.bool b),(3,pt z),(JE x j ch b),(Je x),(Hq j)] ?_
     refine BR (fun a w' hs=>⟨x.Ap.xs.length - (j+1),by omega,n2,(j+1),rfl,by omega,by omega,by(try dsimp only[JE,Ky,Je,Hq]at hs ⊢);rw[hT];exact hs⟩)
    refine Au 9 0 [0] [[o0,(EM 1 b4 o5 x.Ap),o0,(oi j),o0,(oa [.via 0 (i6 y11.Channel)]),o0,oT,o0,o0,(EM 1 b4 o5 x.Ap),o0,(oi j),o0,(oa [.via 0 (.bool y11.Source)]),(ov (.bool false)),(ov (.bool false)),o0],[(ov (i6 ((j+1:Nat):Int))),o0]] [Qb z,Ej b4 o5 x.Ap,Dc j,j<x.Ap.xs.length,BM,Old w b4 (o5+j*2) (i6 y11.Channel),ET y11.Channel ch,Qb z,Ej b4 o5 x.Ap,Dc j,j<x.Ap.xs.length,BM,Old w b4 (o5+j*2+1) (.bool y11.Source),Value.bool b=Value.bool false,Value.bool ((y11.Source==false))=Value.bool false,Wr ((j:Int)+1) (((j+1:Nat):Int))] [(1,i6 ch),(2,.bool b),(3,pt z),(Ky x j ch b),(Je x),(Hq j)] rfl ⟨rfl,Eg ha6,rfl,(by omega),rfl,Aw (hc9 0 _ rfl),et,rfl,Eg ha6,rfl,(by omega),rfl,Aw (hc9 1 _ rfl),(congrArg Value.bool (Bool.eq_false_iff.2 h14)),by simp[h13],BP,Ae⟩ ?_
    have hT:=cnt_no (p:=Jh ch b) (show j<x.Ap.xs.length by omega) (by rw[←hy11];exact VQ (by revert h13 h14;cases y11.Source <;> cases b <;> simp))
    refine BI [1,2,3,7,11,12] [(1,i6 ch),(2,.bool b),(3,pt z),(Ky x j ch b),(Je x),(Hq j)] ?_
    refine BR (fun a w' hs=>⟨x.Ap.xs.length - (j+1),by omega,n2,(j+1),rfl,by omega,by omega,by(try dsimp only[JE,Ky,Je,Hq]at hs ⊢);rw[hT];exact hs⟩)
   by_cases h15:b=true
   ·refine Au 9 0 [0] [[o0,(EM 1 b4 o5 x.Ap),o0,(oi j),o0,(oa [.via 0 (i6 y11.Channel)]),o0,oT,o0,o0,(EM 1 b4 o5 x.Ap),o0,(oi j),o0,(oa [.via 0 (.bool y11.Source)]),(ov (.bool true)),(ov (.bool false)),o0],[(ov (i6 ((j+1:Nat):Int))),o0]] [Qb z,Ej b4 o5 x.Ap,Dc j,j<x.Ap.xs.length,BM,Old w b4 (o5+j*2) (i6 y11.Channel),ET y11.Channel ch,Qb z,Ej b4 o5 x.Ap,Dc j,j<x.Ap.xs.length,BM,Old w b4 (o5+j*2+1) (.bool y11.Source),Value.bool b=Value.bool true,Value.bool ((y11.Source==true))=Value.bool false,Wr ((j:Int)+1) (((j+1:Nat):Int))] [(1,i6 ch),(2,.bool b),(3,pt z),(Ky x j ch b),(Je x),(Hq j)] rfl ⟨rfl,Eg ha6,rfl,(by omega),rfl,Aw (hc9 0 _ rfl),et,rfl,Eg ha6,rfl,(by omega),rfl,Aw (hc9 1 _ rfl),(congrArg Value.bool h15),by simp[h13],BP,Ae⟩ ?_
    have hT:=cnt_no (p:=Jh ch b) (show j<x.Ap.xs.length by omega) (by rw[←hy11];exact VQ (by revert h13 h15;cases y11.Source <;> cases b <;> simp))
    refine BI [1,2,3,7,11,12] [(1,i6 ch),(2,.bool b),(3,pt z),(Ky x j ch b),(Je x),(Hq j)] ?_
    refine BR (fun a w' hs=>⟨x.Ap.xs.length - (j+1),by omega,n2,(j+1),rfl,by omega,by omega,by(try dsimp only[JE,Ky,Je,Hq]at hs ⊢);rw[hT];exact hs⟩)
   refine Au 10 0 [1] [[o0,(EM 1 b4 o5 x.Ap),o0,(oi j),o0,(oa [.via 0 (i6 y11.Channel)]),o0,oT,o0,o0,(EM 1 b4 o5 x.Ap),o0,(oi j),o0,(oa [.via 0 (.bool y11.Source)]),(ov (.bool false)),(ov (.bool true)),o0],[o0,(ov (i6 ((((x.Ap.xs.take j).countP (Jh ch b))+1:Nat):Int))),o0],[(ov (i6 ((j+1:Nat):Int))),o0]] [Qb z,Ej b4 o5 x.Ap,Dc j,j<x.Ap.xs.length,BM,Old w b4 (o5+j*2) (i6 y11.Channel),ET y11.Channel ch,Qb z,Ej b4 o5 x.Ap,Dc j,j<x.Ap.xs.length,BM,Old w b4 (o5+j*2+1) (.bool y11.Source),Value.bool b=Value.bool false,Value.bool ((y11.Source==false))=Value.bool true,Wr (((((x.Ap.xs.take j).countP (Jh ch b):Nat):Int):Int)+1) (((((x.Ap.xs.take j).countP (Jh ch b))+1:Nat):Int)),Wr ((j:Int)+1) (((j+1:Nat):Int))] [(1,i6 ch),(2,.bool b),(3,pt z),(JE x j ch b),(Je x),(Hq j)] rfl ⟨rfl,Eg ha6,rfl,(by omega),rfl,Aw (hc9 0 _ rfl),et,rfl,Eg ha6,rfl,(by omega),rfl,Aw (hc9 1 _ rfl),(congrArg Value.bool (Bool.eq_false_iff.2 h15)),by simp[h13],BP,BP,Ae⟩ ?_
   have hT:=cnt_yes (p:=Jh ch b) (show j<x.Ap.xs.length by omega) (by rw[←hy11];exact YE (by omega) (by revert h13 h15;cases y11.Source <;> cases b <;> simp))
   refine BI [1,2,3,7,11,12] [(1,i6 ch),(2,.bool b),(3,pt z),(JE x j ch b),(Je x),(Hq j)] ?_
   refine BR (fun a w' hs=>⟨x.Ap.xs.length - (j+1),by omega,n2,(j+1),rfl,by omega,by omega,by(try dsimp only[JE,Ky,Je,Hq]at hs ⊢);rw[hT];exact hs⟩)
  refine Au 9 0 [0] [[o0,(EM 1 b4 o5 x.Ap),o0,(oi j),o0,(oa [.via 0 (i6 y11.Channel)]),o0,oF,o0,o0],[(ov (i6 ((j+1:Nat):Int))),o0]] [Qb z,Ej b4 o5 x.Ap,Dc j,j<x.Ap.xs.length,BM,Old w b4 (o5+j*2) (i6 y11.Channel),EF y11.Channel ch,Wr ((j:Int)+1) (((j+1:Nat):Int))] [(1,i6 ch),(2,.bool b),(3,pt z),(Ky x j ch b),(Je x),(Hq j)] rfl ⟨rfl,Eg ha6,rfl,(by omega),rfl,Aw (hc9 0 _ rfl),ef,BP,Ae⟩ ?_
  have hT:=cnt_no (p:=Jh ch b) (show j<x.Ap.xs.length by omega) (by rw[←hy11];exact Xq (by omega))
  refine BI [1,2,3,7,11,12] [(1,i6 ch),(2,.bool b),(3,pt z),(Ky x j ch b),(Je x),(Hq j)] ?_
  refine BR (fun a w' hs=>⟨x.Ap.xs.length - (j+1),by omega,n2,(j+1),rfl,by omega,by omega,by(try dsimp only[Ky,Je,Hq]at hs ⊢);rw[hT];exact hs⟩)
 refine Au 15 0 [0] [[oF],[o0,o0]] [BF ((j:Int)<(x.Ap.xs.length:Int))] [(6,i6 (((x.Ap.xs.take j).countP (Jh ch b):Nat):Int))] rfl ⟨bf,Ae⟩ ?_
 refine Az [] [] (i6 (((x.Ap.xs.take j).countP (Jh ch b):Nat):Int)) Ae ?_
 intro w16 hw16
 refine⟨congrArg (fun n=>Ending.returned (i6 n)) (?_:((((x.Ap.xs.take j).countP (Jh ch b):Nat):Int):Int)=(DN x ch b:Int)),AB hw16⟩
 rw[show j=x.Ap.xs.length by omega,List.take_length];rfl
section
variable (n25:Nat)(y34:Be)(z:Nat)(c:Ai)(k2 k3:Nat)(y52 y76:Aq)
abbrev U2:=bk n25 (Be.arr y34) 123
abbrev MZ:=bk z (Ai.arr c) 26
abbrev Zt:=(6,i6 (((Gt (fun x=>DN x (k2:Int) true) c.Aa.xs k3)+(DN y52 (k2:Int) true):Nat):Int))
abbrev Zr:=(6,i6 (((Gt (fun x=>DN x (k2:Int) true) c.Aa.xs k3)+(DN y76 (k2:Int) true):Nat):Int))
abbrev OU:=(7,i6 ((Gt (fun x=>DN x (k2:Int) false) c.Aa.xs k3:Nat):Int))
abbrev Qi:=(6,i6 ((Gt (fun x=>DN x (k2:Int) true) c.Aa.xs k3:Nat):Int))
abbrev PI:=(31,Ac c.Aa.xs.length)
abbrev Kr:=(72,Ac c.Aa.xs.length)
abbrev H5:=(48,Ac c.Aj.xs.length)
end
theorem Zv(w:World)(c:Ai)(hc:Ai.ok Any w c):Calls Tryd.prog 25 #[.agg (Ai.arr c)] w fun e w'=>e = .returned (.bool (Ep c))∧Ce (fun _=>False) w w':=by
 obtain⟨z,hz⟩:∃ z,z=w.heap.size:=⟨_,rfl⟩
 refine Bf (args:=[.agg (Ai.arr c)]) 106 ⟨w,z,[(Ak w)]⟩ Tryd.func25 rfl (by kernel_rfl) (by kernel_rfl) (Ed hz) ?_
 have hlC:=hc.Aj.1.len
 refine Di [0] [(0,.agg (Ai.arr c))] ?_
 refine q_c 6 0 [] [[o0,o0]] [] [(1,pt z)] ⟨w,z+1,[(Ak w),(MZ z c)]⟩ rfl Ae ?_
 by_cases h1:(c.Kernel:Int)<0
 ·refine Au 9 0 [1] [[o0,(a1 1),oT,o0,o0,o0,o0,o0,o0],[o0]] [Qb z,BT ((c.Kernel:Int)<0)] [(2,.bool false)] rfl ⟨rfl,bt,Ae⟩ ?_
  refine Az [] [] (.bool false) Ae ?_
  intro w2 hw2
  refine⟨congrArg (fun b=>Ending.returned (Value.bool b)) (Eq.symm (?_:Ep c=false)),AB hw2⟩
  exact PL (by omega)
 by_cases h3:(c.Kernel:Int)<1024
 ·by_cases h4:(8:Int)<(c.Aa.xs.length:Int)
  ·refine Au 9 0 [1] [[o0,(a1 1),oF,o0,o0,(a1 1),oF,o0,o0,o0,(a1 1),o0,oT,o0,o0,o0],[o0]] [Qb z,BF ((c.Kernel:Int)<0),Qb z,BF ((c.Kernel:Int)≥1024),Qb z,BT ((c.Aa.xs.length:Int) > 8)] [(2,.bool false)] rfl ⟨rfl,bf,rfl,bf,rfl,bt,Ae⟩ ?_
   refine Az [] [] (.bool false) Ae ?_
   intro w5 hw5
   refine⟨congrArg (fun b=>Ending.returned (Value.bool b)) (Eq.symm (?_:Ep c=false)),AB hw5⟩
   exact PL (by omega)
  by_cases h6:(16:Int)<(c.Aj.xs.length:Int)
  ·refine Au 9 0 [1] [[o0,(a1 1),oF,o0,o0,(a1 1),oF,o0,o0,o0,(a1 1),o0,oF,o0,o0,o0,(a1 1),o0,oT,o0],[o0]] [Qb z,BF ((c.Kernel:Int)<0),Qb z,BF ((c.Kernel:Int)≥1024),Qb z,BF ((c.Aa.xs.length:Int) > 8),Qb z,BT ((c.Aj.xs.length:Int) > 16)] [(2,.bool false)] rfl ⟨rfl,bf,rfl,bf,rfl,bf,rfl,bt,Ae⟩ ?_
   refine Az [] [] (.bool false) Ae ?_
   intro w7 hw7
   refine⟨congrArg (fun b=>Ending.returned (Value.bool b)) (Eq.symm (?_:Ep c=false)),AB hw7⟩
   exact PL (by omega)
  refine Au 12 0 [0] [[o0,(a1 1),oF,o0,o0,(a1 1),oF,o0,o0,o0,(a1 1),o0,oF,o0,o0,o0,(a1 1),o0,oF,o0],[o0,(a1 1),o0,o0]] [Qb z,BF ((c.Kernel:Int)<0),Qb z,BF ((c.Kernel:Int)≥1024),Qb z,BF ((c.Aa.xs.length:Int) > 8),Qb z,BF ((c.Aj.xs.length:Int) > 16),Qb z] [(1,pt z),(PI c),(32,i6 0)] rfl ⟨rfl,bf,rfl,bf,rfl,bf,rfl,bf,rfl,Ae⟩ ?_
  refine D8 (fun m a w'=>∃ (n9:Nat) (k:Nat),m=c.Aa.xs.length - k∧z+1≤n9∧(k≤c.Aa.xs.length)∧(∀ i,i<k→Ei c.Aj.xs.length (gd c.Aa.xs i)=true)∧St 106 [(1,pt z),(PI c),(32,Ac k)] [] ⟨w,n9,[(Ak w),(MZ z c)]⟩ a w') (c.Aa.xs.length - 0) ?_ ?_
  ·intro a w' hs;exact⟨(z+1),0,rfl,Nat.le_refl _,Nat.zero_le _,fun i hi=>absurd hi (Nat.not_lt_zero i),hs⟩
  rintro m a w' ⟨n9,k,rfl,hn8,hkk,hp,hs⟩
  refine(?_:G Tryd.prog 106 [(1,pt z),(PI c),(32,Ac k)] [] ⟨w,n9,[(Ak w),(MZ z c)]⟩ _ _ _) a w' hs
  clear hs a w'
  refine CW ?_
  by_cases h10:(k:Int)<(c.Aa.xs.length:Int)
  ·refine Au 14 0 [1] [[oT],[o0,o0]] [BT ((k:Int)<(c.Aa.xs.length:Int))] [(1,pt z),(PI c),(32,Ac k),(3,Ac k)] rfl ⟨bt,Ae⟩ ?_
   obtain⟨b11,o12,ha13,hF15,hc14⟩:=(hc.Aa).1.all (show 0<c.Aa.xs.length by omega)
   replace ha13:c.Aa.a=some ⟨b11,o12,none⟩:=ha13
   have hc16:=hc14 k (show k<c.Aa.xs.length by omega)
   have he17:=(hc.Aa).2 k (show k<c.Aa.xs.length by omega)
   obtain⟨y18,hy18⟩:∃ y_,y_=gd c.Aa.xs k:=⟨_,rfl⟩
   rw[←hy18]at he17 hc16
   refine DZ 10 [0,1] [(Ak w),(MZ z c)] rfl rfl ?_
   refine Ci [(0,o0),(1,(EM 1 b11 o12 c.Aa)),(2,o0),(3,(oi k)),(4,(ol 0 (Aq.arr y18))),(5,o0),(6,(a1 1)),(7,o0)] [1,31,32,39,42] [Qb z,Ej b11 o12 c.Aa,Dc k,k<c.Aa.xs.length,BM,GN w b11 (o12+k*8) (Aq.arr y18),Qb z] (Dw 8 2) [(1,pt z),(PI c),(32,Ac k),(39,.agg (Aq.arr y18)),(42,Ac c.Aj.xs.length)] ⟨rfl,Eg ha13,rfl,(by omega),rfl,Em hc16,rfl,Ae⟩ ?_
   refine Bq 8 ?_
   refine FU [] [] 38 #[.agg (Aq.arr y18),Ac c.Aj.xs.length] (some 43) (by as_aux_lemma=>kernel_rfl) rfl rfl Ae ?_
   intro w19 hw19
   refine(rpart_calls w19 y18 c.Aj.xs.length (he17.ext (hw19.ext rfl) (fun _ h=>h))).mono ?_
   rintro e w20 ⟨rfl,hkw20⟩
   have hnw20:n9≤w20.heap.size:=Ef hw19 hkw20
   have hs21:=hw19.keeps hkw20
   refine⟨_,_,rfl,hs21,.inr (fun c hc=>hs21.all c (by first | exact hc | exact DW (is:=[0,1]) rfl c hc)), ?_⟩
   refine CY [1,31,32,43] [(1,pt z),(PI c),(32,Ac k),(43,.bool (Ei c.Aj.xs.length y18))] ?_
   by_cases h22:(Ei c.Aj.xs.length y18)=true
   ·refine Ci [(9,(ov (.bool false)))] [1,31,32,44] [Value.bool (!(Ei c.Aj.xs.length y18))=Value.bool false] (Dw 10 0) [(1,pt z),(PI c),(32,Ac k),(44,.bool false)] ⟨by simp[h22],Ae⟩ ?_
    refine CE ?_
    refine NU 7 0 [0] [[(ov (i6 ((k+1:Nat):Int))),o0]] [Wr ((k:Int)+1) (((k+1:Nat):Int))] [(1,pt z),(PI c),(32,i6 ((k+1:Nat):Int))] rfl ⟨BP,Ae⟩ ?_
    refine BR (fun a w' hs=>⟨c.Aa.xs.length - (k+1),by omega,w20.heap.size,(k+1),rfl,by omega,by omega,upto hp (by rw[←hy18];exact h22),hs⟩)
   refine Ci [(9,(ov (.bool true)))] [1,31,32,44] [Value.bool (!(Ei c.Aj.xs.length y18))=Value.bool true] (Dw 10 0) [(1,pt z),(PI c),(32,Ac k),(44,.bool true)] ⟨by simp[h22],Ae⟩ ?_
   refine CE ?_
   refine NU 7 0 [1] [[o0]] [] [(2,.bool false)] rfl Ae ?_
   refine Az [] [] (.bool false) Ae ?_
   intro w23 hw23
   refine⟨congrArg (fun b=>Ending.returned (Value.bool b)) (Eq.symm (?_:Ep c=false)),AB hw23⟩
   exact conf_no2 (k:=k) (by omega) (by rw[←hy18];exact Bool.eq_false_iff.2 h22)
  refine Au 16 0 [0] [[oF],[o0,(a1 1),o0,o0]] [BF ((k:Int)<(c.Aa.xs.length:Int)),Qb z] [(1,pt z),(H5 c),(49,i6 0)] rfl ⟨bf,rfl,Ae⟩ ?_
  refine D8 (fun m a w'=>∃ (n25:Nat) (k2:Nat),m=c.Aj.xs.length - k2∧n9≤n25∧(k2≤c.Aj.xs.length)∧(∀ i,i<k2→OT c i=true)∧St 106 [(1,pt z),(H5 c),(49,Ac k2)] [] ⟨w,n25,[(Ak w),(MZ z c)]⟩ a w') (c.Aj.xs.length - 0) ?_ ?_
  ·intro a w' hs;exact⟨n9,0,rfl,Nat.le_refl _,Nat.zero_le _,fun i hi=>absurd hi (Nat.not_lt_zero i),hs⟩
  rintro m a w' ⟨n25,k2,rfl,hn24,hkk2,hch,hs⟩
  refine(?_:G Tryd.prog 106 [(1,pt z),(H5 c),(49,Ac k2)] [] ⟨w,n25,[(Ak w),(MZ z c)]⟩ _ _ _) a w' hs
  clear hs a w'
  refine CW ?_
  by_cases h26:(k2:Int)<(c.Aj.xs.length:Int)
  ·refine Au 14 0 [1] [[oT],[o0,o0]] [BT ((k2:Int)<(c.Aj.xs.length:Int))] [(1,pt z),(H5 c),(49,Ac k2),(4,Ac k2)] rfl ⟨bt,Ae⟩ ?_
   obtain⟨b27,o28,ha29,hF31,hc30⟩:=(hc.Aj).1.all (show 0<c.Aj.xs.length by omega)
   replace ha29:c.Aj.a=some ⟨b27,o28,none⟩:=ha29
   have hc32:=hc30 k2 (show k2<c.Aj.xs.length by omega)
   have he33:=(hc.Aj).2 k2 (show k2<c.Aj.xs.length by omega)
   obtain⟨y34,hy34⟩:∃ y_,y_=gd c.Aj.xs k2:=⟨_,rfl⟩
   rw[←hy34]at he33 hc32
   refine q_c 6 1 [] [[o0,(EM 1 b27 o28 c.Aj),o0,(oi k2),(ol 0 (Be.arr y34)),o0,(an 3 2)],[(an 3 2)]] [Qb z,Ej b27 o28 c.Aj,Dc k2,k2<c.Aj.xs.length,BM,GN w b27 (o28+k2*3) (Be.arr y34),Qb n25,Qb n25,Qb n25,Qb n25,Qb n25,Qb n25] [(1,pt z),(H5 c),(49,Ac k2),(4,Ac k2),(5,pt n25),(57,.agg (Be.arr y34))] ⟨w,n25+1,[(Ak w),(MZ z c),(U2 n25 y34)]⟩ rfl ⟨rfl,Eg ha29,rfl,(by omega),rfl,Em hc32,rfl,rfl,rfl,rfl,rfl,rfl,Ae⟩ ?_
   refine Ba 39 #[.agg (Be.arr y34)] (some 58) (i6 (portOf y34)) (fun w35 hw35=>Vk w35 y34 (he33.ext (hw35.ext rfl) (fun _ h=>h))) (fun n36 (hn37:n25+1≤n36) => ?_)
   refine Dh [1,48,49,4,5,58] [(1,pt z),(H5 c),(49,Ac k2),(4,Ac k2),(5,pt n25),(58,i6 (portOf y34))] ?_
   by_cases h38:(portOf y34:Int)=0
   ·refine AZ 8 0 [1] [[oT,o0,o0],[o0]] [ET (portOf y34) 0] [(2,.bool false)] rfl ⟨et,Ae⟩ ?_
    refine Az [] [] (.bool false) Ae ?_
    intro w39 hw39
    refine⟨congrArg (fun b=>Ending.returned (Value.bool b)) (Eq.symm (?_:Ep c=false)),AB hw39⟩
    exact JG (k:=k2) (by omega) (KJ (by rw[←hy34];first | omega | (right;right;unfold J4;rw[show c.Aa.xs.length=k3 by omega];omega)))
   by_cases h40:(y34.Kind:Int)=1
   ·by_cases h41:(y34.Dy:Int)=0
    ·refine AZ 19 0 [0] [[oF,o0,o0,(a1 2),oT,o0,o0,(a1 2),oF,o0,o0],[o0],[o0],[o0,(a1 1),o0,o0]] [EF (portOf y34) 0,Qb n25,ET y34.Kind 1,Qb n25,NF y34.Dy 0,Qb z] [(1,pt z),(4,Ac k2),(6,i6 0),(7,i6 0),(H5 c),(49,Ac k2),(Kr c),(73,i6 0)] rfl ⟨ef,rfl,et,rfl,nf,rfl,Ae⟩ ?_
     refine D8 (fun m a w'=>∃ (n43:Nat) (k3:Nat),m=c.Aa.xs.length - k3∧n36≤n43∧(k3≤c.Aa.xs.length)∧St 106 [(1,pt z),(4,Ac k2),(Qi c k2 k3),(OU c k2 k3),(H5 c),(49,Ac k2),(Kr c),(73,Ac k3)] [] ⟨w,n43,[(Ak w),(MZ z c),(U2 n25 y34)]⟩ a w') (c.Aa.xs.length - 0) ?_ ?_
     ·intro a w' hs;exact⟨n36,0,rfl,Nat.le_refl _,Nat.zero_le _,hs⟩
     rintro m a w' ⟨n43,k3,rfl,hn42,hkk3,hs⟩
     refine(?_:G Tryd.prog 106 [(1,pt z),(4,Ac k2),(Qi c k2 k3),(OU c k2 k3),(H5 c),(49,Ac k2),(Kr c),(73,Ac k3)] [] ⟨w,n43,[(Ak w),(MZ z c),(U2 n25 y34)]⟩ _ _ _) a w' hs
     clear hs a w'
     have hsa:=VL (f:=fun x=>DN x (k2:Int) true) (B:=8) (xs:=c.Aa.xs) (fun i hi=>Pz (hp i (by omega)) _ _) k3 hkk3
     have hsb:=VL (f:=fun x=>DN x (k2:Int) false) (B:=8) (xs:=c.Aa.xs) (fun i hi=>Pz (hp i (by omega)) _ _) k3 hkk3
     refine CW ?_
     by_cases h44:(k3:Int)<(c.Aa.xs.length:Int)
     ·refine Au 14 0 [1] [[oT],[o0,o0]] [BT ((k3:Int)<(c.Aa.xs.length:Int))] [(1,pt z),(4,Ac k2),(Qi c k2 k3),(OU c k2 k3),(H5 c),(49,Ac k2),(Kr c),(73,Ac k3),(8,Ac k3)] rfl ⟨bt,Ae⟩ ?_
      obtain⟨b45,o46,ha47,hF49,hc48⟩:=(hc.Aa).1.all (show 0<c.Aa.xs.length by omega)
      replace ha47:c.Aa.a=some ⟨b45,o46,none⟩:=ha47
      have hc50:=hc48 k3 (show k3<c.Aa.xs.length by omega)
      have he51:=(hc.Aa).2 k3 (show k3<c.Aa.xs.length by omega)
      obtain⟨y52,hy52⟩:∃ y_,y_=gd c.Aa.xs k3:=⟨_,rfl⟩
      rw[←hy52]at he51 hc50
      have hqy52:=hp k3 (by omega);rw[←hy52]at hqy52;have hl1y52:=Pz hqy52 (k2:Int) true;have hl2y52:=Pz hqy52 (k2:Int) false
      refine Au 1 7 [] [[o0,o0,(EM 1 b45 o46 c.Aa),o0,(oi k3),(ol 0 (Aq.arr y52)),o0]] [Qb z,Ej b45 o46 c.Aa,Dc k3,k3<c.Aa.xs.length,BM,GN w b45 (o46+k3*8) (Aq.arr y52)] [(1,pt z),(4,Ac k2),(OU c k2 k3),(H5 c),(49,Ac k2),(Kr c),(73,Ac k3),(8,Ac k3),(76,i6 ((Gt (fun x=>DN x (k2:Int) true) c.Aa.xs k3:Nat):Int)),(81,.agg (Aq.arr y52)),(82,Ac k2)] rfl ⟨rfl,Eg ha47,rfl,(by omega),rfl,Em hc50,Ae⟩ ?_
      refine Ba 40 #[.agg (Aq.arr y52),Ac k2,.bool true] (some 83) (i6 ((DN y52 (k2:Int) true:Nat):Int)) (fun w53 hw53=>NW w53 y52 (k2:Int) true (he51.ext (hw53.ext rfl) (fun _ h=>h))) (fun n54 (hn55:n43≤n54) => ?_)
      refine AZ 3 7 [] [[(ov (i6 (((Gt (fun x=>DN x (k2:Int) true) c.Aa.xs k3)+(DN y52 (k2:Int) true):Nat):Int))),o0],[o0,o0,(EM 1 b45 o46 c.Aa),o0,(oi k3),(ol 0 (Aq.arr y52)),o0]] [Wr ((((Gt (fun x=>DN x (k2:Int) true) c.Aa.xs k3:Nat):Int):Int)+((DN y52 (k2:Int) true:Nat):Int)) ((((Gt (fun x=>DN x (k2:Int) true) c.Aa.xs k3)+(DN y52 (k2:Int) true):Nat):Int)),Qb z,Ej b45 o46 c.Aa,Dc k3,k3<c.Aa.xs.length,BM,GN w b45 (o46+k3*8) (Aq.arr y52)] [(1,pt z),(4,Ac k2),(H5 c),(49,Ac k2),(Kr c),(73,Ac k3),(Zt c k2 k3 y52),(85,i6 ((Gt (fun x=>DN x (k2:Int) false) c.Aa.xs k3:Nat):Int)),(90,.agg (Aq.arr y52)),(91,Ac k2)] rfl ⟨BP,rfl,Eg ha47,rfl,(by omega),rfl,Em hc50,Ae⟩ ?_
      refine Ba 40 #[.agg (Aq.arr y52),Ac k2,.bool false] (some 92) (i6 ((DN y52 (k2:Int) false:Nat):Int)) (fun w56 hw56=>NW w56 y52 (k2:Int) false (he51.ext (hw56.ext rfl) (fun _ h=>h))) (fun n57 (hn58:n54≤n57) => ?_)
      refine AZ 5 0 [] [[(ov (i6 (((Gt (fun x=>DN x (k2:Int) false) c.Aa.xs k3)+(DN y52 (k2:Int) false):Nat):Int))),o0],[(ov (i6 ((k3+1:Nat):Int))),o0]] [Wr ((((Gt (fun x=>DN x (k2:Int) false) c.Aa.xs k3:Nat):Int):Int)+((DN y52 (k2:Int) false:Nat):Int)) ((((Gt (fun x=>DN x (k2:Int) false) c.Aa.xs k3)+(DN y52 (k2:Int) false):Nat):Int)),Wr ((k3:Int)+1) (((k3+1:Nat):Int))] [(1,pt z),(4,Ac k2),(H5 c),(49,Ac k2),(Kr c),(73,i6 ((k3+1:Nat):Int)),(Zt c k2 k3 y52),(7,i6 (((Gt (fun x=>DN x (k2:Int) false) c.Aa.xs k3)+(DN y52 (k2:Int) false):Nat):Int))] rfl ⟨BP,BP,Ae⟩ ?_
      have hT1:=Qz (f:=fun x=>DN x (k2:Int) true) (show k3<c.Aa.xs.length by omega)
      have hT2:=Qz (f:=fun x=>DN x (k2:Int) false) (show k3<c.Aa.xs.length by omega)
      rw[←hy52]at hT1 hT2
      refine BI [1,4,6,7,48,49,72,73] [(1,pt z),(4,Ac k2),(Zt c k2 k3 y52),(7,i6 (((Gt (fun x=>DN x (k2:Int) false) c.Aa.xs k3)+(DN y52 (k2:Int) false):Nat):Int)),(H5 c),(49,Ac k2),(Kr c),(73,i6 ((k3+1:Nat):Int))] ?_
      refine BR (fun a w' hs=>⟨c.Aa.xs.length - (k3+1),by omega,n57,(k3+1),rfl,by omega,by omega,by(try dsimp only[U2,MZ,Zt,OU,Qi,PI,Kr,H5]at hs ⊢);rw[hT1,hT2];exact hs⟩)
     refine Au 11 0 [0] [[oF]] [BF ((k3:Int)<(c.Aa.xs.length:Int))] [(1,pt z),(4,Ac k2),(Qi c k2 k3),(OU c k2 k3),(H5 c),(49,Ac k2),(Kr c),(73,Ac k3),(74,.bool false)] rfl ⟨bf,Ae⟩ ?_
     by_cases h59:(((Gt (fun x=>DN x (k2:Int) true) c.Aa.xs k3:Nat):Int):Int)=1
     ·by_cases h60:(((Gt (fun x=>DN x (k2:Int) false) c.Aa.xs k3:Nat):Int):Int)<1
      ·refine Au 9 0 [1] [[o0,oF,o0,o0,oT,o0,o0,o0],[o0]] [NF ((Gt (fun x=>DN x (k2:Int) true) c.Aa.xs k3:Nat):Int) 1,BT ((((Gt (fun x=>DN x (k2:Int) false) c.Aa.xs k3:Nat):Int):Int)<1)] [(2,.bool false)] rfl ⟨nf,bt,Ae⟩ ?_
       refine Az [] [] (.bool false) Ae ?_
       intro w61 hw61
       refine⟨congrArg (fun b=>Ending.returned (Value.bool b)) (Eq.symm (?_:Ep c=false)),AB hw61⟩
       exact JG (k:=k2) (by omega) (KJ (by rw[←hy34];first | omega | (right;right;unfold J4;rw[show c.Aa.xs.length=k3 by omega];omega)))
      by_cases h62:(4:Int)<((Gt (fun x=>DN x (k2:Int) false) c.Aa.xs k3:Nat):Int)
      ·refine Au 9 0 [1] [[o0,oF,o0,o0,oF,o0,o0,o0,oT,o0],[o0]] [NF ((Gt (fun x=>DN x (k2:Int) true) c.Aa.xs k3:Nat):Int) 1,BF ((((Gt (fun x=>DN x (k2:Int) false) c.Aa.xs k3:Nat):Int):Int)<1),BT ((((Gt (fun x=>DN x (k2:Int) false) c.Aa.xs k3:Nat):Int):Int) > 4)] [(2,.bool false)] rfl ⟨nf,bf,bt,Ae⟩ ?_
       refine Az [] [] (.bool false) Ae ?_
       intro w63 hw63
       refine⟨congrArg (fun b=>Ending.returned (Value.bool b)) (Eq.symm (?_:Ep c=false)),AB hw63⟩
       exact JG (k:=k2) (by omega) (KJ (by rw[←hy34];first | omega | (right;right;unfold J4;rw[show c.Aa.xs.length=k3 by omega];omega)))
      refine Au 9 0 [0] [[o0,oF,o0,o0,oF,o0,o0,o0,oF,o0],[(ov (i6 ((k2+1:Nat):Int))),o0]] [NF ((Gt (fun x=>DN x (k2:Int) true) c.Aa.xs k3:Nat):Int) 1,BF ((((Gt (fun x=>DN x (k2:Int) false) c.Aa.xs k3:Nat):Int):Int)<1),BF ((((Gt (fun x=>DN x (k2:Int) false) c.Aa.xs k3:Nat):Int):Int) > 4),Wr ((k2:Int)+1) (((k2+1:Nat):Int))] [(1,pt z),(H5 c),(49,i6 ((k2+1:Nat):Int))] rfl ⟨nf,bf,bf,BP,Ae⟩ ?_
      refine Cc [0,1] [(Ak w),(MZ z c)] rfl rfl ?_
      refine BI [1,48,49] [(1,pt z),(H5 c),(49,i6 ((k2+1:Nat):Int))] ?_
      refine BR (fun a w' hs=>⟨c.Aj.xs.length - (k2+1),by omega,n43,(k2+1),rfl,by omega,by omega,upto hch (Wu (by rw[←hy34];omega) (by rw[←hy34];omega) (by unfold J4;rw[show c.Aa.xs.length=k3 by omega];omega) (by unfold J4;rw[show c.Aa.xs.length=k3 by omega];omega)),hs⟩)
     refine Au 9 0 [1] [[o0,oT,o0,o0,o0,o0],[o0]] [NT ((Gt (fun x=>DN x (k2:Int) true) c.Aa.xs k3:Nat):Int) 1] [(2,.bool false)] rfl ⟨nt,Ae⟩ ?_
     refine Az [] [] (.bool false) Ae ?_
     intro w64 hw64
     refine⟨congrArg (fun b=>Ending.returned (Value.bool b)) (Eq.symm (?_:Ep c=false)),AB hw64⟩
     exact JG (k:=k2) (by omega) (KJ (by rw[←hy34];first | omega | (right;right;unfold J4;rw[show c.Aa.xs.length=k3 by omega];omega)))
    refine AZ 8 0 [1] [[oF,o0,o0,(a1 2),oT,o0,o0,(a1 2),oT,o0,o0],[o0]] [EF (portOf y34) 0,Qb n25,ET y34.Kind 1,Qb n25,NT y34.Dy 0] [(2,.bool false)] rfl ⟨ef,rfl,et,rfl,nt,Ae⟩ ?_
    refine Az [] [] (.bool false) Ae ?_
    intro w65 hw65
    refine⟨congrArg (fun b=>Ending.returned (Value.bool b)) (Eq.symm (?_:Ep c=false)),AB hw65⟩
    exact JG (k:=k2) (by omega) (KJ (by rw[←hy34];first | omega | (right;right;unfold J4;rw[show c.Aa.xs.length=k3 by omega];omega)))
   refine AZ 19 0 [0] [[oF,o0,o0,(a1 2),oF,o0,o0,o0],[o0],[o0],[o0,(a1 1),o0,o0]] [EF (portOf y34) 0,Qb n25,EF y34.Kind 1,Qb z] [(1,pt z),(4,Ac k2),(6,i6 0),(7,i6 0),(H5 c),(49,Ac k2),(Kr c),(73,i6 0)] rfl ⟨ef,rfl,ef,rfl,Ae⟩ ?_
   refine D8 (fun m a w'=>∃ (n67:Nat) (k3:Nat),m=c.Aa.xs.length - k3∧n36≤n67∧(k3≤c.Aa.xs.length)∧St 106 [(1,pt z),(4,Ac k2),(Qi c k2 k3),(OU c k2 k3),(H5 c),(49,Ac k2),(Kr c),(73,Ac k3)] [] ⟨w,n67,[(Ak w),(MZ z c),(U2 n25 y34)]⟩ a w') (c.Aa.xs.length - 0) ?_ ?_
   ·intro a w' hs;exact⟨n36,0,rfl,Nat.le_refl _,Nat.zero_le _,hs⟩
   rintro m a w' ⟨n67,k3,rfl,hn66,hkk3,hs⟩
   refine(?_:G Tryd.prog 106 [(1,pt z),(4,Ac k2),(Qi c k2 k3),(OU c k2 k3),(H5 c),(49,Ac k2),(Kr c),(73,Ac k3)] [] ⟨w,n67,[(Ak w),(MZ z c),(U2 n25 y34)]⟩ _ _ _) a w' hs
   clear hs a w'
   have hsa:=VL (f:=fun x=>DN x (k2:Int) true) (B:=8) (xs:=c.Aa.xs) (fun i hi=>Pz (hp i (by omega)) _ _) k3 hkk3
   have hsb:=VL (f:=fun x=>DN x (k2:Int) false) (B:=8) (xs:=c.Aa.xs) (fun i hi=>Pz (hp i (by omega)) _ _) k3 hkk3
   refine CW ?_
   by_cases h68:(k3:Int)<(c.Aa.xs.length:Int)
   ·refine Au 14 0 [1] [[oT],[o0,o0]] [BT ((k3:Int)<(c.Aa.xs.length:Int))] [(1,pt z),(4,Ac k2),(Qi c k2 k3),(OU c k2 k3),(H5 c),(49,Ac k2),(Kr c),(73,Ac k3),(8,Ac k3)] rfl ⟨bt,Ae⟩ ?_
    obtain⟨b69,o70,ha71,hF73,hc72⟩:=(hc.Aa).1.all (show 0<c.Aa.xs.length by omega)
    replace ha71:c.Aa.a=some ⟨b69,o70,none⟩:=ha71
    have hc74:=hc72 k3 (show k3<c.Aa.xs.length by omega)
    have he75:=(hc.Aa).2 k3 (show k3<c.Aa.xs.length by omega)
    obtain⟨y76,hy76⟩:∃ y_,y_=gd c.Aa.xs k3:=⟨_,rfl⟩
    rw[←hy76]at he75 hc74
    have hqy76:=hp k3 (by omega);rw[←hy76]at hqy76;have hl1y76:=Pz hqy76 (k2:Int) true;have hl2y76:=Pz hqy76 (k2:Int) false
    refine Au 1 7 [] [[o0,o0,(EM 1 b69 o70 c.Aa),o0,(oi k3),(ol 0 (Aq.arr y76)),o0]] [Qb z,Ej b69 o70 c.Aa,Dc k3,k3<c.Aa.xs.length,BM,GN w b69 (o70+k3*8) (Aq.arr y76)] [(1,pt z),(4,Ac k2),(OU c k2 k3),(H5 c),(49,Ac k2),(Kr c),(73,Ac k3),(8,Ac k3),(76,i6 ((Gt (fun x=>DN x (k2:Int) true) c.Aa.xs k3:Nat):Int)),(81,.agg (Aq.arr y76)),(82,Ac k2)] rfl ⟨rfl,Eg ha71,rfl,(by omega),rfl,Em hc74,Ae⟩ ?_
    refine Ba 40 #[.agg (Aq.arr y76),Ac k2,.bool true] (some 83) (i6 ((DN y76 (k2:Int) true:Nat):Int)) (fun w77 hw77=>NW w77 y76 (k2:Int) true (he75.ext (hw77.ext rfl) (fun _ h=>h))) (fun n78 (hn79:n67≤n78) => ?_)
    refine AZ 3 7 [] [[(ov (i6 (((Gt (fun x=>DN x (k2:Int) true) c.Aa.xs k3)+(DN y76 (k2:Int) true):Nat):Int))),o0],[o0,o0,(EM 1 b69 o70 c.Aa),o0,(oi k3),(ol 0 (Aq.arr y76)),o0]] [Wr ((((Gt (fun x=>DN x (k2:Int) true) c.Aa.xs k3:Nat):Int):Int)+((DN y76 (k2:Int) true:Nat):Int)) ((((Gt (fun x=>DN x (k2:Int) true) c.Aa.xs k3)+(DN y76 (k2:Int) true):Nat):Int)),Qb z,Ej b69 o70 c.Aa,Dc k3,k3<c.Aa.xs.length,BM,GN w b69 (o70+k3*8) (Aq.arr y76)] [(1,pt z),(4,Ac k2),(H5 c),(49,Ac k2),(Kr c),(73,Ac k3),(Zr c k2 k3 y76),(85,i6 ((Gt (fun x=>DN x (k2:Int) false) c.Aa.xs k3:Nat):Int)),(90,.agg (Aq.arr y76)),(91,Ac k2)] rfl ⟨BP,rfl,Eg ha71,rfl,(by omega),rfl,Em hc74,Ae⟩ ?_
    refine Ba 40 #[.agg (Aq.arr y76),Ac k2,.bool false] (some 92) (i6 ((DN y76 (k2:Int) false:Nat):Int)) (fun w80 hw80=>NW w80 y76 (k2:Int) false (he75.ext (hw80.ext rfl) (fun _ h=>h))) (fun n81 (hn82:n78≤n81) => ?_)
    refine AZ 5 0 [] [[(ov (i6 (((Gt (fun x=>DN x (k2:Int) false) c.Aa.xs k3)+(DN y76 (k2:Int) false):Nat):Int))),o0],[(ov (i6 ((k3+1:Nat):Int))),o0]] [Wr ((((Gt (fun x=>DN x (k2:Int) false) c.Aa.xs k3:Nat):Int):Int)+((DN y76 (k2:Int) false:Nat):Int)) ((((Gt (fun x=>DN x (k2:Int) false) c.Aa.xs k3)+(DN y76 (k2:Int) false):Nat):Int)),Wr ((k3:Int)+1) (((k3+1:Nat):Int))] [(1,pt z),(4,Ac k2),(H5 c),(49,Ac k2),(Kr c),(73,i6 ((k3+1:Nat):Int)),(Zr c k2 k3 y76),(7,i6 (((Gt (fun x=>DN x (k2:Int) false) c.Aa.xs k3)+(DN y76 (k2:Int) false):Nat):Int))] rfl ⟨BP,BP,Ae⟩ ?_
    have hT1:=Qz (f:=fun x=>DN x (k2:Int) true) (show k3<c.Aa.xs.length by omega)
    have hT2:=Qz (f:=fun x=>DN x (k2:Int) false) (show k3<c.Aa.xs.length by omega)
    rw[←hy76]at hT1 hT2
    refine BI [1,4,6,7,48,49,72,73] [(1,pt z),(4,Ac k2),(Zr c k2 k3 y76),(7,i6 (((Gt (fun x=>DN x (k2:Int) false) c.Aa.xs k3)+(DN y76 (k2:Int) false):Nat):Int)),(H5 c),(49,Ac k2),(Kr c),(73,i6 ((k3+1:Nat):Int))] ?_
    refine BR (fun a w' hs=>⟨c.Aa.xs.length - (k3+1),by omega,n81,(k3+1),rfl,by omega,by omega,by(try dsimp only[U2,MZ,Zr,OU,Qi,PI,Kr,H5]at hs ⊢);rw[hT1,hT2];exact hs⟩)
   refine Au 11 0 [0] [[oF]] [BF ((k3:Int)<(c.Aa.xs.length:Int))] [(1,pt z),(4,Ac k2),(Qi c k2 k3),(OU c k2 k3),(H5 c),(49,Ac k2),(Kr c),(73,Ac k3),(74,.bool false)] rfl ⟨bf,Ae⟩ ?_
   by_cases h83:(((Gt (fun x=>DN x (k2:Int) true) c.Aa.xs k3:Nat):Int):Int)=1
   ·by_cases h84:(((Gt (fun x=>DN x (k2:Int) false) c.Aa.xs k3:Nat):Int):Int)<1
    ·refine Au 9 0 [1] [[o0,oF,o0,o0,oT,o0,o0,o0],[o0]] [NF ((Gt (fun x=>DN x (k2:Int) true) c.Aa.xs k3:Nat):Int) 1,BT ((((Gt (fun x=>DN x (k2:Int) false) c.Aa.xs k3:Nat):Int):Int)<1)] [(2,.bool false)] rfl ⟨nf,bt,Ae⟩ ?_
     refine Az [] [] (.bool false) Ae ?_
     intro w85 hw85
     refine⟨congrArg (fun b=>Ending.returned (Value.bool b)) (Eq.symm (?_:Ep c=false)),AB hw85⟩
     exact JG (k:=k2) (by omega) (KJ (by rw[←hy34];first | omega | (right;right;unfold J4;rw[show c.Aa.xs.length=k3 by omega];omega)))
    by_cases h86:(4:Int)<((Gt (fun x=>DN x (k2:Int) false) c.Aa.xs k3:Nat):Int)
    ·refine Au 9 0 [1] [[o0,oF,o0,o0,oF,o0,o0,o0,oT,o0],[o0]] [NF ((Gt (fun x=>DN x (k2:Int) true) c.Aa.xs k3:Nat):Int) 1,BF ((((Gt (fun x=>DN x (k2:Int) false) c.Aa.xs k3:Nat):Int):Int)<1),BT ((((Gt (fun x=>DN x (k2:Int) false) c.Aa.xs k3:Nat):Int):Int) > 4)] [(2,.bool false)] rfl ⟨nf,bf,bt,Ae⟩ ?_
     refine Az [] [] (.bool false) Ae ?_
     intro w87 hw87
     refine⟨congrArg (fun b=>Ending.returned (Value.bool b)) (Eq.symm (?_:Ep c=false)),AB hw87⟩
     exact JG (k:=k2) (by omega) (KJ (by rw[←hy34];first | omega | (right;right;unfold J4;rw[show c.Aa.xs.length=k3 by omega];omega)))
    refine Au 9 0 [0] [[o0,oF,o0,o0,oF,o0,o0,o0,oF,o0],[(ov (i6 ((k2+1:Nat):Int))),o0]] [NF ((Gt (fun x=>DN x (k2:Int) true) c.Aa.xs k3:Nat):Int) 1,BF ((((Gt (fun x=>DN x (k2:Int) false) c.Aa.xs k3:Nat):Int):Int)<1),BF ((((Gt (fun x=>DN x (k2:Int) false) c.Aa.xs k3:Nat):Int):Int) > 4),Wr ((k2:Int)+1) (((k2+1:Nat):Int))] [(1,pt z),(H5 c),(49,i6 ((k2+1:Nat):Int))] rfl ⟨nf,bf,bf,BP,Ae⟩ ?_
    refine Cc [0,1] [(Ak w),(MZ z c)] rfl rfl ?_
    refine BI [1,48,49] [(1,pt z),(H5 c),(49,i6 ((k2+1:Nat):Int))] ?_
    refine BR (fun a w' hs=>⟨c.Aj.xs.length - (k2+1),by omega,n67,(k2+1),rfl,by omega,by omega,upto hch (Wu (by rw[←hy34];omega) (by rw[←hy34];omega) (by unfold J4;rw[show c.Aa.xs.length=k3 by omega];omega) (by unfold J4;rw[show c.Aa.xs.length=k3 by omega];omega)),hs⟩)
   refine Au 9 0 [1] [[o0,oT,o0,o0,o0,o0],[o0]] [NT ((Gt (fun x=>DN x (k2:Int) true) c.Aa.xs k3:Nat):Int) 1] [(2,.bool false)] rfl ⟨nt,Ae⟩ ?_
   refine Az [] [] (.bool false) Ae ?_
   intro w88 hw88
   refine⟨congrArg (fun b=>Ending.returned (Value.bool b)) (Eq.symm (?_:Ep c=false)),AB hw88⟩
   exact JG (k:=k2) (by omega) (KJ (by rw[←hy34];first | omega | (right;right;unfold J4;rw[show c.Aa.xs.length=k3 by omega];omega)))
  refine Au 15 0 [0] [[oF],[o0]] [BF ((k2:Int)<(c.Aj.xs.length:Int))] [(2,.bool true)] rfl ⟨bf,Ae⟩ ?_
  refine Az [] [] (.bool true) Ae ?_
  intro w89 hw89
  refine⟨congrArg (fun b=>Ending.returned (Value.bool b)) (Eq.symm (?_:Ep c=true)),AB hw89⟩
  exact conf_yes (by omega) (by omega) (by omega) (fun i hi=>hp i (by omega)) (fun i hi=>hch i (by omega))
 refine Au 9 0 [1] [[o0,(a1 1),oF,o0,o0,(a1 1),oT,o0,o0,o0,o0,o0],[o0]] [Qb z,BF ((c.Kernel:Int)<0),Qb z,BT ((c.Kernel:Int)≥1024)] [(2,.bool false)] rfl ⟨rfl,bf,rfl,bt,Ae⟩ ?_
 refine Az [] [] (.bool false) Ae ?_
 intro w90 hw90
 refine⟨congrArg (fun b=>Ending.returned (Value.bool b)) (Eq.symm (?_:Ep c=false)),AB hw90⟩
 exact PL (by omega)
def CQ(p:Nat)(x:Aq)(k:Int)(b:Bool)(j:Nat):List Gs:=((List.range j).filter (fun q=>Jh k b (gd x.Ap.xs q))).map (fun(q:Nat)=>(⟨(p:Int),(q:Int)⟩:Gs))
def Dn(c:Ai)(k:Int)(b:Bool)(i:Nat):List Gs:=(List.range i).flatMap (fun p=>CQ p (gd c.Aa.xs p) k b (gd c.Aa.xs p).Ap.xs.length)
def CB(c:Ai)(k:Int)(b:Bool):List Gs:=Dn c k b c.Aa.xs.length
theorem P8{p:Nat}{x:Aq}{k:Int}{b:Bool}{j:Nat}(h:Jh k b (gd x.Ap.xs j)=true):CQ p x k b (j+1)=CQ p x k b j++[⟨(p:Int),(j:Int)⟩]:=by
 unfold CQ;rw[List.range_succ,List.filter_append,List.map_append];simp[h]
theorem Ls{p:Nat}{x:Aq}{k:Int}{b:Bool}{j:Nat}(h:Jh k b (gd x.Ap.xs j)=false):CQ p x k b (j+1)=CQ p x k b j:=by
 unfold CQ;rw[List.range_succ,List.filter_append,List.map_append];simp[h]
theorem RG{p:Nat}{x:Aq}{k:Int}{b:Bool}{j:Nat}:(CQ p x k b j).length≤j:=by
 unfold CQ;rw[List.length_map];exact Nat.le_trans (List.length_filter_le _ _) (by simp)
theorem MK{c:Ai}{k:Int}{b:Bool}{i:Nat}:Dn c k b (i+1)=Dn c k b i++CQ i (gd c.Aa.xs i) k b (gd c.Aa.xs i).Ap.xs.length:=by
 unfold Dn;rw[List.range_succ,List.flatMap_append];simp
theorem TI{c:Ai}{k:Int}{b:Bool}(hp:∀ i,i<c.Aa.xs.length→(gd c.Aa.xs i).Ap.xs.length≤8):∀ (i:Nat),i≤c.Aa.xs.length→(Dn c k b i).length≤8*i
 | 0,_=>by simp[Dn]
 | i+1,h=>by
  have h1:=TI (k:=k) (b:=b) hp i (by omega)
  have h2:=hp i (by omega)
  have h3:=RG (p:=i) (x:=gd c.Aa.xs i) (k:=k) (b:=b) (j:=(gd c.Aa.xs i).Ap.xs.length)
  rw[MK,List.length_append];omega
theorem cnt_range(xs:List EE)(p:EE→Bool):∀ (j:Nat),j≤xs.length→((List.range j).filter (fun q=>p (gd xs q))).length=(xs.take j).countP p
 | 0,_=>by simp
 | j+1,h=>by
  rw[List.range_succ,List.filter_append,List.length_append,cnt_range xs p j (by omega),take_snoc (by omega),List.countP_append]
  cases hp:p (gd xs j) <;> simp[hp]
theorem ZZ{c:Ai}{k:Int}{b:Bool}:∀ (i:Nat),i≤c.Aa.xs.length→(Dn c k b i).length=Gt (fun x=>DN x k b) c.Aa.xs i
 | 0,_=>by simp[Dn,Gt]
 | i+1,h=>by
  rw[MK,List.length_append,ZZ i (by omega),Qz (by omega)]
  congr 1
  unfold CQ DN
  rw[List.length_map,cnt_range _ _ _ (Nat.le_refl _),List.take_length]
theorem Rw(c:Ai)(k:Nat)(b:Bool):(CB c k b).length=J4 c k b:=ZZ _ (Nat.le_refl _)
section
variable (n2:Nat)(y11:Aq)(z:Nat)(c:Ai)(aD2:Option Addr)(ch:Int)(i j cD2:Nat)(aS2:Option Addr)(cS2:Nat)(aD:Option Addr)(cD:Nat)(aS:Option Addr)(cS b4:Nat)(o5 b15 o16:Nat)
abbrev G6:=bk n2 (Aq.arr y11) 35
abbrev EX:=bk z (Ai.arr c) 26
abbrev FB:=BV z 139 2 Gs.cells (.slice aD2 ((Dn c ch false i++CQ i y11 ch false j).length) cD2) (Dn c ch false i++CQ i y11 ch false j)
abbrev FD:=BV z 139 2 Gs.cells (.slice aS2 ((Dn c ch true i++CQ i y11 ch true j).length) cS2) (Dn c ch true i++CQ i y11 ch true j)
abbrev FH:=BV z 139 2 Gs.cells (.slice aD ((Dn c ch false i).length) cD) (Dn c ch false i)
abbrev Hy:=BV z 139 2 Gs.cells (.slice aS ((Dn c ch true i).length) cS) (Dn c ch true i)
abbrev FQ:D7:=(5,.slice aD2 ((Dn c ch false i++CQ i y11 ch false j).length) cD2)
abbrev FK:D7:=(4,.slice aS2 ((Dn c ch true i++CQ i y11 ch true j).length) cS2)
abbrev Fa:D7:=(11,.slice (some ⟨b4,o5,none⟩) c.Aa.xs.length c.Aa.cap)
abbrev GL:D7:=(19,.slice (some ⟨b15,o16,none⟩) y11.Ap.xs.length y11.Ap.cap)
abbrev Ey:D7:=(11,.slice c.Aa.a c.Aa.xs.length c.Aa.cap)
abbrev ER:D7:=(19,.slice y11.Ap.a y11.Ap.xs.length y11.Ap.cap)
abbrev Ew:=(12,Ac c.Aa.xs.length)
abbrev Ia:=(20,Ac y11.Ap.xs.length)
abbrev KC:D7:=(5,.slice aD ((Dn c ch false i).length) cD)
abbrev LW:=(21,i6 ((j+1:Nat):Int))
end
theorem RQ(w:World)(c:Ai)(ch:Int)(hc:Ai.ok Any w c)(hl:c.Aa.xs.length≤8)(hp:∀ i,i<c.Aa.xs.length→(gd c.Aa.xs i).Ap.xs.length≤8):Calls Tryd.prog 46 #[.agg (Ai.arr c),.int .i64 ch] w fun e w'=>∃ a1 c1 a2 c2,e = .returned (.tuple #[.slice a1 (CB c ch true).length c1,.slice a2 (CB c ch false).length c2])∧PW Gs.cells 2 (New w.heap.size) w' ⟨a1,c1,CB c ch true⟩∧PW Gs.cells 2 (New w.heap.size) w' ⟨a2,c2,CB c ch false⟩∧Ce (fun _=>False) w w':=by
 obtain⟨z,hz⟩:∃ z,z=w.heap.size:=⟨_,rfl⟩
 refine Bf (args:=[.agg (Ai.arr c),i6 ch]) 50 ⟨w,z,[(Ak w)]⟩ Tryd.func46 rfl (by kernel_rfl) (by kernel_rfl) (Ed hz) ?_
 refine Di [0,1] [(0,.agg (Ai.arr c)),(1,i6 ch)] ?_
 refine q_c 10 0 [] [[o0,o0,o0],[o0,(a1 1),o0,o0]] [Qb z] [(1,i6 ch),(4,.slice none 0 0),(5,.slice none 0 0),(Ey c),(Ew c),(13,i6 0)] ⟨w,z+1,[(Ak w),(EX z c)]⟩ rfl ⟨rfl,Ae⟩ ?_
 refine Un z 139 2 Gs.cells ?_
 refine Un z 139 2 Gs.cells ?_
 refine D8 (fun m a w'=>∃ (n2:Nat) (i:Nat) (aS:Option Addr) (cS:Nat) (aD:Option Addr) (cD:Nat),m=c.Aa.xs.length - i∧z+1≤n2∧(i≤c.Aa.xs.length)∧St 50 [(1,i6 ch),(4,.slice aS ((Dn c ch true i).length) cS),(KC c ch i aD cD),(Ey c),(Ew c),(13,Ac i)] [] ⟨w,n2,[(Ak w),(EX z c),(Hy z c ch i aS cS),(FH z c ch i aD cD)]⟩ a w') (c.Aa.xs.length - 0) ?_ ?_
 ·intro a w' hs;exact⟨(z+1),0,none,0,none,0,rfl,Nat.le_refl _,Nat.zero_le _,hs⟩
 rintro m a w' ⟨n2,i,aS,cS,aD,cD,rfl,hn1,hki,hs⟩
 refine(?_:G Tryd.prog 50 [(1,i6 ch),(4,.slice aS ((Dn c ch true i).length) cS),(KC c ch i aD cD),(Ey c),(Ew c),(13,Ac i)] [] ⟨w,n2,[(Ak w),(EX z c),(Hy z c ch i aS cS),(FH z c ch i aD cD)]⟩ _ _ _) a w' hs
 clear hs a w'
 have hq3:=TI (k:=ch) (b:=true) hp i (by omega)
 have hq4:=TI (k:=ch) (b:=false) hp i (by omega)
 refine CW ?_
 by_cases h3:(i:Int)<(c.Aa.xs.length:Int)
 ·refine Au 10 0 [1] [[oT]] [BT ((i:Int)<(c.Aa.xs.length:Int))] [(1,i6 ch),(4,.slice aS ((Dn c ch true i).length) cS),(KC c ch i aD cD),(Ey c),(Ew c),(13,Ac i),(14,.bool true)] rfl ⟨bt,Ae⟩ ?_
  obtain⟨b4,o5,ha6,hF8,hc7⟩:=(hc.Aa).1.all (show 0<c.Aa.xs.length by omega)
  replace ha6:c.Aa.a=some ⟨b4,o5,none⟩:=ha6
  refine Lj [(1,i6 ch),(4,.slice aS ((Dn c ch true i).length) cS),(KC c ch i aD cD),(Fa c b4 o5),(Ew c),(13,Ac i),(14,.bool true)] (by(try dsimp only[EX,FH,Hy,Fa,Ey,Ew,KC]);simp only[ha6]) ?_
  have hc9:=hc7 i (show i<c.Aa.xs.length by omega)
  have he10:=(hc.Aa).2 i (show i<c.Aa.xs.length by omega)
  obtain⟨y11,hy11⟩:∃ y_,y_=gd c.Aa.xs i:=⟨_,rfl⟩
  rw[←hy11]at he10 hc9
  have h8y11:=hp i (by omega);rw[←hy11]at h8y11
  refine q_c 8 0 [] [[o0,(oi i),(ol 0 (Aq.arr y11)),o0,o0,(an 8 4)],[o0,(a1 4),o0,o0]] [Dc i,i<c.Aa.xs.length,BM,GN w b4 (o5+i*8) (Aq.arr y11),Qb n2,Qb n2,Qb n2,Qb n2,Qb n2,Qb n2,Qb n2,Qb n2,Qb n2] [(1,i6 ch),(4,.slice aS ((Dn c ch true i).length) cS),(KC c ch i aD cD),(6,Ac i),(Fa c b4 o5),(Ew c),(13,Ac i),(ER y11),(Ia y11),(21,i6 0)] ⟨w,n2+1,[(Ak w),(EX z c),(Hy z c ch i aS cS),(FH z c ch i aD cD),(G6 n2 y11)]⟩ rfl ⟨rfl,(by omega),rfl,Em hc9,rfl,rfl,rfl,rfl,rfl,rfl,rfl,rfl,rfl,Ae⟩ ?_
  refine D8 (fun m a w'=>∃ (n13:Nat) (j:Nat) (aS2:Option Addr) (cS2:Nat) (aD2:Option Addr) (cD2:Nat),m=y11.Ap.xs.length - j∧n2+1≤n13∧(j≤y11.Ap.xs.length)∧St 50 [(1,i6 ch),(FK y11 c ch i j aS2 cS2),(FQ y11 c aD2 ch i j cD2),(6,Ac i),(Fa c b4 o5),(Ew c),(13,Ac i),(ER y11),(Ia y11),(21,Ac j)] [] ⟨w,n13,[(Ak w),(EX z c),(FD y11 z c ch i j aS2 cS2),(FB y11 z c aD2 ch i j cD2),(G6 n2 y11)]⟩ a w') (y11.Ap.xs.length - 0) ?_ ?_
  ·intro a w' hs;exact⟨(n2+1),0,aS,cS,aD,cD,rfl,Nat.le_refl _,Nat.zero_le _,by(try dsimp only[G6,EX,FB,FD,FH,Hy,FQ,FK,Fa,Ey,ER,Ew,Ia,KC]at hs ⊢);rw[show CQ i y11 ch true 0=[]from rfl,show CQ i y11 ch false 0=[]from rfl,List.append_nil,List.append_nil];exact hs⟩
  rintro m a w' ⟨n13,j,aS2,cS2,aD2,cD2,rfl,hn12,hkj,hs⟩
  refine(?_:G Tryd.prog 50 [(1,i6 ch),(FK y11 c ch i j aS2 cS2),(FQ y11 c aD2 ch i j cD2),(6,Ac i),(Fa c b4 o5),(Ew c),(13,Ac i),(ER y11),(Ia y11),(21,Ac j)] [] ⟨w,n13,[(Ak w),(EX z c),(FD y11 z c ch i j aS2 cS2),(FB y11 z c aD2 ch i j cD2),(G6 n2 y11)]⟩ _ _ _) a w' hs
  clear hs a w'
  have hq1:(CQ i y11 ch true j).length≤j:=RG
  have hq2:(CQ i y11 ch false j).length≤j:=RG
  refine CW ?_
  by_cases h14:(j:Int)<(y11.Ap.xs.length:Int)
  ·refine Au 10 0 [1] [[oT]] [BT ((j:Int)<(y11.Ap.xs.length:Int))] [(1,i6 ch),(FK y11 c ch i j aS2 cS2),(FQ y11 c aD2 ch i j cD2),(6,Ac i),(Fa c b4 o5),(Ew c),(13,Ac i),(ER y11),(Ia y11),(21,Ac j),(22,.bool true)] rfl ⟨bt,Ae⟩ ?_
   obtain⟨b15,o16,ha17,hF19,hc18⟩:=(he10.Ap).1.all (show 0<y11.Ap.xs.length by omega)
   replace ha17:y11.Ap.a=some ⟨b15,o16,none⟩:=ha17
   refine Lj [(1,i6 ch),(FK y11 c ch i j aS2 cS2),(FQ y11 c aD2 ch i j cD2),(6,Ac i),(Fa c b4 o5),(Ew c),(13,Ac i),(GL y11 b15 o16),(Ia y11),(21,Ac j),(22,.bool true)] (by(try dsimp only[G6,EX,FB,FD,FH,Hy,FQ,FK,Fa,GL,Ey,ER,Ew,Ia,KC]);simp only[ha17]) ?_
   have hc20:=hc18 j (show j<y11.Ap.xs.length by omega)
   have he21:=(he10.Ap).2 j (show j<y11.Ap.xs.length by omega)
   obtain⟨y22,hy22⟩:∃ y_,y_=gd y11.Ap.xs j:=⟨_,rfl⟩
   rw[←hy22]at he21 hc20
   refine q_c 5 0 [] [[o0,(oi j),(ol 0 (EE.arr y22)),o0,o0,(an 2 5)]] [Dc j,j<y11.Ap.xs.length,BM,GN w b15 (o16+j*2) (EE.arr y22),Qb n13,Qb n13] [(1,i6 ch),(FK y11 c ch i j aS2 cS2),(FQ y11 c aD2 ch i j cD2),(6,Ac i),(Fa c b4 o5),(Ew c),(13,Ac i),(GL y11 b15 o16),(Ia y11),(21,Ac j),(9,pt n13),(8,Ac j)] ⟨w,n13+1,[(Ak w),(EX z c),(FD y11 z c ch i j aS2 cS2),(FB y11 z c aD2 ch i j cD2),(G6 n2 y11),(bk n13 (EE.arr y22) 127)]⟩ rfl ⟨rfl,(by omega),rfl,Em hc20,rfl,rfl,Ae⟩ ?_
   by_cases h23:(y22.Channel:Int)=ch
   ·refine Au 8 0 [0] [[o0,(a1 5),o0,oF,o0],[o0,(a1 5),o0]] [Qb n13,NF y22.Channel ch,Qb n13] [(1,i6 ch),(FK y11 c ch i j aS2 cS2),(FQ y11 c aD2 ch i j cD2),(6,Ac i),(Fa c b4 o5),(Ew c),(13,Ac i),(GL y11 b15 o16),(Ia y11),(21,Ac j),(8,Ac j),(37,.bool y22.Source)] rfl ⟨rfl,nf,rfl,Ae⟩ ?_
    by_cases h24:y22.Source=true
    ·refine q_c 2 5 [3] [[o0,o0,o0,o0,o0]] [Value.bool y22.Source=Value.bool true] [(1,i6 ch),(FQ y11 c aD2 ch i j cD2),(6,Ac i),(Fa c b4 o5),(Ew c),(13,Ac i),(GL y11 b15 o16),(Ia y11),(21,Ac j),(40,.slice aS2 ((Dn c ch true i++CQ i y11 ch true j).length) cS2),(44,.slice (some ⟨n13+1,0,none⟩) 1 1)] ⟨w,n13+2,[(Ak w),(EX z c),(FD y11 z c ch i j aS2 cS2),(FB y11 z c aD2 ch i j cD2),(G6 n2 y11),(bk n13 (EE.arr y22) 127),(bk (n13+1) #[(Ac i),Ac j] 139)]⟩ rfl ⟨(congrArg Value.bool h24),Ae⟩ ?_
     refine PH z 2 6 (Dn c ch true i++CQ i y11 ch true j) [(⟨(i:Int),(j:Int)⟩:Gs)] Gs.cells 139 2 16 (.slice aS2 ((Dn c ch true i++CQ i y11 ch true j).length) cS2) (n13+1) 1 1 #[(Ac i),Ac j] 139 (0,0) true (some 45) (by simp only[List.length_cons,List.length_nil,List.length_append];omega) (show z≤n13+2 by omega) (fun ax25 cp26 n27 (hn28:n13+2≤n27) => ?_)
     refine AZ 6 0 [] [[o0],[(ov (i6 ((j+1:Nat):Int))),o0]] [Wr ((j:Int)+1) (((j+1:Nat):Int))] [(1,i6 ch),(FQ y11 c aD2 ch i j cD2),(6,Ac i),(Fa c b4 o5),(Ew c),(13,Ac i),(GL y11 b15 o16),(Ia y11),(LW j),(4,.slice ax25 ((Dn c ch true i++CQ i y11 ch true j++[(⟨(i:Int),(j:Int)⟩:Gs)]).length) cp26)] rfl ⟨BP,Ae⟩ ?_
     refine Cc [0,1,2,3,4] [(Ak w),(EX z c),(BV z 139 2 Gs.cells (.slice ax25 ((Dn c ch true i++CQ i y11 ch true j++[(⟨(i:Int),(j:Int)⟩:Gs)]).length) cp26) (Dn c ch true i++CQ i y11 ch true j++[(⟨(i:Int),(j:Int)⟩:Gs)])),(FB y11 z c aD2 ch i j cD2),(G6 n2 y11)] rfl rfl ?_
     have hTtrue:=P8 (p:=i) (x:=y11) (k:=ch) (b:=true) (j:=j) (by rw[←hy22];exact YE (by omega) (by revert h24;cases y22.Source <;> simp))
     have hTfalse:=Ls (p:=i) (x:=y11) (k:=ch) (b:=false) (j:=j) (by rw[←hy22];exact VQ (by revert h24;cases y22.Source <;> simp))
     refine GH [1,4,5,6,11,12,13,19,20,21] [(1,i6 ch),(4,.slice ax25 ((Dn c ch true i++CQ i y11 ch true j++[(⟨(i:Int),(j:Int)⟩:Gs)]).length) cp26),(FQ y11 c aD2 ch i j cD2),(6,Ac i),(Fa c b4 o5),(Ew c),(13,Ac i),(ER y11),(Ia y11),(LW j)] (by(try dsimp only[G6,EX,FB,FD,FH,Hy,FQ,FK,Fa,GL,Ey,ER,Ew,Ia,KC,LW]);simp only[ha17];rfl) ?_
     refine BR (fun a w' hs=>⟨y11.Ap.xs.length - (j+1),by omega,n27,(j+1),ax25,cp26,aD2,cD2,rfl,by omega,by omega,by(try dsimp only[G6,EX,FB,FD,FH,Hy,FQ,FK,Fa,GL,Ey,ER,Ew,Ia,KC,LW]at hs ⊢);rw[hTtrue,←List.append_assoc,hTfalse];exact hs⟩)
    refine q_c 2 5 [2] [[o0,o0,o0,o0,o0]] [Value.bool y22.Source=Value.bool false] [(1,i6 ch),(FK y11 c ch i j aS2 cS2),(6,Ac i),(Fa c b4 o5),(Ew c),(13,Ac i),(GL y11 b15 o16),(Ia y11),(21,Ac j),(26,.slice aD2 ((Dn c ch false i++CQ i y11 ch false j).length) cD2),(30,.slice (some ⟨n13+1,0,none⟩) 1 1)] ⟨w,n13+2,[(Ak w),(EX z c),(FD y11 z c ch i j aS2 cS2),(FB y11 z c aD2 ch i j cD2),(G6 n2 y11),(bk n13 (EE.arr y22) 127),(bk (n13+1) #[(Ac i),Ac j] 139)]⟩ rfl ⟨(congrArg Value.bool (Bool.eq_false_iff.2 h24)),Ae⟩ ?_
    refine PH z 3 6 (Dn c ch false i++CQ i y11 ch false j) [(⟨(i:Int),(j:Int)⟩:Gs)] Gs.cells 139 2 16 (.slice aD2 ((Dn c ch false i++CQ i y11 ch false j).length) cD2) (n13+1) 1 1 #[(Ac i),Ac j] 139 (0,0) true (some 31) (by simp only[List.length_cons,List.length_nil,List.length_append];omega) (show z≤n13+2 by omega) (fun ax29 cp30 n31 (hn32:n13+2≤n31) => ?_)
    refine AZ 6 0 [] [[o0],[(ov (i6 ((j+1:Nat):Int))),o0]] [Wr ((j:Int)+1) (((j+1:Nat):Int))] [(1,i6 ch),(FK y11 c ch i j aS2 cS2),(6,Ac i),(Fa c b4 o5),(Ew c),(13,Ac i),(GL y11 b15 o16),(Ia y11),(LW j),(5,.slice ax29 ((Dn c ch false i++CQ i y11 ch false j++[(⟨(i:Int),(j:Int)⟩:Gs)]).length) cp30)] rfl ⟨BP,Ae⟩ ?_
    refine Cc [0,1,2,3,4] [(Ak w),(EX z c),(FD y11 z c ch i j aS2 cS2),(BV z 139 2 Gs.cells (.slice ax29 ((Dn c ch false i++CQ i y11 ch false j++[(⟨(i:Int),(j:Int)⟩:Gs)]).length) cp30) (Dn c ch false i++CQ i y11 ch false j++[(⟨(i:Int),(j:Int)⟩:Gs)])),(G6 n2 y11)] rfl rfl ?_
    have hTtrue:=Ls (p:=i) (x:=y11) (k:=ch) (b:=true) (j:=j) (by rw[←hy22];exact VQ (by revert h24;cases y22.Source <;> simp))
    have hTfalse:=P8 (p:=i) (x:=y11) (k:=ch) (b:=false) (j:=j) (by rw[←hy22];exact YE (by omega) (by revert h24;cases y22.Source <;> simp))
    refine GH [1,4,5,6,11,12,13,19,20,21] [(1,i6 ch),(FK y11 c ch i j aS2 cS2),(5,.slice ax29 ((Dn c ch false i++CQ i y11 ch false j++[(⟨(i:Int),(j:Int)⟩:Gs)]).length) cp30),(6,Ac i),(Fa c b4 o5),(Ew c),(13,Ac i),(ER y11),(Ia y11),(LW j)] (by(try dsimp only[G6,EX,FB,FD,FH,Hy,FQ,FK,Fa,GL,Ey,ER,Ew,Ia,KC,LW]);simp only[ha17];rfl) ?_
    refine BR (fun a w' hs=>⟨y11.Ap.xs.length - (j+1),by omega,n31,(j+1),aS2,cS2,ax29,cp30,rfl,by omega,by omega,by(try dsimp only[G6,EX,FB,FD,FH,Hy,FQ,FK,Fa,GL,Ey,ER,Ew,Ia,KC,LW]at hs ⊢);rw[hTtrue,hTfalse,←List.append_assoc];exact hs⟩)
   refine Au 10 0 [1] [[o0,(a1 5),o0,oT,o0],[(ov (i6 ((j+1:Nat):Int))),o0]] [Qb n13,NT y22.Channel ch,Wr ((j:Int)+1) (((j+1:Nat):Int))] [(1,i6 ch),(FK y11 c ch i j aS2 cS2),(FQ y11 c aD2 ch i j cD2),(6,Ac i),(Fa c b4 o5),(Ew c),(13,Ac i),(GL y11 b15 o16),(Ia y11),(LW j)] rfl ⟨rfl,nt,BP,Ae⟩ ?_
   refine Cc [0,1,2,3,4] [(Ak w),(EX z c),(FD y11 z c ch i j aS2 cS2),(FB y11 z c aD2 ch i j cD2),(G6 n2 y11)] rfl rfl ?_
   have hTtrue:=Ls (p:=i) (x:=y11) (k:=ch) (b:=true) (j:=j) (by rw[←hy22];exact Xq (by omega))
   have hTfalse:=Ls (p:=i) (x:=y11) (k:=ch) (b:=false) (j:=j) (by rw[←hy22];exact Xq (by omega))
   refine GH [1,4,5,6,11,12,13,19,20,21] [(1,i6 ch),(FK y11 c ch i j aS2 cS2),(FQ y11 c aD2 ch i j cD2),(6,Ac i),(Fa c b4 o5),(Ew c),(13,Ac i),(ER y11),(Ia y11),(LW j)] (by(try dsimp only[G6,EX,FB,FD,FH,Hy,FQ,FK,Fa,GL,Ey,ER,Ew,Ia,KC,LW]);simp only[ha17];rfl) ?_
   refine BR (fun a w' hs=>⟨y11.Ap.xs.length - (j+1),by omega,(n13+1),(j+1),aS2,cS2,aD2,cD2,rfl,by omega,by omega,by(try dsimp only[G6,EX,FB,FD,FH,Hy,FQ,FK,Fa,GL,Ey,ER,Ew,Ia,KC,LW]at hs ⊢);rw[hTtrue,hTfalse];exact hs⟩)
  refine Au 13 0 [0] [[oF],[(ov (i6 ((i+1:Nat):Int))),o0]] [BF ((j:Int)<(y11.Ap.xs.length:Int)),Wr ((i:Int)+1) (((i+1:Nat):Int))] [(1,i6 ch),(FK y11 c ch i j aS2 cS2),(FQ y11 c aD2 ch i j cD2),(Fa c b4 o5),(Ew c),(13,i6 ((i+1:Nat):Int))] rfl ⟨bf,BP,Ae⟩ ?_
  refine Cc [0,1,2,3] [(Ak w),(EX z c),(FD y11 z c ch i j aS2 cS2),(FB y11 z c aD2 ch i j cD2)] rfl rfl ?_
  refine GH [1,4,5,11,12,13] [(1,i6 ch),(FK y11 c ch i j aS2 cS2),(FQ y11 c aD2 ch i j cD2),(Ey c),(Ew c),(13,i6 ((i+1:Nat):Int))] (by(try dsimp only[G6,EX,FB,FD,FH,Hy,FQ,FK,Fa,GL,Ey,ER,Ew,Ia,KC,LW]);simp only[ha6];rfl) ?_
  refine BR (fun a w' hs=>⟨c.Aa.xs.length - (i+1),by omega,n13,(i+1),aS2,cS2,aD2,cD2,rfl,by omega,by omega,by(try dsimp only[G6,EX,FB,FD,FH,Hy,FQ,FK,Fa,GL,Ey,ER,Ew,Ia,KC,LW]at hs ⊢);rw[MK,MK,←hy11,show y11.Ap.xs.length=j by omega];exact hs⟩)
 refine Au 15 0 [0] [[oF],[o0,o0,o0,o0]] [BF ((i:Int)<(c.Aa.xs.length:Int))] [(4,.slice aS ((Dn c ch true i).length) cS),(KC c ch i aD cD)] rfl ⟨bf,Ae⟩ ?_
 refine Az [] [] (.tuple #[.slice aS ((Dn c ch true i).length) cS,.slice aD ((Dn c ch false i).length) cD]) Ae ?_
 intro w33 hw33
 have e0:i=c.Aa.xs.length:=by omega
 subst e0
 refine⟨_,_,_,_,rfl,hz ▸ Tz (fun _=>rfl) (hw33.at (i:=2) rfl) (by unfold CB;omega),hz ▸ Tz (fun _=>rfl) (hw33.at (i:=3) rfl) (by unfold CB;omega),AB hw33⟩
section
variable (z:Nat)(c:Ai)(b11 o12:Nat)(b27 o28:Nat)
abbrev Nc:=bk z (Ai.arr c) 26
abbrev UQ:D7:=(30,.slice (some ⟨b11,o12,none⟩) c.Aa.xs.length c.Aa.cap)
abbrev PK:D7:=(42,.slice (some ⟨b27,o28,none⟩) c.Aj.xs.length c.Aj.cap)
abbrev PY:D7:=(30,.slice c.Aa.a c.Aa.xs.length c.Aa.cap)
abbrev QX:D7:=(42,.slice c.Aj.a c.Aj.xs.length c.Aj.cap)
abbrev NI:=(31,Ac c.Aa.xs.length)
abbrev LG:=(43,Ac c.Aj.xs.length)
end
theorem Zba(w:World)(c:Ai)(hc:Ai.ok Any w c):Calls Tryd.prog 44 #[.agg (Ai.arr c)] w fun e w'=>e = .returned (.bool (Ep c))∧Ce (fun _=>False) w w':=by
 obtain⟨z,hz⟩:∃ z,z=w.heap.size:=⟨_,rfl⟩
 refine Bf (args:=[.agg (Ai.arr c)]) 82 ⟨w,z,[(Ak w)]⟩ Tryd.func44 rfl (by kernel_rfl) (by kernel_rfl) (Ed hz) ?_
 have hlC:=hc.Aj.1.len
 refine Di [0] [(0,.agg (Ai.arr c))] ?_
 refine q_c 6 0 [] [[o0,o0]] [] [(1,pt z)] ⟨w,z+1,[(Ak w),(Nc z c)]⟩ rfl Ae ?_
 by_cases h1:(c.Kernel:Int)<0
 ·refine Au 9 0 [1] [[o0,(a1 1),oT,o0,o0,o0,o0,o0,o0],[o0]] [Qb z,BT ((c.Kernel:Int)<0)] [(2,.bool false)] rfl ⟨rfl,bt,Ae⟩ ?_
  refine Az [] [] (.bool false) Ae ?_
  intro w2 hw2
  refine⟨congrArg (fun b=>Ending.returned (Value.bool b)) (Eq.symm (?_:Ep c=false)),AB hw2⟩
  exact PL (by omega)
 by_cases h3:(c.Kernel:Int)<1024
 ·by_cases h4:(8:Int)<(c.Aa.xs.length:Int)
  ·refine Au 9 0 [1] [[o0,(a1 1),oF,o0,o0,(a1 1),oF,o0,o0,o0,(a1 1),o0,oT,o0,o0,o0],[o0]] [Qb z,BF ((c.Kernel:Int)<0),Qb z,BF ((c.Kernel:Int)≥1024),Qb z,BT ((c.Aa.xs.length:Int) > 8)] [(2,.bool false)] rfl ⟨rfl,bf,rfl,bf,rfl,bt,Ae⟩ ?_
   refine Az [] [] (.bool false) Ae ?_
   intro w5 hw5
   refine⟨congrArg (fun b=>Ending.returned (Value.bool b)) (Eq.symm (?_:Ep c=false)),AB hw5⟩
   exact PL (by omega)
  by_cases h6:(16:Int)<(c.Aj.xs.length:Int)
  ·refine Au 9 0 [1] [[o0,(a1 1),oF,o0,o0,(a1 1),oF,o0,o0,o0,(a1 1),o0,oF,o0,o0,o0,(a1 1),o0,oT,o0],[o0]] [Qb z,BF ((c.Kernel:Int)<0),Qb z,BF ((c.Kernel:Int)≥1024),Qb z,BF ((c.Aa.xs.length:Int) > 8),Qb z,BT ((c.Aj.xs.length:Int) > 16)] [(2,.bool false)] rfl ⟨rfl,bf,rfl,bf,rfl,bf,rfl,bt,Ae⟩ ?_
   refine Az [] [] (.bool false) Ae ?_
   intro w7 hw7
   refine⟨congrArg (fun b=>Ending.returned (Value.bool b)) (Eq.symm (?_:Ep c=false)),AB hw7⟩
   exact PL (by omega)
  refine Au 12 0 [0] [[o0,(a1 1),oF,o0,o0,(a1 1),oF,o0,o0,o0,(a1 1),o0,oF,o0,o0,o0,(a1 1),o0,oF,o0],[o0,(a1 1),o0,o0]] [Qb z,BF ((c.Kernel:Int)<0),Qb z,BF ((c.Kernel:Int)≥1024),Qb z,BF ((c.Aa.xs.length:Int) > 8),Qb z,BF ((c.Aj.xs.length:Int) > 16),Qb z] [(1,pt z),(PY c),(NI c),(32,i6 0)] rfl ⟨rfl,bf,rfl,bf,rfl,bf,rfl,bf,rfl,Ae⟩ ?_
  refine D8 (fun m a w'=>∃ (n9:Nat) (k:Nat),m=c.Aa.xs.length - k∧z+1≤n9∧(k≤c.Aa.xs.length)∧(∀ i,i<k→Ei c.Aj.xs.length (gd c.Aa.xs i)=true)∧St 82 [(1,pt z),(PY c),(NI c),(32,Ac k)] [] ⟨w,n9,[(Ak w),(Nc z c)]⟩ a w') (c.Aa.xs.length - 0) ?_ ?_
  ·intro a w' hs;exact⟨(z+1),0,rfl,Nat.le_refl _,Nat.zero_le _,fun i hi=>absurd hi (Nat.not_lt_zero i),hs⟩
  rintro m a w' ⟨n9,k,rfl,hn8,hkk,hp,hs⟩
  refine(?_:G Tryd.prog 82 [(1,pt z),(PY c),(NI c),(32,Ac k)] [] ⟨w,n9,[(Ak w),(Nc z c)]⟩ _ _ _) a w' hs
  clear hs a w'
  refine CW ?_
  by_cases h10:(k:Int)<(c.Aa.xs.length:Int)
  ·refine Au 10 0 [1] [[oT]] [BT ((k:Int)<(c.Aa.xs.length:Int))] [(1,pt z),(PY c),(NI c),(32,Ac k),(33,.bool true)] rfl ⟨bt,Ae⟩ ?_
   obtain⟨b11,o12,ha13,hF15,hc14⟩:=(hc.Aa).1.all (show 0<c.Aa.xs.length by omega)
   replace ha13:c.Aa.a=some ⟨b11,o12,none⟩:=ha13
   refine Lj [(1,pt z),(UQ c b11 o12),(NI c),(32,Ac k),(33,.bool true)] (by(try dsimp only[Nc,UQ,PY,NI]);simp only[ha13]) ?_
   have hc16:=hc14 k (show k<c.Aa.xs.length by omega)
   have he17:=(hc.Aa).2 k (show k<c.Aa.xs.length by omega)
   obtain⟨y18,hy18⟩:∃ y_,y_=gd c.Aa.xs k:=⟨_,rfl⟩
   rw[←hy18]at he17 hc16
   refine q_c 5 2 [] [[(oi k),(ol 0 (Aq.arr y18)),o0,(an 8 2)],[(an 7 1),(an 8 2)]] [Dc k,k<c.Aa.xs.length,BM,GN w b11 (o12+k*8) (Aq.arr y18),Qb n9,Qb n9,Qb n9,Qb n9,Qb n9,Qb n9,Qb n9,Qb n9,Qb z,Qb z,Qb z,Qb z,Qb z,Qb z,Qb z,Qb n9,Qb n9,Qb n9,Qb n9,Qb n9,Qb n9,Qb n9,Qb n9] [(1,pt z),(UQ c b11 o12),(NI c),(32,Ac k),(36,.agg (Ai.arr c)),(37,.agg (Aq.arr y18))] ⟨w,n9+1,[(Ak w),(Nc z c),(bk n9 (Aq.arr y18) 35)]⟩ rfl ⟨rfl,(by omega),rfl,Em hc16,rfl,rfl,rfl,rfl,rfl,rfl,rfl,rfl,rfl,rfl,rfl,rfl,rfl,rfl,rfl,rfl,rfl,rfl,rfl,rfl,rfl,rfl,rfl,Ae⟩ ?_
   refine Ba 77 #[.agg (Ai.arr c),.agg (Aq.arr y18)] (some 38) (.bool (Ei c.Aj.xs.length y18)) (fun w19 hw19=>Rf w19 c y18 (hc.ext (hw19.ext rfl) (fun _ h=>h)) (he17.ext (hw19.ext rfl) (fun _ h=>h))) (fun n20 (hn21:n9+1≤n20) => ?_)
   refine Dh [1,30,31,32,38] [(1,pt z),(UQ c b11 o12),(NI c),(32,Ac k),(38,.bool (Ei c.Aj.xs.length y18))] ?_
   by_cases h22:(Ei c.Aj.xs.length y18)=true
   ·refine AZ 8 0 [0] [[(ov (.bool false))],[(ov (i6 ((k+1:Nat):Int))),o0]] [Value.bool (!(Ei c.Aj.xs.length y18))=Value.bool false,Wr ((k:Int)+1) (((k+1:Nat):Int))] [(1,pt z),(UQ c b11 o12),(NI c),(32,i6 ((k+1:Nat):Int))] rfl ⟨by simp[h22],BP,Ae⟩ ?_
    refine Cc [0,1] [(Ak w),(Nc z c)] rfl rfl ?_
    refine GH [1,30,31,32] [(1,pt z),(PY c),(NI c),(32,i6 ((k+1:Nat):Int))] (by(try dsimp only[Nc,UQ,PY,NI]);simp only[ha13];rfl) ?_
    refine BR (fun a w' hs=>⟨c.Aa.xs.length - (k+1),by omega,n20,(k+1),rfl,by omega,by omega,upto hp (by rw[←hy18];exact h22),hs⟩)
   refine AZ 8 0 [1] [[(ov (.bool true))],[o0]] [Value.bool (!(Ei c.Aj.xs.length y18))=Value.bool true] [(2,.bool false)] rfl ⟨by simp[h22],Ae⟩ ?_
   refine Az [] [] (.bool false) Ae ?_
   intro w23 hw23
   refine⟨congrArg (fun b=>Ending.returned (Value.bool b)) (Eq.symm (?_:Ep c=false)),AB hw23⟩
   exact conf_no2 (k:=k) (by omega) (by rw[←hy18];exact Bool.eq_false_iff.2 h22)
  refine Au 16 0 [0] [[oF],[o0,(a1 1),o0,o0]] [BF ((k:Int)<(c.Aa.xs.length:Int)),Qb z] [(1,pt z),(QX c),(LG c),(44,i6 0)] rfl ⟨bf,rfl,Ae⟩ ?_
  refine D8 (fun m a w'=>∃ (n25:Nat) (k2:Nat),m=c.Aj.xs.length - k2∧n9≤n25∧(k2≤c.Aj.xs.length)∧(∀ i,i<k2→OT c i=true)∧St 82 [(1,pt z),(QX c),(LG c),(44,Ac k2)] [] ⟨w,n25,[(Ak w),(Nc z c)]⟩ a w') (c.Aj.xs.length - 0) ?_ ?_
  ·intro a w' hs;exact⟨n9,0,rfl,Nat.le_refl _,Nat.zero_le _,fun i hi=>absurd hi (Nat.not_lt_zero i),hs⟩
  rintro m a w' ⟨n25,k2,rfl,hn24,hkk2,hch,hs⟩
  refine(?_:G Tryd.prog 82 [(1,pt z),(QX c),(LG c),(44,Ac k2)] [] ⟨w,n25,[(Ak w),(Nc z c)]⟩ _ _ _) a w' hs
  clear hs a w'
  refine CW ?_
  by_cases h26:(k2:Int)<(c.Aj.xs.length:Int)
  ·refine Au 10 0 [1] [[oT]] [BT ((k2:Int)<(c.Aj.xs.length:Int))] [(1,pt z),(QX c),(LG c),(44,Ac k2),(45,.bool true)] rfl ⟨bt,Ae⟩ ?_
   obtain⟨b27,o28,ha29,hF31,hc30⟩:=(hc.Aj).1.all (show 0<c.Aj.xs.length by omega)
   replace ha29:c.Aj.a=some ⟨b27,o28,none⟩:=ha29
   refine Lj [(1,pt z),(PK c b27 o28),(LG c),(44,Ac k2),(45,.bool true)] (by(try dsimp only[Nc,UQ,PK,PY,QX,NI,LG]);simp only[ha29]) ?_
   have hc32:=hc30 k2 (show k2<c.Aj.xs.length by omega)
   have he33:=(hc.Aj).2 k2 (show k2<c.Aj.xs.length by omega)
   obtain⟨y34,hy34⟩:∃ y_,y_=gd c.Aj.xs k2:=⟨_,rfl⟩
   rw[←hy34]at he33 hc32
   have hsb:=NZ y34;have hsp:=Lp y34;have hec1:=Rw c k2 true;have hec2:=Rw c k2 false
   refine q_c 5 2 [] [[o0,(oi k2),(ol 0 (Be.arr y34)),o0,o0,(an 3 2)],[(an 7 1),o0]] [Dc k2,k2<c.Aj.xs.length,BM,GN w b27 (o28+k2*3) (Be.arr y34),Qb n25,Qb n25,Qb n25,Qb z,Qb z,Qb z,Qb z,Qb z,Qb z,Qb z] [(1,pt z),(PK c b27 o28),(LG c),(44,Ac k2),(6,pt n25),(50,.agg (Ai.arr c)),(51,Ac k2)] ⟨w,n25+1,[(Ak w),(Nc z c),(bk n25 (Be.arr y34) 123)]⟩ rfl ⟨rfl,(by omega),rfl,Em hc32,rfl,rfl,rfl,rfl,rfl,rfl,rfl,rfl,rfl,rfl,Ae⟩ ?_
   refine l_call [] [] 46 #[.agg (Ai.arr c),Ac k2] (some 52) Ae ?_
   intro w35 hw35
   refine(RQ w35 c (k2:Int) (hc.ext (hw35.ext rfl) (fun _ h=>h)) (by omega) (fun i hi=>O6 (hp i (by omega)))).mono ?_
   rintro e w36 ⟨ax37,cp38,ax39,cp40,rfl,hSw36,hDw36,hkw36⟩
   have hnw36:n25+1≤w36.heap.size:=Ef hw35 hkw36
   rw[hw35.size]at hSw36 hDw36
   refine⟨_,_,rfl,hw35.U1 hkw36, ?_⟩
   refine AZ 5 1 [] [[o0,o0,o0,o0,o0],[(an 3 2)]] [Qb n25,Qb n25,Qb n25] [(1,pt z),(PK c b27 o28),(LG c),(44,Ac k2),(6,pt n25),(7,.slice ax37 ((CB c (k2:Int) true).length) cp38),(8,.slice ax39 ((CB c (k2:Int) false).length) cp40),(55,.agg (Be.arr y34))] rfl ⟨rfl,rfl,rfl,Ae⟩ ?_
   refine Ba 47 #[.agg (Be.arr y34)] (some 56) (i6 (BL y34)) (fun w41 hw41=>Ql w41 y34 (he33.ext (hw41.ext rfl) (fun _ h=>h))) (fun n42 (hn43:w36.heap.size≤n42) => ?_)
   refine Dh [1,42,43,44,6,7,8,56] [(1,pt z),(PK c b27 o28),(LG c),(44,Ac k2),(6,pt n25),(7,.slice ax37 ((CB c (k2:Int) true).length) cp38),(8,.slice ax39 ((CB c (k2:Int) false).length) cp40),(56,i6 (BL y34))] ?_
   by_cases h44:(BL y34:Int)=0
   ·refine AZ 8 0 [1] [[oT,o0,o0],[o0]] [ET (BL y34) 0] [(2,.bool false)] rfl ⟨et,Ae⟩ ?_
    refine Az [] [] (.bool false) Ae ?_
    intro w45 hw45
    refine⟨congrArg (fun b=>Ending.returned (Value.bool b)) (Eq.symm (?_:Ep c=false)),AB hw45⟩
    exact JG (k:=k2) (by omega) (KJ (by rw[←hy34];first | omega | (left;exact(Lp _).1 (by omega))))
   by_cases h46:(y34.Kind:Int)=1
   ·by_cases h47:(y34.Dy:Int)=0
    ·refine AZ 6 0 [0] [[oF,o0,o0,(a1 2),oT,o0,o0,(a1 2),oF,o0,o0]] [EF (BL y34) 0,Qb n25,ET y34.Kind 1,Qb n25,NF y34.Dy 0] [(1,pt z),(PK c b27 o28),(LG c),(44,Ac k2),(7,.slice ax37 ((CB c (k2:Int) true).length) cp38),(8,.slice ax39 ((CB c (k2:Int) false).length) cp40),(67,.bool false)] rfl ⟨ef,rfl,et,rfl,nf,Ae⟩ ?_
     by_cases h48:((((CB c (k2:Int) true).length:Nat):Int):Int)=1
     ·by_cases h49:((((CB c (k2:Int) false).length:Nat):Int):Int)<1
      ·refine Au 9 0 [1] [[o0,o0,oF,o0,o0,o0,oT,o0,o0,o0],[o0]] [NF (((CB c (k2:Int) true).length:Nat):Int) 1,BT (((((CB c (k2:Int) false).length:Nat):Int):Int)<1)] [(2,.bool false)] rfl ⟨nf,bt,Ae⟩ ?_
       refine Az [] [] (.bool false) Ae ?_
       intro w50 hw50
       refine⟨congrArg (fun b=>Ending.returned (Value.bool b)) (Eq.symm (?_:Ep c=false)),AB hw50⟩
       exact JG (k:=k2) (by omega) (KJ (by rw[←hy34];first | omega | (left;exact(Lp _).1 (by omega))))
      by_cases h51:(4:Int)<(((CB c (k2:Int) false).length:Nat):Int)
      ·refine Au 9 0 [1] [[o0,o0,oF,o0,o0,o0,oF,o0,o0,o0,o0,oT,o0],[o0]] [NF (((CB c (k2:Int) true).length:Nat):Int) 1,BF (((((CB c (k2:Int) false).length:Nat):Int):Int)<1),BT (((((CB c (k2:Int) false).length:Nat):Int):Int) > 4)] [(2,.bool false)] rfl ⟨nf,bf,bt,Ae⟩ ?_
       refine Az [] [] (.bool false) Ae ?_
       intro w52 hw52
       refine⟨congrArg (fun b=>Ending.returned (Value.bool b)) (Eq.symm (?_:Ep c=false)),AB hw52⟩
       exact JG (k:=k2) (by omega) (KJ (by rw[←hy34];first | omega | (left;exact(Lp _).1 (by omega))))
      refine Au 9 0 [0] [[o0,o0,oF,o0,o0,o0,oF,o0,o0,o0,o0,oF,o0],[(ov (i6 ((k2+1:Nat):Int))),o0]] [NF (((CB c (k2:Int) true).length:Nat):Int) 1,BF (((((CB c (k2:Int) false).length:Nat):Int):Int)<1),BF (((((CB c (k2:Int) false).length:Nat):Int):Int) > 4),Wr ((k2:Int)+1) (((k2+1:Nat):Int))] [(1,pt z),(PK c b27 o28),(LG c),(44,i6 ((k2+1:Nat):Int))] rfl ⟨nf,bf,bf,BP,Ae⟩ ?_
      refine Cc [0,1] [(Ak w),(Nc z c)] rfl rfl ?_
      refine GH [1,42,43,44] [(1,pt z),(QX c),(LG c),(44,i6 ((k2+1:Nat):Int))] (by(try dsimp only[Nc,PK,PY,QX,NI,LG]);simp only[ha29];rfl) ?_
      refine BR (fun a w' hs=>⟨c.Aj.xs.length - (k2+1),by omega,n42,(k2+1),rfl,by omega,by omega,upto hch (Wu (by rw[←hy34];intro e;exact absurd (hsp.2 e) (by omega)) (by rw[←hy34];omega) (by omega) (by omega)),hs⟩)
     refine Au 9 0 [1] [[o0,o0,oT,o0,o0,o0,o0],[o0]] [NT (((CB c (k2:Int) true).length:Nat):Int) 1] [(2,.bool false)] rfl ⟨nt,Ae⟩ ?_
     refine Az [] [] (.bool false) Ae ?_
     intro w53 hw53
     refine⟨congrArg (fun b=>Ending.returned (Value.bool b)) (Eq.symm (?_:Ep c=false)),AB hw53⟩
     exact JG (k:=k2) (by omega) (KJ (by rw[←hy34];first | omega | (left;exact(Lp _).1 (by omega))))
    refine AZ 8 0 [1] [[oF,o0,o0,(a1 2),oT,o0,o0,(a1 2),oT,o0,o0],[o0]] [EF (BL y34) 0,Qb n25,ET y34.Kind 1,Qb n25,NT y34.Dy 0] [(2,.bool false)] rfl ⟨ef,rfl,et,rfl,nt,Ae⟩ ?_
    refine Az [] [] (.bool false) Ae ?_
    intro w54 hw54
    refine⟨congrArg (fun b=>Ending.returned (Value.bool b)) (Eq.symm (?_:Ep c=false)),AB hw54⟩
    exact JG (k:=k2) (by omega) (KJ (by rw[←hy34];first | omega | (left;exact(Lp _).1 (by omega))))
   refine AZ 6 0 [0] [[oF,o0,o0,(a1 2),oF,o0,o0,o0]] [EF (BL y34) 0,Qb n25,EF y34.Kind 1] [(1,pt z),(PK c b27 o28),(LG c),(44,Ac k2),(7,.slice ax37 ((CB c (k2:Int) true).length) cp38),(8,.slice ax39 ((CB c (k2:Int) false).length) cp40),(67,.bool false)] rfl ⟨ef,rfl,ef,Ae⟩ ?_
   by_cases h55:((((CB c (k2:Int) true).length:Nat):Int):Int)=1
   ·by_cases h56:((((CB c (k2:Int) false).length:Nat):Int):Int)<1
    ·refine Au 9 0 [1] [[o0,o0,oF,o0,o0,o0,oT,o0,o0,o0],[o0]] [NF (((CB c (k2:Int) true).length:Nat):Int) 1,BT (((((CB c (k2:Int) false).length:Nat):Int):Int)<1)] [(2,.bool false)] rfl ⟨nf,bt,Ae⟩ ?_
     refine Az [] [] (.bool false) Ae ?_
     intro w57 hw57
     refine⟨congrArg (fun b=>Ending.returned (Value.bool b)) (Eq.symm (?_:Ep c=false)),AB hw57⟩
     exact JG (k:=k2) (by omega) (KJ (by rw[←hy34];first | omega | (left;exact(Lp _).1 (by omega))))
    by_cases h58:(4:Int)<(((CB c (k2:Int) false).length:Nat):Int)
    ·refine Au 9 0 [1] [[o0,o0,oF,o0,o0,o0,oF,o0,o0,o0,o0,oT,o0],[o0]] [NF (((CB c (k2:Int) true).length:Nat):Int) 1,BF (((((CB c (k2:Int) false).length:Nat):Int):Int)<1),BT (((((CB c (k2:Int) false).length:Nat):Int):Int) > 4)] [(2,.bool false)] rfl ⟨nf,bf,bt,Ae⟩ ?_
     refine Az [] [] (.bool false) Ae ?_
     intro w59 hw59
     refine⟨congrArg (fun b=>Ending.returned (Value.bool b)) (Eq.symm (?_:Ep c=false)),AB hw59⟩
     exact JG (k:=k2) (by omega) (KJ (by rw[←hy34];first | omega | (left;exact(Lp _).1 (by omega))))
    refine Au 9 0 [0] [[o0,o0,oF,o0,o0,o0,oF,o0,o0,o0,o0,oF,o0],[(ov (i6 ((k2+1:Nat):Int))),o0]] [NF (((CB c (k2:Int) true).length:Nat):Int) 1,BF (((((CB c (k2:Int) false).length:Nat):Int):Int)<1),BF (((((CB c (k2:Int) false).length:Nat):Int):Int) > 4),Wr ((k2:Int)+1) (((k2+1:Nat):Int))] [(1,pt z),(PK c b27 o28),(LG c),(44,i6 ((k2+1:Nat):Int))] rfl ⟨nf,bf,bf,BP,Ae⟩ ?_
    refine Cc [0,1] [(Ak w),(Nc z c)] rfl rfl ?_
    refine GH [1,42,43,44] [(1,pt z),(QX c),(LG c),(44,i6 ((k2+1:Nat):Int))] (by(try dsimp only[Nc,PK,PY,QX,NI,LG]);simp only[ha29];rfl) ?_
    refine BR (fun a w' hs=>⟨c.Aj.xs.length - (k2+1),by omega,n42,(k2+1),rfl,by omega,by omega,upto hch (Wu (by rw[←hy34];intro e;exact absurd (hsp.2 e) (by omega)) (by rw[←hy34];omega) (by omega) (by omega)),hs⟩)
   refine Au 9 0 [1] [[o0,o0,oT,o0,o0,o0,o0],[o0]] [NT (((CB c (k2:Int) true).length:Nat):Int) 1] [(2,.bool false)] rfl ⟨nt,Ae⟩ ?_
   refine Az [] [] (.bool false) Ae ?_
   intro w60 hw60
   refine⟨congrArg (fun b=>Ending.returned (Value.bool b)) (Eq.symm (?_:Ep c=false)),AB hw60⟩
   exact JG (k:=k2) (by omega) (KJ (by rw[←hy34];first | omega | (left;exact(Lp _).1 (by omega))))
  refine Au 15 0 [0] [[oF],[o0]] [BF ((k2:Int)<(c.Aj.xs.length:Int))] [(2,.bool true)] rfl ⟨bf,Ae⟩ ?_
  refine Az [] [] (.bool true) Ae ?_
  intro w61 hw61
  refine⟨congrArg (fun b=>Ending.returned (Value.bool b)) (Eq.symm (?_:Ep c=true)),AB hw61⟩
  exact conf_yes (by omega) (by omega) (by omega) (fun i hi=>hp i (by omega)) (fun i hi=>hch i (by omega))
 refine Au 9 0 [1] [[o0,(a1 1),oF,o0,o0,(a1 1),oT,o0,o0,o0,o0,o0],[o0]] [Qb z,BF ((c.Kernel:Int)<0),Qb z,BT ((c.Kernel:Int)≥1024)] [(2,.bool false)] rfl ⟨rfl,bf,rfl,bt,Ae⟩ ?_
 refine Az [] [] (.bool false) Ae ?_
 intro w62 hw62
 refine⟨congrArg (fun b=>Ending.returned (Value.bool b)) (Eq.symm (?_:Ep c=false)),AB hw62⟩
 exact PL (by omega)
def OJ(g:CS)(n:Nat):List Nat:=(List.range n).map (fun(k:Nat)=>((g.Bl+(k:Int)) / 16).toNat)
def Gn(x:Aq)(i:Nat):List Nat:=(List.range i).flatMap (fun r=>OJ (gd x.Ah.xs r) (gd x.Ah.xs r).AO.toNat)
def KG(l:List Nat):Array Value:=((List.range 16).map (fun t=>Value.bool (l.contains t))).toArray
theorem XP(l:List Nat):(KG l).size=16:=by simp[KG]
theorem Zaf(l:List Nat){t:Nat}(h:t<16):(KG l)[t]? = some (Value.bool (l.contains t)):=by simp[KG,h]
theorem mark_push(l:List Nat)(t:Nat):KG (l++[t])=(KG l).setIfInBounds t (.bool true):=by
 apply Array.ext_getElem?
 intro i
 rw[Array.getElem?_setIfInBounds,XP]
 by_cases hi:i<16
 ·rw[Zaf _ hi,Zaf _ hi]
  by_cases e:t=i
  ·subst e;simp[hi]
  rw[if_neg e]
  simp[Ne.symm e]
 have h1:∀ l,(KG l)[i]? = none:=fun l=>Array.getElem?_eq_none (by rw[XP];omega)
 rw[h1,h1]
 by_cases e:t=i
 ·subst e;simp[hi]
 simp[e]
theorem tabsOf_succ{g:CS}{k:Nat}:OJ g (k+1)=OJ g k++[((g.Bl+(k:Int)) / 16).toNat]:=by
 unfold OJ;rw[List.range_succ,List.map_append];rfl
theorem tabsUp_succ{x:Aq}{i:Nat}:Gn x (i+1)=Gn x i++OJ (gd x.Ah.xs i) (gd x.Ah.xs i).AO.toNat:=by
 unfold Gn;rw[List.range_succ,List.flatMap_append];simp
def Jz(x:Aq):Nat:=(List.range 16).countP (fun t=>(Gn x x.Ah.xs.length).contains t)
theorem Va{p:Nat→Bool}{j:Nat}:(List.range (j+1)).countP p=(List.range j).countP p+if p j then 1 else 0:=by
 rw[List.range_succ,List.countP_append];simp[List.countP_singleton]
theorem UD(x:Aq):Jz x≤16:=Nat.le_trans List.countP_le_length (by simp)
theorem blk_row{b:Nat}{c:Array Value}{t:TypeId}{r:Bool}:RowOf (.blk b (.cells c t (0,0)) r) b 0 c:=fun w hw i v hv=>by
 have hw':w.heap[b]? = some (.cells c t (0,0)):=hw
 simp only[World.cell?,hw',Nat.zero_add];simpa using hv
section
variable (n2:Nat)(y11:CS)(z:Nat)(x:Aq)(j b4 o5:Nat)(w:World)
abbrev Qc:=bk n2 (CS.arr y11) 147
abbrev LZ:=bk z (Aq.arr x) 35
abbrev ZN:=(7,i6 ((((List.range j).countP (fun t=>(Gn x x.Ah.xs.length).contains t))+1:Nat):Int))
abbrev UH:=(7,i6 (((List.range j).countP (fun t=>(Gn x x.Ah.xs.length).contains t):Nat):Int))
abbrev O0:D7:=(11,.slice (some ⟨b4,o5,none⟩) x.Ah.xs.length x.Ah.cap)
abbrev OQ:D7:=(11,.slice x.Ah.a x.Ah.xs.length x.Ah.cap)
abbrev La:=(12,Ac x.Ah.xs.length)
abbrev RP:D7:=(30,.agg (KG (Gn x x.Ah.xs.length)))
abbrev Lc:=(3,pt (z+1))
abbrev Z5:=[(Ak w),(LZ z x),(bk (z+1) (KG (Gn x x.Ah.xs.length)) 152)]
end
theorem tables_calls(w:World)(x:Aq)(hx:Aq.ok Any w x)(hr:∀ i,i<x.Ah.xs.length→KF (gd x.Ah.xs i)=true):Calls Tryd.prog 49 #[.agg (Aq.arr x)] w fun e w'=>e = .returned (.int .i64 (Jz x:Nat))∧Ce (fun _=>False) w w':=by
 obtain⟨z,hz⟩:∃ z,z=w.heap.size:=⟨_,rfl⟩
 refine Bf (args:=[.agg (Aq.arr x)]) 39 ⟨w,z,[(Ak w)]⟩ Tryd.func49 rfl (by kernel_rfl) (by kernel_rfl) (Ed hz) ?_
 have hlR:=hx.Ah.1.len
 refine Di [0] [(0,.agg (Aq.arr x))] ?_
 refine q_c 14 0 [] [[o0,o0],[o0],[o0,(a1 1),o0,o0]] [Qb z] [(Lc z),(OQ x),(La x),(13,i6 0)] ⟨w,z+2,[(Ak w),(LZ z x),(bk (z+1) #[.bool false,.bool false,.bool false,.bool false,.bool false,.bool false,.bool false,.bool false,.bool false,.bool false,.bool false,.bool false,.bool false,.bool false,.bool false,.bool false] 152)]⟩ rfl ⟨rfl,Ae⟩ ?_
 refine D8 (fun m a w'=>∃ (n2:Nat) (i:Nat),m=x.Ah.xs.length - i∧z+2≤n2∧(i≤x.Ah.xs.length)∧St 39 [(Lc z),(OQ x),(La x),(13,Ac i)] [] ⟨w,n2,[(Ak w),(LZ z x),(bk (z+1) (KG (Gn x i)) 152)]⟩ a w') (x.Ah.xs.length - 0) ?_ ?_
 ·intro a w' hs;exact⟨(z+2),0,rfl,Nat.le_refl _,Nat.zero_le _,hs⟩
 rintro m a w' ⟨n2,i,rfl,hn1,hki,hs⟩
 refine(?_:G Tryd.prog 39 [(Lc z),(OQ x),(La x),(13,Ac i)] [] ⟨w,n2,[(Ak w),(LZ z x),(bk (z+1) (KG (Gn x i)) 152)]⟩ _ _ _) a w' hs
 clear hs a w'
 refine CW ?_
 by_cases h3:(i:Int)<(x.Ah.xs.length:Int)
 ·refine Au 10 0 [1] [[oT]] [BT ((i:Int)<(x.Ah.xs.length:Int))] [(Lc z),(OQ x),(La x),(13,Ac i),(14,.bool true)] rfl ⟨bt,Ae⟩ ?_
  obtain⟨b4,o5,ha6,hF8,hc7⟩:=(hx.Ah).1.all (show 0<x.Ah.xs.length by omega)
  replace ha6:x.Ah.a=some ⟨b4,o5,none⟩:=ha6
  refine Lj [(Lc z),(O0 x b4 o5),(La x),(13,Ac i),(14,.bool true)] (by(try dsimp only[LZ,O0,OQ,La,Lc]);simp only[ha6]) ?_
  have hc9:=hc7 i (show i<x.Ah.xs.length by omega)
  have he10:=(hx.Ah).2 i (show i<x.Ah.xs.length by omega)
  obtain⟨y11,hy11⟩:∃ y_,y_=gd x.Ah.xs i:=⟨_,rfl⟩
  rw[←hy11]at he10 hc9
  have hrg:=hr i (by omega);rw[←hy11]at hrg;unfold KF at hrg;rw[decide_eq_true_eq]at hrg
  refine q_c 8 0 [] [[(oi i),(ol 0 (CS.arr y11)),o0,(an 4 3)],[o0,(a1 3),o0]] [Dc i,i<x.Ah.xs.length,BM,GN w b4 (o5+i*4) (CS.arr y11),Qb n2,Qb n2,Qb n2,Qb n2,Qb n2] [(Lc z),(5,pt n2),(O0 x b4 o5),(La x),(13,Ac i),(18,i6 y11.AO),(19,i6 0)] ⟨w,n2+1,[(Ak w),(LZ z x),(bk (z+1) (KG (Gn x i)) 152),(Qc n2 y11)]⟩ rfl ⟨rfl,(by omega),rfl,Em hc9,rfl,rfl,rfl,rfl,rfl,Ae⟩ ?_
  refine D8 (fun m a w'=>∃ (n13:Nat) (k:Nat),m=y11.AO.toNat - k∧n2+1≤n13∧(k≤y11.AO.toNat)∧St 39 [(Lc z),(5,pt n2),(O0 x b4 o5),(La x),(13,Ac i),(18,i6 y11.AO),(19,Ac k)] [] ⟨w,n13,[(Ak w),(LZ z x),(bk (z+1) (KG (Gn x i++OJ y11 k)) 152),(Qc n2 y11)]⟩ a w') (y11.AO.toNat - 0) ?_ ?_
  ·intro a w' hs;exact⟨(n2+1),0,rfl,Nat.le_refl _,Nat.zero_le _,by(try dsimp only[Qc,LZ,O0,OQ,La,Lc]at hs ⊢);rw[show OJ y11 0=[]from rfl,List.append_nil];exact hs⟩
  rintro m a w' ⟨n13,k,rfl,hn12,hkk,hs⟩
  refine(?_:G Tryd.prog 39 [(Lc z),(5,pt n2),(O0 x b4 o5),(La x),(13,Ac i),(18,i6 y11.AO),(19,Ac k)] [] ⟨w,n13,[(Ak w),(LZ z x),(bk (z+1) (KG (Gn x i++OJ y11 k)) 152),(Qc n2 y11)]⟩ _ _ _) a w' hs
  clear hs a w'
  refine CW ?_
  by_cases h14:(k:Int)<y11.AO
  ·refine q_c 19 0 [1] [[oT],[o0,o0],[o0,(a1 3),o0,(ov (i6 (y11.Bl+(k:Int)))),(ov (i6 ((y11.Bl+(k:Int)) / 16))),(oi (((y11.Bl+(k:Int)) / 16).toNat)),(oa [.atv 2 undef])],[(ov (i6 ((k+1:Nat):Int))),o0]] [BT ((k:Int)<y11.AO),Qb n2,Wr ((y11.Bl:Int)+(k:Int)) (y11.Bl+(k:Int)),Wr (Int.tdiv (y11.Bl+(k:Int)) 16) ((y11.Bl+(k:Int)) / 16),((y11.Bl+(k:Int)) / 16:Int)=((((y11.Bl+(k:Int)) / 16).toNat:Nat):Int),((y11.Bl+(k:Int)) / 16).toNat<16,BM,BM,Qb (z+1),0+(((y11.Bl+(k:Int)) / 16).toNat)<(KG (Gn x i++OJ y11 k)).size,Wr ((k:Int)+1) (((k+1:Nat):Int))] [(Lc z),(5,pt n2),(O0 x b4 o5),(La x),(13,Ac i),(18,i6 y11.AO),(19,i6 ((k+1:Nat):Int))] ⟨w,n13,[(Ak w),(LZ z x),(Ch.blk (z+1) (.cells ((KG (Gn x i++OJ y11 k)).setIfInBounds (0+(((y11.Bl+(k:Int)) / 16).toNat)) (.bool true)) 152 (0,0)) true),(Qc n2 y11)]⟩ rfl ⟨bt,rfl,BP,congrArg (Value.int .i64) (Me (by omega) (by omega) (by omega)),(by omega),(by omega),rfl,rfl,rfl,(by rw[XP];omega),BP,Ae⟩ ?_
   refine BR (fun a w' hs=>⟨y11.AO.toNat - (k+1),by omega,n13,(k+1),rfl,by omega,by omega,by(try dsimp only[Qc,LZ,O0,OQ,La,Lc]at hs ⊢);rw[tabsOf_succ,←List.append_assoc,mark_push];simpa only[Nat.zero_add]using hs⟩)
  refine Au 13 0 [0] [[oF],[(ov (i6 ((i+1:Nat):Int))),o0]] [BF ((k:Int)<y11.AO),Wr ((i:Int)+1) (((i+1:Nat):Int))] [(Lc z),(O0 x b4 o5),(La x),(13,i6 ((i+1:Nat):Int))] rfl ⟨bf,BP,Ae⟩ ?_
  refine Cc [0,1,2] [(Ak w),(LZ z x),(bk (z+1) (KG (Gn x i++OJ y11 k)) 152)] rfl rfl ?_
  refine GH [3,11,12,13] [(Lc z),(OQ x),(La x),(13,i6 ((i+1:Nat):Int))] (by(try dsimp only[Qc,LZ,O0,OQ,La,Lc]);simp only[ha6];rfl) ?_
  refine BR (fun a w' hs=>⟨x.Ah.xs.length - (i+1),by omega,n13,(i+1),rfl,by omega,by omega,by(try dsimp only[Qc,LZ,O0,OQ,La,Lc]at hs ⊢);rw[tabsUp_succ,←hy11,show y11.AO.toNat=k by omega];exact hs⟩)
 refine Au 20 0 [0] [[oF],[o0],[⟨.row 2 (KG (Gn x i)),none⟩,o0]] [BF ((i:Int)<(x.Ah.xs.length:Int)),RowOf (bk (z+1) (KG (Gn x i)) 152) (z+1) 0 (KG (Gn x i))] [(7,i6 0),(30,.agg (KG (Gn x i))),(31,i6 0)] rfl ⟨bf,blk_row,Ae⟩ ?_
 have e0:i=x.Ah.xs.length:=by omega
 subst e0
 refine D8 (fun m a w'=>∃ (n16:Nat) (j:Nat),m=16 - j∧n2≤n16∧(j≤16)∧St 39 [(UH x j),(RP x),(31,Ac j)] [] ⟨w,n16,(Z5 z x w)⟩ a w') (16 - 0) ?_ ?_
 ·intro a w' hs;exact⟨n2,0,rfl,Nat.le_refl _,Nat.zero_le _,hs⟩
 rintro m a w' ⟨n16,j,rfl,hn15,hkj,hs⟩
 refine(?_:G Tryd.prog 39 [(UH x j),(RP x),(31,Ac j)] [] ⟨w,n16,(Z5 z x w)⟩ _ _ _) a w' hs
 clear hs a w'
 have hcl:(List.range j).countP (fun t=>(Gn x x.Ah.xs.length).contains t)≤j:=Nat.le_trans List.countP_le_length (by simp)
 refine CW ?_
 by_cases h17:(j:Int)<16
 ·refine Au 17 0 [1] [[oT],[⟨.aidx j (.bool ((Gn x x.Ah.xs.length).contains j)),none⟩,o0],[o0]] [BT ((j:Int)<16),Dc j,j<16,((KG (Gn x x.Ah.xs.length)):Array Value)[Ee 1 j]? = some (.bool ((Gn x x.Ah.xs.length).contains j))] [(UH x j),(RP x),(31,Ac j),(34,.bool ((Gn x x.Ah.xs.length).contains j))] rfl ⟨bt,rfl,(by omega),(Zaf (t:=j) _ (by omega)),Ae⟩ ?_
  by_cases h18:((Gn x x.Ah.xs.length).contains j)=true
  ·refine Au 7 0 [3] [[o0,(ov (i6 ((((List.range j).countP (fun t=>(Gn x x.Ah.xs.length).contains t))+1:Nat):Int))),o0],[(ov (i6 ((j+1:Nat):Int))),o0]] [Value.bool ((Gn x x.Ah.xs.length).contains j)=Value.bool true,Wr (((((List.range j).countP (fun t=>(Gn x x.Ah.xs.length).contains t):Nat):Int):Int)+1) (((((List.range j).countP (fun t=>(Gn x x.Ah.xs.length).contains t))+1:Nat):Int)),Wr ((j:Int)+1) (((j+1:Nat):Int))] [(ZN x j),(RP x),(31,i6 ((j+1:Nat):Int))] rfl ⟨(congrArg Value.bool h18),BP,BP,Ae⟩ ?_
   have hT:=Va (p:=fun t=>(Gn x x.Ah.xs.length).contains t) (j:=j)
   simp only[h18,if_true,if_false,Nat.add_zero]at hT
   refine BI [7,30,31] [(ZN x j),(RP x),(31,i6 ((j+1:Nat):Int))] ?_
   refine BR (fun a w' hs=>⟨16 - (j+1),by omega,n16,(j+1),rfl,by omega,by omega,by(try dsimp only[Qc,LZ,ZN,UH,O0,OQ,La,RP,Lc,Z5]at hs ⊢);rw[hT];exact hs⟩)
  refine Au 6 0 [2] [[(ov (i6 ((j+1:Nat):Int))),o0]] [Value.bool ((Gn x x.Ah.xs.length).contains j)=Value.bool false,Wr ((j:Int)+1) (((j+1:Nat):Int))] [(UH x j),(RP x),(31,i6 ((j+1:Nat):Int))] rfl ⟨(congrArg Value.bool (Bool.eq_false_iff.2 h18)),BP,Ae⟩ ?_
  have hT:=Va (p:=fun t=>(Gn x x.Ah.xs.length).contains t) (j:=j)
  simp only[(Bool.eq_false_iff.2 h18),Bool.false_eq_true,if_true,if_false,Nat.add_zero]at hT
  refine BI [7,30,31] [(UH x j),(RP x),(31,i6 ((j+1:Nat):Int))] ?_
  refine BR (fun a w' hs=>⟨16 - (j+1),by omega,n16,(j+1),rfl,by omega,by omega,by(try dsimp only[Qc,LZ,ZN,UH,O0,OQ,La,RP,Lc,Z5]at hs ⊢);rw[hT];exact hs⟩)
 refine Au 15 0 [0] [[oF],[o0,o0]] [BF ((j:Int)<16)] [(2,i6 (((List.range j).countP (fun t=>(Gn x x.Ah.xs.length).contains t):Nat):Int))] rfl ⟨bf,Ae⟩ ?_
 refine Az [] [] (i6 (((List.range j).countP (fun t=>(Gn x x.Ah.xs.length).contains t):Nat):Int)) Ae ?_
 intro w19 hw19
 refine⟨congrArg (fun n=>Ending.returned (i6 n)) (?_:((((List.range j).countP (fun t=>(Gn x x.Ah.xs.length).contains t):Nat):Int):Int)=(Jz x:Int)),AB hw19⟩
 rw[show j=16 by omega];rfl
open Go Go.RowKit Go.Proofs.YtlccogilgegnfaaDoor.Eng Go.Proofs.YtlccogilgegnfaaDoor.Mem
def CV(c:Ai)(i:Nat):Int:=c.Kernel*16+2+24*(i:Int)
def PM(c:Ai)(i:Nat):Ar:=⟨CV c i,CV c i+2,CV c i+2+17,0,⟨none,0,[]⟩⟩
def IM(c:Ai)(i:Nat):List Ar:=(List.range i).map (PM c)
theorem placesUp_succ{c:Ai}{i:Nat}:IM c (i+1)=IM c i++[PM c i]:=by unfold IM;rw[List.range_succ,List.map_append];rfl
theorem WZ{c:Ai}{i:Nat}:(IM c i).length=i:=by simp[IM]
theorem gd_map{β:Type}[Inhabited β]{f:Nat→β}{n i:Nat}(h:i<n):gd ((List.range n).map f) i=f i:=by
 rw[EW (by simpa using h)];simp
def KD(c:Ai)(k:Nat):Nat:=(CB c (k:Int) false).length
def cLen(c:Ai)(k:Nat):Int:=2+BL (gd c.Aj.xs k)+(KD c k:Int)*portOf (gd c.Aj.xs k)
def CX(c:Ai):Nat→Int
 | 0=>CV c c.Aa.xs.length
 | k+1=>CX c k+cLen c k
def IE(c:Ai)(k j:Nat):Int:=CX c k+2+BL (gd c.Aj.xs k)+(j:Int)*portOf (gd c.Aj.xs k)
def Qq(c:Ai)(k d:Nat):BH:=⟨(gd (CB c (k:Int) false) d).partition,(gd (CB c (k:Int) false) d).port,IE c k d⟩
def Fp(c:Ai)(k j:Nat):List BH:=(List.range j).map (Qq c k)
theorem X4{c:Ai}{k j:Nat}:Fp c k (j+1)=Fp c k j++[Qq c k j]:=by unfold Fp;rw[List.range_succ,List.map_append];rfl
theorem Vm{c:Ai}{k j:Nat}:(Fp c k j).length=j:=by simp[Fp]
theorem dAt_succ{c:Ai}{k j:Nat}:IE c k (j+1)=IE c k j+portOf (gd c.Aj.xs k):=by
 unfold IE;rw[show((j+1:Nat):Int)=(j:Int)+1 from by omega,Int.add_mul];omega
theorem cAt_succ{c:Ai}{k:Nat}:CX c (k+1)=IE c k (KD c k):=by unfold IE;rw[CX,cLen];omega
def JV(c:Ai)(k:Nat)(s:Sl BH):AA:=⟨CX c k,CX c k+2,(gd (CB c (k:Int) true) 0).partition,(gd (CB c (k:Int) true) 0).port,s⟩
def NQ(c:Ai):Int:=(CX c c.Aj.xs.length+16 - 1) / 16
def Ec(c:Ai):Nat→Int
 | 0=>NQ c
 | i+1=>Ec c i+1+(Jz (gd c.Aa.xs i):Int)
def FP(c:Ai)(i n:Nat):List Int:=(List.range n).map (fun(k:Nat)=>Ec c i+1+(k:Int))
theorem YM{c:Ai}{i n:Nat}:FP c i (n+1)=FP c i n++[Ec c i+1+(n:Int)]:=by unfold FP;rw[List.range_succ,List.map_append];rfl
theorem WG{c:Ai}{i n:Nat}:(FP c i n).length=n:=by simp[FP]
def GU(c:Ai)(i:Nat)(s:Sl Int):Ar:=⟨CV c i,CV c i+2,CV c i+2+17,Ec c i,s⟩
structure Fine(c:Ai):Prop where
 kn:0≤c.Kernel∧c.Kernel<1024
 pn:c.Aa.xs.length≤8
 cn:c.Aj.xs.length≤16
 parts:∀ i,i<c.Aa.xs.length→Ei c.Aj.xs.length (gd c.Aa.xs i)=true
 chans:∀ i,i<c.Aj.xs.length→OT c i=true
theorem Sz{c:Ai}(h:Ep c=true):Fine c:=by
 unfold Ep at h
 simp only[Bool.and_eq_true,decide_eq_true_eq,List.all_eq_true,List.mem_range]at h
 exact⟨h.1.1.1.1,h.1.1.1.2,h.1.1.2,fun i hi=>h.1.2 _ (by rw[EW hi];exact List.getElem_mem hi),h.2⟩
theorem Fine.Yk{c:Ai}(h:Fine c){k:Nat}(hk:k<c.Aj.xs.length):(CB c (k:Int) true).length=1∧1≤KD c k∧KD c k≤4:=by
 have:=h.chans k hk
 unfold OT at this
 simp only[Bool.and_eq_true,decide_eq_true_eq]at this
 have e1:=Rw c k true
 have e2:=Rw c k false
 unfold KD
 omega
theorem Zax{c:Ai}(h:Fine c){k:Nat}(hk:k<c.Aj.xs.length):2≤cLen c k∧cLen c k≤695:=by
 have h1:=NZ (gd c.Aj.xs k)
 have h2:=Uh (gd c.Aj.xs k)
 have h3:=h.Yk hk
 unfold cLen
 have h4:=Int.mul_nonneg (show(0:Int)≤(KD c k:Int)by omega) h2.1
 have h5:=Int.mul_le_mul (show(KD c k:Int)≤4 by omega) h2.2 h2.1 (by omega)
 omega
theorem QW{c:Ai}(h:Fine c):∀ (k:Nat),k≤c.Aj.xs.length→CV c c.Aa.xs.length≤CX c k∧CX c k≤CV c c.Aa.xs.length+695*k
 | 0,_=>by simp[CX]
 | k+1,hk=>by
  have h1:=QW h k (by omega)
  have h2:=Zax h (show k<c.Aj.xs.length by omega)
  rw[CX];omega
theorem dAt_bd{c:Ai}(h:Fine c){k j:Nat}(hk:k<c.Aj.xs.length)(hj:j≤4):CX c k≤IE c k j∧IE c k j≤CX c k+695:=by
 have h1:=NZ (gd c.Aj.xs k)
 have h2:=Uh (gd c.Aj.xs k)
 unfold IE
 have h4:=Int.mul_nonneg (show(0:Int)≤(j:Int)by omega) h2.1
 have h5:=Int.mul_le_mul (show(j:Int)≤4 by omega) h2.2 h2.1 (by omega)
 omega
theorem frame0_bd{c:Ai}(h:Fine c):0≤NQ c∧NQ c≤2000:=by
 have h1:=QW h _ (Nat.le_refl _)
 have h2:=h.kn;have h3:=h.pn;have h4:=h.cn
 unfold NQ
 unfold CV at h1
 omega
theorem RF{c:Ai}(h:Fine c):∀ (i:Nat),i≤c.Aa.xs.length→0≤Ec c i∧Ec c i≤2000+17*i
 | 0,_=>by have:=frame0_bd h;simp only[Ec];omega
 | i+1,hi=>by
  have h1:=RF h i (by omega)
  have h2:=UD (gd c.Aa.xs i)
  rw[Ec];omega
theorem gd_push{α:Type}[Inhabited α]{xs:List α}{y:α}:gd (xs++[y]) xs.length=y:=by rw[EW (by simp)];simp
theorem WM{α:Type}[Inhabited α]{xs:List α}{y:α}{q:Nat}(h:q<xs.length):gd (xs++[y]) q=gd xs q:=by
 rw[EW h,EW (by simp;omega),List.getElem_append_left h]
theorem MG{α:Type}[Inhabited α]{xs:List α}{y:α}{q:Nat}(h:q<xs.length):gd (xs.set q y) q=y:=by rw[EW (by simpa using h)];simp
theorem IZ{α:Type}[Inhabited α]{xs:List α}{y:α}{q p:Nat}(h:q≠p)(hp:p<xs.length):gd (xs.set q y) p=gd xs p:=by rw[EW (by simpa using hp),EW hp,List.getElem_set_ne h]
theorem take_set_succ{α:Type}{xs:List α}{y:α}{i:Nat}(h:i<xs.length):(xs.set i y).take (i+1)=xs.take i++[y]:=by
 rw[List.take_succ_eq_append_getElem (by simpa using h),List.getElem_set_self]
 rw[List.take_set_of_le (Nat.le_refl i)]
theorem chans_push{c:Ai}{cs:List AA}{k:Nat}(hl:cs.length=k)(h:∀ q,q<k→∃ a cp,gd cs q=JV c q ⟨a,cp,Fp c q (KD c q)⟩){y:AA}{a:Option Addr}{cp:Nat}(hy:y=JV c k ⟨a,cp,Fp c k (KD c k)⟩) :
   ∀ q,q<k+1→∃ a cp,gd (cs++[y]) q=JV c q ⟨a,cp,Fp c q (KD c q)⟩:=by
 intro q hq
 by_cases e:q=k
 · subst e;subst hl;exact⟨a,cp,by rw[gd_push];exact hy⟩
 · rw[WM (by omega)];exact h q (by omega)
structure WF(c:Ai)(L:Ha):Prop where
 bar:L.SB=c.Kernel*16
 fin:L.End=Ec c c.Aa.xs.length
 pl:L.Aa.xs.length=c.Aa.xs.length
 ps:∀ p,p<c.Aa.xs.length→∃ a cp,gd L.Aa.xs p=GU c p ⟨a,cp,FP c p (Jz (gd c.Aa.xs p))⟩
 cl:L.Aj.xs.length=c.Aj.xs.length
 cs:∀ k,k<c.Aj.xs.length→∃ a cp,gd L.Aj.xs k=JV c k ⟨a,cp,Fp c k (KD c k)⟩
end Go.Proofs.YtlccogilgegnfaaDoor.Ly
