/- Packed: Ag, La, Lb, Lc, Ld, Le, Lf, Lg, Lh. No conditions. -/
import Derived.Test.YtnjhekfgmbpmlaaDoorPy2
import Derived.WalkKit
set_option maxHeartbeats 4000000
namespace Go.Proofs.YtnjhekfgmbpmlaaDoor.Ad
open Go Go.Proofs.YtnjhekfgmbpmlaaDoor.Eng Go.Proofs.YtnjhekfgmbpmlaaDoor.Mem Go.Proofs.YtnjhekfgmbpmlaaDoor.Ly
set_option linter.unusedSimpArgs false
set_option linter.unusedVariables false
set_option maxRecDepth 100000
def Ob(c:Aj)(k n:Nat)(x:Au):List Ar:=[Ah (win x.Partition (-1) ((c.Aa.xs.length:Nat) - 1)&&win x.Ba 1 16384) 419 ⟨(k:Int),(n:Int)⟩,Ah (win x.AQ 82 16384) 420 ⟨(k:Int),(n:Int)⟩,Ah (!Ii c k x.Partition) 422 ⟨(k:Int),(n:Int)⟩]
def Gf(c:Aj)(k n:Nat):Ar:=Bc (Ob c k n (gd (ED c k).xs n))
def sumW(xs:List Au)(n:Nat):Int:=(List.range n).foldl (fun s i=>s+((gd xs i).Ba+(gd xs i).AQ)) 0
theorem Zbn(xs:List Au)(n:Nat):sumW xs (n+1)=sumW xs n+((gd xs n).Ba+(gd xs n).AQ):=by unfold sumW;rw[List.range_succ,List.foldl_append];rfl
theorem VC{l:List Ar}(h:Bc l=Bg):∀ x∈l,x=Bg:=by
 induction l with
 | nil=>intro x hx;cases hx
 | cons a r ih =>
  unfold Bc at h
  by_cases e:a=Bg
  ·rw[if_pos e]at h
   intro x hx
   rcases List.mem_cons.1 hx with rfl | hx
   ·exact e
   exact ih h x hx
  rw[if_neg e]at h;exact absurd h e
theorem WY{c:Aj}{k n:Nat}(h:Gf c k n=Bg):(1≤(gd (ED c k).xs n).Ba∧(gd (ED c k).xs n).Ba≤16384)∧(82≤(gd (ED c k).xs n).AQ∧(gd (ED c k).xs n).AQ≤16384):=by
 unfold Gf Ob at h
 have h1:=VC h _ (List.mem_cons_self ..)
 have h2:=VC h _ (List.mem_cons_of_mem _ (List.mem_cons_self ..))
 rw[UI (by decide)]at h1 h2
 rw[Bool.and_eq_true]at h1
 exact⟨EE h1.2,EE h2⟩
def Em(c:Aj)(k:Nat):Ar:=if win ((ED c k).xs.length:Nat) 1 16=false then⟨418,⟨(k:Int), -1⟩⟩else if FZ Bg (Gf c k) (ED c k).xs.length=Bg then Ah (decide (sumW (ED c k).xs (ED c k).xs.length=c.CJ)) 421 ⟨(k:Int), -1⟩else FZ Bg (Gf c k) (ED c k).xs.length
theorem TS{f:Nat→Ar}:∀ {n:Nat},(∀ a,a<n→f a=Bg)→FZ Bg f n=Bg
 | 0,_=>MR _ _
 | n+1,h=>(Qp (TS (fun a ha=>h a (by omega)))).trans (h n (by omega))
theorem Zdj{c:Aj}{k:Nat}(h:¬ win ((ED c k).xs.length:Nat) 1 16=true):Em c k=⟨418,⟨(k:Int), -1⟩⟩:=if_pos (by simpa using h)
theorem Wq{c:Aj}{k n:Nat}(h:win ((ED c k).xs.length:Nat) 1 16=true)(hf:∀ a,a<n→Gf c k a=Bg)(hn:n<(ED c k).xs.length)(hne:Gf c k n≠Bg):Em c k=Gf c k n:=by
 have h1:=Qp (TS hf)
 have h2:=L8 (k:=n+1) (by rw[h1];exact hne) (show n+1≤(ED c k).xs.length by omega)
 rw[h1]at h2
 unfold Em
 rw[if_neg (by rw[h];simp),h2,if_neg hne]
theorem YF{c:Aj}{k n:Nat}(h:win ((ED c k).xs.length:Nat) 1 16=true)(hf:∀ a,a<n→Gf c k a=Bg)(hn:n=(ED c k).xs.length):Em c k=Ah (decide (sumW (ED c k).xs n=c.CJ)) 421 ⟨(k:Int), -1⟩:=by
 subst hn
 unfold Em
 rw[if_neg (by rw[h];simp),if_pos (TS hf)]
section
variable (n46:Nat)(y24:Au)(k n:Nat)(b54 n43:Nat)(n85 b93:Nat)(n82 n125:Nat)(b133 n122:Nat)(n163 b171:Nat)(n160 b47:Nat)(b53 b32:Nat)(b86 b92:Nat)(b71 b126:Nat)(b132 b112:Nat)(b164 b170:Nat)(b150 z n15:Nat)(c:Aj)(b17 o18:Nat)(y8:Sl Au)
abbrev ZN:=bk n46 #[i6 ((Ah (win y24.Ba 1 16384) 419 ⟨(k:Int),(n:Int)⟩).e),i6 ((Ah (win y24.Ba 1 16384) 419 ⟨(k:Int),(n:Int)⟩).Ai.First),i6 ((Ah (win y24.Ba 1 16384) 419 ⟨(k:Int),(n:Int)⟩).Ai.Second),i6 ((Ah (win y24.AQ 82 16384) 420 ⟨(k:Int),(n:Int)⟩).e),i6 ((Ah (win y24.AQ 82 16384) 420 ⟨(k:Int),(n:Int)⟩).Ai.First),i6 ((Ah (win y24.AQ 82 16384) 420 ⟨(k:Int),(n:Int)⟩).Ai.Second),i6 ((Ah false 422 ⟨(k:Int),(n:Int)⟩).e),i6 ((Ah false 422 ⟨(k:Int),(n:Int)⟩).Ai.First),i6 ((Ah false 422 ⟨(k:Int),(n:Int)⟩).Ai.Second)] 73
abbrev Zv:=bk b54 #[i6 ((Ah (win y24.Ba 1 16384) 419 ⟨(k:Int),(n:Int)⟩).e),i6 ((Ah (win y24.Ba 1 16384) 419 ⟨(k:Int),(n:Int)⟩).Ai.First),i6 ((Ah (win y24.Ba 1 16384) 419 ⟨(k:Int),(n:Int)⟩).Ai.Second),i6 ((Ah (win y24.AQ 82 16384) 420 ⟨(k:Int),(n:Int)⟩).e),i6 ((Ah (win y24.AQ 82 16384) 420 ⟨(k:Int),(n:Int)⟩).Ai.First),i6 ((Ah (win y24.AQ 82 16384) 420 ⟨(k:Int),(n:Int)⟩).Ai.Second),i6 ((Ah false 422 ⟨(k:Int),(n:Int)⟩).e),i6 ((Ah false 422 ⟨(k:Int),(n:Int)⟩).Ai.First),i6 ((Ah false 422 ⟨(k:Int),(n:Int)⟩).Ai.Second)] 73
abbrev Xh:=bk n43 #[i6 ((Ah (win y24.Ba 1 16384) 419 ⟨(k:Int),(n:Int)⟩).e),i6 ((Ah (win y24.Ba 1 16384) 419 ⟨(k:Int),(n:Int)⟩).Ai.First),i6 ((Ah (win y24.Ba 1 16384) 419 ⟨(k:Int),(n:Int)⟩).Ai.Second),i6 ((Ah (win y24.AQ 82 16384) 420 ⟨(k:Int),(n:Int)⟩).e),i6 ((Ah (win y24.AQ 82 16384) 420 ⟨(k:Int),(n:Int)⟩).Ai.First),i6 ((Ah (win y24.AQ 82 16384) 420 ⟨(k:Int),(n:Int)⟩).Ai.Second),i6 ((Ah false 422 ⟨(k:Int),(n:Int)⟩).e),i6 ((Ah false 422 ⟨(k:Int),(n:Int)⟩).Ai.First),i6 ((Ah false 422 ⟨(k:Int),(n:Int)⟩).Ai.Second)] 73
abbrev Zx:=bk n85 #[i6 ((Ah (win y24.Ba 1 16384) 419 ⟨(k:Int),(n:Int)⟩).e),i6 ((Ah (win y24.Ba 1 16384) 419 ⟨(k:Int),(n:Int)⟩).Ai.First),i6 ((Ah (win y24.Ba 1 16384) 419 ⟨(k:Int),(n:Int)⟩).Ai.Second),i6 ((Ah (win y24.AQ 82 16384) 420 ⟨(k:Int),(n:Int)⟩).e),i6 ((Ah (win y24.AQ 82 16384) 420 ⟨(k:Int),(n:Int)⟩).Ai.First),i6 ((Ah (win y24.AQ 82 16384) 420 ⟨(k:Int),(n:Int)⟩).Ai.Second),i6 ((Ah true 422 ⟨(k:Int),(n:Int)⟩).e),i6 ((Ah true 422 ⟨(k:Int),(n:Int)⟩).Ai.First),i6 ((Ah true 422 ⟨(k:Int),(n:Int)⟩).Ai.Second)] 73
abbrev ZU:=bk b93 #[i6 ((Ah (win y24.Ba 1 16384) 419 ⟨(k:Int),(n:Int)⟩).e),i6 ((Ah (win y24.Ba 1 16384) 419 ⟨(k:Int),(n:Int)⟩).Ai.First),i6 ((Ah (win y24.Ba 1 16384) 419 ⟨(k:Int),(n:Int)⟩).Ai.Second),i6 ((Ah (win y24.AQ 82 16384) 420 ⟨(k:Int),(n:Int)⟩).e),i6 ((Ah (win y24.AQ 82 16384) 420 ⟨(k:Int),(n:Int)⟩).Ai.First),i6 ((Ah (win y24.AQ 82 16384) 420 ⟨(k:Int),(n:Int)⟩).Ai.Second),i6 ((Ah true 422 ⟨(k:Int),(n:Int)⟩).e),i6 ((Ah true 422 ⟨(k:Int),(n:Int)⟩).Ai.First),i6 ((Ah true 422 ⟨(k:Int),(n:Int)⟩).Ai.Second)] 73
abbrev Xx:=bk n82 #[i6 ((Ah (win y24.Ba 1 16384) 419 ⟨(k:Int),(n:Int)⟩).e),i6 ((Ah (win y24.Ba 1 16384) 419 ⟨(k:Int),(n:Int)⟩).Ai.First),i6 ((Ah (win y24.Ba 1 16384) 419 ⟨(k:Int),(n:Int)⟩).Ai.Second),i6 ((Ah (win y24.AQ 82 16384) 420 ⟨(k:Int),(n:Int)⟩).e),i6 ((Ah (win y24.AQ 82 16384) 420 ⟨(k:Int),(n:Int)⟩).Ai.First),i6 ((Ah (win y24.AQ 82 16384) 420 ⟨(k:Int),(n:Int)⟩).Ai.Second),i6 ((Ah true 422 ⟨(k:Int),(n:Int)⟩).e),i6 ((Ah true 422 ⟨(k:Int),(n:Int)⟩).Ai.First),i6 ((Ah true 422 ⟨(k:Int),(n:Int)⟩).Ai.Second)] 73
abbrev ZB:=bk n125 #[i6 ((Ah false 419 ⟨(k:Int),(n:Int)⟩).e),i6 ((Ah false 419 ⟨(k:Int),(n:Int)⟩).Ai.First),i6 ((Ah false 419 ⟨(k:Int),(n:Int)⟩).Ai.Second),i6 ((Ah (win y24.AQ 82 16384) 420 ⟨(k:Int),(n:Int)⟩).e),i6 ((Ah (win y24.AQ 82 16384) 420 ⟨(k:Int),(n:Int)⟩).Ai.First),i6 ((Ah (win y24.AQ 82 16384) 420 ⟨(k:Int),(n:Int)⟩).Ai.Second),i6 ((Ah false 422 ⟨(k:Int),(n:Int)⟩).e),i6 ((Ah false 422 ⟨(k:Int),(n:Int)⟩).Ai.First),i6 ((Ah false 422 ⟨(k:Int),(n:Int)⟩).Ai.Second)] 73
abbrev ZH:=bk b133 #[i6 ((Ah false 419 ⟨(k:Int),(n:Int)⟩).e),i6 ((Ah false 419 ⟨(k:Int),(n:Int)⟩).Ai.First),i6 ((Ah false 419 ⟨(k:Int),(n:Int)⟩).Ai.Second),i6 ((Ah (win y24.AQ 82 16384) 420 ⟨(k:Int),(n:Int)⟩).e),i6 ((Ah (win y24.AQ 82 16384) 420 ⟨(k:Int),(n:Int)⟩).Ai.First),i6 ((Ah (win y24.AQ 82 16384) 420 ⟨(k:Int),(n:Int)⟩).Ai.Second),i6 ((Ah false 422 ⟨(k:Int),(n:Int)⟩).e),i6 ((Ah false 422 ⟨(k:Int),(n:Int)⟩).Ai.First),i6 ((Ah false 422 ⟨(k:Int),(n:Int)⟩).Ai.Second)] 73
abbrev XM:=bk n122 #[i6 ((Ah false 419 ⟨(k:Int),(n:Int)⟩).e),i6 ((Ah false 419 ⟨(k:Int),(n:Int)⟩).Ai.First),i6 ((Ah false 419 ⟨(k:Int),(n:Int)⟩).Ai.Second),i6 ((Ah (win y24.AQ 82 16384) 420 ⟨(k:Int),(n:Int)⟩).e),i6 ((Ah (win y24.AQ 82 16384) 420 ⟨(k:Int),(n:Int)⟩).Ai.First),i6 ((Ah (win y24.AQ 82 16384) 420 ⟨(k:Int),(n:Int)⟩).Ai.Second),i6 ((Ah false 422 ⟨(k:Int),(n:Int)⟩).e),i6 ((Ah false 422 ⟨(k:Int),(n:Int)⟩).Ai.First),i6 ((Ah false 422 ⟨(k:Int),(n:Int)⟩).Ai.Second)] 73
abbrev ZZ:=bk n163 #[i6 ((Ah false 419 ⟨(k:Int),(n:Int)⟩).e),i6 ((Ah false 419 ⟨(k:Int),(n:Int)⟩).Ai.First),i6 ((Ah false 419 ⟨(k:Int),(n:Int)⟩).Ai.Second),i6 ((Ah (win y24.AQ 82 16384) 420 ⟨(k:Int),(n:Int)⟩).e),i6 ((Ah (win y24.AQ 82 16384) 420 ⟨(k:Int),(n:Int)⟩).Ai.First),i6 ((Ah (win y24.AQ 82 16384) 420 ⟨(k:Int),(n:Int)⟩).Ai.Second),i6 ((Ah true 422 ⟨(k:Int),(n:Int)⟩).e),i6 ((Ah true 422 ⟨(k:Int),(n:Int)⟩).Ai.First),i6 ((Ah true 422 ⟨(k:Int),(n:Int)⟩).Ai.Second)] 73
abbrev XT:=bk b171 #[i6 ((Ah false 419 ⟨(k:Int),(n:Int)⟩).e),i6 ((Ah false 419 ⟨(k:Int),(n:Int)⟩).Ai.First),i6 ((Ah false 419 ⟨(k:Int),(n:Int)⟩).Ai.Second),i6 ((Ah (win y24.AQ 82 16384) 420 ⟨(k:Int),(n:Int)⟩).e),i6 ((Ah (win y24.AQ 82 16384) 420 ⟨(k:Int),(n:Int)⟩).Ai.First),i6 ((Ah (win y24.AQ 82 16384) 420 ⟨(k:Int),(n:Int)⟩).Ai.Second),i6 ((Ah true 422 ⟨(k:Int),(n:Int)⟩).e),i6 ((Ah true 422 ⟨(k:Int),(n:Int)⟩).Ai.First),i6 ((Ah true 422 ⟨(k:Int),(n:Int)⟩).Ai.Second)] 73
abbrev VK:=bk n160 #[i6 ((Ah false 419 ⟨(k:Int),(n:Int)⟩).e),i6 ((Ah false 419 ⟨(k:Int),(n:Int)⟩).Ai.First),i6 ((Ah false 419 ⟨(k:Int),(n:Int)⟩).Ai.Second),i6 ((Ah (win y24.AQ 82 16384) 420 ⟨(k:Int),(n:Int)⟩).e),i6 ((Ah (win y24.AQ 82 16384) 420 ⟨(k:Int),(n:Int)⟩).Ai.First),i6 ((Ah (win y24.AQ 82 16384) 420 ⟨(k:Int),(n:Int)⟩).Ai.Second),i6 ((Ah true 422 ⟨(k:Int),(n:Int)⟩).e),i6 ((Ah true 422 ⟨(k:Int),(n:Int)⟩).Ai.First),i6 ((Ah true 422 ⟨(k:Int),(n:Int)⟩).Ai.Second)] 73
abbrev Zan:Ch:= .blk b47 (.cells (Ar.arr (Bc [(Ah (win y24.Ba 1 16384) 419 ⟨(k:Int),(n:Int)⟩),(Ah (win y24.AQ 82 16384) 420 ⟨(k:Int),(n:Int)⟩),(Ah false 422 ⟨(k:Int),(n:Int)⟩)])) 73 (0,0)) true
abbrev ZaI:Ch:= .blk b53 (.cells (Ar.arr (Bc [(Ah (win y24.Ba 1 16384) 419 ⟨(k:Int),(n:Int)⟩),(Ah (win y24.AQ 82 16384) 420 ⟨(k:Int),(n:Int)⟩),(Ah false 422 ⟨(k:Int),(n:Int)⟩)])) 73 (0,0)) true
abbrev Zay:Ch:= .blk b32 (.cells (Ar.arr (Bc [(Ah (win y24.Ba 1 16384) 419 ⟨(k:Int),(n:Int)⟩),(Ah (win y24.AQ 82 16384) 420 ⟨(k:Int),(n:Int)⟩),(Ah false 422 ⟨(k:Int),(n:Int)⟩)])) 73 (0,0)) true
abbrev Zaj:Ch:= .blk b86 (.cells (Ar.arr (Bc [(Ah (win y24.Ba 1 16384) 419 ⟨(k:Int),(n:Int)⟩),(Ah (win y24.AQ 82 16384) 420 ⟨(k:Int),(n:Int)⟩),(Ah true 422 ⟨(k:Int),(n:Int)⟩)])) 73 (0,0)) true
abbrev Zau:Ch:= .blk b92 (.cells (Ar.arr (Bc [(Ah (win y24.Ba 1 16384) 419 ⟨(k:Int),(n:Int)⟩),(Ah (win y24.AQ 82 16384) 420 ⟨(k:Int),(n:Int)⟩),(Ah true 422 ⟨(k:Int),(n:Int)⟩)])) 73 (0,0)) true
abbrev ZaL:Ch:= .blk b71 (.cells (Ar.arr (Bc [(Ah (win y24.Ba 1 16384) 419 ⟨(k:Int),(n:Int)⟩),(Ah (win y24.AQ 82 16384) 420 ⟨(k:Int),(n:Int)⟩),(Ah true 422 ⟨(k:Int),(n:Int)⟩)])) 73 (0,0)) true
abbrev Zas:Ch:= .blk b126 (.cells (Ar.arr (Bc [(Ah false 419 ⟨(k:Int),(n:Int)⟩),(Ah (win y24.AQ 82 16384) 420 ⟨(k:Int),(n:Int)⟩),(Ah false 422 ⟨(k:Int),(n:Int)⟩)])) 73 (0,0)) true
abbrev ZaM:Ch:= .blk b132 (.cells (Ar.arr (Bc [(Ah false 419 ⟨(k:Int),(n:Int)⟩),(Ah (win y24.AQ 82 16384) 420 ⟨(k:Int),(n:Int)⟩),(Ah false 422 ⟨(k:Int),(n:Int)⟩)])) 73 (0,0)) true
abbrev Zbf:Ch:= .blk b112 (.cells (Ar.arr (Bc [(Ah false 419 ⟨(k:Int),(n:Int)⟩),(Ah (win y24.AQ 82 16384) 420 ⟨(k:Int),(n:Int)⟩),(Ah false 422 ⟨(k:Int),(n:Int)⟩)])) 73 (0,0)) true
abbrev Zaq:Ch:= .blk b164 (.cells (Ar.arr (Bc [(Ah false 419 ⟨(k:Int),(n:Int)⟩),(Ah (win y24.AQ 82 16384) 420 ⟨(k:Int),(n:Int)⟩),(Ah true 422 ⟨(k:Int),(n:Int)⟩)])) 73 (0,0)) true
abbrev ZaZ:Ch:= .blk b170 (.cells (Ar.arr (Bc [(Ah false 419 ⟨(k:Int),(n:Int)⟩),(Ah (win y24.AQ 82 16384) 420 ⟨(k:Int),(n:Int)⟩),(Ah true 422 ⟨(k:Int),(n:Int)⟩)])) 73 (0,0)) true
abbrev ZaH:Ch:= .blk b150 (.cells (Ar.arr (Bc [(Ah false 419 ⟨(k:Int),(n:Int)⟩),(Ah (win y24.AQ 82 16384) 420 ⟨(k:Int),(n:Int)⟩),(Ah true 422 ⟨(k:Int),(n:Int)⟩)])) 73 (0,0)) true
abbrev Cm:=bk (z+1) #[i6 0,i6 0,i6 0] 73
abbrev CG:=bk n15 (Au.arr y24) 44
abbrev Cc:=bk z (Aj.arr c) 26
abbrev Rh:DJ:=(65,.agg (Ar.arr (Bc [(Ah (win y24.Ba 1 16384) 419 ⟨(k:Int),(n:Int)⟩),(Ah (win y24.AQ 82 16384) 420 ⟨(k:Int),(n:Int)⟩),(Ah false 422 ⟨(k:Int),(n:Int)⟩)])))
abbrev QF:DJ:=(65,.agg (Ar.arr (Bc [(Ah (win y24.Ba 1 16384) 419 ⟨(k:Int),(n:Int)⟩),(Ah (win y24.AQ 82 16384) 420 ⟨(k:Int),(n:Int)⟩),(Ah true 422 ⟨(k:Int),(n:Int)⟩)])))
abbrev QP:DJ:=(65,.agg (Ar.arr (Bc [(Ah false 419 ⟨(k:Int),(n:Int)⟩),(Ah (win y24.AQ 82 16384) 420 ⟨(k:Int),(n:Int)⟩),(Ah false 422 ⟨(k:Int),(n:Int)⟩)])))
abbrev QX:DJ:=(65,.agg (Ar.arr (Bc [(Ah false 419 ⟨(k:Int),(n:Int)⟩),(Ah (win y24.AQ 82 16384) 420 ⟨(k:Int),(n:Int)⟩),(Ah true 422 ⟨(k:Int),(n:Int)⟩)])))
abbrev QJ:DJ:=(46,.agg (Ar.arr (Ah (win y24.Ba 1 16384) 419 ⟨(k:Int),(n:Int)⟩)))
abbrev KY:DJ:=(53,.agg (Ar.arr (Ah (win y24.AQ 82 16384) 420 ⟨(k:Int),(n:Int)⟩)))
abbrev PH:DJ:=(63,.agg (Ar.arr (Ah false 422 ⟨(k:Int),(n:Int)⟩)))
abbrev Rn:DJ:=(46,.agg (Ar.arr (Ah false 419 ⟨(k:Int),(n:Int)⟩)))
abbrev Rt:DJ:=(63,.agg (Ar.arr (Ah true 422 ⟨(k:Int),(n:Int)⟩)))
abbrev Ri:=(36,i6 ((c.Aa.xs.length:Int) - 1))
abbrev BX:DJ:=(24,.slice (some ⟨b17,o18,none⟩) y8.xs.length y8.cap)
abbrev BM:=(25,Ac y8.xs.length)
abbrev BA:=(4,pt (z+1))
abbrev Nj:DJ:=(24,.slice y8.a y8.xs.length y8.cap)
abbrev BU:=(5,i6 (sumW (ED c k).xs n))
abbrev BZ:=(7,pt n15)
end
theorem core_calls(w:World)(hL:JM w)(c:Aj)(hc:Aj.ok Any w c)(k:Nat)(hk:k<c.Aq.xs.length):Calls Tryd.prog 52 #[.agg (Aj.arr c),.int .i64 (k:Int)] w fun e w'=>e = .returned (.agg (Ar.arr (Em c k)))∧CP (fun _=>False) w w':=by
 obtain⟨z,hz⟩:∃ z,z=w.heap.size:=⟨_,rfl⟩
 refine CE (args:=[.agg (Aj.arr c),Ac k]) 85 ⟨w,z,[(Ak w)]⟩ Tryd.func52 rfl (by kernel_rfl) (by kernel_rfl) (Ep hz) ?_
 have hpl:=hc.Aq.1.len;have hpp:=hc.Aa.1.len
 refine DC [0,1] [(0,.agg (Aj.arr c)),(1,Ac k)] ?_
 refine q_c 6 0 [] [[o0,o0]] [] [(1,Ac k),(2,pt z),(BA z)] ⟨w,z+2,[(Ak w),(Cc z c),(Cm z)]⟩ rfl Ae ?_
 obtain⟨b1,o2,ha3,hF5,hc4⟩:=(hc.Aq).1.all (show 0<c.Aq.xs.length by omega)
 replace ha3:c.Aq.a=some ⟨b1,o2,none⟩:=ha3
 have hc6:=hc4 k (show k<c.Aq.xs.length by omega)
 have he7:=(hc.Aq).2 k (show k<c.Aq.xs.length by omega)
 obtain⟨y8,hy8⟩:∃ y_,y_=gd c.Aq.xs k:=⟨_,rfl⟩
 rw[←hy8]at he7 hc6
 have hyly8:=he7.1.len
 refine Az 1 6 [] [[o0,(DN 1 b1 o2 c.Aq),o0,(oi k),(oa [.via 0 (.slice y8.a y8.xs.length y8.cap)]),o0]] [Qb z,Dh b1 o2 c.Aq,Ci k,k<c.Aq.xs.length,BN,Old w b1 (o2+k) (.slice y8.a y8.xs.length y8.cap)] [(1,Ac k),(2,pt z),(BA z),(14,Ac y8.xs.length)] rfl ⟨rfl,Df ha3,rfl,(by omega),rfl,A7 (hc6 0 _ rfl),Ae⟩ ?_
 refine Bf 42 #[(Ac y8.xs.length),i6 1,i6 16] (some 15) (.bool (win (y8.xs.length:Int) 1 16)) (fun w9 hw9=>Cj w9 (y8.xs.length:Int) 1 16) (fun n10 (hn11:z+2≤n10) => ?_)
 refine Dc [1,2,4,15] [(1,Ac k),(2,pt z),(BA z),(15,.bool (win (y8.xs.length:Int) 1 16))] ?_
 by_cases h12:(win (y8.xs.length:Int) 1 16)=true
 ·have hd13:=EE h12
  refine BP 15 0 [0] [[(ov (.bool false))],[o0],[o0,(DN 1 b1 o2 c.Aq),o0,(oi k),(oa [.via 0 (.slice y8.a y8.xs.length y8.cap)]),o0,o0]] [Value.bool (!(win (y8.xs.length:Int) 1 16))=Value.bool false,Qb z,Dh b1 o2 c.Aq,Ci k,k<c.Aq.xs.length,BN,Old w b1 (o2+k) (.slice y8.a y8.xs.length y8.cap)] [(1,Ac k),(2,pt z),(BA z),(5,i6 0),(Nj y8),(BM y8),(26,i6 0)] rfl ⟨by simp[h12],rfl,Df ha3,rfl,(by omega),rfl,A7 (hc6 0 _ rfl),Ae⟩ ?_
  refine Di (fun m a w'=>∃ (n15:Nat) (n:Nat),m=y8.xs.length - n∧n10≤n15∧(n≤y8.xs.length)∧(∀ a,a<n→Gf c k a=Bg)∧(0≤sumW (ED c k).xs n∧sumW (ED c k).xs n≤n*32768)∧St 85 [(1,Ac k),(2,pt z),(BA z),(BU k n c),(Nj y8),(BM y8),(26,Ac n)] [] ⟨w,n15,[(Ak w),(Cc z c),(Cm z)]⟩ a w') (y8.xs.length - 0) ?_ ?_
  ·intro a w' hs;exact⟨n10,0,rfl,Nat.le_refl _,Nat.zero_le _,fun i hi=>absurd hi (Nat.not_lt_zero i),by simp[sumW],hs⟩
  rintro m a w' ⟨n15,n,rfl,hn14,hkn,hf,hsu,hs⟩
  refine(?_:G Tryd.prog 85 [(1,Ac k),(2,pt z),(BA z),(BU k n c),(Nj y8),(BM y8),(26,Ac n)] [] ⟨w,n15,[(Ak w),(Cc z c),(Cm z)]⟩ _ _ _) a w' hs
  clear hs a w'
  refine Ce ?_
  by_cases h16:(n:Int)<(y8.xs.length:Int)
  ·refine Az 10 0 [1] [[oT]] [BT ((n:Int)<(y8.xs.length:Int))] [(1,Ac k),(2,pt z),(BA z),(BU k n c),(Nj y8),(BM y8),(26,Ac n),(27,.bool true)] rfl ⟨bt,Ae⟩ ?_
   obtain⟨b17,o18,ha19,hF21,hc20⟩:=(he7).1.all (show 0<y8.xs.length by omega)
   replace ha19:y8.a=some ⟨b17,o18,none⟩:=ha19
   refine MQ [(1,Ac k),(2,pt z),(BA z),(BU k n c),(BX b17 o18 y8),(BM y8),(26,Ac n),(27,.bool true)] (by(try dsimp only[Cm,Cc,BX,BM,BA,Nj,BU]);simp only[ha19]) ?_
   have hc22:=hc20 n (show n<y8.xs.length by omega)
   have he23:=(he7).2 n (show n<y8.xs.length by omega)
   obtain⟨y24,hy24⟩:∃ y_,y_=gd y8.xs n:=⟨_,rfl⟩
   rw[←hy24]at he23 hc22
   refine q_c 3 0 [] [[o0,(oi n),(ol 0 (Au.arr y24)),o0,o0,(an 3 3)]] [Ci n,n<y8.xs.length,BN,Fa w b17 (o18+n*3) (Au.arr y24),Qb n15,Qb n15,Qb n15] [(1,Ac k),(2,pt z),(BA z),(BU k n c),(BX b17 o18 y8),(BM y8),(26,Ac n),(BZ n15),(6,Ac n)] ⟨w,n15+1,[(Ak w),(Cc z c),(Cm z),(CG y24 n15)]⟩ rfl ⟨rfl,(by omega),rfl,Dt hc22,rfl,rfl,rfl,Ae⟩ ?_
   refine WI (fun a w'=>∃ (n25:Nat) (b8:Nat),n15+1≤n25∧St 85 [(1,Ac k),(2,pt z),(BA z),(BU k n c),(BZ n15),(8,pt b8),(BX b17 o18 y8),(BM y8),(26,Ac n)] [] ⟨w,n25,[(Ak w),(Cc z c),(Cm z),(CG y24 n15),(bk b8 (Ar.arr (Gf c k n)) 73)]⟩ a w') ?_ ?_
   ·by_cases h27:(win y24.Partition (-1) ((c.Aa.xs.length:Int) - 1))=true
    ·have hd28:=EE h27
     by_cases h29:(Ii c k y24.Partition)=true
     ·refine Eh 36 [0,1,2,3] [(Ak w),(Cc z c),(Cm z),(CG y24 n15)] rfl rfl ?_
      refine Dj [(0,o0),(1,(a1 3)),(2,o0),(3,(a1 1)),(4,o0),(5,(ov (i6 ((c.Aa.xs.length:Int) - 1)))),(12,o0),(13,o0),(16,o0),(17,(a1 3)),(19,o0),(20,o0),(23,(an 7 1)),(24,o0),(25,o0),(26,(a1 3)),(29,o0),(30,o0)] [1,2,4,5,24,25,26,7,32,36,43,44,48,50,51,54,55,57,60,61] [Qb n15,Qb z,Wr ((c.Aa.xs.length:Int) - 1) ((c.Aa.xs.length:Int) - 1),Qb n15,Qb z,Qb z,Qb z,Qb z,Qb z,Qb z,Qb z,Qb n15] [true,true,true,true,true,true,false,false,false,false,false,false,true,true,false,false,true,true,false,true,true,false,false,true,true,true,true,false,false,true,true,false,false,false,false,false,false] [(1,Ac k),(2,pt z),(BA z),(BU k n c),(BX b17 o18 y8),(BM y8),(26,Ac n),(BZ n15),(32,i6 y24.Partition),(Ri c),(43,Ac k),(44,Ac n),(48,i6 y24.AQ),(50,Ac k),(51,Ac n),(54,.agg (Aj.arr c)),(55,Ac k),(57,i6 y24.Partition),(60,Ac k),(61,Ac n)] ⟨rfl,rfl,BQ,rfl,rfl,rfl,rfl,rfl,rfl,rfl,rfl,rfl,Ae⟩ ?_
      refine Qx (fun x:{p:Nat×Nat×Nat // n15+1≤p.1∧n15+1≤p.2.1∧n15+1≤p.2.2}=>([(1,Ac k),(2,pt z),(BA z),(BU k n c),(BX b17 o18 y8),(BM y8),(26,Ac n),(BZ n15),(8,pt x.1.2.2)],⟨w,x.1.1,[(Ak w),(Cc z c),(Cm z),(CG y24 n15),(.blk x.1.2.1 (.cells #[i6 ((Ah (win y24.Ba 1 16384) 419 ⟨(k:Int),(n:Int)⟩).e),i6 ((Ah (win y24.Ba 1 16384) 419 ⟨(k:Int),(n:Int)⟩).Ai.First),i6 ((Ah (win y24.Ba 1 16384) 419 ⟨(k:Int),(n:Int)⟩).Ai.Second),i6 ((Ah (win y24.AQ 82 16384) 420 ⟨(k:Int),(n:Int)⟩).e),i6 ((Ah (win y24.AQ 82 16384) 420 ⟨(k:Int),(n:Int)⟩).Ai.First),i6 ((Ah (win y24.AQ 82 16384) 420 ⟨(k:Int),(n:Int)⟩).Ai.Second),i6 ((Ah false 422 ⟨(k:Int),(n:Int)⟩).e),i6 ((Ah false 422 ⟨(k:Int),(n:Int)⟩).Ai.First),i6 ((Ah false 422 ⟨(k:Int),(n:Int)⟩).Ai.Second)] 73 (0,0)) true),(.blk x.1.2.2 (.cells (Ar.arr (Bc [(Ah (win y24.Ba 1 16384) 419 ⟨(k:Int),(n:Int)⟩),(Ah (win y24.AQ 82 16384) 420 ⟨(k:Int),(n:Int)⟩),(Ah false 422 ⟨(k:Int),(n:Int)⟩)])) 73 (0,0)) true)]⟩)) (fun hK => ?_) ?_
      ·refine Qg 35 8 [.cl 6 (.bool (win y24.Partition (-1) ((c.Aa.xs.length:Int) - 1))),.tk 7 (ov (.bool true)),.tk 8 o0,.tk 9 (a1 3),.cl 10 (.bool (win y24.Ba 1 16384)),.tk 11 o0,.cl 14 (.agg #[(Ac k),Ac n]),.cl 15 (.agg (Ar.arr (Ah (win y24.Ba 1 16384) 419 ⟨(k:Int),(n:Int)⟩))),.cl 18 (.bool (win y24.AQ 82 16384)),.cl 21 (.agg #[(Ac k),Ac n]),.cl 22 (.agg (Ar.arr (Ah (win y24.AQ 82 16384) 420 ⟨(k:Int),(n:Int)⟩))),.cl 27 (.bool (Ii c k y24.Partition)),.tk 28 (ov (.bool false)),.cl 31 (.agg #[(Ac k),Ac n]),.cl 32 (.agg (Ar.arr (Ah false 422 ⟨(k:Int),(n:Int)⟩)))] [1,2,4,5,24,25,26,7,46,53,63] [(42,#[i6 y24.Partition,i6 (-1),i6 ((c.Aa.xs.length:Int) - 1)],.bool (win y24.Partition (-1) ((c.Aa.xs.length:Int) - 1))),(42,#[i6 y24.Ba,i6 1,i6 16384],.bool (win y24.Ba 1 16384)),(70,#[(Ac k),Ac n],.agg #[(Ac k),Ac n]),(41,#[.bool (win y24.Ba 1 16384),i6 419,.agg #[(Ac k),Ac n]],.agg (Ar.arr (Ah (win y24.Ba 1 16384) 419 ⟨(k:Int),(n:Int)⟩))),(42,#[i6 y24.AQ,i6 82,i6 16384],.bool (win y24.AQ 82 16384)),(70,#[(Ac k),Ac n],.agg #[(Ac k),Ac n]),(41,#[.bool (win y24.AQ 82 16384),i6 420,.agg #[(Ac k),Ac n]],.agg (Ar.arr (Ah (win y24.AQ 82 16384) 420 ⟨(k:Int),(n:Int)⟩))),(72,#[.agg (Aj.arr c),Ac k,i6 y24.Partition],.bool (Ii c k y24.Partition)),(70,#[(Ac k),Ac n],.agg #[(Ac k),Ac n]),(41,#[.bool false,i6 422,.agg #[(Ac k),Ac n]],.agg (Ar.arr (Ah false 422 ⟨(k:Int),(n:Int)⟩)))] (DF 33 4) [Value.bool (win y24.Partition (-1) ((c.Aa.xs.length:Int) - 1))=Value.bool true,Qb n15,Value.bool (!(Ii c k y24.Partition))=Value.bool false] [(1,Ac k),(2,pt z),(BA z),(BU k n c),(BX b17 o18 y8),(BM y8),(26,Ac n),(BZ n15),(QJ y24 k n),(KY y24 k n),(PH k n)] (.cells #[i6 0,i6 0,i6 0] 73 (0,0)) [0,1,2,3] ⟨(congrArg Value.bool h27),rfl,by simp[h29],Ae⟩ ⟨fun w33 hw33=>Cj w33 y24.Partition (-1) ((c.Aa.xs.length:Int) - 1),fun w34 hw34=>Cj w34 y24.Ba 1 16384,fun w35 hw35=>GX w35 (k:Int) (n:Int),fun w36 hw36=>Bz w36 (hL.ext (hw36.ext rfl)) (win y24.Ba 1 16384) 419 (k:Int) (n:Int),fun w37 hw37=>Cj w37 y24.AQ 82 16384,fun w38 hw38=>GX w38 (k:Int) (n:Int),fun w39 hw39=>Bz w39 (hL.ext (hw39.ext rfl)) (win y24.AQ 82 16384) 420 (k:Int) (n:Int),fun w40 hw40=>Tu w40 c (hc.ext (hw40.ext rfl) (fun _ h=>h)) k hk y24.Partition,fun w41 hw41=>GX w41 (k:Int) (n:Int),fun w42 hw42=>Bz w42 (hL.ext (hw42.ext rfl)) false 422 (k:Int) (n:Int),Ae⟩ ?_ (fun hv45 n43 hn44 => ?_)
       ·rintro⟨⟨n46,b47⟩,hb48⟩
        simp only at hb48
        refine BC 33 ?_
        refine BH o0 [8,1,2,4,5,24,25,26,7,64] [] [(8,pt b47),(1,Ac k),(2,pt z),(BA z),(BU k n c),(BX b17 o18 y8),(BM y8),(26,Ac n),(BZ n15),(64,.slice (some ⟨n46,0,none⟩) 3 3)] ⟨w,n46+1,[(Ak w),(Cc z c),(Cm z),(CG y24 n15),(bk b47 #[i6 0,i6 0,i6 0] 73),(ZN n46 y24 k n)]⟩ [0,1,2,3] Ae (.inr rfl) ?_
        refine BC 34 ?_
        refine Ht 65 #[.slice (some ⟨n46,0,none⟩) 3 3] (some 65) (.agg (Ar.arr (Bc [(Ah (win y24.Ba 1 16384) 419 ⟨(k:Int),(n:Int)⟩),(Ah (win y24.AQ 82 16384) 420 ⟨(k:Int),(n:Int)⟩),(Ah false 422 ⟨(k:Int),(n:Int)⟩)]))) [8,1,2,4,5,24,25,26,7,65] [(8,pt b47),(1,Ac k),(2,pt z),(BA z),(BU k n c),(BX b17 o18 y8),(BM y8),(26,Ac n),(BZ n15),(Rh y24 k n)] [0,1,2,3] (fun w49 hw49=>DZ w49 (hL.ext (hw49.ext rfl)) ⟨some ⟨n46,0,none⟩,3,[(Ah (win y24.Ba 1 16384) 419 ⟨(k:Int),(n:Int)⟩),(Ah (win y24.AQ 82 16384) 420 ⟨(k:Int),(n:Int)⟩),(Ah false 422 ⟨(k:Int),(n:Int)⟩)]⟩ (EP hw49 (i:=5) [(Ah (win y24.Ba 1 16384) 419 ⟨(k:Int),(n:Int)⟩),(Ah (win y24.AQ 82 16384) 420 ⟨(k:Int),(n:Int)⟩),(Ah false 422 ⟨(k:Int),(n:Int)⟩)]) (show 3≤1000 by decide)) (fun n50 hn51 => ?_)
        replace hn51:n46+1≤n50:=hn51
        refine BC 36 ?_
        refine BH (an 3 4) [8,1,2,4,5,24,25,26,7] [Qb b47,Qb b47,Qb b47] [(8,pt b47),(1,Ac k),(2,pt z),(BA z),(BU k n c),(BX b17 o18 y8),(BM y8),(26,Ac n),(BZ n15)] ⟨w,n50,[(Ak w),(Cc z c),(Cm z),(CG y24 n15),(Zan y24 k n b47),(ZN n46 y24 k n)]⟩ [] ⟨rfl,rfl,rfl,Ae⟩ (.inl rfl) ?_
        refine Es 37 [0,1,2,3,4,5] [(Ak w),(Cc z c),(Cm z),(CG y24 n15),(Zan y24 k n b47),(ZN n46 y24 k n)] rfl rfl ?_
        refine CU ?_
        refine BK [1,2,4,5,24,25,26,7,8] [(1,Ac k),(2,pt z),(BA z),(BU k n c),(BX b17 o18 y8),(BM y8),(26,Ac n),(BZ n15),(8,pt b47)] ?_
        refine Cb [0,1,2,3,5,4] [(Ak w),(Cc z c),(Cm z),(CG y24 n15),(ZN n46 y24 k n),(Zan y24 k n b47)] rfl rfl ?_
        exact hK ⟨(n50,n46,b47),by first | omega | (dsimp only;omega)⟩
       replace hn44:n15+1≤n43:=hn44
       refine Oy (fun x:{p:Nat×Nat×Nat // n43≤p.1∧n43≤p.2.1∧n43≤p.2.2}=>[(1,Ac k),(2,pt z),(BA z),(BU k n c),(BX b17 o18 y8),(BM y8),(26,Ac n),(BZ n15),(8,pt x.1.2.1),(Rh y24 k n)]) (fun x=>⟨w,x.1.1,[(Ak w),(Cc z c),(Cm z),(CG y24 n15),(.blk x.1.2.1 (.cells #[i6 0,i6 0,i6 0] 73 (0,0)) true),(.blk x.1.2.2 (.cells #[i6 ((Ah (win y24.Ba 1 16384) 419 ⟨(k:Int),(n:Int)⟩).e),i6 ((Ah (win y24.Ba 1 16384) 419 ⟨(k:Int),(n:Int)⟩).Ai.First),i6 ((Ah (win y24.Ba 1 16384) 419 ⟨(k:Int),(n:Int)⟩).Ai.Second),i6 ((Ah (win y24.AQ 82 16384) 420 ⟨(k:Int),(n:Int)⟩).e),i6 ((Ah (win y24.AQ 82 16384) 420 ⟨(k:Int),(n:Int)⟩).Ai.First),i6 ((Ah (win y24.AQ 82 16384) 420 ⟨(k:Int),(n:Int)⟩).Ai.Second),i6 ((Ah false 422 ⟨(k:Int),(n:Int)⟩).e),i6 ((Ah false 422 ⟨(k:Int),(n:Int)⟩).Ai.First),i6 ((Ah false 422 ⟨(k:Int),(n:Int)⟩).Ai.Second)] 73 (0,0)) true)]⟩) 1 (DF 36 1) ?_ (fun hv55 => ?_)
       ·rintro⟨⟨n52,b53,b54⟩,hb56⟩
        simp only at hb56
        show Wg _ _ [(1,Ac k),(2,pt z),(BA z),(BU k n c),(BX b17 o18 y8),(BM y8),(26,Ac n),(BZ n15),(8,pt b53),(Rh y24 k n)] _ ⟨w,n52,[(Ak w),(Cc z c),(Cm z),(CG y24 n15),(bk b53 #[i6 0,i6 0,i6 0] 73),(Zv y24 k n b54)]⟩ _ _ _ _ _ _ _
        refine BC 36 ?_
        refine BH (an 3 4) [1,2,4,5,24,25,26,7,8] [Qb b53,Qb b53,Qb b53] [(1,Ac k),(2,pt z),(BA z),(BU k n c),(BX b17 o18 y8),(BM y8),(26,Ac n),(BZ n15),(8,pt b53)] ⟨w,n52,[(Ak w),(Cc z c),(Cm z),(CG y24 n15),(ZaI y24 k n b53),(Zv y24 k n b54)]⟩ [] ⟨rfl,rfl,rfl,Ae⟩ (.inl rfl) ?_
        refine Es 37 [0,1,2,3,4,5] [(Ak w),(Cc z c),(Cm z),(CG y24 n15),(ZaI y24 k n b53),(Zv y24 k n b54)] rfl rfl ?_
        refine CU ?_
        refine BK [1,2,4,5,24,25,26,7,8] [(1,Ac k),(2,pt z),(BA z),(BU k n c),(BX b17 o18 y8),(BM y8),(26,Ac n),(BZ n15),(8,pt b53)] ?_
        refine Cb [0,1,2,3,5,4] [(Ak w),(Cc z c),(Cm z),(CG y24 n15),(Zv y24 k n b54),(ZaI y24 k n b53)] rfl rfl ?_
        exact hK ⟨(n52,b54,b53),by first | omega | (dsimp only;omega)⟩
       refine Oy (fun x:{p:Nat×Nat×Nat // n43≤p.1∧n43≤p.2.1∧n43≤p.2.2}=>[(1,Ac k),(2,pt z),(BA z),(BU k n c),(BX b17 o18 y8),(BM y8),(26,Ac n),(BZ n15),(8,pt x.1.2.1),(64,.slice (some ⟨x.1.2.2,0,none⟩) 3 3)]) (fun x=>⟨w,x.1.1,[(Ak w),(Cc z c),(Cm z),(CG y24 n15),(.blk x.1.2.1 (.cells #[i6 0,i6 0,i6 0] 73 (0,0)) true),(.blk x.1.2.2 (.cells #[i6 ((Ah (win y24.Ba 1 16384) 419 ⟨(k:Int),(n:Int)⟩).e),i6 ((Ah (win y24.Ba 1 16384) 419 ⟨(k:Int),(n:Int)⟩).Ai.First),i6 ((Ah (win y24.Ba 1 16384) 419 ⟨(k:Int),(n:Int)⟩).Ai.Second),i6 ((Ah (win y24.AQ 82 16384) 420 ⟨(k:Int),(n:Int)⟩).e),i6 ((Ah (win y24.AQ 82 16384) 420 ⟨(k:Int),(n:Int)⟩).Ai.First),i6 ((Ah (win y24.AQ 82 16384) 420 ⟨(k:Int),(n:Int)⟩).Ai.Second),i6 ((Ah false 422 ⟨(k:Int),(n:Int)⟩).e),i6 ((Ah false 422 ⟨(k:Int),(n:Int)⟩).Ai.First),i6 ((Ah false 422 ⟨(k:Int),(n:Int)⟩).Ai.Second)] 73 (0,0)) true)]⟩) 2 [true,true,true,true,true,true,true,true,true,true,true,true,true,true,true,true,true,true,true,true,true,true,true,true,true,true,true,true,true,true,true,true,true,true,false,true,false] ?_ (fun hv60 => ?_)
       ·rintro⟨⟨n57,b58,b59⟩,hb61⟩
        simp only at hb61
        show Wg _ _ [(1,Ac k),(2,pt z),(BA z),(BU k n c),(BX b17 o18 y8),(BM y8),(26,Ac n),(BZ n15),(8,pt b58),(64,.slice (some ⟨b59,0,none⟩) 3 3)] _ ⟨w,n57,[(Ak w),(Cc z c),(Cm z),(CG y24 n15),(bk b58 #[i6 0,i6 0,i6 0] 73),(bk b59 #[i6 ((Ah (win y24.Ba 1 16384) 419 ⟨(k:Int),(n:Int)⟩).e),i6 ((Ah (win y24.Ba 1 16384) 419 ⟨(k:Int),(n:Int)⟩).Ai.First),i6 ((Ah (win y24.Ba 1 16384) 419 ⟨(k:Int),(n:Int)⟩).Ai.Second),i6 ((Ah (win y24.AQ 82 16384) 420 ⟨(k:Int),(n:Int)⟩).e),i6 ((Ah (win y24.AQ 82 16384) 420 ⟨(k:Int),(n:Int)⟩).Ai.First),i6 ((Ah (win y24.AQ 82 16384) 420 ⟨(k:Int),(n:Int)⟩).Ai.Second),i6 ((Ah false 422 ⟨(k:Int),(n:Int)⟩).e),i6 ((Ah false 422 ⟨(k:Int),(n:Int)⟩).Ai.First),i6 ((Ah false 422 ⟨(k:Int),(n:Int)⟩).Ai.Second)] 73)]⟩ _ _ _ _ _ _ _
        refine BC 34 ?_
        refine Ht 65 #[.slice (some ⟨b59,0,none⟩) 3 3] (some 65) (.agg (Ar.arr (Bc [(Ah (win y24.Ba 1 16384) 419 ⟨(k:Int),(n:Int)⟩),(Ah (win y24.AQ 82 16384) 420 ⟨(k:Int),(n:Int)⟩),(Ah false 422 ⟨(k:Int),(n:Int)⟩)]))) [1,2,4,5,24,25,26,7,8,65] [(1,Ac k),(2,pt z),(BA z),(BU k n c),(BX b17 o18 y8),(BM y8),(26,Ac n),(BZ n15),(8,pt b58),(Rh y24 k n)] [0,1,2,3] (fun w62 hw62=>DZ w62 (hL.ext (hw62.ext rfl)) ⟨some ⟨b59,0,none⟩,3,[(Ah (win y24.Ba 1 16384) 419 ⟨(k:Int),(n:Int)⟩),(Ah (win y24.AQ 82 16384) 420 ⟨(k:Int),(n:Int)⟩),(Ah false 422 ⟨(k:Int),(n:Int)⟩)]⟩ (EP hw62 (i:=5) [(Ah (win y24.Ba 1 16384) 419 ⟨(k:Int),(n:Int)⟩),(Ah (win y24.AQ 82 16384) 420 ⟨(k:Int),(n:Int)⟩),(Ah false 422 ⟨(k:Int),(n:Int)⟩)]) (show 3≤1000 by decide)) (fun n63 hn64 => ?_)
        replace hn64:n57≤n63:=hn64
        refine DU [1,2,4,5,24,25,26,7,8,65] [(1,Ac k),(2,pt z),(BA z),(BU k n c),(BX b17 o18 y8),(BM y8),(26,Ac n),(BZ n15),(8,pt b58),(Rh y24 k n)] ?_
        exact hv55 ⟨(n63,b58,b59),by first | omega | (dsimp only;omega)⟩
       refine JC [33,35] ?_
       refine List.forall_mem_cons.2 ⟨?_,List.forall_mem_cons.2 ⟨?_,fun _ h=>absurd h List.not_mem_nil⟩⟩
       ·refine BH o0 [1,2,4,5,24,25,26,7,64] [] [(1,Ac k),(2,pt z),(BA z),(BU k n c),(BX b17 o18 y8),(BM y8),(26,Ac n),(BZ n15),(64,.slice (some ⟨n43,0,none⟩) 3 3)] ⟨w,n43+1,[(Ak w),(Cc z c),(Cm z),(CG y24 n15),(Xh y24 k n n43)]⟩ [0,1,2,3] Ae (.inr rfl) ?_
        refine JC [34,35] ?_
        refine List.forall_mem_cons.2 ⟨?_,List.forall_mem_cons.2 ⟨?_,fun _ h=>absurd h List.not_mem_nil⟩⟩
        ·refine Ht 65 #[.slice (some ⟨n43,0,none⟩) 3 3] (some 65) (.agg (Ar.arr (Bc [(Ah (win y24.Ba 1 16384) 419 ⟨(k:Int),(n:Int)⟩),(Ah (win y24.AQ 82 16384) 420 ⟨(k:Int),(n:Int)⟩),(Ah false 422 ⟨(k:Int),(n:Int)⟩)]))) [1,2,4,5,24,25,26,7,65] [(1,Ac k),(2,pt z),(BA z),(BU k n c),(BX b17 o18 y8),(BM y8),(26,Ac n),(BZ n15),(Rh y24 k n)] [0,1,2,3] (fun w65 hw65=>DZ w65 (hL.ext (hw65.ext rfl)) ⟨some ⟨n43,0,none⟩,3,[(Ah (win y24.Ba 1 16384) 419 ⟨(k:Int),(n:Int)⟩),(Ah (win y24.AQ 82 16384) 420 ⟨(k:Int),(n:Int)⟩),(Ah false 422 ⟨(k:Int),(n:Int)⟩)]⟩ (EP hw65 (i:=4) [(Ah (win y24.Ba 1 16384) 419 ⟨(k:Int),(n:Int)⟩),(Ah (win y24.AQ 82 16384) 420 ⟨(k:Int),(n:Int)⟩),(Ah false 422 ⟨(k:Int),(n:Int)⟩)]) (show 3≤1000 by decide)) (fun n66 hn67 => ?_)
         replace hn67:n43+1≤n66:=hn67
         refine BC 35 ?_
         refine BH o0 [1,2,4,5,24,25,26,7,65,8] [] [(1,Ac k),(2,pt z),(BA z),(BU k n c),(BX b17 o18 y8),(BM y8),(26,Ac n),(BZ n15),(Rh y24 k n),(8,pt n66)] ⟨w,n66+1,[(Ak w),(Cc z c),(Cm z),(CG y24 n15),(Xh y24 k n n43),(bk n66 #[i6 0,i6 0,i6 0] 73)]⟩ [0,1,2,3] Ae (.inr rfl) ?_
         refine MJ [0,1,2,3,5,4] [(Ak w),(Cc z c),(Cm z),(CG y24 n15),(bk n66 #[i6 0,i6 0,i6 0] 73),(Xh y24 k n n43)] rfl rfl ?_
         refine DU [1,2,4,5,24,25,26,7,8,65] [(1,Ac k),(2,pt z),(BA z),(BU k n c),(BX b17 o18 y8),(BM y8),(26,Ac n),(BZ n15),(8,pt n66),(Rh y24 k n)] ?_
         exact hv55 ⟨(n66+1,n66,n43),by first | omega | (dsimp only;omega)⟩
        refine BH o0 [1,2,4,5,24,25,26,7,64,8] [] [(1,Ac k),(2,pt z),(BA z),(BU k n c),(BX b17 o18 y8),(BM y8),(26,Ac n),(BZ n15),(64,.slice (some ⟨n43,0,none⟩) 3 3),(8,pt (n43+1))] ⟨w,n43+2,[(Ak w),(Cc z c),(Cm z),(CG y24 n15),(Xh y24 k n n43),(bk (n43+1) #[i6 0,i6 0,i6 0] 73)]⟩ [0,1,2,3] Ae (.inr rfl) ?_
        refine MJ [0,1,2,3,5,4] [(Ak w),(Cc z c),(Cm z),(CG y24 n15),(bk (n43+1) #[i6 0,i6 0,i6 0] 73),(Xh y24 k n n43)] rfl rfl ?_
        refine DU [1,2,4,5,24,25,26,7,8,64] [(1,Ac k),(2,pt z),(BA z),(BU k n c),(BX b17 o18 y8),(BM y8),(26,Ac n),(BZ n15),(8,pt (n43+1)),(64,.slice (some ⟨n43,0,none⟩) 3 3)] ?_
        exact hv60 ⟨(n43+2,n43+1,n43),by first | omega | (dsimp only;omega)⟩
       refine BH o0 [1,2,4,5,24,25,26,7,46,53,63,8] [] [(1,Ac k),(2,pt z),(BA z),(BU k n c),(BX b17 o18 y8),(BM y8),(26,Ac n),(BZ n15),(QJ y24 k n),(KY y24 k n),(PH k n),(8,pt n43)] ⟨w,n43+1,[(Ak w),(Cc z c),(Cm z),(CG y24 n15),(bk n43 #[i6 0,i6 0,i6 0] 73)]⟩ [0,1,2,3] Ae (.inr rfl) ?_
       refine DU [8,1,2,4,5,24,25,26,7,46,53,63] [(8,pt n43),(1,Ac k),(2,pt z),(BA z),(BU k n c),(BX b17 o18 y8),(BM y8),(26,Ac n),(BZ n15),(QJ y24 k n),(KY y24 k n),(PH k n)] ?_
       exact hv45 ⟨(n43+1,n43),by first | omega | (dsimp only;omega)⟩
      rintro⟨⟨n30,b31,b32⟩,hJ68⟩
      simp only at hJ68
      show E _ _ [(1,Ac k),(2,pt z),(BA z),(BU k n c),(BX b17 o18 y8),(BM y8),(26,Ac n),(BZ n15),(8,pt b32)] _ ⟨w,n30,[(Ak w),(Cc z c),(Cm z),(CG y24 n15),(bk b31 #[i6 ((Ah (win y24.Ba 1 16384) 419 ⟨(k:Int),(n:Int)⟩).e),i6 ((Ah (win y24.Ba 1 16384) 419 ⟨(k:Int),(n:Int)⟩).Ai.First),i6 ((Ah (win y24.Ba 1 16384) 419 ⟨(k:Int),(n:Int)⟩).Ai.Second),i6 ((Ah (win y24.AQ 82 16384) 420 ⟨(k:Int),(n:Int)⟩).e),i6 ((Ah (win y24.AQ 82 16384) 420 ⟨(k:Int),(n:Int)⟩).Ai.First),i6 ((Ah (win y24.AQ 82 16384) 420 ⟨(k:Int),(n:Int)⟩).Ai.Second),i6 ((Ah false 422 ⟨(k:Int),(n:Int)⟩).e),i6 ((Ah false 422 ⟨(k:Int),(n:Int)⟩).Ai.First),i6 ((Ah false 422 ⟨(k:Int),(n:Int)⟩).Ai.Second)] 73),(Zay y24 k n b32)]⟩ _ _ _
      refine Cb [0,1,2,3,5] [(Ak w),(Cc z c),(Cm z),(CG y24 n15),(Zay y24 k n b32)] rfl rfl ?_
      have e0:gd (ED c k).xs n=y24:=(by rw[hy24,hy8])
      have eA:Gf c k n=(Bc [(Ah (win y24.Ba 1 16384) 419 ⟨(k:Int),(n:Int)⟩),(Ah (win y24.AQ 82 16384) 420 ⟨(k:Int),(n:Int)⟩),(Ah false 422 ⟨(k:Int),(n:Int)⟩)]):=(by unfold Gf Ob;simp only[e0];simp[h27,h29])
      refine BK [1,2,4,5,7,8,24,25,26] [(1,Ac k),(2,pt z),(BA z),(BU k n c),(BZ n15),(8,pt b32),(BX b17 o18 y8),(BM y8),(26,Ac n)] ?_
      refine BD (fun a w' hs=>⟨n30,b32,by omega,(by(try dsimp only[Zay,Cm,CG,Cc,QJ,KY,PH,Ri,BX,BM,BA,Nj,BU,BZ]at hs ⊢);rw[eA];exact hs)⟩)
     refine Eh 36 [0,1,2,3] [(Ak w),(Cc z c),(Cm z),(CG y24 n15)] rfl rfl ?_
     refine Dj [(0,o0),(1,(a1 3)),(2,o0),(3,(a1 1)),(4,o0),(5,(ov (i6 ((c.Aa.xs.length:Int) - 1)))),(12,o0),(13,o0),(16,o0),(17,(a1 3)),(19,o0),(20,o0),(23,(an 7 1)),(24,o0),(25,o0),(26,(a1 3)),(29,o0),(30,o0)] [1,2,4,5,24,25,26,7,32,36,43,44,48,50,51,54,55,57,60,61] [Qb n15,Qb z,Wr ((c.Aa.xs.length:Int) - 1) ((c.Aa.xs.length:Int) - 1),Qb n15,Qb z,Qb z,Qb z,Qb z,Qb z,Qb z,Qb z,Qb n15] [true,true,true,true,true,true,false,false,false,false,false,false,true,true,false,false,true,true,false,true,true,false,false,true,true,true,true,false,false,true,true,false,false,false,false,false,false] [(1,Ac k),(2,pt z),(BA z),(BU k n c),(BX b17 o18 y8),(BM y8),(26,Ac n),(BZ n15),(32,i6 y24.Partition),(Ri c),(43,Ac k),(44,Ac n),(48,i6 y24.AQ),(50,Ac k),(51,Ac n),(54,.agg (Aj.arr c)),(55,Ac k),(57,i6 y24.Partition),(60,Ac k),(61,Ac n)] ⟨rfl,rfl,BQ,rfl,rfl,rfl,rfl,rfl,rfl,rfl,rfl,rfl,Ae⟩ ?_
     refine Qx (fun x:{p:Nat×Nat×Nat // n15+1≤p.1∧n15+1≤p.2.1∧n15+1≤p.2.2}=>([(1,Ac k),(2,pt z),(BA z),(BU k n c),(BX b17 o18 y8),(BM y8),(26,Ac n),(BZ n15),(8,pt x.1.2.2)],⟨w,x.1.1,[(Ak w),(Cc z c),(Cm z),(CG y24 n15),(.blk x.1.2.1 (.cells #[i6 ((Ah (win y24.Ba 1 16384) 419 ⟨(k:Int),(n:Int)⟩).e),i6 ((Ah (win y24.Ba 1 16384) 419 ⟨(k:Int),(n:Int)⟩).Ai.First),i6 ((Ah (win y24.Ba 1 16384) 419 ⟨(k:Int),(n:Int)⟩).Ai.Second),i6 ((Ah (win y24.AQ 82 16384) 420 ⟨(k:Int),(n:Int)⟩).e),i6 ((Ah (win y24.AQ 82 16384) 420 ⟨(k:Int),(n:Int)⟩).Ai.First),i6 ((Ah (win y24.AQ 82 16384) 420 ⟨(k:Int),(n:Int)⟩).Ai.Second),i6 ((Ah true 422 ⟨(k:Int),(n:Int)⟩).e),i6 ((Ah true 422 ⟨(k:Int),(n:Int)⟩).Ai.First),i6 ((Ah true 422 ⟨(k:Int),(n:Int)⟩).Ai.Second)] 73 (0,0)) true),(.blk x.1.2.2 (.cells (Ar.arr (Bc [(Ah (win y24.Ba 1 16384) 419 ⟨(k:Int),(n:Int)⟩),(Ah (win y24.AQ 82 16384) 420 ⟨(k:Int),(n:Int)⟩),(Ah true 422 ⟨(k:Int),(n:Int)⟩)])) 73 (0,0)) true)]⟩)) (fun hK => ?_) ?_
     ·refine Qg 35 8 [.cl 6 (.bool (win y24.Partition (-1) ((c.Aa.xs.length:Int) - 1))),.tk 7 (ov (.bool true)),.tk 8 o0,.tk 9 (a1 3),.cl 10 (.bool (win y24.Ba 1 16384)),.tk 11 o0,.cl 14 (.agg #[(Ac k),Ac n]),.cl 15 (.agg (Ar.arr (Ah (win y24.Ba 1 16384) 419 ⟨(k:Int),(n:Int)⟩))),.cl 18 (.bool (win y24.AQ 82 16384)),.cl 21 (.agg #[(Ac k),Ac n]),.cl 22 (.agg (Ar.arr (Ah (win y24.AQ 82 16384) 420 ⟨(k:Int),(n:Int)⟩))),.cl 27 (.bool (Ii c k y24.Partition)),.tk 28 (ov (.bool true)),.cl 31 (.agg #[(Ac k),Ac n]),.cl 32 (.agg (Ar.arr (Ah true 422 ⟨(k:Int),(n:Int)⟩)))] [1,2,4,5,24,25,26,7,46,53,63] [(42,#[i6 y24.Partition,i6 (-1),i6 ((c.Aa.xs.length:Int) - 1)],.bool (win y24.Partition (-1) ((c.Aa.xs.length:Int) - 1))),(42,#[i6 y24.Ba,i6 1,i6 16384],.bool (win y24.Ba 1 16384)),(70,#[(Ac k),Ac n],.agg #[(Ac k),Ac n]),(41,#[.bool (win y24.Ba 1 16384),i6 419,.agg #[(Ac k),Ac n]],.agg (Ar.arr (Ah (win y24.Ba 1 16384) 419 ⟨(k:Int),(n:Int)⟩))),(42,#[i6 y24.AQ,i6 82,i6 16384],.bool (win y24.AQ 82 16384)),(70,#[(Ac k),Ac n],.agg #[(Ac k),Ac n]),(41,#[.bool (win y24.AQ 82 16384),i6 420,.agg #[(Ac k),Ac n]],.agg (Ar.arr (Ah (win y24.AQ 82 16384) 420 ⟨(k:Int),(n:Int)⟩))),(72,#[.agg (Aj.arr c),Ac k,i6 y24.Partition],.bool (Ii c k y24.Partition)),(70,#[(Ac k),Ac n],.agg #[(Ac k),Ac n]),(41,#[.bool true,i6 422,.agg #[(Ac k),Ac n]],.agg (Ar.arr (Ah true 422 ⟨(k:Int),(n:Int)⟩)))] (DF 33 4) [Value.bool (win y24.Partition (-1) ((c.Aa.xs.length:Int) - 1))=Value.bool true,Qb n15,Value.bool (!(Ii c k y24.Partition))=Value.bool true] [(1,Ac k),(2,pt z),(BA z),(BU k n c),(BX b17 o18 y8),(BM y8),(26,Ac n),(BZ n15),(QJ y24 k n),(KY y24 k n),(Rt k n)] (.cells #[i6 0,i6 0,i6 0] 73 (0,0)) [0,1,2,3] ⟨(congrArg Value.bool h27),rfl,by simp[h29],Ae⟩ ⟨fun w72 hw72=>Cj w72 y24.Partition (-1) ((c.Aa.xs.length:Int) - 1),fun w73 hw73=>Cj w73 y24.Ba 1 16384,fun w74 hw74=>GX w74 (k:Int) (n:Int),fun w75 hw75=>Bz w75 (hL.ext (hw75.ext rfl)) (win y24.Ba 1 16384) 419 (k:Int) (n:Int),fun w76 hw76=>Cj w76 y24.AQ 82 16384,fun w77 hw77=>GX w77 (k:Int) (n:Int),fun w78 hw78=>Bz w78 (hL.ext (hw78.ext rfl)) (win y24.AQ 82 16384) 420 (k:Int) (n:Int),fun w79 hw79=>Tu w79 c (hc.ext (hw79.ext rfl) (fun _ h=>h)) k hk y24.Partition,fun w80 hw80=>GX w80 (k:Int) (n:Int),fun w81 hw81=>Bz w81 (hL.ext (hw81.ext rfl)) true 422 (k:Int) (n:Int),Ae⟩ ?_ (fun hv84 n82 hn83 => ?_)
      ·rintro⟨⟨n85,b86⟩,hb87⟩
       simp only at hb87
       refine BC 33 ?_
       refine BH o0 [8,1,2,4,5,24,25,26,7,64] [] [(8,pt b86),(1,Ac k),(2,pt z),(BA z),(BU k n c),(BX b17 o18 y8),(BM y8),(26,Ac n),(BZ n15),(64,.slice (some ⟨n85,0,none⟩) 3 3)] ⟨w,n85+1,[(Ak w),(Cc z c),(Cm z),(CG y24 n15),(bk b86 #[i6 0,i6 0,i6 0] 73),(Zx y24 k n n85)]⟩ [0,1,2,3] Ae (.inr rfl) ?_
       refine BC 34 ?_
       refine Ht 65 #[.slice (some ⟨n85,0,none⟩) 3 3] (some 65) (.agg (Ar.arr (Bc [(Ah (win y24.Ba 1 16384) 419 ⟨(k:Int),(n:Int)⟩),(Ah (win y24.AQ 82 16384) 420 ⟨(k:Int),(n:Int)⟩),(Ah true 422 ⟨(k:Int),(n:Int)⟩)]))) [8,1,2,4,5,24,25,26,7,65] [(8,pt b86),(1,Ac k),(2,pt z),(BA z),(BU k n c),(BX b17 o18 y8),(BM y8),(26,Ac n),(BZ n15),(QF y24 k n)] [0,1,2,3] (fun w88 hw88=>DZ w88 (hL.ext (hw88.ext rfl)) ⟨some ⟨n85,0,none⟩,3,[(Ah (win y24.Ba 1 16384) 419 ⟨(k:Int),(n:Int)⟩),(Ah (win y24.AQ 82 16384) 420 ⟨(k:Int),(n:Int)⟩),(Ah true 422 ⟨(k:Int),(n:Int)⟩)]⟩ (EP hw88 (i:=5) [(Ah (win y24.Ba 1 16384) 419 ⟨(k:Int),(n:Int)⟩),(Ah (win y24.AQ 82 16384) 420 ⟨(k:Int),(n:Int)⟩),(Ah true 422 ⟨(k:Int),(n:Int)⟩)]) (show 3≤1000 by decide)) (fun n89 hn90 => ?_)
       replace hn90:n85+1≤n89:=hn90
       refine BC 36 ?_
       refine BH (an 3 4) [8,1,2,4,5,24,25,26,7] [Qb b86,Qb b86,Qb b86] [(8,pt b86),(1,Ac k),(2,pt z),(BA z),(BU k n c),(BX b17 o18 y8),(BM y8),(26,Ac n),(BZ n15)] ⟨w,n89,[(Ak w),(Cc z c),(Cm z),(CG y24 n15),(Zaj y24 k n b86),(Zx y24 k n n85)]⟩ [] ⟨rfl,rfl,rfl,Ae⟩ (.inl rfl) ?_
       refine Es 37 [0,1,2,3,4,5] [(Ak w),(Cc z c),(Cm z),(CG y24 n15),(Zaj y24 k n b86),(Zx y24 k n n85)] rfl rfl ?_
       refine CU ?_
       refine BK [1,2,4,5,24,25,26,7,8] [(1,Ac k),(2,pt z),(BA z),(BU k n c),(BX b17 o18 y8),(BM y8),(26,Ac n),(BZ n15),(8,pt b86)] ?_
       refine Cb [0,1,2,3,5,4] [(Ak w),(Cc z c),(Cm z),(CG y24 n15),(Zx y24 k n n85),(Zaj y24 k n b86)] rfl rfl ?_
       exact hK ⟨(n89,n85,b86),by first | omega | (dsimp only;omega)⟩
      replace hn83:n15+1≤n82:=hn83
      refine Oy (fun x:{p:Nat×Nat×Nat // n82≤p.1∧n82≤p.2.1∧n82≤p.2.2}=>[(1,Ac k),(2,pt z),(BA z),(BU k n c),(BX b17 o18 y8),(BM y8),(26,Ac n),(BZ n15),(8,pt x.1.2.1),(QF y24 k n)]) (fun x=>⟨w,x.1.1,[(Ak w),(Cc z c),(Cm z),(CG y24 n15),(.blk x.1.2.1 (.cells #[i6 0,i6 0,i6 0] 73 (0,0)) true),(.blk x.1.2.2 (.cells #[i6 ((Ah (win y24.Ba 1 16384) 419 ⟨(k:Int),(n:Int)⟩).e),i6 ((Ah (win y24.Ba 1 16384) 419 ⟨(k:Int),(n:Int)⟩).Ai.First),i6 ((Ah (win y24.Ba 1 16384) 419 ⟨(k:Int),(n:Int)⟩).Ai.Second),i6 ((Ah (win y24.AQ 82 16384) 420 ⟨(k:Int),(n:Int)⟩).e),i6 ((Ah (win y24.AQ 82 16384) 420 ⟨(k:Int),(n:Int)⟩).Ai.First),i6 ((Ah (win y24.AQ 82 16384) 420 ⟨(k:Int),(n:Int)⟩).Ai.Second),i6 ((Ah true 422 ⟨(k:Int),(n:Int)⟩).e),i6 ((Ah true 422 ⟨(k:Int),(n:Int)⟩).Ai.First),i6 ((Ah true 422 ⟨(k:Int),(n:Int)⟩).Ai.Second)] 73 (0,0)) true)]⟩) 1 (DF 36 1) ?_ (fun hv94 => ?_)
      ·rintro⟨⟨n91,b92,b93⟩,hb95⟩
       simp only at hb95
       show Wg _ _ [(1,Ac k),(2,pt z),(BA z),(BU k n c),(BX b17 o18 y8),(BM y8),(26,Ac n),(BZ n15),(8,pt b92),(QF y24 k n)] _ ⟨w,n91,[(Ak w),(Cc z c),(Cm z),(CG y24 n15),(bk b92 #[i6 0,i6 0,i6 0] 73),(ZU y24 k n b93)]⟩ _ _ _ _ _ _ _
       refine BC 36 ?_
       refine BH (an 3 4) [1,2,4,5,24,25,26,7,8] [Qb b92,Qb b92,Qb b92] [(1,Ac k),(2,pt z),(BA z),(BU k n c),(BX b17 o18 y8),(BM y8),(26,Ac n),(BZ n15),(8,pt b92)] ⟨w,n91,[(Ak w),(Cc z c),(Cm z),(CG y24 n15),(Zau y24 k n b92),(ZU y24 k n b93)]⟩ [] ⟨rfl,rfl,rfl,Ae⟩ (.inl rfl) ?_
       refine Es 37 [0,1,2,3,4,5] [(Ak w),(Cc z c),(Cm z),(CG y24 n15),(Zau y24 k n b92),(ZU y24 k n b93)] rfl rfl ?_
       refine CU ?_
       refine BK [1,2,4,5,24,25,26,7,8] [(1,Ac k),(2,pt z),(BA z),(BU k n c),(BX b17 o18 y8),(BM y8),(26,Ac n),(BZ n15),(8,pt b92)] ?_
       refine Cb [0,1,2,3,5,4] [(Ak w),(Cc z c),(Cm z),(CG y24 n15),(ZU y24 k n b93),(Zau y24 k n b92)] rfl rfl ?_
       exact hK ⟨(n91,b93,b92),by first | omega | (dsimp only;omega)⟩
      refine Oy (fun x:{p:Nat×Nat×Nat // n82≤p.1∧n82≤p.2.1∧n82≤p.2.2}=>[(1,Ac k),(2,pt z),(BA z),(BU k n c),(BX b17 o18 y8),(BM y8),(26,Ac n),(BZ n15),(8,pt x.1.2.1),(64,.slice (some ⟨x.1.2.2,0,none⟩) 3 3)]) (fun x=>⟨w,x.1.1,[(Ak w),(Cc z c),(Cm z),(CG y24 n15),(.blk x.1.2.1 (.cells #[i6 0,i6 0,i6 0] 73 (0,0)) true),(.blk x.1.2.2 (.cells #[i6 ((Ah (win y24.Ba 1 16384) 419 ⟨(k:Int),(n:Int)⟩).e),i6 ((Ah (win y24.Ba 1 16384) 419 ⟨(k:Int),(n:Int)⟩).Ai.First),i6 ((Ah (win y24.Ba 1 16384) 419 ⟨(k:Int),(n:Int)⟩).Ai.Second),i6 ((Ah (win y24.AQ 82 16384) 420 ⟨(k:Int),(n:Int)⟩).e),i6 ((Ah (win y24.AQ 82 16384) 420 ⟨(k:Int),(n:Int)⟩).Ai.First),i6 ((Ah (win y24.AQ 82 16384) 420 ⟨(k:Int),(n:Int)⟩).Ai.Second),i6 ((Ah true 422 ⟨(k:Int),(n:Int)⟩).e),i6 ((Ah true 422 ⟨(k:Int),(n:Int)⟩).Ai.First),i6 ((Ah true 422 ⟨(k:Int),(n:Int)⟩).Ai.Second)] 73 (0,0)) true)]⟩) 2 [true,true,true,true,true,true,true,true,true,true,true,true,true,true,true,true,true,true,true,true,true,true,true,true,true,true,true,true,true,true,true,true,true,true,false,true,false] ?_ (fun hv99 => ?_)
      ·rintro⟨⟨n96,b97,b98⟩,hb100⟩
       simp only at hb100
       show Wg _ _ [(1,Ac k),(2,pt z),(BA z),(BU k n c),(BX b17 o18 y8),(BM y8),(26,Ac n),(BZ n15),(8,pt b97),(64,.slice (some ⟨b98,0,none⟩) 3 3)] _ ⟨w,n96,[(Ak w),(Cc z c),(Cm z),(CG y24 n15),(bk b97 #[i6 0,i6 0,i6 0] 73),(bk b98 #[i6 ((Ah (win y24.Ba 1 16384) 419 ⟨(k:Int),(n:Int)⟩).e),i6 ((Ah (win y24.Ba 1 16384) 419 ⟨(k:Int),(n:Int)⟩).Ai.First),i6 ((Ah (win y24.Ba 1 16384) 419 ⟨(k:Int),(n:Int)⟩).Ai.Second),i6 ((Ah (win y24.AQ 82 16384) 420 ⟨(k:Int),(n:Int)⟩).e),i6 ((Ah (win y24.AQ 82 16384) 420 ⟨(k:Int),(n:Int)⟩).Ai.First),i6 ((Ah (win y24.AQ 82 16384) 420 ⟨(k:Int),(n:Int)⟩).Ai.Second),i6 ((Ah true 422 ⟨(k:Int),(n:Int)⟩).e),i6 ((Ah true 422 ⟨(k:Int),(n:Int)⟩).Ai.First),i6 ((Ah true 422 ⟨(k:Int),(n:Int)⟩).Ai.Second)] 73)]⟩ _ _ _ _ _ _ _
       refine BC 34 ?_
       refine Ht 65 #[.slice (some ⟨b98,0,none⟩) 3 3] (some 65) (.agg (Ar.arr (Bc [(Ah (win y24.Ba 1 16384) 419 ⟨(k:Int),(n:Int)⟩),(Ah (win y24.AQ 82 16384) 420 ⟨(k:Int),(n:Int)⟩),(Ah true 422 ⟨(k:Int),(n:Int)⟩)]))) [1,2,4,5,24,25,26,7,8,65] [(1,Ac k),(2,pt z),(BA z),(BU k n c),(BX b17 o18 y8),(BM y8),(26,Ac n),(BZ n15),(8,pt b97),(QF y24 k n)] [0,1,2,3] (fun w101 hw101=>DZ w101 (hL.ext (hw101.ext rfl)) ⟨some ⟨b98,0,none⟩,3,[(Ah (win y24.Ba 1 16384) 419 ⟨(k:Int),(n:Int)⟩),(Ah (win y24.AQ 82 16384) 420 ⟨(k:Int),(n:Int)⟩),(Ah true 422 ⟨(k:Int),(n:Int)⟩)]⟩ (EP hw101 (i:=5) [(Ah (win y24.Ba 1 16384) 419 ⟨(k:Int),(n:Int)⟩),(Ah (win y24.AQ 82 16384) 420 ⟨(k:Int),(n:Int)⟩),(Ah true 422 ⟨(k:Int),(n:Int)⟩)]) (show 3≤1000 by decide)) (fun n102 hn103 => ?_)
       replace hn103:n96≤n102:=hn103
       refine DU [1,2,4,5,24,25,26,7,8,65] [(1,Ac k),(2,pt z),(BA z),(BU k n c),(BX b17 o18 y8),(BM y8),(26,Ac n),(BZ n15),(8,pt b97),(QF y24 k n)] ?_
       exact hv94 ⟨(n102,b97,b98),by first | omega | (dsimp only;omega)⟩
      refine JC [33,35] ?_
      refine List.forall_mem_cons.2 ⟨?_,List.forall_mem_cons.2 ⟨?_,fun _ h=>absurd h List.not_mem_nil⟩⟩
      ·refine BH o0 [1,2,4,5,24,25,26,7,64] [] [(1,Ac k),(2,pt z),(BA z),(BU k n c),(BX b17 o18 y8),(BM y8),(26,Ac n),(BZ n15),(64,.slice (some ⟨n82,0,none⟩) 3 3)] ⟨w,n82+1,[(Ak w),(Cc z c),(Cm z),(CG y24 n15),(Xx y24 k n n82)]⟩ [0,1,2,3] Ae (.inr rfl) ?_
       refine JC [34,35] ?_
       refine List.forall_mem_cons.2 ⟨?_,List.forall_mem_cons.2 ⟨?_,fun _ h=>absurd h List.not_mem_nil⟩⟩
       ·refine Ht 65 #[.slice (some ⟨n82,0,none⟩) 3 3] (some 65) (.agg (Ar.arr (Bc [(Ah (win y24.Ba 1 16384) 419 ⟨(k:Int),(n:Int)⟩),(Ah (win y24.AQ 82 16384) 420 ⟨(k:Int),(n:Int)⟩),(Ah true 422 ⟨(k:Int),(n:Int)⟩)]))) [1,2,4,5,24,25,26,7,65] [(1,Ac k),(2,pt z),(BA z),(BU k n c),(BX b17 o18 y8),(BM y8),(26,Ac n),(BZ n15),(QF y24 k n)] [0,1,2,3] (fun w104 hw104=>DZ w104 (hL.ext (hw104.ext rfl)) ⟨some ⟨n82,0,none⟩,3,[(Ah (win y24.Ba 1 16384) 419 ⟨(k:Int),(n:Int)⟩),(Ah (win y24.AQ 82 16384) 420 ⟨(k:Int),(n:Int)⟩),(Ah true 422 ⟨(k:Int),(n:Int)⟩)]⟩ (EP hw104 (i:=4) [(Ah (win y24.Ba 1 16384) 419 ⟨(k:Int),(n:Int)⟩),(Ah (win y24.AQ 82 16384) 420 ⟨(k:Int),(n:Int)⟩),(Ah true 422 ⟨(k:Int),(n:Int)⟩)]) (show 3≤1000 by decide)) (fun n105 hn106 => ?_)
        replace hn106:n82+1≤n105:=hn106
        refine BC 35 ?_
        refine BH o0 [1,2,4,5,24,25,26,7,65,8] [] [(1,Ac k),(2,pt z),(BA z),(BU k n c),(BX b17 o18 y8),(BM y8),(26,Ac n),(BZ n15),(QF y24 k n),(8,pt n105)] ⟨w,n105+1,[(Ak w),(Cc z c),(Cm z),(CG y24 n15),(Xx y24 k n n82),(bk n105 #[i6 0,i6 0,i6 0] 73)]⟩ [0,1,2,3] Ae (.inr rfl) ?_
        refine MJ [0,1,2,3,5,4] [(Ak w),(Cc z c),(Cm z),(CG y24 n15),(bk n105 #[i6 0,i6 0,i6 0] 73),(Xx y24 k n n82)] rfl rfl ?_
        refine DU [1,2,4,5,24,25,26,7,8,65] [(1,Ac k),(2,pt z),(BA z),(BU k n c),(BX b17 o18 y8),(BM y8),(26,Ac n),(BZ n15),(8,pt n105),(QF y24 k n)] ?_
        exact hv94 ⟨(n105+1,n105,n82),by first | omega | (dsimp only;omega)⟩
       refine BH o0 [1,2,4,5,24,25,26,7,64,8] [] [(1,Ac k),(2,pt z),(BA z),(BU k n c),(BX b17 o18 y8),(BM y8),(26,Ac n),(BZ n15),(64,.slice (some ⟨n82,0,none⟩) 3 3),(8,pt (n82+1))] ⟨w,n82+2,[(Ak w),(Cc z c),(Cm z),(CG y24 n15),(Xx y24 k n n82),(bk (n82+1) #[i6 0,i6 0,i6 0] 73)]⟩ [0,1,2,3] Ae (.inr rfl) ?_
       refine MJ [0,1,2,3,5,4] [(Ak w),(Cc z c),(Cm z),(CG y24 n15),(bk (n82+1) #[i6 0,i6 0,i6 0] 73),(Xx y24 k n n82)] rfl rfl ?_
       refine DU [1,2,4,5,24,25,26,7,8,64] [(1,Ac k),(2,pt z),(BA z),(BU k n c),(BX b17 o18 y8),(BM y8),(26,Ac n),(BZ n15),(8,pt (n82+1)),(64,.slice (some ⟨n82,0,none⟩) 3 3)] ?_
       exact hv99 ⟨(n82+2,n82+1,n82),by first | omega | (dsimp only;omega)⟩
      refine BH o0 [1,2,4,5,24,25,26,7,46,53,63,8] [] [(1,Ac k),(2,pt z),(BA z),(BU k n c),(BX b17 o18 y8),(BM y8),(26,Ac n),(BZ n15),(QJ y24 k n),(KY y24 k n),(Rt k n),(8,pt n82)] ⟨w,n82+1,[(Ak w),(Cc z c),(Cm z),(CG y24 n15),(bk n82 #[i6 0,i6 0,i6 0] 73)]⟩ [0,1,2,3] Ae (.inr rfl) ?_
      refine DU [8,1,2,4,5,24,25,26,7,46,53,63] [(8,pt n82),(1,Ac k),(2,pt z),(BA z),(BU k n c),(BX b17 o18 y8),(BM y8),(26,Ac n),(BZ n15),(QJ y24 k n),(KY y24 k n),(Rt k n)] ?_
      exact hv84 ⟨(n82+1,n82),by first | omega | (dsimp only;omega)⟩
     rintro⟨⟨n69,b70,b71⟩,hJ107⟩
     simp only at hJ107
     show E _ _ [(1,Ac k),(2,pt z),(BA z),(BU k n c),(BX b17 o18 y8),(BM y8),(26,Ac n),(BZ n15),(8,pt b71)] _ ⟨w,n69,[(Ak w),(Cc z c),(Cm z),(CG y24 n15),(bk b70 #[i6 ((Ah (win y24.Ba 1 16384) 419 ⟨(k:Int),(n:Int)⟩).e),i6 ((Ah (win y24.Ba 1 16384) 419 ⟨(k:Int),(n:Int)⟩).Ai.First),i6 ((Ah (win y24.Ba 1 16384) 419 ⟨(k:Int),(n:Int)⟩).Ai.Second),i6 ((Ah (win y24.AQ 82 16384) 420 ⟨(k:Int),(n:Int)⟩).e),i6 ((Ah (win y24.AQ 82 16384) 420 ⟨(k:Int),(n:Int)⟩).Ai.First),i6 ((Ah (win y24.AQ 82 16384) 420 ⟨(k:Int),(n:Int)⟩).Ai.Second),i6 ((Ah true 422 ⟨(k:Int),(n:Int)⟩).e),i6 ((Ah true 422 ⟨(k:Int),(n:Int)⟩).Ai.First),i6 ((Ah true 422 ⟨(k:Int),(n:Int)⟩).Ai.Second)] 73),(ZaL y24 k n b71)]⟩ _ _ _
     refine Cb [0,1,2,3,5] [(Ak w),(Cc z c),(Cm z),(CG y24 n15),(ZaL y24 k n b71)] rfl rfl ?_
     have e0:gd (ED c k).xs n=y24:=(by rw[hy24,hy8])
     have eA:Gf c k n=(Bc [(Ah (win y24.Ba 1 16384) 419 ⟨(k:Int),(n:Int)⟩),(Ah (win y24.AQ 82 16384) 420 ⟨(k:Int),(n:Int)⟩),(Ah true 422 ⟨(k:Int),(n:Int)⟩)]):=(by unfold Gf Ob;simp only[e0];simp[h27,h29])
     refine BK [1,2,4,5,7,8,24,25,26] [(1,Ac k),(2,pt z),(BA z),(BU k n c),(BZ n15),(8,pt b71),(BX b17 o18 y8),(BM y8),(26,Ac n)] ?_
     refine BD (fun a w' hs=>⟨n69,b71,by omega,(by(try dsimp only[ZaL,Cm,CG,Cc,QJ,KY,PH,Rt,Ri,BX,BM,BA,Nj,BU,BZ]at hs ⊢);rw[eA];exact hs)⟩)
    have hd108:=FQ h27
    by_cases h109:(Ii c k y24.Partition)=true
    ·refine Eh 36 [0,1,2,3] [(Ak w),(Cc z c),(Cm z),(CG y24 n15)] rfl rfl ?_
     refine Dj [(0,o0),(1,(a1 3)),(2,o0),(3,(a1 1)),(4,o0),(5,(ov (i6 ((c.Aa.xs.length:Int) - 1)))),(12,o0),(13,o0),(16,o0),(17,(a1 3)),(19,o0),(20,o0),(23,(an 7 1)),(24,o0),(25,o0),(26,(a1 3)),(29,o0),(30,o0)] [1,2,4,5,24,25,26,7,32,36,43,44,48,50,51,54,55,57,60,61] [Qb n15,Qb z,Wr ((c.Aa.xs.length:Int) - 1) ((c.Aa.xs.length:Int) - 1),Qb n15,Qb z,Qb z,Qb z,Qb z,Qb z,Qb z,Qb z,Qb n15] [true,true,true,true,true,true,false,false,false,false,false,false,true,true,false,false,true,true,false,true,true,false,false,true,true,true,true,false,false,true,true,false,false,false,false,false,false] [(1,Ac k),(2,pt z),(BA z),(BU k n c),(BX b17 o18 y8),(BM y8),(26,Ac n),(BZ n15),(32,i6 y24.Partition),(Ri c),(43,Ac k),(44,Ac n),(48,i6 y24.AQ),(50,Ac k),(51,Ac n),(54,.agg (Aj.arr c)),(55,Ac k),(57,i6 y24.Partition),(60,Ac k),(61,Ac n)] ⟨rfl,rfl,BQ,rfl,rfl,rfl,rfl,rfl,rfl,rfl,rfl,rfl,Ae⟩ ?_
     refine Qx (fun x:{p:Nat×Nat×Nat // n15+1≤p.1∧n15+1≤p.2.1∧n15+1≤p.2.2}=>([(1,Ac k),(2,pt z),(BA z),(BU k n c),(BX b17 o18 y8),(BM y8),(26,Ac n),(BZ n15),(8,pt x.1.2.2)],⟨w,x.1.1,[(Ak w),(Cc z c),(Cm z),(CG y24 n15),(.blk x.1.2.1 (.cells #[i6 ((Ah false 419 ⟨(k:Int),(n:Int)⟩).e),i6 ((Ah false 419 ⟨(k:Int),(n:Int)⟩).Ai.First),i6 ((Ah false 419 ⟨(k:Int),(n:Int)⟩).Ai.Second),i6 ((Ah (win y24.AQ 82 16384) 420 ⟨(k:Int),(n:Int)⟩).e),i6 ((Ah (win y24.AQ 82 16384) 420 ⟨(k:Int),(n:Int)⟩).Ai.First),i6 ((Ah (win y24.AQ 82 16384) 420 ⟨(k:Int),(n:Int)⟩).Ai.Second),i6 ((Ah false 422 ⟨(k:Int),(n:Int)⟩).e),i6 ((Ah false 422 ⟨(k:Int),(n:Int)⟩).Ai.First),i6 ((Ah false 422 ⟨(k:Int),(n:Int)⟩).Ai.Second)] 73 (0,0)) true),(.blk x.1.2.2 (.cells (Ar.arr (Bc [(Ah false 419 ⟨(k:Int),(n:Int)⟩),(Ah (win y24.AQ 82 16384) 420 ⟨(k:Int),(n:Int)⟩),(Ah false 422 ⟨(k:Int),(n:Int)⟩)])) 73 (0,0)) true)]⟩)) (fun hK => ?_) ?_
     ·refine Qg 35 8 [.cl 6 (.bool (win y24.Partition (-1) ((c.Aa.xs.length:Int) - 1))),.tk 7 (ov (.bool false)),.tk 8 o0,.tk 9 o0,.tk 10 o0,.tk 11 o0,.cl 14 (.agg #[(Ac k),Ac n]),.cl 15 (.agg (Ar.arr (Ah false 419 ⟨(k:Int),(n:Int)⟩))),.cl 18 (.bool (win y24.AQ 82 16384)),.cl 21 (.agg #[(Ac k),Ac n]),.cl 22 (.agg (Ar.arr (Ah (win y24.AQ 82 16384) 420 ⟨(k:Int),(n:Int)⟩))),.cl 27 (.bool (Ii c k y24.Partition)),.tk 28 (ov (.bool false)),.cl 31 (.agg #[(Ac k),Ac n]),.cl 32 (.agg (Ar.arr (Ah false 422 ⟨(k:Int),(n:Int)⟩)))] [1,2,4,5,24,25,26,7,46,53,63] [(42,#[i6 y24.Partition,i6 (-1),i6 ((c.Aa.xs.length:Int) - 1)],.bool (win y24.Partition (-1) ((c.Aa.xs.length:Int) - 1))),(70,#[(Ac k),Ac n],.agg #[(Ac k),Ac n]),(41,#[.bool false,i6 419,.agg #[(Ac k),Ac n]],.agg (Ar.arr (Ah false 419 ⟨(k:Int),(n:Int)⟩))),(42,#[i6 y24.AQ,i6 82,i6 16384],.bool (win y24.AQ 82 16384)),(70,#[(Ac k),Ac n],.agg #[(Ac k),Ac n]),(41,#[.bool (win y24.AQ 82 16384),i6 420,.agg #[(Ac k),Ac n]],.agg (Ar.arr (Ah (win y24.AQ 82 16384) 420 ⟨(k:Int),(n:Int)⟩))),(72,#[.agg (Aj.arr c),Ac k,i6 y24.Partition],.bool (Ii c k y24.Partition)),(70,#[(Ac k),Ac n],.agg #[(Ac k),Ac n]),(41,#[.bool false,i6 422,.agg #[(Ac k),Ac n]],.agg (Ar.arr (Ah false 422 ⟨(k:Int),(n:Int)⟩)))] (DF 33 4) [Value.bool (win y24.Partition (-1) ((c.Aa.xs.length:Int) - 1))=Value.bool false,Value.bool (!(Ii c k y24.Partition))=Value.bool false] [(1,Ac k),(2,pt z),(BA z),(BU k n c),(BX b17 o18 y8),(BM y8),(26,Ac n),(BZ n15),(Rn k n),(KY y24 k n),(PH k n)] (.cells #[i6 0,i6 0,i6 0] 73 (0,0)) [0,1,2,3] ⟨(congrArg Value.bool (Bool.eq_false_iff.2 h27)),by simp[h109],Ae⟩ ⟨fun w113 hw113=>Cj w113 y24.Partition (-1) ((c.Aa.xs.length:Int) - 1),fun w114 hw114=>GX w114 (k:Int) (n:Int),fun w115 hw115=>Bz w115 (hL.ext (hw115.ext rfl)) false 419 (k:Int) (n:Int),fun w116 hw116=>Cj w116 y24.AQ 82 16384,fun w117 hw117=>GX w117 (k:Int) (n:Int),fun w118 hw118=>Bz w118 (hL.ext (hw118.ext rfl)) (win y24.AQ 82 16384) 420 (k:Int) (n:Int),fun w119 hw119=>Tu w119 c (hc.ext (hw119.ext rfl) (fun _ h=>h)) k hk y24.Partition,fun w120 hw120=>GX w120 (k:Int) (n:Int),fun w121 hw121=>Bz w121 (hL.ext (hw121.ext rfl)) false 422 (k:Int) (n:Int),Ae⟩ ?_ (fun hv124 n122 hn123 => ?_)
      ·rintro⟨⟨n125,b126⟩,hb127⟩
       simp only at hb127
       refine BC 33 ?_
       refine BH o0 [8,1,2,4,5,24,25,26,7,64] [] [(8,pt b126),(1,Ac k),(2,pt z),(BA z),(BU k n c),(BX b17 o18 y8),(BM y8),(26,Ac n),(BZ n15),(64,.slice (some ⟨n125,0,none⟩) 3 3)] ⟨w,n125+1,[(Ak w),(Cc z c),(Cm z),(CG y24 n15),(bk b126 #[i6 0,i6 0,i6 0] 73),(ZB y24 k n n125)]⟩ [0,1,2,3] Ae (.inr rfl) ?_
       refine BC 34 ?_
       refine Ht 65 #[.slice (some ⟨n125,0,none⟩) 3 3] (some 65) (.agg (Ar.arr (Bc [(Ah false 419 ⟨(k:Int),(n:Int)⟩),(Ah (win y24.AQ 82 16384) 420 ⟨(k:Int),(n:Int)⟩),(Ah false 422 ⟨(k:Int),(n:Int)⟩)]))) [8,1,2,4,5,24,25,26,7,65] [(8,pt b126),(1,Ac k),(2,pt z),(BA z),(BU k n c),(BX b17 o18 y8),(BM y8),(26,Ac n),(BZ n15),(QP y24 k n)] [0,1,2,3] (fun w128 hw128=>DZ w128 (hL.ext (hw128.ext rfl)) ⟨some ⟨n125,0,none⟩,3,[(Ah false 419 ⟨(k:Int),(n:Int)⟩),(Ah (win y24.AQ 82 16384) 420 ⟨(k:Int),(n:Int)⟩),(Ah false 422 ⟨(k:Int),(n:Int)⟩)]⟩ (EP hw128 (i:=5) [(Ah false 419 ⟨(k:Int),(n:Int)⟩),(Ah (win y24.AQ 82 16384) 420 ⟨(k:Int),(n:Int)⟩),(Ah false 422 ⟨(k:Int),(n:Int)⟩)]) (show 3≤1000 by decide)) (fun n129 hn130 => ?_)
       replace hn130:n125+1≤n129:=hn130
       refine BC 36 ?_
       refine BH (an 3 4) [8,1,2,4,5,24,25,26,7] [Qb b126,Qb b126,Qb b126] [(8,pt b126),(1,Ac k),(2,pt z),(BA z),(BU k n c),(BX b17 o18 y8),(BM y8),(26,Ac n),(BZ n15)] ⟨w,n129,[(Ak w),(Cc z c),(Cm z),(CG y24 n15),(Zas y24 k n b126),(ZB y24 k n n125)]⟩ [] ⟨rfl,rfl,rfl,Ae⟩ (.inl rfl) ?_
       refine Es 37 [0,1,2,3,4,5] [(Ak w),(Cc z c),(Cm z),(CG y24 n15),(Zas y24 k n b126),(ZB y24 k n n125)] rfl rfl ?_
       refine CU ?_
       refine BK [1,2,4,5,24,25,26,7,8] [(1,Ac k),(2,pt z),(BA z),(BU k n c),(BX b17 o18 y8),(BM y8),(26,Ac n),(BZ n15),(8,pt b126)] ?_
       refine Cb [0,1,2,3,5,4] [(Ak w),(Cc z c),(Cm z),(CG y24 n15),(ZB y24 k n n125),(Zas y24 k n b126)] rfl rfl ?_
       exact hK ⟨(n129,n125,b126),by first | omega | (dsimp only;omega)⟩
      replace hn123:n15+1≤n122:=hn123
      refine Oy (fun x:{p:Nat×Nat×Nat // n122≤p.1∧n122≤p.2.1∧n122≤p.2.2}=>[(1,Ac k),(2,pt z),(BA z),(BU k n c),(BX b17 o18 y8),(BM y8),(26,Ac n),(BZ n15),(8,pt x.1.2.1),(QP y24 k n)]) (fun x=>⟨w,x.1.1,[(Ak w),(Cc z c),(Cm z),(CG y24 n15),(.blk x.1.2.1 (.cells #[i6 0,i6 0,i6 0] 73 (0,0)) true),(.blk x.1.2.2 (.cells #[i6 ((Ah false 419 ⟨(k:Int),(n:Int)⟩).e),i6 ((Ah false 419 ⟨(k:Int),(n:Int)⟩).Ai.First),i6 ((Ah false 419 ⟨(k:Int),(n:Int)⟩).Ai.Second),i6 ((Ah (win y24.AQ 82 16384) 420 ⟨(k:Int),(n:Int)⟩).e),i6 ((Ah (win y24.AQ 82 16384) 420 ⟨(k:Int),(n:Int)⟩).Ai.First),i6 ((Ah (win y24.AQ 82 16384) 420 ⟨(k:Int),(n:Int)⟩).Ai.Second),i6 ((Ah false 422 ⟨(k:Int),(n:Int)⟩).e),i6 ((Ah false 422 ⟨(k:Int),(n:Int)⟩).Ai.First),i6 ((Ah false 422 ⟨(k:Int),(n:Int)⟩).Ai.Second)] 73 (0,0)) true)]⟩) 1 (DF 36 1) ?_ (fun hv134 => ?_)
      ·rintro⟨⟨n131,b132,b133⟩,hb135⟩
       simp only at hb135
       show Wg _ _ [(1,Ac k),(2,pt z),(BA z),(BU k n c),(BX b17 o18 y8),(BM y8),(26,Ac n),(BZ n15),(8,pt b132),(QP y24 k n)] _ ⟨w,n131,[(Ak w),(Cc z c),(Cm z),(CG y24 n15),(bk b132 #[i6 0,i6 0,i6 0] 73),(ZH y24 k n b133)]⟩ _ _ _ _ _ _ _
       refine BC 36 ?_
       refine BH (an 3 4) [1,2,4,5,24,25,26,7,8] [Qb b132,Qb b132,Qb b132] [(1,Ac k),(2,pt z),(BA z),(BU k n c),(BX b17 o18 y8),(BM y8),(26,Ac n),(BZ n15),(8,pt b132)] ⟨w,n131,[(Ak w),(Cc z c),(Cm z),(CG y24 n15),(ZaM y24 k n b132),(ZH y24 k n b133)]⟩ [] ⟨rfl,rfl,rfl,Ae⟩ (.inl rfl) ?_
       refine Es 37 [0,1,2,3,4,5] [(Ak w),(Cc z c),(Cm z),(CG y24 n15),(ZaM y24 k n b132),(ZH y24 k n b133)] rfl rfl ?_
       refine CU ?_
       refine BK [1,2,4,5,24,25,26,7,8] [(1,Ac k),(2,pt z),(BA z),(BU k n c),(BX b17 o18 y8),(BM y8),(26,Ac n),(BZ n15),(8,pt b132)] ?_
       refine Cb [0,1,2,3,5,4] [(Ak w),(Cc z c),(Cm z),(CG y24 n15),(ZH y24 k n b133),(ZaM y24 k n b132)] rfl rfl ?_
       exact hK ⟨(n131,b133,b132),by first | omega | (dsimp only;omega)⟩
      refine Oy (fun x:{p:Nat×Nat×Nat // n122≤p.1∧n122≤p.2.1∧n122≤p.2.2}=>[(1,Ac k),(2,pt z),(BA z),(BU k n c),(BX b17 o18 y8),(BM y8),(26,Ac n),(BZ n15),(8,pt x.1.2.1),(64,.slice (some ⟨x.1.2.2,0,none⟩) 3 3)]) (fun x=>⟨w,x.1.1,[(Ak w),(Cc z c),(Cm z),(CG y24 n15),(.blk x.1.2.1 (.cells #[i6 0,i6 0,i6 0] 73 (0,0)) true),(.blk x.1.2.2 (.cells #[i6 ((Ah false 419 ⟨(k:Int),(n:Int)⟩).e),i6 ((Ah false 419 ⟨(k:Int),(n:Int)⟩).Ai.First),i6 ((Ah false 419 ⟨(k:Int),(n:Int)⟩).Ai.Second),i6 ((Ah (win y24.AQ 82 16384) 420 ⟨(k:Int),(n:Int)⟩).e),i6 ((Ah (win y24.AQ 82 16384) 420 ⟨(k:Int),(n:Int)⟩).Ai.First),i6 ((Ah (win y24.AQ 82 16384) 420 ⟨(k:Int),(n:Int)⟩).Ai.Second),i6 ((Ah false 422 ⟨(k:Int),(n:Int)⟩).e),i6 ((Ah false 422 ⟨(k:Int),(n:Int)⟩).Ai.First),i6 ((Ah false 422 ⟨(k:Int),(n:Int)⟩).Ai.Second)] 73 (0,0)) true)]⟩) 2 [true,true,true,true,true,true,true,true,true,true,true,true,true,true,true,true,true,true,true,true,true,true,true,true,true,true,true,true,true,true,true,true,true,true,false,true,false] ?_ (fun hv139 => ?_)
      ·rintro⟨⟨n136,b137,b138⟩,hb140⟩
       simp only at hb140
       show Wg _ _ [(1,Ac k),(2,pt z),(BA z),(BU k n c),(BX b17 o18 y8),(BM y8),(26,Ac n),(BZ n15),(8,pt b137),(64,.slice (some ⟨b138,0,none⟩) 3 3)] _ ⟨w,n136,[(Ak w),(Cc z c),(Cm z),(CG y24 n15),(bk b137 #[i6 0,i6 0,i6 0] 73),(bk b138 #[i6 ((Ah false 419 ⟨(k:Int),(n:Int)⟩).e),i6 ((Ah false 419 ⟨(k:Int),(n:Int)⟩).Ai.First),i6 ((Ah false 419 ⟨(k:Int),(n:Int)⟩).Ai.Second),i6 ((Ah (win y24.AQ 82 16384) 420 ⟨(k:Int),(n:Int)⟩).e),i6 ((Ah (win y24.AQ 82 16384) 420 ⟨(k:Int),(n:Int)⟩).Ai.First),i6 ((Ah (win y24.AQ 82 16384) 420 ⟨(k:Int),(n:Int)⟩).Ai.Second),i6 ((Ah false 422 ⟨(k:Int),(n:Int)⟩).e),i6 ((Ah false 422 ⟨(k:Int),(n:Int)⟩).Ai.First),i6 ((Ah false 422 ⟨(k:Int),(n:Int)⟩).Ai.Second)] 73)]⟩ _ _ _ _ _ _ _
       refine BC 34 ?_
       refine Ht 65 #[.slice (some ⟨b138,0,none⟩) 3 3] (some 65) (.agg (Ar.arr (Bc [(Ah false 419 ⟨(k:Int),(n:Int)⟩),(Ah (win y24.AQ 82 16384) 420 ⟨(k:Int),(n:Int)⟩),(Ah false 422 ⟨(k:Int),(n:Int)⟩)]))) [1,2,4,5,24,25,26,7,8,65] [(1,Ac k),(2,pt z),(BA z),(BU k n c),(BX b17 o18 y8),(BM y8),(26,Ac n),(BZ n15),(8,pt b137),(QP y24 k n)] [0,1,2,3] (fun w141 hw141=>DZ w141 (hL.ext (hw141.ext rfl)) ⟨some ⟨b138,0,none⟩,3,[(Ah false 419 ⟨(k:Int),(n:Int)⟩),(Ah (win y24.AQ 82 16384) 420 ⟨(k:Int),(n:Int)⟩),(Ah false 422 ⟨(k:Int),(n:Int)⟩)]⟩ (EP hw141 (i:=5) [(Ah false 419 ⟨(k:Int),(n:Int)⟩),(Ah (win y24.AQ 82 16384) 420 ⟨(k:Int),(n:Int)⟩),(Ah false 422 ⟨(k:Int),(n:Int)⟩)]) (show 3≤1000 by decide)) (fun n142 hn143 => ?_)
       replace hn143:n136≤n142:=hn143
       refine DU [1,2,4,5,24,25,26,7,8,65] [(1,Ac k),(2,pt z),(BA z),(BU k n c),(BX b17 o18 y8),(BM y8),(26,Ac n),(BZ n15),(8,pt b137),(QP y24 k n)] ?_
       exact hv134 ⟨(n142,b137,b138),by first | omega | (dsimp only;omega)⟩
      refine JC [33,35] ?_
      refine List.forall_mem_cons.2 ⟨?_,List.forall_mem_cons.2 ⟨?_,fun _ h=>absurd h List.not_mem_nil⟩⟩
      ·refine BH o0 [1,2,4,5,24,25,26,7,64] [] [(1,Ac k),(2,pt z),(BA z),(BU k n c),(BX b17 o18 y8),(BM y8),(26,Ac n),(BZ n15),(64,.slice (some ⟨n122,0,none⟩) 3 3)] ⟨w,n122+1,[(Ak w),(Cc z c),(Cm z),(CG y24 n15),(XM y24 k n n122)]⟩ [0,1,2,3] Ae (.inr rfl) ?_
       refine JC [34,35] ?_
       refine List.forall_mem_cons.2 ⟨?_,List.forall_mem_cons.2 ⟨?_,fun _ h=>absurd h List.not_mem_nil⟩⟩
       ·refine Ht 65 #[.slice (some ⟨n122,0,none⟩) 3 3] (some 65) (.agg (Ar.arr (Bc [(Ah false 419 ⟨(k:Int),(n:Int)⟩),(Ah (win y24.AQ 82 16384) 420 ⟨(k:Int),(n:Int)⟩),(Ah false 422 ⟨(k:Int),(n:Int)⟩)]))) [1,2,4,5,24,25,26,7,65] [(1,Ac k),(2,pt z),(BA z),(BU k n c),(BX b17 o18 y8),(BM y8),(26,Ac n),(BZ n15),(QP y24 k n)] [0,1,2,3] (fun w144 hw144=>DZ w144 (hL.ext (hw144.ext rfl)) ⟨some ⟨n122,0,none⟩,3,[(Ah false 419 ⟨(k:Int),(n:Int)⟩),(Ah (win y24.AQ 82 16384) 420 ⟨(k:Int),(n:Int)⟩),(Ah false 422 ⟨(k:Int),(n:Int)⟩)]⟩ (EP hw144 (i:=4) [(Ah false 419 ⟨(k:Int),(n:Int)⟩),(Ah (win y24.AQ 82 16384) 420 ⟨(k:Int),(n:Int)⟩),(Ah false 422 ⟨(k:Int),(n:Int)⟩)]) (show 3≤1000 by decide)) (fun n145 hn146 => ?_)
        replace hn146:n122+1≤n145:=hn146
        refine BC 35 ?_
        refine BH o0 [1,2,4,5,24,25,26,7,65,8] [] [(1,Ac k),(2,pt z),(BA z),(BU k n c),(BX b17 o18 y8),(BM y8),(26,Ac n),(BZ n15),(QP y24 k n),(8,pt n145)] ⟨w,n145+1,[(Ak w),(Cc z c),(Cm z),(CG y24 n15),(XM y24 k n n122),(bk n145 #[i6 0,i6 0,i6 0] 73)]⟩ [0,1,2,3] Ae (.inr rfl) ?_
        refine MJ [0,1,2,3,5,4] [(Ak w),(Cc z c),(Cm z),(CG y24 n15),(bk n145 #[i6 0,i6 0,i6 0] 73),(XM y24 k n n122)] rfl rfl ?_
        refine DU [1,2,4,5,24,25,26,7,8,65] [(1,Ac k),(2,pt z),(BA z),(BU k n c),(BX b17 o18 y8),(BM y8),(26,Ac n),(BZ n15),(8,pt n145),(QP y24 k n)] ?_
        exact hv134 ⟨(n145+1,n145,n122),by first | omega | (dsimp only;omega)⟩
       refine BH o0 [1,2,4,5,24,25,26,7,64,8] [] [(1,Ac k),(2,pt z),(BA z),(BU k n c),(BX b17 o18 y8),(BM y8),(26,Ac n),(BZ n15),(64,.slice (some ⟨n122,0,none⟩) 3 3),(8,pt (n122+1))] ⟨w,n122+2,[(Ak w),(Cc z c),(Cm z),(CG y24 n15),(XM y24 k n n122),(bk (n122+1) #[i6 0,i6 0,i6 0] 73)]⟩ [0,1,2,3] Ae (.inr rfl) ?_
       refine MJ [0,1,2,3,5,4] [(Ak w),(Cc z c),(Cm z),(CG y24 n15),(bk (n122+1) #[i6 0,i6 0,i6 0] 73),(XM y24 k n n122)] rfl rfl ?_
       refine DU [1,2,4,5,24,25,26,7,8,64] [(1,Ac k),(2,pt z),(BA z),(BU k n c),(BX b17 o18 y8),(BM y8),(26,Ac n),(BZ n15),(8,pt (n122+1)),(64,.slice (some ⟨n122,0,none⟩) 3 3)] ?_
       exact hv139 ⟨(n122+2,n122+1,n122),by first | omega | (dsimp only;omega)⟩
      refine BH o0 [1,2,4,5,24,25,26,7,46,53,63,8] [] [(1,Ac k),(2,pt z),(BA z),(BU k n c),(BX b17 o18 y8),(BM y8),(26,Ac n),(BZ n15),(Rn k n),(KY y24 k n),(PH k n),(8,pt n122)] ⟨w,n122+1,[(Ak w),(Cc z c),(Cm z),(CG y24 n15),(bk n122 #[i6 0,i6 0,i6 0] 73)]⟩ [0,1,2,3] Ae (.inr rfl) ?_
      refine DU [8,1,2,4,5,24,25,26,7,46,53,63] [(8,pt n122),(1,Ac k),(2,pt z),(BA z),(BU k n c),(BX b17 o18 y8),(BM y8),(26,Ac n),(BZ n15),(Rn k n),(KY y24 k n),(PH k n)] ?_
      exact hv124 ⟨(n122+1,n122),by first | omega | (dsimp only;omega)⟩
     rintro⟨⟨n110,b111,b112⟩,hJ147⟩
     simp only at hJ147
     show E _ _ [(1,Ac k),(2,pt z),(BA z),(BU k n c),(BX b17 o18 y8),(BM y8),(26,Ac n),(BZ n15),(8,pt b112)] _ ⟨w,n110,[(Ak w),(Cc z c),(Cm z),(CG y24 n15),(bk b111 #[i6 ((Ah false 419 ⟨(k:Int),(n:Int)⟩).e),i6 ((Ah false 419 ⟨(k:Int),(n:Int)⟩).Ai.First),i6 ((Ah false 419 ⟨(k:Int),(n:Int)⟩).Ai.Second),i6 ((Ah (win y24.AQ 82 16384) 420 ⟨(k:Int),(n:Int)⟩).e),i6 ((Ah (win y24.AQ 82 16384) 420 ⟨(k:Int),(n:Int)⟩).Ai.First),i6 ((Ah (win y24.AQ 82 16384) 420 ⟨(k:Int),(n:Int)⟩).Ai.Second),i6 ((Ah false 422 ⟨(k:Int),(n:Int)⟩).e),i6 ((Ah false 422 ⟨(k:Int),(n:Int)⟩).Ai.First),i6 ((Ah false 422 ⟨(k:Int),(n:Int)⟩).Ai.Second)] 73),(Zbf y24 k n b112)]⟩ _ _ _
     refine Cb [0,1,2,3,5] [(Ak w),(Cc z c),(Cm z),(CG y24 n15),(Zbf y24 k n b112)] rfl rfl ?_
     have e0:gd (ED c k).xs n=y24:=(by rw[hy24,hy8])
     have eA:Gf c k n=(Bc [(Ah false 419 ⟨(k:Int),(n:Int)⟩),(Ah (win y24.AQ 82 16384) 420 ⟨(k:Int),(n:Int)⟩),(Ah false 422 ⟨(k:Int),(n:Int)⟩)]):=(by unfold Gf Ob;simp only[e0];simp[h27,h109])
     refine BK [1,2,4,5,7,8,24,25,26] [(1,Ac k),(2,pt z),(BA z),(BU k n c),(BZ n15),(8,pt b112),(BX b17 o18 y8),(BM y8),(26,Ac n)] ?_
     refine BD (fun a w' hs=>⟨n110,b112,by omega,(by(try dsimp only[Zbf,Cm,CG,Cc,KY,PH,Rn,Ri,BX,BM,BA,Nj,BU,BZ]at hs ⊢);rw[eA];exact hs)⟩)
    refine Eh 36 [0,1,2,3] [(Ak w),(Cc z c),(Cm z),(CG y24 n15)] rfl rfl ?_
    refine Dj [(0,o0),(1,(a1 3)),(2,o0),(3,(a1 1)),(4,o0),(5,(ov (i6 ((c.Aa.xs.length:Int) - 1)))),(12,o0),(13,o0),(16,o0),(17,(a1 3)),(19,o0),(20,o0),(23,(an 7 1)),(24,o0),(25,o0),(26,(a1 3)),(29,o0),(30,o0)] [1,2,4,5,24,25,26,7,32,36,43,44,48,50,51,54,55,57,60,61] [Qb n15,Qb z,Wr ((c.Aa.xs.length:Int) - 1) ((c.Aa.xs.length:Int) - 1),Qb n15,Qb z,Qb z,Qb z,Qb z,Qb z,Qb z,Qb z,Qb n15] [true,true,true,true,true,true,false,false,false,false,false,false,true,true,false,false,true,true,false,true,true,false,false,true,true,true,true,false,false,true,true,false,false,false,false,false,false] [(1,Ac k),(2,pt z),(BA z),(BU k n c),(BX b17 o18 y8),(BM y8),(26,Ac n),(BZ n15),(32,i6 y24.Partition),(Ri c),(43,Ac k),(44,Ac n),(48,i6 y24.AQ),(50,Ac k),(51,Ac n),(54,.agg (Aj.arr c)),(55,Ac k),(57,i6 y24.Partition),(60,Ac k),(61,Ac n)] ⟨rfl,rfl,BQ,rfl,rfl,rfl,rfl,rfl,rfl,rfl,rfl,rfl,Ae⟩ ?_
    refine Qx (fun x:{p:Nat×Nat×Nat // n15+1≤p.1∧n15+1≤p.2.1∧n15+1≤p.2.2}=>([(1,Ac k),(2,pt z),(BA z),(BU k n c),(BX b17 o18 y8),(BM y8),(26,Ac n),(BZ n15),(8,pt x.1.2.2)],⟨w,x.1.1,[(Ak w),(Cc z c),(Cm z),(CG y24 n15),(.blk x.1.2.1 (.cells #[i6 ((Ah false 419 ⟨(k:Int),(n:Int)⟩).e),i6 ((Ah false 419 ⟨(k:Int),(n:Int)⟩).Ai.First),i6 ((Ah false 419 ⟨(k:Int),(n:Int)⟩).Ai.Second),i6 ((Ah (win y24.AQ 82 16384) 420 ⟨(k:Int),(n:Int)⟩).e),i6 ((Ah (win y24.AQ 82 16384) 420 ⟨(k:Int),(n:Int)⟩).Ai.First),i6 ((Ah (win y24.AQ 82 16384) 420 ⟨(k:Int),(n:Int)⟩).Ai.Second),i6 ((Ah true 422 ⟨(k:Int),(n:Int)⟩).e),i6 ((Ah true 422 ⟨(k:Int),(n:Int)⟩).Ai.First),i6 ((Ah true 422 ⟨(k:Int),(n:Int)⟩).Ai.Second)] 73 (0,0)) true),(.blk x.1.2.2 (.cells (Ar.arr (Bc [(Ah false 419 ⟨(k:Int),(n:Int)⟩),(Ah (win y24.AQ 82 16384) 420 ⟨(k:Int),(n:Int)⟩),(Ah true 422 ⟨(k:Int),(n:Int)⟩)])) 73 (0,0)) true)]⟩)) (fun hK => ?_) ?_
    ·refine Qg 35 8 [.cl 6 (.bool (win y24.Partition (-1) ((c.Aa.xs.length:Int) - 1))),.tk 7 (ov (.bool false)),.tk 8 o0,.tk 9 o0,.tk 10 o0,.tk 11 o0,.cl 14 (.agg #[(Ac k),Ac n]),.cl 15 (.agg (Ar.arr (Ah false 419 ⟨(k:Int),(n:Int)⟩))),.cl 18 (.bool (win y24.AQ 82 16384)),.cl 21 (.agg #[(Ac k),Ac n]),.cl 22 (.agg (Ar.arr (Ah (win y24.AQ 82 16384) 420 ⟨(k:Int),(n:Int)⟩))),.cl 27 (.bool (Ii c k y24.Partition)),.tk 28 (ov (.bool true)),.cl 31 (.agg #[(Ac k),Ac n]),.cl 32 (.agg (Ar.arr (Ah true 422 ⟨(k:Int),(n:Int)⟩)))] [1,2,4,5,24,25,26,7,46,53,63] [(42,#[i6 y24.Partition,i6 (-1),i6 ((c.Aa.xs.length:Int) - 1)],.bool (win y24.Partition (-1) ((c.Aa.xs.length:Int) - 1))),(70,#[(Ac k),Ac n],.agg #[(Ac k),Ac n]),(41,#[.bool false,i6 419,.agg #[(Ac k),Ac n]],.agg (Ar.arr (Ah false 419 ⟨(k:Int),(n:Int)⟩))),(42,#[i6 y24.AQ,i6 82,i6 16384],.bool (win y24.AQ 82 16384)),(70,#[(Ac k),Ac n],.agg #[(Ac k),Ac n]),(41,#[.bool (win y24.AQ 82 16384),i6 420,.agg #[(Ac k),Ac n]],.agg (Ar.arr (Ah (win y24.AQ 82 16384) 420 ⟨(k:Int),(n:Int)⟩))),(72,#[.agg (Aj.arr c),Ac k,i6 y24.Partition],.bool (Ii c k y24.Partition)),(70,#[(Ac k),Ac n],.agg #[(Ac k),Ac n]),(41,#[.bool true,i6 422,.agg #[(Ac k),Ac n]],.agg (Ar.arr (Ah true 422 ⟨(k:Int),(n:Int)⟩)))] (DF 33 4) [Value.bool (win y24.Partition (-1) ((c.Aa.xs.length:Int) - 1))=Value.bool false,Value.bool (!(Ii c k y24.Partition))=Value.bool true] [(1,Ac k),(2,pt z),(BA z),(BU k n c),(BX b17 o18 y8),(BM y8),(26,Ac n),(BZ n15),(Rn k n),(KY y24 k n),(Rt k n)] (.cells #[i6 0,i6 0,i6 0] 73 (0,0)) [0,1,2,3] ⟨(congrArg Value.bool (Bool.eq_false_iff.2 h27)),by simp[h109],Ae⟩ ⟨fun w151 hw151=>Cj w151 y24.Partition (-1) ((c.Aa.xs.length:Int) - 1),fun w152 hw152=>GX w152 (k:Int) (n:Int),fun w153 hw153=>Bz w153 (hL.ext (hw153.ext rfl)) false 419 (k:Int) (n:Int),fun w154 hw154=>Cj w154 y24.AQ 82 16384,fun w155 hw155=>GX w155 (k:Int) (n:Int),fun w156 hw156=>Bz w156 (hL.ext (hw156.ext rfl)) (win y24.AQ 82 16384) 420 (k:Int) (n:Int),fun w157 hw157=>Tu w157 c (hc.ext (hw157.ext rfl) (fun _ h=>h)) k hk y24.Partition,fun w158 hw158=>GX w158 (k:Int) (n:Int),fun w159 hw159=>Bz w159 (hL.ext (hw159.ext rfl)) true 422 (k:Int) (n:Int),Ae⟩ ?_ (fun hv162 n160 hn161 => ?_)
     ·rintro⟨⟨n163,b164⟩,hb165⟩
      simp only at hb165
      refine BC 33 ?_
      refine BH o0 [8,1,2,4,5,24,25,26,7,64] [] [(8,pt b164),(1,Ac k),(2,pt z),(BA z),(BU k n c),(BX b17 o18 y8),(BM y8),(26,Ac n),(BZ n15),(64,.slice (some ⟨n163,0,none⟩) 3 3)] ⟨w,n163+1,[(Ak w),(Cc z c),(Cm z),(CG y24 n15),(bk b164 #[i6 0,i6 0,i6 0] 73),(ZZ y24 k n n163)]⟩ [0,1,2,3] Ae (.inr rfl) ?_
      refine BC 34 ?_
      refine Ht 65 #[.slice (some ⟨n163,0,none⟩) 3 3] (some 65) (.agg (Ar.arr (Bc [(Ah false 419 ⟨(k:Int),(n:Int)⟩),(Ah (win y24.AQ 82 16384) 420 ⟨(k:Int),(n:Int)⟩),(Ah true 422 ⟨(k:Int),(n:Int)⟩)]))) [8,1,2,4,5,24,25,26,7,65] [(8,pt b164),(1,Ac k),(2,pt z),(BA z),(BU k n c),(BX b17 o18 y8),(BM y8),(26,Ac n),(BZ n15),(QX y24 k n)] [0,1,2,3] (fun w166 hw166=>DZ w166 (hL.ext (hw166.ext rfl)) ⟨some ⟨n163,0,none⟩,3,[(Ah false 419 ⟨(k:Int),(n:Int)⟩),(Ah (win y24.AQ 82 16384) 420 ⟨(k:Int),(n:Int)⟩),(Ah true 422 ⟨(k:Int),(n:Int)⟩)]⟩ (EP hw166 (i:=5) [(Ah false 419 ⟨(k:Int),(n:Int)⟩),(Ah (win y24.AQ 82 16384) 420 ⟨(k:Int),(n:Int)⟩),(Ah true 422 ⟨(k:Int),(n:Int)⟩)]) (show 3≤1000 by decide)) (fun n167 hn168 => ?_)
      replace hn168:n163+1≤n167:=hn168
      refine BC 36 ?_
      refine BH (an 3 4) [8,1,2,4,5,24,25,26,7] [Qb b164,Qb b164,Qb b164] [(8,pt b164),(1,Ac k),(2,pt z),(BA z),(BU k n c),(BX b17 o18 y8),(BM y8),(26,Ac n),(BZ n15)] ⟨w,n167,[(Ak w),(Cc z c),(Cm z),(CG y24 n15),(Zaq y24 k n b164),(ZZ y24 k n n163)]⟩ [] ⟨rfl,rfl,rfl,Ae⟩ (.inl rfl) ?_
      refine Es 37 [0,1,2,3,4,5] [(Ak w),(Cc z c),(Cm z),(CG y24 n15),(Zaq y24 k n b164),(ZZ y24 k n n163)] rfl rfl ?_
      refine CU ?_
      refine BK [1,2,4,5,24,25,26,7,8] [(1,Ac k),(2,pt z),(BA z),(BU k n c),(BX b17 o18 y8),(BM y8),(26,Ac n),(BZ n15),(8,pt b164)] ?_
      refine Cb [0,1,2,3,5,4] [(Ak w),(Cc z c),(Cm z),(CG y24 n15),(ZZ y24 k n n163),(Zaq y24 k n b164)] rfl rfl ?_
      exact hK ⟨(n167,n163,b164),by first | omega | (dsimp only;omega)⟩
     replace hn161:n15+1≤n160:=hn161
     refine Oy (fun x:{p:Nat×Nat×Nat // n160≤p.1∧n160≤p.2.1∧n160≤p.2.2}=>[(1,Ac k),(2,pt z),(BA z),(BU k n c),(BX b17 o18 y8),(BM y8),(26,Ac n),(BZ n15),(8,pt x.1.2.1),(QX y24 k n)]) (fun x=>⟨w,x.1.1,[(Ak w),(Cc z c),(Cm z),(CG y24 n15),(.blk x.1.2.1 (.cells #[i6 0,i6 0,i6 0] 73 (0,0)) true),(.blk x.1.2.2 (.cells #[i6 ((Ah false 419 ⟨(k:Int),(n:Int)⟩).e),i6 ((Ah false 419 ⟨(k:Int),(n:Int)⟩).Ai.First),i6 ((Ah false 419 ⟨(k:Int),(n:Int)⟩).Ai.Second),i6 ((Ah (win y24.AQ 82 16384) 420 ⟨(k:Int),(n:Int)⟩).e),i6 ((Ah (win y24.AQ 82 16384) 420 ⟨(k:Int),(n:Int)⟩).Ai.First),i6 ((Ah (win y24.AQ 82 16384) 420 ⟨(k:Int),(n:Int)⟩).Ai.Second),i6 ((Ah true 422 ⟨(k:Int),(n:Int)⟩).e),i6 ((Ah true 422 ⟨(k:Int),(n:Int)⟩).Ai.First),i6 ((Ah true 422 ⟨(k:Int),(n:Int)⟩).Ai.Second)] 73 (0,0)) true)]⟩) 1 (DF 36 1) ?_ (fun hv172 => ?_)
     ·rintro⟨⟨n169,b170,b171⟩,hb173⟩
      simp only at hb173
      show Wg _ _ [(1,Ac k),(2,pt z),(BA z),(BU k n c),(BX b17 o18 y8),(BM y8),(26,Ac n),(BZ n15),(8,pt b170),(QX y24 k n)] _ ⟨w,n169,[(Ak w),(Cc z c),(Cm z),(CG y24 n15),(bk b170 #[i6 0,i6 0,i6 0] 73),(XT y24 k n b171)]⟩ _ _ _ _ _ _ _
      refine BC 36 ?_
      refine BH (an 3 4) [1,2,4,5,24,25,26,7,8] [Qb b170,Qb b170,Qb b170] [(1,Ac k),(2,pt z),(BA z),(BU k n c),(BX b17 o18 y8),(BM y8),(26,Ac n),(BZ n15),(8,pt b170)] ⟨w,n169,[(Ak w),(Cc z c),(Cm z),(CG y24 n15),(ZaZ y24 k n b170),(XT y24 k n b171)]⟩ [] ⟨rfl,rfl,rfl,Ae⟩ (.inl rfl) ?_
      refine Es 37 [0,1,2,3,4,5] [(Ak w),(Cc z c),(Cm z),(CG y24 n15),(ZaZ y24 k n b170),(XT y24 k n b171)] rfl rfl ?_
      refine CU ?_
      refine BK [1,2,4,5,24,25,26,7,8] [(1,Ac k),(2,pt z),(BA z),(BU k n c),(BX b17 o18 y8),(BM y8),(26,Ac n),(BZ n15),(8,pt b170)] ?_
      refine Cb [0,1,2,3,5,4] [(Ak w),(Cc z c),(Cm z),(CG y24 n15),(XT y24 k n b171),(ZaZ y24 k n b170)] rfl rfl ?_
      exact hK ⟨(n169,b171,b170),by first | omega | (dsimp only;omega)⟩
     refine Oy (fun x:{p:Nat×Nat×Nat // n160≤p.1∧n160≤p.2.1∧n160≤p.2.2}=>[(1,Ac k),(2,pt z),(BA z),(BU k n c),(BX b17 o18 y8),(BM y8),(26,Ac n),(BZ n15),(8,pt x.1.2.1),(64,.slice (some ⟨x.1.2.2,0,none⟩) 3 3)]) (fun x=>⟨w,x.1.1,[(Ak w),(Cc z c),(Cm z),(CG y24 n15),(.blk x.1.2.1 (.cells #[i6 0,i6 0,i6 0] 73 (0,0)) true),(.blk x.1.2.2 (.cells #[i6 ((Ah false 419 ⟨(k:Int),(n:Int)⟩).e),i6 ((Ah false 419 ⟨(k:Int),(n:Int)⟩).Ai.First),i6 ((Ah false 419 ⟨(k:Int),(n:Int)⟩).Ai.Second),i6 ((Ah (win y24.AQ 82 16384) 420 ⟨(k:Int),(n:Int)⟩).e),i6 ((Ah (win y24.AQ 82 16384) 420 ⟨(k:Int),(n:Int)⟩).Ai.First),i6 ((Ah (win y24.AQ 82 16384) 420 ⟨(k:Int),(n:Int)⟩).Ai.Second),i6 ((Ah true 422 ⟨(k:Int),(n:Int)⟩).e),i6 ((Ah true 422 ⟨(k:Int),(n:Int)⟩).Ai.First),i6 ((Ah true 422 ⟨(k:Int),(n:Int)⟩).Ai.Second)] 73 (0,0)) true)]⟩) 2 [true,true,true,true,true,true,true,true,true,true,true,true,true,true,true,true,true,true,true,true,true,true,true,true,true,true,true,true,true,true,true,true,true,true,false,true,false] ?_ (fun hv177 => ?_)
     ·rintro⟨⟨n174,b175,b176⟩,hb178⟩
      simp only at hb178
      show Wg _ _ [(1,Ac k),(2,pt z),(BA z),(BU k n c),(BX b17 o18 y8),(BM y8),(26,Ac n),(BZ n15),(8,pt b175),(64,.slice (some ⟨b176,0,none⟩) 3 3)] _ ⟨w,n174,[(Ak w),(Cc z c),(Cm z),(CG y24 n15),(bk b175 #[i6 0,i6 0,i6 0] 73),(bk b176 #[i6 ((Ah false 419 ⟨(k:Int),(n:Int)⟩).e),i6 ((Ah false 419 ⟨(k:Int),(n:Int)⟩).Ai.First),i6 ((Ah false 419 ⟨(k:Int),(n:Int)⟩).Ai.Second),i6 ((Ah (win y24.AQ 82 16384) 420 ⟨(k:Int),(n:Int)⟩).e),i6 ((Ah (win y24.AQ 82 16384) 420 ⟨(k:Int),(n:Int)⟩).Ai.First),i6 ((Ah (win y24.AQ 82 16384) 420 ⟨(k:Int),(n:Int)⟩).Ai.Second),i6 ((Ah true 422 ⟨(k:Int),(n:Int)⟩).e),i6 ((Ah true 422 ⟨(k:Int),(n:Int)⟩).Ai.First),i6 ((Ah true 422 ⟨(k:Int),(n:Int)⟩).Ai.Second)] 73)]⟩ _ _ _ _ _ _ _
      refine BC 34 ?_
      refine Ht 65 #[.slice (some ⟨b176,0,none⟩) 3 3] (some 65) (.agg (Ar.arr (Bc [(Ah false 419 ⟨(k:Int),(n:Int)⟩),(Ah (win y24.AQ 82 16384) 420 ⟨(k:Int),(n:Int)⟩),(Ah true 422 ⟨(k:Int),(n:Int)⟩)]))) [1,2,4,5,24,25,26,7,8,65] [(1,Ac k),(2,pt z),(BA z),(BU k n c),(BX b17 o18 y8),(BM y8),(26,Ac n),(BZ n15),(8,pt b175),(QX y24 k n)] [0,1,2,3] (fun w179 hw179=>DZ w179 (hL.ext (hw179.ext rfl)) ⟨some ⟨b176,0,none⟩,3,[(Ah false 419 ⟨(k:Int),(n:Int)⟩),(Ah (win y24.AQ 82 16384) 420 ⟨(k:Int),(n:Int)⟩),(Ah true 422 ⟨(k:Int),(n:Int)⟩)]⟩ (EP hw179 (i:=5) [(Ah false 419 ⟨(k:Int),(n:Int)⟩),(Ah (win y24.AQ 82 16384) 420 ⟨(k:Int),(n:Int)⟩),(Ah true 422 ⟨(k:Int),(n:Int)⟩)]) (show 3≤1000 by decide)) (fun n180 hn181 => ?_)
      replace hn181:n174≤n180:=hn181
      refine DU [1,2,4,5,24,25,26,7,8,65] [(1,Ac k),(2,pt z),(BA z),(BU k n c),(BX b17 o18 y8),(BM y8),(26,Ac n),(BZ n15),(8,pt b175),(QX y24 k n)] ?_
      exact hv172 ⟨(n180,b175,b176),by first | omega | (dsimp only;omega)⟩
     refine JC [33,35] ?_
     refine List.forall_mem_cons.2 ⟨?_,List.forall_mem_cons.2 ⟨?_,fun _ h=>absurd h List.not_mem_nil⟩⟩
     ·refine BH o0 [1,2,4,5,24,25,26,7,64] [] [(1,Ac k),(2,pt z),(BA z),(BU k n c),(BX b17 o18 y8),(BM y8),(26,Ac n),(BZ n15),(64,.slice (some ⟨n160,0,none⟩) 3 3)] ⟨w,n160+1,[(Ak w),(Cc z c),(Cm z),(CG y24 n15),(VK y24 k n n160)]⟩ [0,1,2,3] Ae (.inr rfl) ?_
      refine JC [34,35] ?_
      refine List.forall_mem_cons.2 ⟨?_,List.forall_mem_cons.2 ⟨?_,fun _ h=>absurd h List.not_mem_nil⟩⟩
      ·refine Ht 65 #[.slice (some ⟨n160,0,none⟩) 3 3] (some 65) (.agg (Ar.arr (Bc [(Ah false 419 ⟨(k:Int),(n:Int)⟩),(Ah (win y24.AQ 82 16384) 420 ⟨(k:Int),(n:Int)⟩),(Ah true 422 ⟨(k:Int),(n:Int)⟩)]))) [1,2,4,5,24,25,26,7,65] [(1,Ac k),(2,pt z),(BA z),(BU k n c),(BX b17 o18 y8),(BM y8),(26,Ac n),(BZ n15),(QX y24 k n)] [0,1,2,3] (fun w182 hw182=>DZ w182 (hL.ext (hw182.ext rfl)) ⟨some ⟨n160,0,none⟩,3,[(Ah false 419 ⟨(k:Int),(n:Int)⟩),(Ah (win y24.AQ 82 16384) 420 ⟨(k:Int),(n:Int)⟩),(Ah true 422 ⟨(k:Int),(n:Int)⟩)]⟩ (EP hw182 (i:=4) [(Ah false 419 ⟨(k:Int),(n:Int)⟩),(Ah (win y24.AQ 82 16384) 420 ⟨(k:Int),(n:Int)⟩),(Ah true 422 ⟨(k:Int),(n:Int)⟩)]) (show 3≤1000 by decide)) (fun n183 hn184 => ?_)
       replace hn184:n160+1≤n183:=hn184
       refine BC 35 ?_
       refine BH o0 [1,2,4,5,24,25,26,7,65,8] [] [(1,Ac k),(2,pt z),(BA z),(BU k n c),(BX b17 o18 y8),(BM y8),(26,Ac n),(BZ n15),(QX y24 k n),(8,pt n183)] ⟨w,n183+1,[(Ak w),(Cc z c),(Cm z),(CG y24 n15),(VK y24 k n n160),(bk n183 #[i6 0,i6 0,i6 0] 73)]⟩ [0,1,2,3] Ae (.inr rfl) ?_
       refine MJ [0,1,2,3,5,4] [(Ak w),(Cc z c),(Cm z),(CG y24 n15),(bk n183 #[i6 0,i6 0,i6 0] 73),(VK y24 k n n160)] rfl rfl ?_
       refine DU [1,2,4,5,24,25,26,7,8,65] [(1,Ac k),(2,pt z),(BA z),(BU k n c),(BX b17 o18 y8),(BM y8),(26,Ac n),(BZ n15),(8,pt n183),(QX y24 k n)] ?_
       exact hv172 ⟨(n183+1,n183,n160),by first | omega | (dsimp only;omega)⟩
      refine BH o0 [1,2,4,5,24,25,26,7,64,8] [] [(1,Ac k),(2,pt z),(BA z),(BU k n c),(BX b17 o18 y8),(BM y8),(26,Ac n),(BZ n15),(64,.slice (some ⟨n160,0,none⟩) 3 3),(8,pt (n160+1))] ⟨w,n160+2,[(Ak w),(Cc z c),(Cm z),(CG y24 n15),(VK y24 k n n160),(bk (n160+1) #[i6 0,i6 0,i6 0] 73)]⟩ [0,1,2,3] Ae (.inr rfl) ?_
      refine MJ [0,1,2,3,5,4] [(Ak w),(Cc z c),(Cm z),(CG y24 n15),(bk (n160+1) #[i6 0,i6 0,i6 0] 73),(VK y24 k n n160)] rfl rfl ?_
      refine DU [1,2,4,5,24,25,26,7,8,64] [(1,Ac k),(2,pt z),(BA z),(BU k n c),(BX b17 o18 y8),(BM y8),(26,Ac n),(BZ n15),(8,pt (n160+1)),(64,.slice (some ⟨n160,0,none⟩) 3 3)] ?_
      exact hv177 ⟨(n160+2,n160+1,n160),by first | omega | (dsimp only;omega)⟩
     refine BH o0 [1,2,4,5,24,25,26,7,46,53,63,8] [] [(1,Ac k),(2,pt z),(BA z),(BU k n c),(BX b17 o18 y8),(BM y8),(26,Ac n),(BZ n15),(Rn k n),(KY y24 k n),(Rt k n),(8,pt n160)] ⟨w,n160+1,[(Ak w),(Cc z c),(Cm z),(CG y24 n15),(bk n160 #[i6 0,i6 0,i6 0] 73)]⟩ [0,1,2,3] Ae (.inr rfl) ?_
     refine DU [8,1,2,4,5,24,25,26,7,46,53,63] [(8,pt n160),(1,Ac k),(2,pt z),(BA z),(BU k n c),(BX b17 o18 y8),(BM y8),(26,Ac n),(BZ n15),(Rn k n),(KY y24 k n),(Rt k n)] ?_
     exact hv162 ⟨(n160+1,n160),by first | omega | (dsimp only;omega)⟩
    rintro⟨⟨n148,b149,b150⟩,hJ185⟩
    simp only at hJ185
    show E _ _ [(1,Ac k),(2,pt z),(BA z),(BU k n c),(BX b17 o18 y8),(BM y8),(26,Ac n),(BZ n15),(8,pt b150)] _ ⟨w,n148,[(Ak w),(Cc z c),(Cm z),(CG y24 n15),(bk b149 #[i6 ((Ah false 419 ⟨(k:Int),(n:Int)⟩).e),i6 ((Ah false 419 ⟨(k:Int),(n:Int)⟩).Ai.First),i6 ((Ah false 419 ⟨(k:Int),(n:Int)⟩).Ai.Second),i6 ((Ah (win y24.AQ 82 16384) 420 ⟨(k:Int),(n:Int)⟩).e),i6 ((Ah (win y24.AQ 82 16384) 420 ⟨(k:Int),(n:Int)⟩).Ai.First),i6 ((Ah (win y24.AQ 82 16384) 420 ⟨(k:Int),(n:Int)⟩).Ai.Second),i6 ((Ah true 422 ⟨(k:Int),(n:Int)⟩).e),i6 ((Ah true 422 ⟨(k:Int),(n:Int)⟩).Ai.First),i6 ((Ah true 422 ⟨(k:Int),(n:Int)⟩).Ai.Second)] 73),(ZaH y24 k n b150)]⟩ _ _ _
    refine Cb [0,1,2,3,5] [(Ak w),(Cc z c),(Cm z),(CG y24 n15),(ZaH y24 k n b150)] rfl rfl ?_
    have e0:gd (ED c k).xs n=y24:=(by rw[hy24,hy8])
    have eA:Gf c k n=(Bc [(Ah false 419 ⟨(k:Int),(n:Int)⟩),(Ah (win y24.AQ 82 16384) 420 ⟨(k:Int),(n:Int)⟩),(Ah true 422 ⟨(k:Int),(n:Int)⟩)]):=(by unfold Gf Ob;simp only[e0];simp[h27,h109])
    refine BK [1,2,4,5,7,8,24,25,26] [(1,Ac k),(2,pt z),(BA z),(BU k n c),(BZ n15),(8,pt b150),(BX b17 o18 y8),(BM y8),(26,Ac n)] ?_
    refine BD (fun a w' hs=>⟨n148,b150,by omega,(by(try dsimp only[ZaH,Cm,CG,Cc,KY,PH,Rn,Rt,Ri,BX,BM,BA,Nj,BU,BZ]at hs ⊢);rw[eA];exact hs)⟩)
   rintro a w' ⟨n25,b8,hn26,hs⟩
   refine(?_:G Tryd.prog 85 [(1,Ac k),(2,pt z),(BA z),(BU k n c),(BZ n15),(8,pt b8),(BX b17 o18 y8),(BM y8),(26,Ac n)] [] ⟨w,n25,[(Ak w),(Cc z c),(Cm z),(CG y24 n15),(bk b8 (Ar.arr (Gf c k n)) 73)]⟩ _ _ _) a w' hs
   clear hs a w'
   refine Ce <| Ce ?_
   by_cases h186:(((Gf c k n).e:Int)==(0:Int)&&((((Gf c k n).Ai.First:Int)==(0:Int)&&(((Gf c k n).Ai.Second:Int)==(0:Int)&&true))&&true))=true
   ·have hbd0:=WY (GZ.1 h186);rw[show gd (ED c k).xs n=y24 from(by rw[hy24,hy8])]at hbd0
    refine Az 12 0 [0] [[(an 3 4),(oa [.via 0 (i6 0),.via 0 (i6 0),.via 0 (i6 0)]),⟨.seq true,none⟩],[o0,o0,(a1 3),o0,(a1 3),(ov (i6 (y24.Ba+y24.AQ))),(ov (i6 ((sumW (ED c k).xs n)+(y24.Ba+y24.AQ)))),o0],[(ov (i6 ((n+1:Nat):Int))),o0]] [Qb b8,Qb b8,Qb b8,Old w 0 0 (i6 0),Old w 0 1 (i6 0),Old w 0 2 (i6 0),(((Gf c k n).e:Int)==(0:Int)&&((((Gf c k n).Ai.First:Int)==(0:Int)&&(((Gf c k n).Ai.Second:Int)==(0:Int)&&true))&&true))=true,Qb n15,Qb n15,Wr ((y24.Ba:Int)+y24.AQ) (y24.Ba+y24.AQ),Wr ((sumW (ED c k).xs n:Int)+(y24.Ba+y24.AQ)) ((sumW (ED c k).xs n)+(y24.Ba+y24.AQ)),Wr ((n:Int)+1) (((n+1:Nat):Int))] [(1,Ac k),(2,pt z),(BA z),(5,i6 ((sumW (ED c k).xs n)+(y24.Ba+y24.AQ))),(BX b17 o18 y8),(BM y8),(26,i6 ((n+1:Nat):Int))] rfl ⟨rfl,rfl,rfl,A7 (hL.2 0 _ rfl),A7 (hL.2 1 _ rfl),A7 (hL.2 2 _ rfl),h186,rfl,rfl,BQ,BQ,BQ,Ae⟩ ?_
    refine Cb [0,1,2] [(Ak w),(Cc z c),(Cm z)] rfl rfl ?_
    have e0:gd (ED c k).xs n=y24:=(by rw[hy24,hy8])
    have hnn:=GZ.1 h186
    have hbd:=WY hnn
    have eS:=Zbn (ED c k).xs n
    rw[e0]at hbd eS
    have hss:0≤sumW (ED c k).xs (n+1)∧sumW (ED c k).xs (n+1)≤((n+1:Nat):Int)*32768:=(by rw[eS];omega)
    refine H5 [1,2,4,5,24,25,26] [(1,Ac k),(2,pt z),(BA z),(5,i6 ((sumW (ED c k).xs n)+(y24.Ba+y24.AQ))),(Nj y8),(BM y8),(26,i6 ((n+1:Nat):Int))] (by(try dsimp only[Cm,CG,Cc,BX,BM,BA,Nj,BU,BZ]);simp only[ha19];rfl) ?_
    refine BD (fun a w' hs=>⟨y8.xs.length - (n+1),by omega,n25,(n+1),rfl,by omega,by omega,Fh hf hnn,hss,(by(try dsimp only[Cm,CG,Cc,BX,BM,BA,Nj,BU,BZ]at hs ⊢);rw[eS];exact hs)⟩)
   refine q_c 9 0 [1] [[(an 3 4),(oa [.via 0 (i6 0),.via 0 (i6 0),.via 0 (i6 0)]),⟨.seq false,none⟩],[(an 3 4),(an 3 2)]] [Qb b8,Qb b8,Qb b8,Old w 0 0 (i6 0),Old w 0 1 (i6 0),Old w 0 2 (i6 0),(((Gf c k n).e:Int)==(0:Int)&&((((Gf c k n).Ai.First:Int)==(0:Int)&&(((Gf c k n).Ai.Second:Int)==(0:Int)&&true))&&true))=false,Qb b8,Qb b8,Qb b8,Qb (z+1),Qb (z+1),Qb (z+1)] [(BA z)] ⟨w,n25,[(Ak w),(Cc z c),(bk (z+1) (Ar.arr (Gf c k n)) 73),(CG y24 n15),(bk b8 (Ar.arr (Gf c k n)) 73)]⟩ rfl ⟨rfl,rfl,rfl,A7 (hL.2 0 _ rfl),A7 (hL.2 1 _ rfl),A7 (hL.2 2 _ rfl),(Bool.eq_false_iff.2 h186),rfl,rfl,rfl,rfl,rfl,rfl,Ae⟩ ?_
   refine AA [.at 2,.at 2,.at 2] [Qb (z+1),Qb (z+1),Qb (z+1)] (.agg #[i6 ((Gf c k n).e),i6 ((Gf c k n).Ai.First),i6 ((Gf c k n).Ai.Second)]) ⟨rfl,rfl,rfl,Ae⟩ ?_
   intro w187 hw187
   exact⟨congrArg (fun t=>Ending.returned (Value.agg (Ar.arr t))) (Wq (by have e1:ED c k=y8:=hy8.symm;rw[e1];exact h12) hf (by have e1:ED c k=y8:=hy8.symm;rw[e1];omega) (fun e=>h186 (GZ.2 e))).symm,AO hw187⟩
  refine Az 11 0 [0] [[oF]] [BF ((n:Int)<(y8.xs.length:Int))] [(1,Ac k),(2,pt z),(BA z),(BU k n c),(Nj y8),(BM y8),(26,Ac n),(27,.bool false)] rfl ⟨bf,Ae⟩ ?_
  by_cases h188:(sumW (ED c k).xs n:Int)=c.CJ
  ·refine Eh 7 [0,1,2] [(Ak w),(Cc z c),(Cm z)] rfl rfl ?_
   refine JB [.tk 0 o0,.tk 1 o0,.tk 2 (a1 1),.tk 3 oT,.tk 4 o0,.cl 5 (.agg #[(Ac k),i6 (-1)]),.cl 6 (.agg (Ar.arr (Ah true 421 ⟨(k:Int), -1⟩)))] [4,84] [(67,#[(Ac k)],.agg #[(Ac k),i6 (-1)]),(41,#[.bool true,i6 421,.agg #[(Ac k),i6 (-1)]],.agg (Ar.arr (Ah true 421 ⟨(k:Int), -1⟩)))] (DF 7 1) [Qb z,ET (sumW (ED c k).xs n) c.CJ] [(BA z),(84,.agg (Ar.arr (Ah true 421 ⟨(k:Int), -1⟩)))] [0,1,2] ⟨rfl,et,Ae⟩ ⟨fun w189 hw189=>DR w189 (k:Int),fun w190 hw190=>Bz w190 (hL.ext (hw190.ext rfl)) true 421 (k:Int) (-1),Ae⟩ (fun n191 hn192 => ?_)
   replace hn192:n15≤n191:=hn192
   refine BC 7 ?_
   refine BH (an 3 2) [4] [Qb (z+1),Qb (z+1),Qb (z+1)] [(BA z)] ⟨w,n191,[(Ak w),(Cc z c),(.blk (z+1) (.cells (Ar.arr (Ah true 421 ⟨(k:Int), -1⟩)) 73 (0,0)) true)]⟩ [] ⟨rfl,rfl,rfl,Ae⟩ (.inl rfl) ?_
   refine Es 8 [0,1,2] [(Ak w),(Cc z c),(.blk (z+1) (.cells (Ar.arr (Ah true 421 ⟨(k:Int), -1⟩)) 73 (0,0)) true)] rfl rfl ?_
   refine CU ?_
   refine BK [4] [(BA z)] ?_
   refine IM <| KR <| AA [.at 2,.at 2,.at 2] [Qb (z+1),Qb (z+1),Qb (z+1)] (.agg #[i6 ((Ah true 421 ⟨(k:Int), -1⟩).e),i6 ((Ah true 421 ⟨(k:Int), -1⟩).Ai.First),i6 ((Ah true 421 ⟨(k:Int), -1⟩).Ai.Second)]) ⟨rfl,rfl,rfl,Ae⟩ ?_
   intro w193 hw193
   exact⟨congrArg (fun t=>Ending.returned (Value.agg (Ar.arr t))) ((YF (by have e1:ED c k=y8:=hy8.symm;rw[e1];exact h12) hf (by have e1:ED c k=y8:=hy8.symm;rw[e1];omega)).trans (by first | rw[decide_eq_true (by assumption)] | rw[decide_eq_false (by assumption)])).symm,AO hw193⟩
  refine Eh 7 [0,1,2] [(Ak w),(Cc z c),(Cm z)] rfl rfl ?_
  refine JB [.tk 0 o0,.tk 1 o0,.tk 2 (a1 1),.tk 3 oF,.tk 4 o0,.cl 5 (.agg #[(Ac k),i6 (-1)]),.cl 6 (.agg (Ar.arr (Ah false 421 ⟨(k:Int), -1⟩)))] [4,84] [(67,#[(Ac k)],.agg #[(Ac k),i6 (-1)]),(41,#[.bool false,i6 421,.agg #[(Ac k),i6 (-1)]],.agg (Ar.arr (Ah false 421 ⟨(k:Int), -1⟩)))] (DF 7 1) [Qb z,EF (sumW (ED c k).xs n) c.CJ] [(BA z),(84,.agg (Ar.arr (Ah false 421 ⟨(k:Int), -1⟩)))] [0,1,2] ⟨rfl,ef,Ae⟩ ⟨fun w194 hw194=>DR w194 (k:Int),fun w195 hw195=>Bz w195 (hL.ext (hw195.ext rfl)) false 421 (k:Int) (-1),Ae⟩ (fun n196 hn197 => ?_)
  replace hn197:n15≤n196:=hn197
  refine BC 7 ?_
  refine BH (an 3 2) [4] [Qb (z+1),Qb (z+1),Qb (z+1)] [(BA z)] ⟨w,n196,[(Ak w),(Cc z c),(.blk (z+1) (.cells (Ar.arr (Ah false 421 ⟨(k:Int), -1⟩)) 73 (0,0)) true)]⟩ [] ⟨rfl,rfl,rfl,Ae⟩ (.inl rfl) ?_
  refine Es 8 [0,1,2] [(Ak w),(Cc z c),(.blk (z+1) (.cells (Ar.arr (Ah false 421 ⟨(k:Int), -1⟩)) 73 (0,0)) true)] rfl rfl ?_
  refine CU ?_
  refine BK [4] [(BA z)] ?_
  refine IM <| KR <| AA [.at 2,.at 2,.at 2] [Qb (z+1),Qb (z+1),Qb (z+1)] (.agg #[i6 ((Ah false 421 ⟨(k:Int), -1⟩).e),i6 ((Ah false 421 ⟨(k:Int), -1⟩).Ai.First),i6 ((Ah false 421 ⟨(k:Int), -1⟩).Ai.Second)]) ⟨rfl,rfl,rfl,Ae⟩ ?_
  intro w198 hw198
  exact⟨congrArg (fun t=>Ending.returned (Value.agg (Ar.arr t))) ((YF (by have e1:ED c k=y8:=hy8.symm;rw[e1];exact h12) hf (by have e1:ED c k=y8:=hy8.symm;rw[e1];omega)).trans (by first | rw[decide_eq_true (by assumption)] | rw[decide_eq_false (by assumption)])).symm,AO hw198⟩
 have hd199:=FQ h12
 refine BP 5 1 [1] [[(ov (.bool true))],[o0]] [Value.bool (!(win (y8.xs.length:Int) 1 16))=Value.bool true] [(BA z),(17,Ac k)] rfl ⟨by simp[h12],Ae⟩ ?_
 refine Bf 67 #[(Ac k)] (some 18) (.agg #[(Ac k),i6 (-1)]) (fun w200 hw200=>DR w200 (k:Int)) (fun n201 (hn202:n10≤n201) => ?_)
 refine EY 3 0 [] [[o0,(an 3 2)]] [Qb (z+1),Qb (z+1),Qb (z+1)] [(BA z)] ⟨w,n201,[(Ak w),(Cc z c),(bk (z+1) #[i6 418,Ac k,i6 (-1)] 73)]⟩ rfl ⟨rfl,rfl,rfl,Ae⟩ ?_
 refine AA [.at 2,.at 2,.at 2] [Qb (z+1),Qb (z+1),Qb (z+1)] (.agg #[i6 418,Ac k,i6 (-1)]) ⟨rfl,rfl,rfl,Ae⟩ ?_
 intro w203 hw203
 exact⟨congrArg (fun t=>Ending.returned (Value.agg (Ar.arr t))) (Zdj (by have e1:ED c k=y8:=hy8.symm;rw[e1];exact h12)).symm,AO hw203⟩
end Go.Proofs.YtnjhekfgmbpmlaaDoor.Ad
namespace Go.Proofs.YtnjhekfgmbpmlaaDoor.Ly
open Go Go.Proofs.YtnjhekfgmbpmlaaDoor.Eng Go.Proofs.YtnjhekfgmbpmlaaDoor.Mem
set_option linter.unusedSimpArgs false
set_option linter.unusedVariables false
set_option maxRecDepth 100000
def KO(g:A8):Bool:=decide (0≤g.Bj∧g.Bj≤256∧1≤g.AV∧g.AV≤256 - g.Bj)
def Si(n:Nat)(q:Bh):Bool:=decide (0≤q.Channel∧q.Channel<n)
def Ew(n:Nat)(x:Ap):Bool:=decide (x.Af.xs.length≤8)&&decide (x.Am.xs.length≤8)&&x.Af.xs.all KO&&x.Am.xs.all (Si n)
theorem O6{α:Type}[Inhabited α]{p:α→Bool}{xs:List α}{k:Nat}(hk:k<xs.length)(h:p (gd xs k)=false):xs.all p=false:=by
 rw[List.all_eq_false]
 refine⟨xs[k],List.getElem_mem hk, ?_⟩
 rw[F9 hk]at h
 simpa using h
theorem VU{α:Type}[Inhabited α]{p:α→Bool}{xs:List α}(h:∀ i,i<xs.length→p (gd xs i)=true):xs.all p=true:=by
 rw[List.all_eq_true]
 intro y hy
 obtain⟨i,hi,rfl⟩:=List.getElem_of_mem hy
 have:=h i hi
 rwa [F9 hi]at this
theorem upto{p:Nat→Prop}{k:Nat}(h:∀ i,i<k→p i)(hk:p k):∀ i,i<k+1→p i:=fun i hi=>by
 by_cases e:i=k
 ·subst e;exact hk
 exact h i (by omega)
section
variable (z:Nat)(x:Ap)(c:Aj)(b8 o9:Nat)
abbrev Lh:=bk (z+1) (Ap.arr x) 41
abbrev Lr:=bk z (Aj.arr c) 26
abbrev Pm:DJ:=(20,.slice (some ⟨b8,o9,none⟩) x.Af.xs.length x.Af.cap)
abbrev NW:DJ:=(20,.slice x.Af.a x.Af.xs.length x.Af.cap)
abbrev Pj:DJ:=(49,.slice x.Am.a x.Am.xs.length x.Am.cap)
abbrev Lm:=(21,Ac x.Af.xs.length)
abbrev Nl:=(50,Ac x.Am.xs.length)
abbrev Ls:=(3,pt (z+1))
end
theorem S9(w:World)(c:Aj)(x:Ap)(hc:Aj.ok Any w c)(hx:Ap.ok Any w x):Calls Tryd.prog 74 #[.agg (Aj.arr c),.agg (Ap.arr x)] w fun e w'=>e = .returned (.bool (Ew c.Ag.xs.length x))∧CP (fun _=>False) w w':=by
 obtain⟨z,hz⟩:∃ z,z=w.heap.size:=⟨_,rfl⟩
 refine CE (args:=[.agg (Aj.arr c),.agg (Ap.arr x)]) 67 ⟨w,z,[(Ak w)]⟩ Tryd.func74 rfl (by kernel_rfl) (by kernel_rfl) (Ep hz) ?_
 refine DC [0,1] [(0,.agg (Aj.arr c)),(1,.agg (Ap.arr x))] ?_
 refine q_c 6 0 [] [[o0,o0,o0]] [] [(2,pt z),(Ls z)] ⟨w,z+2,[(Ak w),(Lr z c),(Lh z x)]⟩ rfl Ae ?_
 by_cases h1:(8:Int)<(x.Af.xs.length:Int)
 ·refine Az 9 0 [1] [[o0,(a1 2),o0,oT,o0,o0],[o0]] [Qb (z+1),BT ((x.Af.xs.length:Int) > 8)] [(4,.bool false)] rfl ⟨rfl,bt,Ae⟩ ?_
  refine AA [] [] (.bool false) Ae ?_
  intro w2 hw2
  refine⟨congrArg (fun b=>Ending.returned (Value.bool b)) (Eq.symm (?_:Ew c.Ag.xs.length x=false)),AO hw2⟩
  unfold Ew
  first
   | (have e1:decide (x.Af.xs.length≤8)=false:=decide_eq_false (by omega));simp[e1]
   | (have e1:decide (x.Am.xs.length≤8)=false:=decide_eq_false (by omega));simp[e1]
 by_cases h3:(8:Int)<(x.Am.xs.length:Int)
 ·refine Az 9 0 [1] [[o0,(a1 2),o0,oF,o0,o0,(a1 2),o0,oT,o0],[o0]] [Qb (z+1),BF ((x.Af.xs.length:Int) > 8),Qb (z+1),BT ((x.Am.xs.length:Int) > 8)] [(4,.bool false)] rfl ⟨rfl,bf,rfl,bt,Ae⟩ ?_
  refine AA [] [] (.bool false) Ae ?_
  intro w4 hw4
  refine⟨congrArg (fun b=>Ending.returned (Value.bool b)) (Eq.symm (?_:Ew c.Ag.xs.length x=false)),AO hw4⟩
  unfold Ew
  first
   | (have e1:decide (x.Af.xs.length≤8)=false:=decide_eq_false (by omega));simp[e1]
   | (have e1:decide (x.Am.xs.length≤8)=false:=decide_eq_false (by omega));simp[e1]
 refine Az 12 0 [0] [[o0,(a1 2),o0,oF,o0,o0,(a1 2),o0,oF,o0],[o0,(a1 2),o0,o0]] [Qb (z+1),BF ((x.Af.xs.length:Int) > 8),Qb (z+1),BF ((x.Am.xs.length:Int) > 8),Qb (z+1)] [(2,pt z),(Ls z),(NW x),(Lm x),(22,i6 0)] rfl ⟨rfl,bf,rfl,bf,rfl,Ae⟩ ?_
 refine Di (fun m a w'=>∃ (n6:Nat) (k:Nat),m=x.Af.xs.length - k∧z+2≤n6∧(k≤x.Af.xs.length)∧(∀ i,i<k→KO (gd x.Af.xs i)=true)∧St 67 [(2,pt z),(Ls z),(NW x),(Lm x),(22,Ac k)] [] ⟨w,n6,[(Ak w),(Lr z c),(Lh z x)]⟩ a w') (x.Af.xs.length - 0) ?_ ?_
 ·intro a w' hs;exact⟨(z+2),0,rfl,Nat.le_refl _,Nat.zero_le _,fun i hi=>absurd hi (Nat.not_lt_zero i),hs⟩
 rintro m a w' ⟨n6,k,rfl,hn5,hkk,hr,hs⟩
 refine(?_:G Tryd.prog 67 [(2,pt z),(Ls z),(NW x),(Lm x),(22,Ac k)] [] ⟨w,n6,[(Ak w),(Lr z c),(Lh z x)]⟩ _ _ _) a w' hs
 clear hs a w'
 refine Ce ?_
 by_cases h7:(k:Int)<(x.Af.xs.length:Int)
 ·refine Az 10 0 [1] [[oT]] [BT ((k:Int)<(x.Af.xs.length:Int))] [(2,pt z),(Ls z),(NW x),(Lm x),(22,Ac k),(23,.bool true)] rfl ⟨bt,Ae⟩ ?_
  obtain⟨b8,o9,ha10,hF12,hc11⟩:=(hx.Af).1.all (show 0<x.Af.xs.length by omega)
  replace ha10:x.Af.a=some ⟨b8,o9,none⟩:=ha10
  refine MQ [(2,pt z),(Ls z),(Pm x b8 o9),(Lm x),(22,Ac k),(23,.bool true)] (by(try dsimp only[Lh,Lr,Pm,NW,Lm,Ls]);simp only[ha10]) ?_
  have hc13:=hc11 k (show k<x.Af.xs.length by omega)
  have he14:=(hx.Af).2 k (show k<x.Af.xs.length by omega)
  obtain⟨y15,hy15⟩:∃ y_,y_=gd x.Af.xs k:=⟨_,rfl⟩
  rw[←hy15]at he14 hc13
  refine q_c 4 0 [] [[(oi k),(ol 0 (A8.arr y15)),o0,(an 4 3)]] [Ci k,k<x.Af.xs.length,BN,Fa w b8 (o9+k*4) (A8.arr y15),Qb n6,Qb n6,Qb n6,Qb n6] [(2,pt z),(Ls z),(Pm x b8 o9),(Lm x),(22,Ac k),(6,pt n6)] ⟨w,n6+1,[(Ak w),(Lr z c),(Lh z x),(bk n6 (A8.arr y15) 49)]⟩ rfl ⟨rfl,(by omega),rfl,Dt hc13,rfl,rfl,rfl,rfl,Ae⟩ ?_
  by_cases h16:(y15.Bj:Int)<0
  ·refine Az 9 0 [1] [[o0,(a1 3),oT,o0,o0,o0,o0,o0,o0],[o0]] [Qb n6,BT ((y15.Bj:Int)<0)] [(4,.bool false)] rfl ⟨rfl,bt,Ae⟩ ?_
   refine AA [] [] (.bool false) Ae ?_
   intro w17 hw17
   refine⟨congrArg (fun b=>Ending.returned (Value.bool b)) (Eq.symm (?_:Ew c.Ag.xs.length x=false)),AO hw17⟩
   unfold Ew
   have e1:x.Af.xs.all KO=false:=O6 (k:=k) (by omega) (by rw[←hy15];exact decide_eq_false (by omega))
   simp[e1]
  by_cases h18:(256:Int)<y15.Bj
  ·refine Az 9 0 [1] [[o0,(a1 3),oF,o0,o0,(a1 3),oT,o0,o0,o0,o0,o0],[o0]] [Qb n6,BF ((y15.Bj:Int)<0),Qb n6,BT ((y15.Bj:Int) > 256)] [(4,.bool false)] rfl ⟨rfl,bf,rfl,bt,Ae⟩ ?_
   refine AA [] [] (.bool false) Ae ?_
   intro w19 hw19
   refine⟨congrArg (fun b=>Ending.returned (Value.bool b)) (Eq.symm (?_:Ew c.Ag.xs.length x=false)),AO hw19⟩
   unfold Ew
   have e1:x.Af.xs.all KO=false:=O6 (k:=k) (by omega) (by rw[←hy15];exact decide_eq_false (by omega))
   simp[e1]
  by_cases h20:(y15.AV:Int)<1
  ·refine Az 9 0 [1] [[o0,(a1 3),oF,o0,o0,(a1 3),oF,o0,o0,o0,(a1 3),oT,o0,o0,o0],[o0]] [Qb n6,BF ((y15.Bj:Int)<0),Qb n6,BF ((y15.Bj:Int) > 256),Qb n6,BT ((y15.AV:Int)<1)] [(4,.bool false)] rfl ⟨rfl,bf,rfl,bf,rfl,bt,Ae⟩ ?_
   refine AA [] [] (.bool false) Ae ?_
   intro w21 hw21
   refine⟨congrArg (fun b=>Ending.returned (Value.bool b)) (Eq.symm (?_:Ew c.Ag.xs.length x=false)),AO hw21⟩
   unfold Ew
   have e1:x.Af.xs.all KO=false:=O6 (k:=k) (by omega) (by rw[←hy15];exact decide_eq_false (by omega))
   simp[e1]
  by_cases h22:(256 - y15.Bj:Int)<y15.AV
  ·refine Az 9 0 [1] [[o0,(a1 3),oF,o0,o0,(a1 3),oF,o0,o0,o0,(a1 3),oF,o0,o0,o0,(a1 3),o0,(a1 3),(ov (i6 (256 - y15.Bj))),oT,o0],[o0]] [Qb n6,BF ((y15.Bj:Int)<0),Qb n6,BF ((y15.Bj:Int) > 256),Qb n6,BF ((y15.AV:Int)<1),Qb n6,Qb n6,Wr ((256:Int) - y15.Bj) (256 - y15.Bj),BT ((y15.AV:Int) > (256 - y15.Bj))] [(4,.bool false)] rfl ⟨rfl,bf,rfl,bf,rfl,bf,rfl,rfl,BQ,bt,Ae⟩ ?_
   refine AA [] [] (.bool false) Ae ?_
   intro w23 hw23
   refine⟨congrArg (fun b=>Ending.returned (Value.bool b)) (Eq.symm (?_:Ew c.Ag.xs.length x=false)),AO hw23⟩
   unfold Ew
   have e1:x.Af.xs.all KO=false:=O6 (k:=k) (by omega) (by rw[←hy15];exact decide_eq_false (by omega))
   simp[e1]
  refine Az 9 0 [0] [[o0,(a1 3),oF,o0,o0,(a1 3),oF,o0,o0,o0,(a1 3),oF,o0,o0,o0,(a1 3),o0,(a1 3),(ov (i6 (256 - y15.Bj))),oF,o0],[(ov (i6 ((k+1:Nat):Int))),o0]] [Qb n6,BF ((y15.Bj:Int)<0),Qb n6,BF ((y15.Bj:Int) > 256),Qb n6,BF ((y15.AV:Int)<1),Qb n6,Qb n6,Wr ((256:Int) - y15.Bj) (256 - y15.Bj),BF ((y15.AV:Int) > (256 - y15.Bj)),Wr ((k:Int)+1) (((k+1:Nat):Int))] [(2,pt z),(Ls z),(Pm x b8 o9),(Lm x),(22,i6 ((k+1:Nat):Int))] rfl ⟨rfl,bf,rfl,bf,rfl,bf,rfl,rfl,BQ,bf,BQ,Ae⟩ ?_
  refine Cb [0,1,2] [(Ak w),(Lr z c),(Lh z x)] rfl rfl ?_
  refine H5 [2,3,20,21,22] [(2,pt z),(Ls z),(NW x),(Lm x),(22,i6 ((k+1:Nat):Int))] (by(try dsimp only[Lh,Lr,Pm,NW,Lm,Ls]);simp only[ha10];rfl) ?_
  refine BD (fun a w' hs=>⟨x.Af.xs.length - (k+1),by omega,(n6+1),(k+1),rfl,by omega,by omega,upto hr (by rw[←hy15];exact decide_eq_true (by omega)),hs⟩)
 refine Az 16 0 [0] [[oF],[o0,(a1 2),o0,o0]] [BF ((k:Int)<(x.Af.xs.length:Int)),Qb (z+1)] [(2,pt z),(Pj x),(Nl x),(51,i6 0)] rfl ⟨bf,rfl,Ae⟩ ?_
 refine Di (fun m a w'=>∃ (n25:Nat) (j:Nat),m=x.Am.xs.length - j∧n6≤n25∧(j≤x.Am.xs.length)∧(∀ i,i<j→Si c.Ag.xs.length (gd x.Am.xs i)=true)∧St 67 [(2,pt z),(Pj x),(Nl x),(51,Ac j)] [] ⟨w,n25,[(Ak w),(Lr z c),(Lh z x)]⟩ a w') (x.Am.xs.length - 0) ?_ ?_
 ·intro a w' hs;exact⟨n6,0,rfl,Nat.le_refl _,Nat.zero_le _,fun i hi=>absurd hi (Nat.not_lt_zero i),hs⟩
 rintro m a w' ⟨n25,j,rfl,hn24,hkj,hp,hs⟩
 refine(?_:G Tryd.prog 67 [(2,pt z),(Pj x),(Nl x),(51,Ac j)] [] ⟨w,n25,[(Ak w),(Lr z c),(Lh z x)]⟩ _ _ _) a w' hs
 clear hs a w'
 refine Ce ?_
 by_cases h26:(j:Int)<(x.Am.xs.length:Int)
 ·refine Az 10 0 [1] [[oT]] [BT ((j:Int)<(x.Am.xs.length:Int))] [(2,pt z),(Pj x),(Nl x),(51,Ac j),(52,.bool true)] rfl ⟨bt,Ae⟩ ?_
  obtain⟨b27,o28,ha29,hF31,hc30⟩:=(hx.Am).1.all (show 0<x.Am.xs.length by omega)
  replace ha29:x.Am.a=some ⟨b27,o28,none⟩:=ha29
  refine MQ [(2,pt z),(49,.slice (some ⟨b27,o28,none⟩) x.Am.xs.length x.Am.cap),(Nl x),(51,Ac j),(52,.bool true)] (by(try dsimp only[Lh,Lr,Pm,NW,Pj,Lm,Nl,Ls]);simp only[ha29]) ?_
  have hc32:=hc30 j (show j<x.Am.xs.length by omega)
  have he33:=(hx.Am).2 j (show j<x.Am.xs.length by omega)
  obtain⟨y34,hy34⟩:∃ y_,y_=gd x.Am.xs j:=⟨_,rfl⟩
  rw[←hy34]at he33 hc32
  refine q_c 4 0 [] [[(oi j),(ol 0 (Bh.arr y34)),o0,(an 2 3)]] [Ci j,j<x.Am.xs.length,BN,Fa w b27 (o28+j*2) (Bh.arr y34),Qb n25,Qb n25] [(2,pt z),(49,.slice (some ⟨b27,o28,none⟩) x.Am.xs.length x.Am.cap),(Nl x),(51,Ac j),(8,pt n25)] ⟨w,n25+1,[(Ak w),(Lr z c),(Lh z x),(bk n25 (Bh.arr y34) 57)]⟩ rfl ⟨rfl,(by omega),rfl,Dt hc32,rfl,rfl,Ae⟩ ?_
  by_cases h35:(y34.Channel:Int)<0
  ·refine Az 9 0 [1] [[o0,(a1 3),oT,o0,o0],[o0]] [Qb n25,BT ((y34.Channel:Int)<0)] [(4,.bool false)] rfl ⟨rfl,bt,Ae⟩ ?_
   refine AA [] [] (.bool false) Ae ?_
   intro w36 hw36
   refine⟨congrArg (fun b=>Ending.returned (Value.bool b)) (Eq.symm (?_:Ew c.Ag.xs.length x=false)),AO hw36⟩
   unfold Ew
   have e1:x.Am.xs.all (Si c.Ag.xs.length)=false:=O6 (k:=j) (by omega) (by rw[←hy34];exact decide_eq_false (by omega))
   simp[e1]
  by_cases h37:(y34.Channel:Int)<(c.Ag.xs.length:Int)
  ·refine Az 9 0 [0] [[o0,(a1 3),oF,o0,o0,(a1 3),o0,(a1 1),o0,oF,o0],[(ov (i6 ((j+1:Nat):Int))),o0]] [Qb n25,BF ((y34.Channel:Int)<0),Qb n25,Qb z,BF ((y34.Channel:Int)≥(c.Ag.xs.length:Int)),Wr ((j:Int)+1) (((j+1:Nat):Int))] [(2,pt z),(49,.slice (some ⟨b27,o28,none⟩) x.Am.xs.length x.Am.cap),(Nl x),(51,i6 ((j+1:Nat):Int))] rfl ⟨rfl,bf,rfl,rfl,bf,BQ,Ae⟩ ?_
   refine Cb [0,1,2] [(Ak w),(Lr z c),(Lh z x)] rfl rfl ?_
   refine H5 [2,49,50,51] [(2,pt z),(Pj x),(Nl x),(51,i6 ((j+1:Nat):Int))] (by(try dsimp only[Lh,Lr,NW,Pj,Lm,Nl,Ls]);simp only[ha29];rfl) ?_
   refine BD (fun a w' hs=>⟨x.Am.xs.length - (j+1),by omega,(n25+1),(j+1),rfl,by omega,by omega,upto hp (by rw[←hy34];exact decide_eq_true (by omega)),hs⟩)
  refine Az 9 0 [1] [[o0,(a1 3),oF,o0,o0,(a1 3),o0,(a1 1),o0,oT,o0],[o0]] [Qb n25,BF ((y34.Channel:Int)<0),Qb n25,Qb z,BT ((y34.Channel:Int)≥(c.Ag.xs.length:Int))] [(4,.bool false)] rfl ⟨rfl,bf,rfl,rfl,bt,Ae⟩ ?_
  refine AA [] [] (.bool false) Ae ?_
  intro w38 hw38
  refine⟨congrArg (fun b=>Ending.returned (Value.bool b)) (Eq.symm (?_:Ew c.Ag.xs.length x=false)),AO hw38⟩
  unfold Ew
  have e1:x.Am.xs.all (Si c.Ag.xs.length)=false:=O6 (k:=j) (by omega) (by rw[←hy34];exact decide_eq_false (by omega))
  simp[e1]
 refine Az 15 0 [0] [[oF],[o0]] [BF ((j:Int)<(x.Am.xs.length:Int))] [(4,.bool true)] rfl ⟨bf,Ae⟩ ?_
 refine AA [] [] (.bool true) Ae ?_
 intro w39 hw39
 refine⟨congrArg (fun b=>Ending.returned (Value.bool b)) (Eq.symm (?_:Ew c.Ag.xs.length x=true)),AO hw39⟩
 have e1:x.Af.xs.all KO=true:=VU (fun i hi=>hr i (by omega))
 have e2:x.Am.xs.all (Si c.Ag.xs.length)=true:=VU (fun i hi=>hp i (by omega))
 simp only[Ew,e1,e2,Bool.and_true,Bool.and_eq_true,decide_eq_true_eq]
 omega
def ER(h:AL):Int:=if h.Words<1∨h.Words > 16 then 0 else if h.Kind=1 then h.Words else if h.Kind=2∧1≤h.Dn∧h.Dn≤8 then h.Dn*(1+h.Words)else 0
def BV(h:AL):Int:=if ER h=0 then 0 else if h.Kind=1 then 2+h.Words else 1+ER h
def portOf(h:AL):Int:=if ER h=0 then 0 else 3+ER h
theorem Uz(h:AL):0≤ER h∧ER h≤136:=by
 unfold ER
 split
 ·omega
 split
 ·omega
 split
 ·rename_i h1 h2 h3
  have hd:h.Dn=1∨h.Dn=2∨h.Dn=3∨h.Dn=4∨h.Dn=5∨h.Dn=6∨h.Dn=7∨h.Dn=8:=by omega
  rcases hd with e | e | e | e | e | e | e | e <;> rw[e] <;> omega
 omega
theorem Og{h:AL}(h1:h.Words<1∨h.Words > 16):ER h=0:=by unfold ER;rw[if_pos h1]
theorem TM{h:AL}(h1:¬ h.Words<1)(h2:¬ 16<h.Words)(h3:h.Kind=1):ER h=h.Words:=by unfold ER;rw[if_neg (by omega),if_pos h3]
theorem TJ{h:AL}(h1:¬ h.Words<1)(h2:¬ 16<h.Words)(h3:¬ h.Kind=1)(h4:h.Kind=2)(h5:1≤h.Dn)(h6:h.Dn≤8):ER h=h.Dn*(1+h.Words):=by unfold ER;rw[if_neg (by omega),if_neg h3,if_pos ⟨h4,h5,h6⟩]
theorem NY{h:AL}(h1:¬ h.Words<1)(h2:¬ 16<h.Words)(h3:¬ h.Kind=1)(h4:¬ (h.Kind=2∧1≤h.Dn∧h.Dn≤8)):ER h=0:=by unfold ER;rw[if_neg (by omega),if_neg h3,if_neg h4]
theorem Zci(h:AL):ER h=0∨(1≤h.Words∧h.Words≤16):=by
 unfold ER;split
 ·exact .inl rfl
 right;omega
theorem LX{h:AL}(h1:ER h=0):0=BV h:=by unfold BV;rw[if_pos h1]
theorem SK{h:AL}(h1:¬ h.Words<1)(h2:¬ 16<h.Words)(h3:h.Kind=1):2+h.Words=BV h:=by unfold BV;rw[TM h1 h2 h3,if_neg (by omega),if_pos h3]
theorem SX{h:AL}(h1:¬ h.Words<1)(h2:¬ 16<h.Words)(h3:¬ h.Kind=1)(h4:h.Kind=2)(h5:1≤h.Dn)(h6:h.Dn≤8):1+h.Dn*(1+h.Words)=BV h:=by
 unfold BV;rw[TJ h1 h2 h3 h4 h5 h6,if_neg ?_,if_neg h3]
 have:=Int.mul_pos (show 0<h.Dn by omega) (show 0<1+h.Words by omega)
 omega
theorem Ot(h:AL):0≤BV h∧BV h≤137:=by
 have hb:=Uz h
 unfold BV
 split
 ·omega
 split
 ·rename_i h1 h2
  unfold ER at h1
  split at h1
  ·exact absurd rfl h1
  omega
 omega
theorem U0(h:AL):0≤portOf h∧portOf h≤139:=by
 have hb:=Uz h
 unfold portOf
 split <;> omega
theorem L9(h:AL):BV h=0↔portOf h=0:=by
 have hb:=Uz h
 unfold BV portOf
 split
 ·simp
 split
 ·rename_i h1 h2
  unfold ER at h1 hb
  constructor
  ·intro e
   split at h1
   ·exact absurd rfl h1
   omega
  intro e;exfalso;unfold ER at e;omega
 omega
theorem Zc8{h:AL}(h1:¬ BV h=0)(h2:h.Kind=1):BV h+1=portOf h:=by
 unfold BV portOf at *
 split at h1
 ·exact absurd rfl h1
 rename_i hb
 rw[if_neg hb,if_neg hb,if_pos h2]
 unfold ER at hb ⊢
 split at hb
 ·exact absurd rfl hb
 rename_i h3
 rw[if_neg h3,if_pos h2];omega
theorem Zcj{h:AL}(h1:¬ BV h=0)(h2:¬ h.Kind=1):BV h+2=portOf h:=by
 unfold BV portOf at *
 split at h1
 ·exact absurd rfl h1
 rename_i hb
 rw[if_neg hb,if_neg hb,if_neg h2];omega
theorem Q3(w:World)(h:AL)(hh:AL.ok Any w h):Calls Tryd.prog 59 #[.agg (AL.arr h)] w fun e w'=>e = .returned (.int .i64 (BV h))∧CP (fun _=>False) w w':=by
 obtain⟨z,hz⟩:∃ z,z=w.heap.size:=⟨_,rfl⟩
 refine CE (args:=[.agg (AL.arr h)]) 40 ⟨w,z,[(Ak w)]⟩ Tryd.func59 rfl (by kernel_rfl) (by kernel_rfl) (Ep hz) ?_
 refine DC [0] [(0,.agg (AL.arr h))] ?_
 refine q_c 7 0 [] [[o0,o0]] [] [(1,pt z)] ⟨w,z+1,[(Ak w),(bk z (AL.arr h) 55)]⟩ rfl Ae ?_
 by_cases h1:(h.Words:Int)<1
 ·refine Az 9 0 [1] [[o0,(a1 1),oT,o0,o0,o0],[o0]] [Qb z,BT ((h.Words:Int)<1)] [(2,i6 0)] rfl ⟨rfl,bt,Ae⟩ ?_
  refine AA [] [] (i6 0) Ae ?_
  intro w2 hw2
  refine⟨congrArg (fun n=>Ending.returned (i6 n)) (?_:(0:Int)=BV h),AO hw2⟩
  first
   | exact LX (Og (by omega))
   | exact SK (by omega) (by omega) (by omega)
   | exact SX (by omega) (by omega) (by omega) (by omega) (by omega) (by omega)
   | exact LX (NY (by omega) (by omega) (by omega) (by omega))
 by_cases h3:(16:Int)<h.Words
 ·refine Az 9 0 [1] [[o0,(a1 1),oF,o0,o0,(a1 1),oT,o0,o0],[o0]] [Qb z,BF ((h.Words:Int)<1),Qb z,BT ((h.Words:Int) > 16)] [(2,i6 0)] rfl ⟨rfl,bf,rfl,bt,Ae⟩ ?_
  refine AA [] [] (i6 0) Ae ?_
  intro w4 hw4
  refine⟨congrArg (fun n=>Ending.returned (i6 n)) (?_:(0:Int)=BV h),AO hw4⟩
  first
   | exact LX (Og (by omega))
   | exact SK (by omega) (by omega) (by omega)
   | exact SX (by omega) (by omega) (by omega) (by omega) (by omega) (by omega)
   | exact LX (NY (by omega) (by omega) (by omega) (by omega))
 refine Az 5 0 [0] [[o0,(a1 1),oF,o0,o0,(a1 1),oF,o0,o0]] [Qb z,BF ((h.Words:Int)<1),Qb z,BF ((h.Words:Int) > 16)] [(1,pt z),(3,.bool false)] rfl ⟨rfl,bf,rfl,bf,Ae⟩ ?_
 by_cases h5:(h.Kind:Int)=1
 ·refine Az 9 0 [1] [[o0,(a1 1),oT,o0],[o0,(a1 1),(ov (i6 (2+h.Words))),o0]] [Qb z,ET h.Kind 1,Qb z,Wr ((2:Int)+h.Words) (2+h.Words)] [(2,i6 (2+h.Words))] rfl ⟨rfl,et,rfl,BQ,Ae⟩ ?_
  refine AA [] [] (i6 (2+h.Words)) Ae ?_
  intro w6 hw6
  refine⟨congrArg (fun n=>Ending.returned (i6 n)) (?_:(2+h.Words:Int)=BV h),AO hw6⟩
  first
   | exact LX (Og (by omega))
   | exact SK (by omega) (by omega) (by omega)
   | exact SX (by omega) (by omega) (by omega) (by omega) (by omega) (by omega)
   | exact LX (NY (by omega) (by omega) (by omega) (by omega))
 refine Az 5 0 [0] [[o0,(a1 1),oF,o0]] [Qb z,EF h.Kind 1] [(1,pt z),(12,.bool false)] rfl ⟨rfl,ef,Ae⟩ ?_
 by_cases h7:(h.Kind:Int)=2
 ·by_cases h8:(h.Dn:Int)<1
  ·refine Az 12 0 [0] [[o0,(a1 1),oT,o0,o0,(a1 1),oF,o0,o0,o0,o0],[o0]] [Qb z,ET h.Kind 2,Qb z,BF ((h.Dn:Int)≥1)] [(2,i6 0)] rfl ⟨rfl,et,rfl,bf,Ae⟩ ?_
   refine AA [] [] (i6 0) Ae ?_
   intro w9 hw9
   refine⟨congrArg (fun n=>Ending.returned (i6 n)) (?_:(0:Int)=BV h),AO hw9⟩
   first
    | exact LX (Og (by omega))
    | exact SK (by omega) (by omega) (by omega)
    | exact SX (by omega) (by omega) (by omega) (by omega) (by omega) (by omega)
    | exact LX (NY (by omega) (by omega) (by omega) (by omega))
  by_cases h10:(8:Int)<h.Dn
  ·refine Az 12 0 [0] [[o0,(a1 1),oT,o0,o0,(a1 1),oT,o0,o0,o0,(a1 1),oF,o0,o0],[o0]] [Qb z,ET h.Kind 2,Qb z,BT ((h.Dn:Int)≥1),Qb z,BF ((h.Dn:Int)≤8)] [(2,i6 0)] rfl ⟨rfl,et,rfl,bt,rfl,bf,Ae⟩ ?_
   refine AA [] [] (i6 0) Ae ?_
   intro w11 hw11
   refine⟨congrArg (fun n=>Ending.returned (i6 n)) (?_:(0:Int)=BV h),AO hw11⟩
   first
    | exact LX (Og (by omega))
    | exact SK (by omega) (by omega) (by omega)
    | exact SX (by omega) (by omega) (by omega) (by omega) (by omega) (by omega)
    | exact LX (NY (by omega) (by omega) (by omega) (by omega))
  refine Az 6 0 [1] [[o0,(a1 1),oT,o0,o0,(a1 1),oT,o0,o0,o0,(a1 1),oT,o0,o0]] [Qb z,ET h.Kind 2,Qb z,BT ((h.Dn:Int)≥1),Qb z,BT ((h.Dn:Int)≤8)] [(1,pt z),(19,.bool true)] rfl ⟨rfl,et,rfl,bt,rfl,bt,Ae⟩ ?_
  have hm12:=mul_bd (a:=h.Dn) (b:=1+h.Words) (by omega) (by omega) (by omega) (by omega)
  refine BP 3 0 [] [[o0,(a1 1),o0,(a1 1),(ov (i6 (1+h.Words))),(ov (i6 (h.Dn*(1+h.Words)))),(ov (i6 (1+(h.Dn*(1+h.Words))))),o0]] [Qb z,Qb z,Wr ((1:Int)+h.Words) (1+h.Words),Wr ((h.Dn:Int)*(1+h.Words)) (h.Dn*(1+h.Words)),Wr ((1:Int)+(h.Dn*(1+h.Words))) (1+(h.Dn*(1+h.Words)))] [(2,i6 (1+(h.Dn*(1+h.Words))))] rfl ⟨rfl,rfl,BQ,BQ,BQ,Ae⟩ ?_
  refine AA [] [] (i6 (1+(h.Dn*(1+h.Words)))) Ae ?_
  intro w13 hw13
  refine⟨congrArg (fun n=>Ending.returned (i6 n)) (?_:(1+(h.Dn*(1+h.Words)):Int)=BV h),AO hw13⟩
  first
   | exact LX (Og (by omega))
   | exact SK (by omega) (by omega) (by omega)
   | exact SX (by omega) (by omega) (by omega) (by omega) (by omega) (by omega)
   | exact LX (NY (by omega) (by omega) (by omega) (by omega))
 refine Az 12 0 [0] [[o0,(a1 1),oF,o0,o0,o0,o0,o0],[o0]] [Qb z,EF h.Kind 2] [(2,i6 0)] rfl ⟨rfl,ef,Ae⟩ ?_
 refine AA [] [] (i6 0) Ae ?_
 intro w14 hw14
 refine⟨congrArg (fun n=>Ending.returned (i6 n)) (?_:(0:Int)=BV h),AO hw14⟩
 first
  | exact LX (Og (by omega))
  | exact SK (by omega) (by omega) (by omega)
  | exact SX (by omega) (by omega) (by omega) (by omega) (by omega) (by omega)
  | exact LX (NY (by omega) (by omega) (by omega) (by omega))
theorem ZP(w:World)(h:AL)(hh:AL.ok Any w h):Calls Tryd.prog 85 #[.agg (AL.arr h)] w fun e w'=>e = .returned (.int .i64 (ER h))∧CP (fun _=>False) w w':=by
 obtain⟨z,hz⟩:∃ z,z=w.heap.size:=⟨_,rfl⟩
 refine CE (args:=[.agg (AL.arr h)]) 35 ⟨w,z,[(Ak w)]⟩ Tryd.func85 rfl (by kernel_rfl) (by kernel_rfl) (Ep hz) ?_
 refine DC [0] [(0,.agg (AL.arr h))] ?_
 refine q_c 6 0 [] [[o0,o0]] [] [(1,pt z)] ⟨w,z+1,[(Ak w),(bk z (AL.arr h) 55)]⟩ rfl Ae ?_
 by_cases h1:(h.Words:Int)<1
 ·refine Az 9 0 [1] [[o0,(a1 1),oT,o0,o0],[o0]] [Qb z,BT ((h.Words:Int)<1)] [(2,i6 0)] rfl ⟨rfl,bt,Ae⟩ ?_
  refine AA [] [] (i6 0) Ae ?_
  intro w2 hw2
  refine⟨congrArg (fun n=>Ending.returned (i6 n)) (?_:(0:Int)=ER h),AO hw2⟩
  first
   | exact(Og (by omega)).symm
   | exact(TM (by omega) (by omega) (by omega)).symm
   | exact(TJ (by omega) (by omega) (by omega) (by omega) (by omega) (by omega)).symm
   | exact(NY (by omega) (by omega) (by omega) (by omega)).symm
 by_cases h3:(16:Int)<h.Words
 ·refine Az 9 0 [1] [[o0,(a1 1),oF,o0,o0,(a1 1),oT,o0],[o0]] [Qb z,BF ((h.Words:Int)<1),Qb z,BT ((h.Words:Int) > 16)] [(2,i6 0)] rfl ⟨rfl,bf,rfl,bt,Ae⟩ ?_
  refine AA [] [] (i6 0) Ae ?_
  intro w4 hw4
  refine⟨congrArg (fun n=>Ending.returned (i6 n)) (?_:(0:Int)=ER h),AO hw4⟩
  first
   | exact(Og (by omega)).symm
   | exact(TM (by omega) (by omega) (by omega)).symm
   | exact(TJ (by omega) (by omega) (by omega) (by omega) (by omega) (by omega)).symm
   | exact(NY (by omega) (by omega) (by omega) (by omega)).symm
 refine Az 8 0 [0] [[o0,(a1 1),oF,o0,o0,(a1 1),oF,o0]] [Qb z,BF ((h.Words:Int)<1),Qb z,BF ((h.Words:Int) > 16)] [(1,pt z),(10,.bool false)] rfl ⟨rfl,bf,rfl,bf,Ae⟩ ?_
 by_cases h5:(h.Kind:Int)=1
 ·refine Az 9 0 [1] [[o0,(a1 1),oT],[o0,(a1 1),o0]] [Qb z,ET h.Kind 1,Qb z] [(2,i6 h.Words)] rfl ⟨rfl,et,rfl,Ae⟩ ?_
  refine AA [] [] (i6 h.Words) Ae ?_
  intro w6 hw6
  refine⟨congrArg (fun n=>Ending.returned (i6 n)) (?_:(h.Words:Int)=ER h),AO hw6⟩
  first
   | exact(Og (by omega)).symm
   | exact(TM (by omega) (by omega) (by omega)).symm
   | exact(TJ (by omega) (by omega) (by omega) (by omega) (by omega) (by omega)).symm
   | exact(NY (by omega) (by omega) (by omega) (by omega)).symm
 refine Az 8 0 [0] [[o0,(a1 1),oF]] [Qb z,EF h.Kind 1] [(1,pt z),(13,.bool false)] rfl ⟨rfl,ef,Ae⟩ ?_
 by_cases h7:(h.Kind:Int)=2
 ·by_cases h8:(h.Dn:Int)<1
  ·refine Az 11 0 [0] [[o0,(a1 1),oT,o0,o0,(a1 1),oF,o0,o0,o0],[o0]] [Qb z,ET h.Kind 2,Qb z,BF ((h.Dn:Int)≥1)] [(2,i6 0)] rfl ⟨rfl,et,rfl,bf,Ae⟩ ?_
   refine AA [] [] (i6 0) Ae ?_
   intro w9 hw9
   refine⟨congrArg (fun n=>Ending.returned (i6 n)) (?_:(0:Int)=ER h),AO hw9⟩
   first
    | exact(Og (by omega)).symm
    | exact(TM (by omega) (by omega) (by omega)).symm
    | exact(TJ (by omega) (by omega) (by omega) (by omega) (by omega) (by omega)).symm
    | exact(NY (by omega) (by omega) (by omega) (by omega)).symm
  by_cases h10:(8:Int)<h.Dn
  ·refine Az 11 0 [0] [[o0,(a1 1),oT,o0,o0,(a1 1),oT,o0,o0,o0,(a1 1),oF,o0],[o0]] [Qb z,ET h.Kind 2,Qb z,BT ((h.Dn:Int)≥1),Qb z,BF ((h.Dn:Int)≤8)] [(2,i6 0)] rfl ⟨rfl,et,rfl,bt,rfl,bf,Ae⟩ ?_
   refine AA [] [] (i6 0) Ae ?_
   intro w11 hw11
   refine⟨congrArg (fun n=>Ending.returned (i6 n)) (?_:(0:Int)=ER h),AO hw11⟩
   first
    | exact(Og (by omega)).symm
    | exact(TM (by omega) (by omega) (by omega)).symm
    | exact(TJ (by omega) (by omega) (by omega) (by omega) (by omega) (by omega)).symm
    | exact(NY (by omega) (by omega) (by omega) (by omega)).symm
  refine Az 6 0 [1] [[o0,(a1 1),oT,o0,o0,(a1 1),oT,o0,o0,o0,(a1 1),oT,o0]] [Qb z,ET h.Kind 2,Qb z,BT ((h.Dn:Int)≥1),Qb z,BT ((h.Dn:Int)≤8)] [(1,pt z),(28,.bool true)] rfl ⟨rfl,et,rfl,bt,rfl,bt,Ae⟩ ?_
  have hm12:=mul_bd (a:=h.Dn) (b:=1+h.Words) (by omega) (by omega) (by omega) (by omega)
  refine BP 3 0 [] [[o0,(a1 1),o0,(a1 1),(ov (i6 (1+h.Words))),(ov (i6 (h.Dn*(1+h.Words)))),o0]] [Qb z,Qb z,Wr ((1:Int)+h.Words) (1+h.Words),Wr ((h.Dn:Int)*(1+h.Words)) (h.Dn*(1+h.Words))] [(2,i6 (h.Dn*(1+h.Words)))] rfl ⟨rfl,rfl,BQ,BQ,Ae⟩ ?_
  refine AA [] [] (i6 (h.Dn*(1+h.Words))) Ae ?_
  intro w13 hw13
  refine⟨congrArg (fun n=>Ending.returned (i6 n)) (?_:(h.Dn*(1+h.Words):Int)=ER h),AO hw13⟩
  first
   | exact(Og (by omega)).symm
   | exact(TM (by omega) (by omega) (by omega)).symm
   | exact(TJ (by omega) (by omega) (by omega) (by omega) (by omega) (by omega)).symm
   | exact(NY (by omega) (by omega) (by omega) (by omega)).symm
 refine Az 11 0 [0] [[o0,(a1 1),oF,o0,o0,o0,o0],[o0]] [Qb z,EF h.Kind 2] [(2,i6 0)] rfl ⟨rfl,ef,Ae⟩ ?_
 refine AA [] [] (i6 0) Ae ?_
 intro w14 hw14
 refine⟨congrArg (fun n=>Ending.returned (i6 n)) (?_:(0:Int)=ER h),AO hw14⟩
 first
  | exact(Og (by omega)).symm
  | exact(TM (by omega) (by omega) (by omega)).symm
  | exact(TJ (by omega) (by omega) (by omega) (by omega) (by omega) (by omega)).symm
  | exact(NY (by omega) (by omega) (by omega) (by omega)).symm
theorem Xi(w:World)(h:AL)(hh:AL.ok Any w h):Calls Tryd.prog 83 #[.agg (AL.arr h)] w fun e w'=>e = .returned (.int .i64 (BV h))∧CP (fun _=>False) w w':=by
 obtain⟨z,hz⟩:∃ z,z=w.heap.size:=⟨_,rfl⟩
 refine CE (args:=[.agg (AL.arr h)]) 16 ⟨w,z,[(Ak w)]⟩ Tryd.func83 rfl (by kernel_rfl) (by kernel_rfl) (Ep hz) ?_
 have hbd:=Uz h;have hsd:=Ot h;have hwd:=Zci h
 refine DC [0] [(0,.agg (AL.arr h))] ?_
 refine q_c 6 1 [] [[o0,o0],[(an 3 1)]] [Qb z,Qb z,Qb z] [(1,pt z),(4,.agg (AL.arr h))] ⟨w,z+1,[(Ak w),(bk z (AL.arr h) 55)]⟩ rfl ⟨rfl,rfl,rfl,Ae⟩ ?_
 refine Bf 85 #[.agg (AL.arr h)] (some 5) (i6 (ER h)) (fun w1 hw1=>ZP w1 h (hh.ext (hw1.ext rfl) (fun _ h=>h))) (fun n2 (hn3:z+1≤n2) => ?_)
 refine BP 4 0 [] [[o0]] [] [(1,pt z),(3,i6 (ER h))] rfl Ae ?_
 by_cases h4:(ER h:Int)=0
 ·refine Az 9 0 [1] [[o0,oT],[o0]] [ET (ER h) 0] [(2,i6 0)] rfl ⟨et,Ae⟩ ?_
  refine AA [] [] (i6 0) Ae ?_
  intro w5 hw5
  refine⟨congrArg (fun n=>Ending.returned (i6 n)) (?_:(0:Int)=BV h),AO hw5⟩
  unfold BV
  first
   | (rw[if_pos (by omega)])
   | (rw[if_neg (by omega),if_pos (by omega)])
   | (rw[if_neg (by omega),if_neg (by omega)])
 refine Az 8 0 [0] [[o0,oF]] [EF (ER h) 0] [(1,pt z),(3,i6 (ER h)),(7,.bool false)] rfl ⟨ef,Ae⟩ ?_
 by_cases h6:(h.Kind:Int)=1
 ·refine Az 9 0 [1] [[o0,(a1 1),oT],[o0,(a1 1),(ov (i6 (2+h.Words))),o0]] [Qb z,ET h.Kind 1,Qb z,Wr ((2:Int)+h.Words) (2+h.Words)] [(2,i6 (2+h.Words))] rfl ⟨rfl,et,rfl,BQ,Ae⟩ ?_
  refine AA [] [] (i6 (2+h.Words)) Ae ?_
  intro w7 hw7
  refine⟨congrArg (fun n=>Ending.returned (i6 n)) (?_:(2+h.Words:Int)=BV h),AO hw7⟩
  unfold BV
  first
   | (rw[if_pos (by omega)])
   | (rw[if_neg (by omega),if_pos (by omega)])
   | (rw[if_neg (by omega),if_neg (by omega)])
 refine Az 11 0 [0] [[o0,(a1 1),oF],[o0,(ov (i6 (1+(ER h)))),o0]] [Qb z,EF h.Kind 1,Wr ((1:Int)+(ER h)) (1+(ER h))] [(2,i6 (1+(ER h)))] rfl ⟨rfl,ef,BQ,Ae⟩ ?_
 refine AA [] [] (i6 (1+(ER h))) Ae ?_
 intro w8 hw8
 refine⟨congrArg (fun n=>Ending.returned (i6 n)) (?_:(1+(ER h):Int)=BV h),AO hw8⟩
 unfold BV
 first
  | (rw[if_pos (by omega)])
  | (rw[if_neg (by omega),if_pos (by omega)])
  | (rw[if_neg (by omega),if_neg (by omega)])
theorem Vu(w:World)(h:AL)(hh:AL.ok Any w h):Calls Tryd.prog 81 #[.agg (AL.arr h)] w fun e w'=>e = .returned (.int .i64 (portOf h))∧CP (fun _=>False) w w':=by
 obtain⟨z,hz⟩:∃ z,z=w.heap.size:=⟨_,rfl⟩
 refine CE (args:=[.agg (AL.arr h)]) 10 ⟨w,z,[(Ak w)]⟩ Tryd.func81 rfl (by kernel_rfl) (by kernel_rfl) (Ep hz) ?_
 have hbd:=Uz h;have hsd:=Ot h;have hwd:=Zci h
 refine DC [0] [(0,.agg (AL.arr h))] ?_
 refine q_c 6 1 [] [[o0,o0],[(an 3 1)]] [Qb z,Qb z,Qb z] [(4,.agg (AL.arr h))] ⟨w,z+1,[(Ak w),(bk z (AL.arr h) 55)]⟩ rfl ⟨rfl,rfl,rfl,Ae⟩ ?_
 refine Bf 85 #[.agg (AL.arr h)] (some 5) (i6 (ER h)) (fun w1 hw1=>ZP w1 h (hh.ext (hw1.ext rfl) (fun _ h=>h))) (fun n2 (hn3:z+1≤n2) => ?_)
 refine BP 4 0 [] [[o0]] [] [(3,i6 (ER h))] rfl Ae ?_
 by_cases h4:(ER h:Int)=0
 ·refine Az 9 0 [1] [[o0,oT],[o0]] [ET (ER h) 0] [(2,i6 0)] rfl ⟨et,Ae⟩ ?_
  refine AA [] [] (i6 0) Ae ?_
  intro w5 hw5
  refine⟨congrArg (fun n=>Ending.returned (i6 n)) (?_:(0:Int)=portOf h),AO hw5⟩
  unfold portOf
  first
   | (rw[if_pos (by omega)])
   | (rw[if_neg (by omega)])
 refine Az 11 0 [0] [[o0,oF],[o0,(ov (i6 (3+(ER h)))),o0]] [EF (ER h) 0,Wr ((3:Int)+(ER h)) (3+(ER h))] [(2,i6 (3+(ER h)))] rfl ⟨ef,BQ,Ae⟩ ?_
 refine AA [] [] (i6 (3+(ER h))) Ae ?_
 intro w6 hw6
 refine⟨congrArg (fun n=>Ending.returned (i6 n)) (?_:(3+(ER h):Int)=portOf h),AO hw6⟩
 unfold portOf
 first
  | (rw[if_pos (by omega)])
  | (rw[if_neg (by omega)])
theorem port_calls(w:World)(h:AL)(hh:AL.ok Any w h):Calls Tryd.prog 60 #[.agg (AL.arr h)] w fun e w'=>e = .returned (.int .i64 (portOf h))∧CP (fun _=>False) w w':=by
 obtain⟨z,hz⟩:∃ z,z=w.heap.size:=⟨_,rfl⟩
 refine CE (args:=[.agg (AL.arr h)]) 17 ⟨w,z,[(Ak w)]⟩ Tryd.func60 rfl (by kernel_rfl) (by kernel_rfl) (Ep hz) ?_
 have hbd:=Uz h;have hsd:=Ot h;have hwd:=Zci h;have hsp:=L9 h
 refine DC [0] [(0,.agg (AL.arr h))] ?_
 refine q_c 6 1 [] [[o0,o0],[(an 3 1)]] [Qb z,Qb z,Qb z] [(1,pt z),(4,.agg (AL.arr h))] ⟨w,z+1,[(Ak w),(bk z (AL.arr h) 55)]⟩ rfl ⟨rfl,rfl,rfl,Ae⟩ ?_
 refine Bf 59 #[.agg (AL.arr h)] (some 5) (i6 (BV h)) (fun w1 hw1=>Q3 w1 h (hh.ext (hw1.ext rfl) (fun _ h=>h))) (fun n2 (hn3:z+1≤n2) => ?_)
 refine BP 4 0 [] [[o0]] [] [(1,pt z),(3,i6 (BV h))] rfl Ae ?_
 by_cases h4:(BV h:Int)=0
 ·refine Az 9 0 [1] [[o0,oT,o0],[o0]] [ET (BV h) 0] [(2,i6 0)] rfl ⟨et,Ae⟩ ?_
  refine AA [] [] (i6 0) Ae ?_
  intro w5 hw5
  refine⟨congrArg (fun n=>Ending.returned (i6 n)) (?_:(0:Int)=portOf h),AO hw5⟩
  first
   | (have:=hsp.1 (by omega);omega)
   | exact Zc8 (by omega) (by omega)
   | exact Zcj (by omega) (by omega)
 refine Az 5 0 [0] [[o0,oF,o0]] [EF (BV h) 0] [(1,pt z),(3,i6 (BV h)),(8,.bool false)] rfl ⟨ef,Ae⟩ ?_
 by_cases h6:(h.Kind:Int)=1
 ·refine Az 9 0 [1] [[o0,(a1 1),oT,o0],[o0,(ov (i6 ((BV h)+1))),o0]] [Qb z,ET h.Kind 1,Wr ((BV h:Int)+1) ((BV h)+1)] [(2,i6 ((BV h)+1))] rfl ⟨rfl,et,BQ,Ae⟩ ?_
  refine AA [] [] (i6 ((BV h)+1)) Ae ?_
  intro w7 hw7
  refine⟨congrArg (fun n=>Ending.returned (i6 n)) (?_:((BV h)+1:Int)=portOf h),AO hw7⟩
  first
   | (have:=hsp.1 (by omega);omega)
   | exact Zc8 (by omega) (by omega)
   | exact Zcj (by omega) (by omega)
 refine Az 9 0 [0] [[o0,(a1 1),oF,o0],[o0,(ov (i6 ((BV h)+2))),o0]] [Qb z,EF h.Kind 1,Wr ((BV h:Int)+2) ((BV h)+2)] [(2,i6 ((BV h)+2))] rfl ⟨rfl,ef,BQ,Ae⟩ ?_
 refine AA [] [] (i6 ((BV h)+2)) Ae ?_
 intro w8 hw8
 refine⟨congrArg (fun n=>Ending.returned (i6 n)) (?_:((BV h)+2:Int)=portOf h),AO hw8⟩
 first
  | (have:=hsp.1 (by omega);omega)
  | exact Zc8 (by omega) (by omega)
  | exact Zcj (by omega) (by omega)
theorem take_snoc{α:Type}[Inhabited α]{xs:List α}{k:Nat}(h:k<xs.length):xs.take (k+1)=xs.take k++[gd xs k]:=by
 rw[List.take_succ_eq_append_getElem h,F9 h]
def Ju(k:Int)(b:Bool)(q:Bh):Bool:=decide (q.Channel=k)&&(q.Source==b)
def Ef(x:Ap)(k:Int)(b:Bool):Nat:=x.Am.xs.countP (Ju k b)
theorem XQ{q:Bh}{k:Int}{b:Bool}(h1:q.Channel=k)(h2:q.Source=b):Ju k b q=true:=by simp[Ju,h1,h2]
theorem Xv{q:Bh}{k:Int}{b:Bool}(h1:¬ q.Channel=k):Ju k b q=false:=by simp[Ju,h1]
theorem Wv{q:Bh}{k:Int}{b:Bool}(h2:¬ q.Source=b):Ju k b q=false:=by simp[Ju,h2]
theorem Zd4{xs:List Bh}{p:Bh→Bool}{j:Nat}(h:j<xs.length)(hp:p (gd xs j)=true):(xs.take (j+1)).countP p=(xs.take j).countP p+1:=by
 rw[take_snoc h,List.countP_append];simp only[List.countP_singleton,hp,if_true]
theorem ZbM{xs:List Bh}{p:Bh→Bool}{j:Nat}(h:j<xs.length)(hp:p (gd xs j)=false):(xs.take (j+1)).countP p=(xs.take j).countP p:=by
 rw[take_snoc h,List.countP_append];simp[List.countP_singleton,hp]
theorem cnt_le{xs:List Bh}{p:Bh→Bool}{j:Nat}:(xs.take j).countP p≤j:=Nat.le_trans List.countP_le_length (by rw[List.length_take];omega)
def G5{α:Type}(f:α→Nat)(xs:List α)(i:Nat):Nat:=((xs.take i).map f).sum
theorem Ro{α:Type}[Inhabited α]{f:α→Nat}{xs:List α}{i:Nat}(h:i<xs.length):G5 f xs (i+1)=G5 f xs i+f (gd xs i):=by
 unfold G5;rw[take_snoc h];simp
theorem VI{α:Type}[Inhabited α]{f:α→Nat}{xs:List α}{B:Nat}(hf:∀ i,i<xs.length→f (gd xs i)≤B):∀ (i:Nat),i≤xs.length→G5 f xs i≤B*i
 | 0,_=>by simp[G5]
 | i+1,h=>by
  have:=VI hf i (by omega)
  have h2:=hf i (by omega)
  rw[Ro (by omega),Nat.mul_succ];omega
def Jh(c:Aj)(k:Nat)(b:Bool):Nat:=G5 (fun x=>Ef x k b) c.Aa.xs c.Aa.xs.length
def Nk(c:Aj)(k:Nat):Bool:=decide (portOf (gd c.Ag.xs k)≠0) && !(decide ((gd c.Ag.xs k).Kind=1)&&decide ((gd c.Ag.xs k).Dn≠0))&&decide (Jh c k true=1)&&decide (1≤Jh c k false∧Jh c k false≤4)
def EK(c:Aj):Bool:=decide (0≤c.Kernel∧c.Kernel<1024)&&decide (c.Aa.xs.length≤8)&&decide (c.Ag.xs.length≤16)&&c.Aa.xs.all (Ew c.Ag.xs.length)&&(List.range c.Ag.xs.length).all (Nk c)
theorem PU{c:Aj}(h:¬ (0≤c.Kernel∧c.Kernel<1024)∨8<c.Aa.xs.length∨16<c.Ag.xs.length):EK c=false:=by
 unfold EK
 rcases h with h | h | h
 ·rw[decide_eq_false h];rfl
 ·rw[decide_eq_false (show ¬ c.Aa.xs.length≤8 by omega)];simp
 rw[decide_eq_false (show ¬ c.Ag.xs.length≤16 by omega)];simp
theorem Zcn{c:Aj}{k:Nat}(hk:k<c.Aa.xs.length)(h:Ew c.Ag.xs.length (gd c.Aa.xs k)=false):EK c=false:=by
 unfold EK
 rw[O6 hk h];simp
theorem JQ{c:Aj}{k:Nat}(hk:k<c.Ag.xs.length)(h:Nk c k=false):EK c=false:=by
 unfold EK
 have:(List.range c.Ag.xs.length).all (Nk c)=false:=by
  rw[List.all_eq_false];exact⟨k,List.mem_range.2 hk,by simp[h]⟩
 rw[this];simp
theorem Zcv{c:Aj}(h1:0≤c.Kernel∧c.Kernel<1024)(h2:c.Aa.xs.length≤8)(h3:c.Ag.xs.length≤16)(h4:∀ i,i<c.Aa.xs.length→Ew c.Ag.xs.length (gd c.Aa.xs i)=true)(h5:∀ i,i<c.Ag.xs.length→Nk c i=true):EK c=true:=by
 unfold EK
 rw[decide_eq_true h1,decide_eq_true h2,decide_eq_true h3,VU h4]
 simp only[Bool.and_true,Bool.true_and,List.all_eq_true,List.mem_range]
 exact h5
theorem OW{n:Nat}{x:Ap}(h:Ew n x=true):x.Am.xs.length≤8:=by
 unfold Ew at h;simp only[Bool.and_eq_true,decide_eq_true_eq]at h;exact h.1.1.2
theorem part_regs{n:Nat}{x:Ap}(h:Ew n x=true):x.Af.xs.length≤8∧x.Af.xs.all KO=true:=by
 unfold Ew at h;simp only[Bool.and_eq_true,decide_eq_true_eq]at h;exact⟨h.1.1.1,h.1.2⟩
theorem PX{n:Nat}{x:Ap}(h:Ew n x=true)(k:Int)(b:Bool):Ef x k b≤8:=Nat.le_trans List.countP_le_length (OW h)
theorem KW{c:Aj}{k:Nat}(h:portOf (gd c.Ag.xs k)=0∨((gd c.Ag.xs k).Kind=1∧(gd c.Ag.xs k).Dn≠0)∨Jh c k true≠1∨Jh c k false<1∨4<Jh c k false):Nk c k=false:=by
 unfold Nk
 rcases h with h | ⟨h,h'⟩ | h | h | h
 ·simp[h]
 ·simp[h,h']
 ·simp[h]
 ·rw[decide_eq_false (show ¬ (1≤Jh c k false∧Jh c k false≤4)by omega)];simp
 rw[decide_eq_false (show ¬ (1≤Jh c k false∧Jh c k false≤4)by omega)];simp
theorem WL{c:Aj}{k:Nat}(h1:¬ portOf (gd c.Ag.xs k)=0)(h2:¬ ((gd c.Ag.xs k).Kind=1∧¬ (gd c.Ag.xs k).Dn=0))(h3:Jh c k true=1)(h4:1≤Jh c k false∧Jh c k false≤4):Nk c k=true:=by
 unfold Nk
 rw[decide_eq_true h3,decide_eq_true h4]
 simp[h1]
 by_cases e:(gd c.Ag.xs k).Kind=1
 ·exact .inr (Classical.not_not.1 (fun e2=>h2 ⟨e,e2⟩))
 exact .inl e
section
variable (z:Nat)(x:Ap)
abbrev Va:=bk z (Ap.arr x) 41
abbrev Vb:=(20,Ac x.Af.xs.length)
abbrev XH:=(53,Ac x.Am.xs.length)
end
theorem Zdd(w:World)(x:Ap)(n:Nat)(hx:Ap.ok Any w x):Calls Tryd.prog 80 #[.agg (Ap.arr x),.int .i64 (n:Int)] w fun e w'=>e = .returned (.bool (Ew n x))∧CP (fun _=>False) w w':=by
 obtain⟨z,hz⟩:∃ z,z=w.heap.size:=⟨_,rfl⟩
 refine CE (args:=[.agg (Ap.arr x),Ac n]) 75 ⟨w,z,[(Ak w)]⟩ Tryd.func80 rfl (by kernel_rfl) (by kernel_rfl) (Ep hz) ?_
 refine DC [0,1] [(0,.agg (Ap.arr x)),(1,Ac n)] ?_
 refine q_c 6 0 [] [[o0,o0]] [] [(1,Ac n),(2,pt z)] ⟨w,z+1,[(Ak w),(Va z x)]⟩ rfl Ae ?_
 by_cases h1:(8:Int)<(x.Af.xs.length:Int)
 ·refine Az 9 0 [1] [[o0,(a1 1),o0,oT,o0,o0],[o0]] [Qb z,BT ((x.Af.xs.length:Int) > 8)] [(4,.bool false)] rfl ⟨rfl,bt,Ae⟩ ?_
  refine AA [] [] (.bool false) Ae ?_
  intro w2 hw2
  refine⟨congrArg (fun b=>Ending.returned (Value.bool b)) (Eq.symm (?_:Ew n x=false)),AO hw2⟩
  unfold Ew
  first
   | (have e1:decide (x.Af.xs.length≤8)=false:=decide_eq_false (by omega));simp[e1]
   | (have e1:decide (x.Am.xs.length≤8)=false:=decide_eq_false (by omega));simp[e1]
 by_cases h3:(8:Int)<(x.Am.xs.length:Int)
 ·refine Az 9 0 [1] [[o0,(a1 1),o0,oF,o0,o0,(a1 1),o0,oT,o0],[o0]] [Qb z,BF ((x.Af.xs.length:Int) > 8),Qb z,BT ((x.Am.xs.length:Int) > 8)] [(4,.bool false)] rfl ⟨rfl,bf,rfl,bt,Ae⟩ ?_
  refine AA [] [] (.bool false) Ae ?_
  intro w4 hw4
  refine⟨congrArg (fun b=>Ending.returned (Value.bool b)) (Eq.symm (?_:Ew n x=false)),AO hw4⟩
  unfold Ew
  first
   | (have e1:decide (x.Af.xs.length≤8)=false:=decide_eq_false (by omega));simp[e1]
   | (have e1:decide (x.Am.xs.length≤8)=false:=decide_eq_false (by omega));simp[e1]
 refine Az 12 0 [0] [[o0,(a1 1),o0,oF,o0,o0,(a1 1),o0,oF,o0],[o0,(a1 1),o0,o0]] [Qb z,BF ((x.Af.xs.length:Int) > 8),Qb z,BF ((x.Am.xs.length:Int) > 8),Qb z] [(1,Ac n),(2,pt z),(Vb x),(21,i6 0)] rfl ⟨rfl,bf,rfl,bf,rfl,Ae⟩ ?_
 refine Di (fun m a w'=>∃ (n6:Nat) (k:Nat),m=x.Af.xs.length - k∧z+1≤n6∧(k≤x.Af.xs.length)∧(∀ i,i<k→KO (gd x.Af.xs i)=true)∧St 75 [(1,Ac n),(2,pt z),(Vb x),(21,Ac k)] [] ⟨w,n6,[(Ak w),(Va z x)]⟩ a w') (x.Af.xs.length - 0) ?_ ?_
 ·intro a w' hs;exact⟨(z+1),0,rfl,Nat.le_refl _,Nat.zero_le _,fun i hi=>absurd hi (Nat.not_lt_zero i),hs⟩
 rintro m a w' ⟨n6,k,rfl,hn5,hkk,hr,hs⟩
 refine(?_:G Tryd.prog 75 [(1,Ac n),(2,pt z),(Vb x),(21,Ac k)] [] ⟨w,n6,[(Ak w),(Va z x)]⟩ _ _ _) a w' hs
 clear hs a w'
 refine Ce ?_
 by_cases h7:(k:Int)<(x.Af.xs.length:Int)
 ·refine Az 14 0 [1] [[oT],[o0,o0]] [BT ((k:Int)<(x.Af.xs.length:Int))] [(1,Ac n),(2,pt z),(Vb x),(21,Ac k),(5,Ac k)] rfl ⟨bt,Ae⟩ ?_
  obtain⟨b8,o9,ha10,hF12,hc11⟩:=(hx.Af).1.all (show 0<x.Af.xs.length by omega)
  replace ha10:x.Af.a=some ⟨b8,o9,none⟩:=ha10
  have hc13:=hc11 k (show k<x.Af.xs.length by omega)
  have he14:=(hx.Af).2 k (show k<x.Af.xs.length by omega)
  obtain⟨y15,hy15⟩:∃ y_,y_=gd x.Af.xs k:=⟨_,rfl⟩
  rw[←hy15]at he14 hc13
  refine q_c 4 0 [] [[o0,(DN 1 b8 o9 x.Af),o0,(oi k),(ol 0 (A8.arr y15)),o0,(an 4 2)]] [Qb z,Dh b8 o9 x.Af,Ci k,k<x.Af.xs.length,BN,Fa w b8 (o9+k*4) (A8.arr y15),Qb n6,Qb n6,Qb n6,Qb n6] [(1,Ac n),(2,pt z),(Vb x),(21,Ac k),(6,pt n6)] ⟨w,n6+1,[(Ak w),(Va z x),(bk n6 (A8.arr y15) 49)]⟩ rfl ⟨rfl,Df ha10,rfl,(by omega),rfl,Dt hc13,rfl,rfl,rfl,rfl,Ae⟩ ?_
  by_cases h16:(y15.Bj:Int)<0
  ·refine Az 9 0 [1] [[o0,(a1 2),oT,o0,o0,o0,o0,o0,o0],[o0]] [Qb n6,BT ((y15.Bj:Int)<0)] [(4,.bool false)] rfl ⟨rfl,bt,Ae⟩ ?_
   refine AA [] [] (.bool false) Ae ?_
   intro w17 hw17
   refine⟨congrArg (fun b=>Ending.returned (Value.bool b)) (Eq.symm (?_:Ew n x=false)),AO hw17⟩
   unfold Ew
   have e1:x.Af.xs.all KO=false:=O6 (k:=k) (by omega) (by rw[←hy15];exact decide_eq_false (by omega))
   simp[e1]
  by_cases h18:(256:Int)<y15.Bj
  ·refine Az 9 0 [1] [[o0,(a1 2),oF,o0,o0,(a1 2),oT,o0,o0,o0,o0,o0],[o0]] [Qb n6,BF ((y15.Bj:Int)<0),Qb n6,BT ((y15.Bj:Int) > 256)] [(4,.bool false)] rfl ⟨rfl,bf,rfl,bt,Ae⟩ ?_
   refine AA [] [] (.bool false) Ae ?_
   intro w19 hw19
   refine⟨congrArg (fun b=>Ending.returned (Value.bool b)) (Eq.symm (?_:Ew n x=false)),AO hw19⟩
   unfold Ew
   have e1:x.Af.xs.all KO=false:=O6 (k:=k) (by omega) (by rw[←hy15];exact decide_eq_false (by omega))
   simp[e1]
  by_cases h20:(y15.AV:Int)<1
  ·refine Az 9 0 [1] [[o0,(a1 2),oF,o0,o0,(a1 2),oF,o0,o0,o0,(a1 2),oT,o0,o0,o0],[o0]] [Qb n6,BF ((y15.Bj:Int)<0),Qb n6,BF ((y15.Bj:Int) > 256),Qb n6,BT ((y15.AV:Int)<1)] [(4,.bool false)] rfl ⟨rfl,bf,rfl,bf,rfl,bt,Ae⟩ ?_
   refine AA [] [] (.bool false) Ae ?_
   intro w21 hw21
   refine⟨congrArg (fun b=>Ending.returned (Value.bool b)) (Eq.symm (?_:Ew n x=false)),AO hw21⟩
   unfold Ew
   have e1:x.Af.xs.all KO=false:=O6 (k:=k) (by omega) (by rw[←hy15];exact decide_eq_false (by omega))
   simp[e1]
  by_cases h22:(256 - y15.Bj:Int)<y15.AV
  ·refine Az 9 0 [1] [[o0,(a1 2),oF,o0,o0,(a1 2),oF,o0,o0,o0,(a1 2),oF,o0,o0,o0,(a1 2),o0,(a1 2),(ov (i6 (256 - y15.Bj))),oT,o0],[o0]] [Qb n6,BF ((y15.Bj:Int)<0),Qb n6,BF ((y15.Bj:Int) > 256),Qb n6,BF ((y15.AV:Int)<1),Qb n6,Qb n6,Wr ((256:Int) - y15.Bj) (256 - y15.Bj),BT ((y15.AV:Int) > (256 - y15.Bj))] [(4,.bool false)] rfl ⟨rfl,bf,rfl,bf,rfl,bf,rfl,rfl,BQ,bt,Ae⟩ ?_
   refine AA [] [] (.bool false) Ae ?_
   intro w23 hw23
   refine⟨congrArg (fun b=>Ending.returned (Value.bool b)) (Eq.symm (?_:Ew n x=false)),AO hw23⟩
   unfold Ew
   have e1:x.Af.xs.all KO=false:=O6 (k:=k) (by omega) (by rw[←hy15];exact decide_eq_false (by omega))
   simp[e1]
  refine Az 9 0 [0] [[o0,(a1 2),oF,o0,o0,(a1 2),oF,o0,o0,o0,(a1 2),oF,o0,o0,o0,(a1 2),o0,(a1 2),(ov (i6 (256 - y15.Bj))),oF,o0],[(ov (i6 ((k+1:Nat):Int))),o0]] [Qb n6,BF ((y15.Bj:Int)<0),Qb n6,BF ((y15.Bj:Int) > 256),Qb n6,BF ((y15.AV:Int)<1),Qb n6,Qb n6,Wr ((256:Int) - y15.Bj) (256 - y15.Bj),BF ((y15.AV:Int) > (256 - y15.Bj)),Wr ((k:Int)+1) (((k+1:Nat):Int))] [(1,Ac n),(2,pt z),(Vb x),(21,i6 ((k+1:Nat):Int))] rfl ⟨rfl,bf,rfl,bf,rfl,bf,rfl,rfl,BQ,bf,BQ,Ae⟩ ?_
  refine Cb [0,1] [(Ak w),(Va z x)] rfl rfl ?_
  refine BK [1,2,20,21] [(1,Ac n),(2,pt z),(Vb x),(21,i6 ((k+1:Nat):Int))] ?_
  refine BD (fun a w' hs=>⟨x.Af.xs.length - (k+1),by omega,(n6+1),(k+1),rfl,by omega,by omega,upto hr (by rw[←hy15];exact decide_eq_true (by omega)),hs⟩)
 refine Az 16 0 [0] [[oF],[o0,(a1 1),o0,o0]] [BF ((k:Int)<(x.Af.xs.length:Int)),Qb z] [(1,Ac n),(2,pt z),(XH x),(54,i6 0)] rfl ⟨bf,rfl,Ae⟩ ?_
 refine Di (fun m a w'=>∃ (n25:Nat) (j:Nat),m=x.Am.xs.length - j∧n6≤n25∧(j≤x.Am.xs.length)∧(∀ i,i<j→Si n (gd x.Am.xs i)=true)∧St 75 [(1,Ac n),(2,pt z),(XH x),(54,Ac j)] [] ⟨w,n25,[(Ak w),(Va z x)]⟩ a w') (x.Am.xs.length - 0) ?_ ?_
 ·intro a w' hs;exact⟨n6,0,rfl,Nat.le_refl _,Nat.zero_le _,fun i hi=>absurd hi (Nat.not_lt_zero i),hs⟩
 rintro m a w' ⟨n25,j,rfl,hn24,hkj,hp,hs⟩
 refine(?_:G Tryd.prog 75 [(1,Ac n),(2,pt z),(XH x),(54,Ac j)] [] ⟨w,n25,[(Ak w),(Va z x)]⟩ _ _ _) a w' hs
 clear hs a w'
 refine Ce ?_
 by_cases h26:(j:Int)<(x.Am.xs.length:Int)
 ·refine Az 14 0 [1] [[oT],[o0,o0]] [BT ((j:Int)<(x.Am.xs.length:Int))] [(1,Ac n),(2,pt z),(XH x),(54,Ac j),(7,Ac j)] rfl ⟨bt,Ae⟩ ?_
  obtain⟨b27,o28,ha29,hF31,hc30⟩:=(hx.Am).1.all (show 0<x.Am.xs.length by omega)
  replace ha29:x.Am.a=some ⟨b27,o28,none⟩:=ha29
  have hc32:=hc30 j (show j<x.Am.xs.length by omega)
  have he33:=(hx.Am).2 j (show j<x.Am.xs.length by omega)
  obtain⟨y34,hy34⟩:∃ y_,y_=gd x.Am.xs j:=⟨_,rfl⟩
  rw[←hy34]at he33 hc32
  by_cases h35:(y34.Channel:Int)<0
  ·refine Az 9 0 [1] [[o0,(DN 1 b27 o28 x.Am),o0,(oi j),o0,(oa [.via 0 (i6 y34.Channel)]),oT,o0,o0],[o0]] [Qb z,Dh b27 o28 x.Am,Ci j,j<x.Am.xs.length,BN,Old w b27 (o28+j*2) (i6 y34.Channel),BT ((y34.Channel:Int)<0)] [(4,.bool false)] rfl ⟨rfl,Df ha29,rfl,(by omega),rfl,A7 (hc32 0 _ rfl),bt,Ae⟩ ?_
   refine AA [] [] (.bool false) Ae ?_
   intro w36 hw36
   refine⟨congrArg (fun b=>Ending.returned (Value.bool b)) (Eq.symm (?_:Ew n x=false)),AO hw36⟩
   unfold Ew
   have e1:x.Am.xs.all (Si n)=false:=O6 (k:=j) (by omega) (by rw[←hy34];exact decide_eq_false (by omega))
   simp[e1]
  by_cases h37:(y34.Channel:Int)<(n:Int)
  ·refine Az 9 0 [0] [[o0,(DN 1 b27 o28 x.Am),o0,(oi j),o0,(oa [.via 0 (i6 y34.Channel)]),oF,o0,o0,(DN 1 b27 o28 x.Am),o0,(oi j),o0,(oa [.via 0 (i6 y34.Channel)]),o0,oF,o0],[(ov (i6 ((j+1:Nat):Int))),o0]] [Qb z,Dh b27 o28 x.Am,Ci j,j<x.Am.xs.length,BN,Old w b27 (o28+j*2) (i6 y34.Channel),BF ((y34.Channel:Int)<0),Qb z,Dh b27 o28 x.Am,Ci j,j<x.Am.xs.length,BN,Old w b27 (o28+j*2) (i6 y34.Channel),BF ((y34.Channel:Int)≥(n:Int)),Wr ((j:Int)+1) (((j+1:Nat):Int))] [(1,Ac n),(2,pt z),(XH x),(54,i6 ((j+1:Nat):Int))] rfl ⟨rfl,Df ha29,rfl,(by omega),rfl,A7 (hc32 0 _ rfl),bf,rfl,Df ha29,rfl,(by omega),rfl,A7 (hc32 0 _ rfl),bf,BQ,Ae⟩ ?_
   refine BD (fun a w' hs=>⟨x.Am.xs.length - (j+1),by omega,n25,(j+1),rfl,by omega,by omega,upto hp (by rw[←hy34];exact decide_eq_true (by omega)),hs⟩)
  refine Az 9 0 [1] [[o0,(DN 1 b27 o28 x.Am),o0,(oi j),o0,(oa [.via 0 (i6 y34.Channel)]),oF,o0,o0,(DN 1 b27 o28 x.Am),o0,(oi j),o0,(oa [.via 0 (i6 y34.Channel)]),o0,oT,o0],[o0]] [Qb z,Dh b27 o28 x.Am,Ci j,j<x.Am.xs.length,BN,Old w b27 (o28+j*2) (i6 y34.Channel),BF ((y34.Channel:Int)<0),Qb z,Dh b27 o28 x.Am,Ci j,j<x.Am.xs.length,BN,Old w b27 (o28+j*2) (i6 y34.Channel),BT ((y34.Channel:Int)≥(n:Int))] [(4,.bool false)] rfl ⟨rfl,Df ha29,rfl,(by omega),rfl,A7 (hc32 0 _ rfl),bf,rfl,Df ha29,rfl,(by omega),rfl,A7 (hc32 0 _ rfl),bt,Ae⟩ ?_
  refine AA [] [] (.bool false) Ae ?_
  intro w38 hw38
  refine⟨congrArg (fun b=>Ending.returned (Value.bool b)) (Eq.symm (?_:Ew n x=false)),AO hw38⟩
  unfold Ew
  have e1:x.Am.xs.all (Si n)=false:=O6 (k:=j) (by omega) (by rw[←hy34];exact decide_eq_false (by omega))
  simp[e1]
 refine Az 15 0 [0] [[oF],[o0]] [BF ((j:Int)<(x.Am.xs.length:Int))] [(4,.bool true)] rfl ⟨bf,Ae⟩ ?_
 refine AA [] [] (.bool true) Ae ?_
 intro w39 hw39
 refine⟨congrArg (fun b=>Ending.returned (Value.bool b)) (Eq.symm (?_:Ew n x=true)),AO hw39⟩
 have e1:x.Af.xs.all KO=true:=VU (fun i hi=>hr i (by omega))
 have e2:x.Am.xs.all (Si n)=true:=VU (fun i hi=>hp i (by omega))
 simp only[Ew,e1,e2,Bool.and_true,Bool.and_eq_true,decide_eq_true_eq]
 omega
section
variable (x:Ap)(j:Nat)(ch:Int)(b:Bool)
abbrev JP:=(7,i6 ((((x.Am.xs.take j).countP (Ju ch b))+1:Nat):Int))
abbrev KE:=(7,i6 (((x.Am.xs.take j).countP (Ju ch b):Nat):Int))
abbrev Jr:=(11,Ac x.Am.xs.length)
abbrev HY:=(12,i6 ((j+1:Nat):Int))
end
theorem Oq(w:World)(x:Ap)(ch:Int)(b:Bool)(hx:Ap.ok Any w x):Calls Tryd.prog 82 #[.agg (Ap.arr x),.int .i64 ch,.bool b] w fun e w'=>e = .returned (.int .i64 (Ef x ch b:Nat))∧CP (fun _=>False) w w':=by
 obtain⟨z,hz⟩:∃ z,z=w.heap.size:=⟨_,rfl⟩
 refine CE (args:=[.agg (Ap.arr x),i6 ch,.bool b]) 37 ⟨w,z,[(Ak w)]⟩ Tryd.func82 rfl (by kernel_rfl) (by kernel_rfl) (Ep hz) ?_
 have hlP:=hx.Am.1.len
 refine DC [0,1,2] [(0,.agg (Ap.arr x)),(1,i6 ch),(2,.bool b)] ?_
 refine q_c 14 0 [] [[o0,o0],[o0],[o0,(a1 1),o0,o0]] [Qb z] [(1,i6 ch),(2,.bool b),(3,pt z),(7,i6 0),(Jr x),(12,i6 0)] ⟨w,z+1,[(Ak w),(bk z (Ap.arr x) 41)]⟩ rfl ⟨rfl,Ae⟩ ?_
 refine Di (fun m a w'=>∃ (n2:Nat) (j:Nat),m=x.Am.xs.length - j∧z+1≤n2∧(j≤x.Am.xs.length)∧St 37 [(1,i6 ch),(2,.bool b),(3,pt z),(KE x j ch b),(Jr x),(12,Ac j)] [] ⟨w,n2,[(Ak w),(bk z (Ap.arr x) 41)]⟩ a w') (x.Am.xs.length - 0) ?_ ?_
 ·intro a w' hs;exact⟨(z+1),0,rfl,Nat.le_refl _,Nat.zero_le _,hs⟩
 rintro m a w' ⟨n2,j,rfl,hn1,hkj,hs⟩
 refine(?_:G Tryd.prog 37 [(1,i6 ch),(2,.bool b),(3,pt z),(KE x j ch b),(Jr x),(12,Ac j)] [] ⟨w,n2,[(Ak w),(bk z (Ap.arr x) 41)]⟩ _ _ _) a w' hs
 clear hs a w'
 have hcl:(x.Am.xs.take j).countP (Ju ch b)≤j:=cnt_le
 refine Ce ?_
 by_cases h3:(j:Int)<(x.Am.xs.length:Int)
 ·refine Az 14 0 [1] [[oT],[o0,o0]] [BT ((j:Int)<(x.Am.xs.length:Int))] [(1,i6 ch),(2,.bool b),(3,pt z),(KE x j ch b),(Jr x),(12,Ac j),(8,Ac j)] rfl ⟨bt,Ae⟩ ?_
  obtain⟨b4,o5,ha6,hF8,hc7⟩:=(hx.Am).1.all (show 0<x.Am.xs.length by omega)
  replace ha6:x.Am.a=some ⟨b4,o5,none⟩:=ha6
  have hc9:=hc7 j (show j<x.Am.xs.length by omega)
  have he10:=(hx.Am).2 j (show j<x.Am.xs.length by omega)
  obtain⟨y11,hy11⟩:∃ y_,y_=gd x.Am.xs j:=⟨_,rfl⟩
  rw[←hy11]at he10 hc9
  by_cases h12:(y11.Channel:Int)=ch
  ·by_cases h13:y11.Source=true
   ·by_cases h14:b=true
    ·refine Az 10 0 [1] [[o0,(DN 1 b4 o5 x.Am),o0,(oi j),o0,(oa [.via 0 (i6 y11.Channel)]),o0,oT,o0,o0,(DN 1 b4 o5 x.Am),o0,(oi j),o0,(oa [.via 0 (.bool y11.Source)]),(ov (.bool true)),(ov (.bool true)),o0],[o0,(ov (i6 ((((x.Am.xs.take j).countP (Ju ch b))+1:Nat):Int))),o0],[(ov (i6 ((j+1:Nat):Int))),o0]] [Qb z,Dh b4 o5 x.Am,Ci j,j<x.Am.xs.length,BN,Old w b4 (o5+j*2) (i6 y11.Channel),ET y11.Channel ch,Qb z,Dh b4 o5 x.Am,Ci j,j<x.Am.xs.length,BN,Old w b4 (o5+j*2+1) (.bool y11.Source),Value.bool b=Value.bool true,Value.bool ((y11.Source==true))=Value.bool true,Wr (((((x.Am.xs.take j).countP (Ju ch b):Nat):Int):Int)+1) (((((x.Am.xs.take j).countP (Ju ch b))+1:Nat):Int)),Wr ((j:Int)+1) (((j+1:Nat):Int))] [(1,i6 ch),(2,.bool b),(3,pt z),(JP x j ch b),(Jr x),(HY j)] rfl ⟨rfl,Df ha6,rfl,(by omega),rfl,A7 (hc9 0 _ rfl),et,rfl,Df ha6,rfl,(by omega),rfl,A7 (hc9 1 _ rfl),(congrArg Value.bool h14),by simp[h13],BQ,BQ,Ae⟩ ?_
     have hT:=Zd4 (p:=Ju ch b) (show j<x.Am.xs.length by omega) (by rw[←hy11];exact XQ (by omega) (by revert h13 h14;cases y11.Source <;> cases b <;> simp))
     refine BK [1,2,3,7,11,12] [(1,i6 ch),(2,.bool b),(3,pt z),(JP x j ch b),(Jr x),(HY j)] ?_
     refine BD (fun a w' hs=>⟨x.Am.xs.length - (j+1),by omega,n2,(j+1),rfl,by omega,by omega,by(try dsimp only[JP,KE,Jr,HY]at hs ⊢);rw[hT];exact hs⟩)
    refine Az 9 0 [0] [[o0,(DN 1 b4 o5 x.Am),o0,(oi j),o0,(oa [.via 0 (i6 y11.Channel)]),o0,oT,o0,o0,(DN 1 b4 o5 x.Am),o0,(oi j),o0,(oa [.via 0 (.bool y11.Source)]),(ov (.bool false)),(ov (.bool false)),o0],[(ov (i6 ((j+1:Nat):Int))),o0]] [Qb z,Dh b4 o5 x.Am,Ci j,j<x.Am.xs.length,BN,Old w b4 (o5+j*2) (i6 y11.Channel),ET y11.Channel ch,Qb z,Dh b4 o5 x.Am,Ci j,j<x.Am.xs.length,BN,Old w b4 (o5+j*2+1) (.bool y11.Source),Value.bool b=Value.bool false,Value.bool ((y11.Source==false))=Value.bool false,Wr ((j:Int)+1) (((j+1:Nat):Int))] [(1,i6 ch),(2,.bool b),(3,pt z),(KE x j ch b),(Jr x),(HY j)] rfl ⟨rfl,Df ha6,rfl,(by omega),rfl,A7 (hc9 0 _ rfl),et,rfl,Df ha6,rfl,(by omega),rfl,A7 (hc9 1 _ rfl),(congrArg Value.bool (Bool.eq_false_iff.2 h14)),by simp[h13],BQ,Ae⟩ ?_
    have hT:=ZbM (p:=Ju ch b) (show j<x.Am.xs.length by omega) (by rw[←hy11];exact Wv (by revert h13 h14;cases y11.Source <;> cases b <;> simp))
    refine BK [1,2,3,7,11,12] [(1,i6 ch),(2,.bool b),(3,pt z),(KE x j ch b),(Jr x),(HY j)] ?_
    refine BD (fun a w' hs=>⟨x.Am.xs.length - (j+1),by omega,n2,(j+1),rfl,by omega,by omega,by(try dsimp only[JP,KE,Jr,HY]at hs ⊢);rw[hT];exact hs⟩)
   by_cases h15:b=true
   ·refine Az 9 0 [0] [[o0,(DN 1 b4 o5 x.Am),o0,(oi j),o0,(oa [.via 0 (i6 y11.Channel)]),o0,oT,o0,o0,(DN 1 b4 o5 x.Am),o0,(oi j),o0,(oa [.via 0 (.bool y11.Source)]),(ov (.bool true)),(ov (.bool false)),o0],[(ov (i6 ((j+1:Nat):Int))),o0]] [Qb z,Dh b4 o5 x.Am,Ci j,j<x.Am.xs.length,BN,Old w b4 (o5+j*2) (i6 y11.Channel),ET y11.Channel ch,Qb z,Dh b4 o5 x.Am,Ci j,j<x.Am.xs.length,BN,Old w b4 (o5+j*2+1) (.bool y11.Source),Value.bool b=Value.bool true,Value.bool ((y11.Source==true))=Value.bool false,Wr ((j:Int)+1) (((j+1:Nat):Int))] [(1,i6 ch),(2,.bool b),(3,pt z),(KE x j ch b),(Jr x),(HY j)] rfl ⟨rfl,Df ha6,rfl,(by omega),rfl,A7 (hc9 0 _ rfl),et,rfl,Df ha6,rfl,(by omega),rfl,A7 (hc9 1 _ rfl),(congrArg Value.bool h15),by simp[h13],BQ,Ae⟩ ?_
    have hT:=ZbM (p:=Ju ch b) (show j<x.Am.xs.length by omega) (by rw[←hy11];exact Wv (by revert h13 h15;cases y11.Source <;> cases b <;> simp))
    refine BK [1,2,3,7,11,12] [(1,i6 ch),(2,.bool b),(3,pt z),(KE x j ch b),(Jr x),(HY j)] ?_
    refine BD (fun a w' hs=>⟨x.Am.xs.length - (j+1),by omega,n2,(j+1),rfl,by omega,by omega,by(try dsimp only[JP,KE,Jr,HY]at hs ⊢);rw[hT];exact hs⟩)
   refine Az 10 0 [1] [[o0,(DN 1 b4 o5 x.Am),o0,(oi j),o0,(oa [.via 0 (i6 y11.Channel)]),o0,oT,o0,o0,(DN 1 b4 o5 x.Am),o0,(oi j),o0,(oa [.via 0 (.bool y11.Source)]),(ov (.bool false)),(ov (.bool true)),o0],[o0,(ov (i6 ((((x.Am.xs.take j).countP (Ju ch b))+1:Nat):Int))),o0],[(ov (i6 ((j+1:Nat):Int))),o0]] [Qb z,Dh b4 o5 x.Am,Ci j,j<x.Am.xs.length,BN,Old w b4 (o5+j*2) (i6 y11.Channel),ET y11.Channel ch,Qb z,Dh b4 o5 x.Am,Ci j,j<x.Am.xs.length,BN,Old w b4 (o5+j*2+1) (.bool y11.Source),Value.bool b=Value.bool false,Value.bool ((y11.Source==false))=Value.bool true,Wr (((((x.Am.xs.take j).countP (Ju ch b):Nat):Int):Int)+1) (((((x.Am.xs.take j).countP (Ju ch b))+1:Nat):Int)),Wr ((j:Int)+1) (((j+1:Nat):Int))] [(1,i6 ch),(2,.bool b),(3,pt z),(JP x j ch b),(Jr x),(HY j)] rfl ⟨rfl,Df ha6,rfl,(by omega),rfl,A7 (hc9 0 _ rfl),et,rfl,Df ha6,rfl,(by omega),rfl,A7 (hc9 1 _ rfl),(congrArg Value.bool (Bool.eq_false_iff.2 h15)),by simp[h13],BQ,BQ,Ae⟩ ?_
   have hT:=Zd4 (p:=Ju ch b) (show j<x.Am.xs.length by omega) (by rw[←hy11];exact XQ (by omega) (by revert h13 h15;cases y11.Source <;> cases b <;> simp))
   refine BK [1,2,3,7,11,12] [(1,i6 ch),(2,.bool b),(3,pt z),(JP x j ch b),(Jr x),(HY j)] ?_
   refine BD (fun a w' hs=>⟨x.Am.xs.length - (j+1),by omega,n2,(j+1),rfl,by omega,by omega,by(try dsimp only[JP,KE,Jr,HY]at hs ⊢);rw[hT];exact hs⟩)
  refine Az 9 0 [0] [[o0,(DN 1 b4 o5 x.Am),o0,(oi j),o0,(oa [.via 0 (i6 y11.Channel)]),o0,oF,o0,o0],[(ov (i6 ((j+1:Nat):Int))),o0]] [Qb z,Dh b4 o5 x.Am,Ci j,j<x.Am.xs.length,BN,Old w b4 (o5+j*2) (i6 y11.Channel),EF y11.Channel ch,Wr ((j:Int)+1) (((j+1:Nat):Int))] [(1,i6 ch),(2,.bool b),(3,pt z),(KE x j ch b),(Jr x),(HY j)] rfl ⟨rfl,Df ha6,rfl,(by omega),rfl,A7 (hc9 0 _ rfl),ef,BQ,Ae⟩ ?_
  have hT:=ZbM (p:=Ju ch b) (show j<x.Am.xs.length by omega) (by rw[←hy11];exact Xv (by omega))
  refine BK [1,2,3,7,11,12] [(1,i6 ch),(2,.bool b),(3,pt z),(KE x j ch b),(Jr x),(HY j)] ?_
  refine BD (fun a w' hs=>⟨x.Am.xs.length - (j+1),by omega,n2,(j+1),rfl,by omega,by omega,by(try dsimp only[KE,Jr,HY]at hs ⊢);rw[hT];exact hs⟩)
 refine Az 15 0 [0] [[oF],[o0,o0]] [BF ((j:Int)<(x.Am.xs.length:Int))] [(6,i6 (((x.Am.xs.take j).countP (Ju ch b):Nat):Int))] rfl ⟨bf,Ae⟩ ?_
 refine AA [] [] (i6 (((x.Am.xs.take j).countP (Ju ch b):Nat):Int)) Ae ?_
 intro w16 hw16
 refine⟨congrArg (fun n=>Ending.returned (i6 n)) (?_:((((x.Am.xs.take j).countP (Ju ch b):Nat):Int):Int)=(Ef x ch b:Int)),AO hw16⟩
 rw[show j=x.Am.xs.length by omega,List.take_length];rfl
section
variable (n25:Nat)(y34:AL)(z:Nat)(c:Aj)(k2 k3:Nat)(y52 y76:Ap)
abbrev Vd:=bk n25 (AL.arr y34) 55
abbrev N8:=bk z (Aj.arr c) 26
abbrev ZL:=(6,i6 (((G5 (fun x=>Ef x (k2:Int) true) c.Aa.xs k3)+(Ef y52 (k2:Int) true):Nat):Int))
abbrev Z9:=(6,i6 (((G5 (fun x=>Ef x (k2:Int) true) c.Aa.xs k3)+(Ef y76 (k2:Int) true):Nat):Int))
abbrev Pg:=(7,i6 ((G5 (fun x=>Ef x (k2:Int) false) c.Aa.xs k3:Nat):Int))
abbrev Qy:=(6,i6 ((G5 (fun x=>Ef x (k2:Int) true) c.Aa.xs k3:Nat):Int))
abbrev Qh:=(31,Ac c.Aa.xs.length)
abbrev KF:=(72,Ac c.Aa.xs.length)
abbrev Ih:=(48,Ac c.Ag.xs.length)
end
theorem Zaa(w:World)(c:Aj)(hc:Aj.ok Any w c):Calls Tryd.prog 76 #[.agg (Aj.arr c)] w fun e w'=>e = .returned (.bool (EK c))∧CP (fun _=>False) w w':=by
 obtain⟨z,hz⟩:∃ z,z=w.heap.size:=⟨_,rfl⟩
 refine CE (args:=[.agg (Aj.arr c)]) 106 ⟨w,z,[(Ak w)]⟩ Tryd.func76 rfl (by kernel_rfl) (by kernel_rfl) (Ep hz) ?_
 have hlC:=hc.Ag.1.len
 refine DC [0] [(0,.agg (Aj.arr c))] ?_
 refine q_c 6 0 [] [[o0,o0]] [] [(1,pt z)] ⟨w,z+1,[(Ak w),(N8 z c)]⟩ rfl Ae ?_
 by_cases h1:(c.Kernel:Int)<0
 ·refine Az 9 0 [1] [[o0,(a1 1),oT,o0,o0,o0,o0,o0,o0],[o0]] [Qb z,BT ((c.Kernel:Int)<0)] [(2,.bool false)] rfl ⟨rfl,bt,Ae⟩ ?_
  refine AA [] [] (.bool false) Ae ?_
  intro w2 hw2
  refine⟨congrArg (fun b=>Ending.returned (Value.bool b)) (Eq.symm (?_:EK c=false)),AO hw2⟩
  exact PU (by omega)
 by_cases h3:(c.Kernel:Int)<1024
 ·by_cases h4:(8:Int)<(c.Aa.xs.length:Int)
  ·refine Az 9 0 [1] [[o0,(a1 1),oF,o0,o0,(a1 1),oF,o0,o0,o0,(a1 1),o0,oT,o0,o0,o0],[o0]] [Qb z,BF ((c.Kernel:Int)<0),Qb z,BF ((c.Kernel:Int)≥1024),Qb z,BT ((c.Aa.xs.length:Int) > 8)] [(2,.bool false)] rfl ⟨rfl,bf,rfl,bf,rfl,bt,Ae⟩ ?_
   refine AA [] [] (.bool false) Ae ?_
   intro w5 hw5
   refine⟨congrArg (fun b=>Ending.returned (Value.bool b)) (Eq.symm (?_:EK c=false)),AO hw5⟩
   exact PU (by omega)
  by_cases h6:(16:Int)<(c.Ag.xs.length:Int)
  ·refine Az 9 0 [1] [[o0,(a1 1),oF,o0,o0,(a1 1),oF,o0,o0,o0,(a1 1),o0,oF,o0,o0,o0,(a1 1),o0,oT,o0],[o0]] [Qb z,BF ((c.Kernel:Int)<0),Qb z,BF ((c.Kernel:Int)≥1024),Qb z,BF ((c.Aa.xs.length:Int) > 8),Qb z,BT ((c.Ag.xs.length:Int) > 16)] [(2,.bool false)] rfl ⟨rfl,bf,rfl,bf,rfl,bf,rfl,bt,Ae⟩ ?_
   refine AA [] [] (.bool false) Ae ?_
   intro w7 hw7
   refine⟨congrArg (fun b=>Ending.returned (Value.bool b)) (Eq.symm (?_:EK c=false)),AO hw7⟩
   exact PU (by omega)
  refine Az 12 0 [0] [[o0,(a1 1),oF,o0,o0,(a1 1),oF,o0,o0,o0,(a1 1),o0,oF,o0,o0,o0,(a1 1),o0,oF,o0],[o0,(a1 1),o0,o0]] [Qb z,BF ((c.Kernel:Int)<0),Qb z,BF ((c.Kernel:Int)≥1024),Qb z,BF ((c.Aa.xs.length:Int) > 8),Qb z,BF ((c.Ag.xs.length:Int) > 16),Qb z] [(1,pt z),(Qh c),(32,i6 0)] rfl ⟨rfl,bf,rfl,bf,rfl,bf,rfl,bf,rfl,Ae⟩ ?_
  refine Di (fun m a w'=>∃ (n9:Nat) (k:Nat),m=c.Aa.xs.length - k∧z+1≤n9∧(k≤c.Aa.xs.length)∧(∀ i,i<k→Ew c.Ag.xs.length (gd c.Aa.xs i)=true)∧St 106 [(1,pt z),(Qh c),(32,Ac k)] [] ⟨w,n9,[(Ak w),(N8 z c)]⟩ a w') (c.Aa.xs.length - 0) ?_ ?_
  ·intro a w' hs;exact⟨(z+1),0,rfl,Nat.le_refl _,Nat.zero_le _,fun i hi=>absurd hi (Nat.not_lt_zero i),hs⟩
  rintro m a w' ⟨n9,k,rfl,hn8,hkk,hp,hs⟩
  refine(?_:G Tryd.prog 106 [(1,pt z),(Qh c),(32,Ac k)] [] ⟨w,n9,[(Ak w),(N8 z c)]⟩ _ _ _) a w' hs
  clear hs a w'
  refine Ce ?_
  by_cases h10:(k:Int)<(c.Aa.xs.length:Int)
  ·refine Az 14 0 [1] [[oT],[o0,o0]] [BT ((k:Int)<(c.Aa.xs.length:Int))] [(1,pt z),(Qh c),(32,Ac k),(3,Ac k)] rfl ⟨bt,Ae⟩ ?_
   obtain⟨b11,o12,ha13,hF15,hc14⟩:=(hc.Aa).1.all (show 0<c.Aa.xs.length by omega)
   replace ha13:c.Aa.a=some ⟨b11,o12,none⟩:=ha13
   have hc16:=hc14 k (show k<c.Aa.xs.length by omega)
   have he17:=(hc.Aa).2 k (show k<c.Aa.xs.length by omega)
   obtain⟨y18,hy18⟩:∃ y_,y_=gd c.Aa.xs k:=⟨_,rfl⟩
   rw[←hy18]at he17 hc16
   refine Eh 10 [0,1] [(Ak w),(N8 z c)] rfl rfl ?_
   refine Dj [(0,o0),(1,(DN 1 b11 o12 c.Aa)),(2,o0),(3,(oi k)),(4,(ol 0 (Ap.arr y18))),(5,o0),(6,(a1 1)),(7,o0)] [1,31,32,39,42] [Qb z,Dh b11 o12 c.Aa,Ci k,k<c.Aa.xs.length,BN,Fa w b11 (o12+k*8) (Ap.arr y18),Qb z] (DF 8 2) [(1,pt z),(Qh c),(32,Ac k),(39,.agg (Ap.arr y18)),(42,Ac c.Ag.xs.length)] ⟨rfl,Df ha13,rfl,(by omega),rfl,Dt hc16,rfl,Ae⟩ ?_
   refine BC 8 ?_
   refine Jj [] [] 80 #[.agg (Ap.arr y18),Ac c.Ag.xs.length] (some 43) (by as_aux_lemma=>kernel_rfl) rfl rfl Ae ?_
   intro w19 hw19
   refine(Zdd w19 y18 c.Ag.xs.length (he17.ext (hw19.ext rfl) (fun _ h=>h))).mono ?_
   rintro e w20 ⟨rfl,hkw20⟩
   have hnw20:n9≤w20.heap.size:=Fg hw19 hkw20
   have hs21:=hw19.keeps hkw20
   refine⟨_,_,rfl,hs21,.inr (fun c hc=>hs21.all c (by first | exact hc | exact Fe (is:=[0,1]) rfl c hc)), ?_⟩
   refine DU [1,31,32,43] [(1,pt z),(Qh c),(32,Ac k),(43,.bool (Ew c.Ag.xs.length y18))] ?_
   by_cases h22:(Ew c.Ag.xs.length y18)=true
   ·refine Dj [(9,(ov (.bool false)))] [1,31,32,44] [Value.bool (!(Ew c.Ag.xs.length y18))=Value.bool false] (DF 10 0) [(1,pt z),(Qh c),(32,Ac k),(44,.bool false)] ⟨by simp[h22],Ae⟩ ?_
    refine CU ?_
    refine Jw 7 0 [0] [[(ov (i6 ((k+1:Nat):Int))),o0]] [Wr ((k:Int)+1) (((k+1:Nat):Int))] [(1,pt z),(Qh c),(32,i6 ((k+1:Nat):Int))] rfl ⟨BQ,Ae⟩ ?_
    refine BD (fun a w' hs=>⟨c.Aa.xs.length - (k+1),by omega,w20.heap.size,(k+1),rfl,by omega,by omega,upto hp (by rw[←hy18];exact h22),hs⟩)
   refine Dj [(9,(ov (.bool true)))] [1,31,32,44] [Value.bool (!(Ew c.Ag.xs.length y18))=Value.bool true] (DF 10 0) [(1,pt z),(Qh c),(32,Ac k),(44,.bool true)] ⟨by simp[h22],Ae⟩ ?_
   refine CU ?_
   refine Jw 7 0 [1] [[o0]] [] [(2,.bool false)] rfl Ae ?_
   refine AA [] [] (.bool false) Ae ?_
   intro w23 hw23
   refine⟨congrArg (fun b=>Ending.returned (Value.bool b)) (Eq.symm (?_:EK c=false)),AO hw23⟩
   exact Zcn (k:=k) (by omega) (by rw[←hy18];exact Bool.eq_false_iff.2 h22)
  refine Az 16 0 [0] [[oF],[o0,(a1 1),o0,o0]] [BF ((k:Int)<(c.Aa.xs.length:Int)),Qb z] [(1,pt z),(Ih c),(49,i6 0)] rfl ⟨bf,rfl,Ae⟩ ?_
  refine Di (fun m a w'=>∃ (n25:Nat) (k2:Nat),m=c.Ag.xs.length - k2∧n9≤n25∧(k2≤c.Ag.xs.length)∧(∀ i,i<k2→Nk c i=true)∧St 106 [(1,pt z),(Ih c),(49,Ac k2)] [] ⟨w,n25,[(Ak w),(N8 z c)]⟩ a w') (c.Ag.xs.length - 0) ?_ ?_
  ·intro a w' hs;exact⟨n9,0,rfl,Nat.le_refl _,Nat.zero_le _,fun i hi=>absurd hi (Nat.not_lt_zero i),hs⟩
  rintro m a w' ⟨n25,k2,rfl,hn24,hkk2,hch,hs⟩
  refine(?_:G Tryd.prog 106 [(1,pt z),(Ih c),(49,Ac k2)] [] ⟨w,n25,[(Ak w),(N8 z c)]⟩ _ _ _) a w' hs
  clear hs a w'
  refine Ce ?_
  by_cases h26:(k2:Int)<(c.Ag.xs.length:Int)
  ·refine Az 14 0 [1] [[oT],[o0,o0]] [BT ((k2:Int)<(c.Ag.xs.length:Int))] [(1,pt z),(Ih c),(49,Ac k2),(4,Ac k2)] rfl ⟨bt,Ae⟩ ?_
   obtain⟨b27,o28,ha29,hF31,hc30⟩:=(hc.Ag).1.all (show 0<c.Ag.xs.length by omega)
   replace ha29:c.Ag.a=some ⟨b27,o28,none⟩:=ha29
   have hc32:=hc30 k2 (show k2<c.Ag.xs.length by omega)
   have he33:=(hc.Ag).2 k2 (show k2<c.Ag.xs.length by omega)
   obtain⟨y34,hy34⟩:∃ y_,y_=gd c.Ag.xs k2:=⟨_,rfl⟩
   rw[←hy34]at he33 hc32
   refine q_c 6 1 [] [[o0,(DN 1 b27 o28 c.Ag),o0,(oi k2),(ol 0 (AL.arr y34)),o0,(an 3 2)],[(an 3 2)]] [Qb z,Dh b27 o28 c.Ag,Ci k2,k2<c.Ag.xs.length,BN,Fa w b27 (o28+k2*3) (AL.arr y34),Qb n25,Qb n25,Qb n25,Qb n25,Qb n25,Qb n25] [(1,pt z),(Ih c),(49,Ac k2),(4,Ac k2),(5,pt n25),(57,.agg (AL.arr y34))] ⟨w,n25+1,[(Ak w),(N8 z c),(Vd n25 y34)]⟩ rfl ⟨rfl,Df ha29,rfl,(by omega),rfl,Dt hc32,rfl,rfl,rfl,rfl,rfl,rfl,Ae⟩ ?_
   refine Bf 81 #[.agg (AL.arr y34)] (some 58) (i6 (portOf y34)) (fun w35 hw35=>Vu w35 y34 (he33.ext (hw35.ext rfl) (fun _ h=>h))) (fun n36 (hn37:n25+1≤n36) => ?_)
   refine Dc [1,48,49,4,5,58] [(1,pt z),(Ih c),(49,Ac k2),(4,Ac k2),(5,pt n25),(58,i6 (portOf y34))] ?_
   by_cases h38:(portOf y34:Int)=0
   ·refine BP 8 0 [1] [[oT,o0,o0],[o0]] [ET (portOf y34) 0] [(2,.bool false)] rfl ⟨et,Ae⟩ ?_
    refine AA [] [] (.bool false) Ae ?_
    intro w39 hw39
    refine⟨congrArg (fun b=>Ending.returned (Value.bool b)) (Eq.symm (?_:EK c=false)),AO hw39⟩
    exact JQ (k:=k2) (by omega) (KW (by rw[←hy34];first | omega | (right;right;unfold Jh;rw[show c.Aa.xs.length=k3 by omega];omega)))
   by_cases h40:(y34.Kind:Int)=1
   ·by_cases h41:(y34.Dn:Int)=0
    ·refine BP 19 0 [0] [[oF,o0,o0,(a1 2),oT,o0,o0,(a1 2),oF,o0,o0],[o0],[o0],[o0,(a1 1),o0,o0]] [EF (portOf y34) 0,Qb n25,ET y34.Kind 1,Qb n25,NF y34.Dn 0,Qb z] [(1,pt z),(4,Ac k2),(6,i6 0),(7,i6 0),(Ih c),(49,Ac k2),(KF c),(73,i6 0)] rfl ⟨ef,rfl,et,rfl,nf,rfl,Ae⟩ ?_
     refine Di (fun m a w'=>∃ (n43:Nat) (k3:Nat),m=c.Aa.xs.length - k3∧n36≤n43∧(k3≤c.Aa.xs.length)∧St 106 [(1,pt z),(4,Ac k2),(Qy c k2 k3),(Pg c k2 k3),(Ih c),(49,Ac k2),(KF c),(73,Ac k3)] [] ⟨w,n43,[(Ak w),(N8 z c),(Vd n25 y34)]⟩ a w') (c.Aa.xs.length - 0) ?_ ?_
     ·intro a w' hs;exact⟨n36,0,rfl,Nat.le_refl _,Nat.zero_le _,hs⟩
     rintro m a w' ⟨n43,k3,rfl,hn42,hkk3,hs⟩
     refine(?_:G Tryd.prog 106 [(1,pt z),(4,Ac k2),(Qy c k2 k3),(Pg c k2 k3),(Ih c),(49,Ac k2),(KF c),(73,Ac k3)] [] ⟨w,n43,[(Ak w),(N8 z c),(Vd n25 y34)]⟩ _ _ _) a w' hs
     clear hs a w'
     have hsa:=VI (f:=fun x=>Ef x (k2:Int) true) (B:=8) (xs:=c.Aa.xs) (fun i hi=>PX (hp i (by omega)) _ _) k3 hkk3
     have hsb:=VI (f:=fun x=>Ef x (k2:Int) false) (B:=8) (xs:=c.Aa.xs) (fun i hi=>PX (hp i (by omega)) _ _) k3 hkk3
     refine Ce ?_
     by_cases h44:(k3:Int)<(c.Aa.xs.length:Int)
     ·refine Az 14 0 [1] [[oT],[o0,o0]] [BT ((k3:Int)<(c.Aa.xs.length:Int))] [(1,pt z),(4,Ac k2),(Qy c k2 k3),(Pg c k2 k3),(Ih c),(49,Ac k2),(KF c),(73,Ac k3),(8,Ac k3)] rfl ⟨bt,Ae⟩ ?_
      obtain⟨b45,o46,ha47,hF49,hc48⟩:=(hc.Aa).1.all (show 0<c.Aa.xs.length by omega)
      replace ha47:c.Aa.a=some ⟨b45,o46,none⟩:=ha47
      have hc50:=hc48 k3 (show k3<c.Aa.xs.length by omega)
      have he51:=(hc.Aa).2 k3 (show k3<c.Aa.xs.length by omega)
      obtain⟨y52,hy52⟩:∃ y_,y_=gd c.Aa.xs k3:=⟨_,rfl⟩
      rw[←hy52]at he51 hc50
      have hqy52:=hp k3 (by omega);rw[←hy52]at hqy52;have hl1y52:=PX hqy52 (k2:Int) true;have hl2y52:=PX hqy52 (k2:Int) false
      refine Az 1 7 [] [[o0,o0,(DN 1 b45 o46 c.Aa),o0,(oi k3),(ol 0 (Ap.arr y52)),o0]] [Qb z,Dh b45 o46 c.Aa,Ci k3,k3<c.Aa.xs.length,BN,Fa w b45 (o46+k3*8) (Ap.arr y52)] [(1,pt z),(4,Ac k2),(Pg c k2 k3),(Ih c),(49,Ac k2),(KF c),(73,Ac k3),(8,Ac k3),(76,i6 ((G5 (fun x=>Ef x (k2:Int) true) c.Aa.xs k3:Nat):Int)),(81,.agg (Ap.arr y52)),(82,Ac k2)] rfl ⟨rfl,Df ha47,rfl,(by omega),rfl,Dt hc50,Ae⟩ ?_
      refine Bf 82 #[.agg (Ap.arr y52),Ac k2,.bool true] (some 83) (i6 ((Ef y52 (k2:Int) true:Nat):Int)) (fun w53 hw53=>Oq w53 y52 (k2:Int) true (he51.ext (hw53.ext rfl) (fun _ h=>h))) (fun n54 (hn55:n43≤n54) => ?_)
      refine BP 3 7 [] [[(ov (i6 (((G5 (fun x=>Ef x (k2:Int) true) c.Aa.xs k3)+(Ef y52 (k2:Int) true):Nat):Int))),o0],[o0,o0,(DN 1 b45 o46 c.Aa),o0,(oi k3),(ol 0 (Ap.arr y52)),o0]] [Wr ((((G5 (fun x=>Ef x (k2:Int) true) c.Aa.xs k3:Nat):Int):Int)+((Ef y52 (k2:Int) true:Nat):Int)) ((((G5 (fun x=>Ef x (k2:Int) true) c.Aa.xs k3)+(Ef y52 (k2:Int) true):Nat):Int)),Qb z,Dh b45 o46 c.Aa,Ci k3,k3<c.Aa.xs.length,BN,Fa w b45 (o46+k3*8) (Ap.arr y52)] [(1,pt z),(4,Ac k2),(Ih c),(49,Ac k2),(KF c),(73,Ac k3),(ZL c k2 k3 y52),(85,i6 ((G5 (fun x=>Ef x (k2:Int) false) c.Aa.xs k3:Nat):Int)),(90,.agg (Ap.arr y52)),(91,Ac k2)] rfl ⟨BQ,rfl,Df ha47,rfl,(by omega),rfl,Dt hc50,Ae⟩ ?_
      refine Bf 82 #[.agg (Ap.arr y52),Ac k2,.bool false] (some 92) (i6 ((Ef y52 (k2:Int) false:Nat):Int)) (fun w56 hw56=>Oq w56 y52 (k2:Int) false (he51.ext (hw56.ext rfl) (fun _ h=>h))) (fun n57 (hn58:n54≤n57) => ?_)
      refine BP 5 0 [] [[(ov (i6 (((G5 (fun x=>Ef x (k2:Int) false) c.Aa.xs k3)+(Ef y52 (k2:Int) false):Nat):Int))),o0],[(ov (i6 ((k3+1:Nat):Int))),o0]] [Wr ((((G5 (fun x=>Ef x (k2:Int) false) c.Aa.xs k3:Nat):Int):Int)+((Ef y52 (k2:Int) false:Nat):Int)) ((((G5 (fun x=>Ef x (k2:Int) false) c.Aa.xs k3)+(Ef y52 (k2:Int) false):Nat):Int)),Wr ((k3:Int)+1) (((k3+1:Nat):Int))] [(1,pt z),(4,Ac k2),(Ih c),(49,Ac k2),(KF c),(73,i6 ((k3+1:Nat):Int)),(ZL c k2 k3 y52),(7,i6 (((G5 (fun x=>Ef x (k2:Int) false) c.Aa.xs k3)+(Ef y52 (k2:Int) false):Nat):Int))] rfl ⟨BQ,BQ,Ae⟩ ?_
      have hT1:=Ro (f:=fun x=>Ef x (k2:Int) true) (show k3<c.Aa.xs.length by omega)
      have hT2:=Ro (f:=fun x=>Ef x (k2:Int) false) (show k3<c.Aa.xs.length by omega)
      rw[←hy52]at hT1 hT2
      refine BK [1,4,6,7,48,49,72,73] [(1,pt z),(4,Ac k2),(ZL c k2 k3 y52),(7,i6 (((G5 (fun x=>Ef x (k2:Int) false) c.Aa.xs k3)+(Ef y52 (k2:Int) false):Nat):Int)),(Ih c),(49,Ac k2),(KF c),(73,i6 ((k3+1:Nat):Int))] ?_
      refine BD (fun a w' hs=>⟨c.Aa.xs.length - (k3+1),by omega,n57,(k3+1),rfl,by omega,by omega,by(try dsimp only[Vd,N8,ZL,Pg,Qy,Qh,KF,Ih]at hs ⊢);rw[hT1,hT2];exact hs⟩)
     refine Az 11 0 [0] [[oF]] [BF ((k3:Int)<(c.Aa.xs.length:Int))] [(1,pt z),(4,Ac k2),(Qy c k2 k3),(Pg c k2 k3),(Ih c),(49,Ac k2),(KF c),(73,Ac k3),(74,.bool false)] rfl ⟨bf,Ae⟩ ?_
     by_cases h59:(((G5 (fun x=>Ef x (k2:Int) true) c.Aa.xs k3:Nat):Int):Int)=1
     ·by_cases h60:(((G5 (fun x=>Ef x (k2:Int) false) c.Aa.xs k3:Nat):Int):Int)<1
      ·refine Az 9 0 [1] [[o0,oF,o0,o0,oT,o0,o0,o0],[o0]] [NF ((G5 (fun x=>Ef x (k2:Int) true) c.Aa.xs k3:Nat):Int) 1,BT ((((G5 (fun x=>Ef x (k2:Int) false) c.Aa.xs k3:Nat):Int):Int)<1)] [(2,.bool false)] rfl ⟨nf,bt,Ae⟩ ?_
       refine AA [] [] (.bool false) Ae ?_
       intro w61 hw61
       refine⟨congrArg (fun b=>Ending.returned (Value.bool b)) (Eq.symm (?_:EK c=false)),AO hw61⟩
       exact JQ (k:=k2) (by omega) (KW (by rw[←hy34];first | omega | (right;right;unfold Jh;rw[show c.Aa.xs.length=k3 by omega];omega)))
      by_cases h62:(4:Int)<((G5 (fun x=>Ef x (k2:Int) false) c.Aa.xs k3:Nat):Int)
      ·refine Az 9 0 [1] [[o0,oF,o0,o0,oF,o0,o0,o0,oT,o0],[o0]] [NF ((G5 (fun x=>Ef x (k2:Int) true) c.Aa.xs k3:Nat):Int) 1,BF ((((G5 (fun x=>Ef x (k2:Int) false) c.Aa.xs k3:Nat):Int):Int)<1),BT ((((G5 (fun x=>Ef x (k2:Int) false) c.Aa.xs k3:Nat):Int):Int) > 4)] [(2,.bool false)] rfl ⟨nf,bf,bt,Ae⟩ ?_
       refine AA [] [] (.bool false) Ae ?_
       intro w63 hw63
       refine⟨congrArg (fun b=>Ending.returned (Value.bool b)) (Eq.symm (?_:EK c=false)),AO hw63⟩
       exact JQ (k:=k2) (by omega) (KW (by rw[←hy34];first | omega | (right;right;unfold Jh;rw[show c.Aa.xs.length=k3 by omega];omega)))
      refine Az 9 0 [0] [[o0,oF,o0,o0,oF,o0,o0,o0,oF,o0],[(ov (i6 ((k2+1:Nat):Int))),o0]] [NF ((G5 (fun x=>Ef x (k2:Int) true) c.Aa.xs k3:Nat):Int) 1,BF ((((G5 (fun x=>Ef x (k2:Int) false) c.Aa.xs k3:Nat):Int):Int)<1),BF ((((G5 (fun x=>Ef x (k2:Int) false) c.Aa.xs k3:Nat):Int):Int) > 4),Wr ((k2:Int)+1) (((k2+1:Nat):Int))] [(1,pt z),(Ih c),(49,i6 ((k2+1:Nat):Int))] rfl ⟨nf,bf,bf,BQ,Ae⟩ ?_
      refine Cb [0,1] [(Ak w),(N8 z c)] rfl rfl ?_
      refine BK [1,48,49] [(1,pt z),(Ih c),(49,i6 ((k2+1:Nat):Int))] ?_
      refine BD (fun a w' hs=>⟨c.Ag.xs.length - (k2+1),by omega,n43,(k2+1),rfl,by omega,by omega,upto hch (WL (by rw[←hy34];omega) (by rw[←hy34];omega) (by unfold Jh;rw[show c.Aa.xs.length=k3 by omega];omega) (by unfold Jh;rw[show c.Aa.xs.length=k3 by omega];omega)),hs⟩)
     refine Az 9 0 [1] [[o0,oT,o0,o0,o0,o0],[o0]] [NT ((G5 (fun x=>Ef x (k2:Int) true) c.Aa.xs k3:Nat):Int) 1] [(2,.bool false)] rfl ⟨nt,Ae⟩ ?_
     refine AA [] [] (.bool false) Ae ?_
     intro w64 hw64
     refine⟨congrArg (fun b=>Ending.returned (Value.bool b)) (Eq.symm (?_:EK c=false)),AO hw64⟩
     exact JQ (k:=k2) (by omega) (KW (by rw[←hy34];first | omega | (right;right;unfold Jh;rw[show c.Aa.xs.length=k3 by omega];omega)))
    refine BP 8 0 [1] [[oF,o0,o0,(a1 2),oT,o0,o0,(a1 2),oT,o0,o0],[o0]] [EF (portOf y34) 0,Qb n25,ET y34.Kind 1,Qb n25,NT y34.Dn 0] [(2,.bool false)] rfl ⟨ef,rfl,et,rfl,nt,Ae⟩ ?_
    refine AA [] [] (.bool false) Ae ?_
    intro w65 hw65
    refine⟨congrArg (fun b=>Ending.returned (Value.bool b)) (Eq.symm (?_:EK c=false)),AO hw65⟩
    exact JQ (k:=k2) (by omega) (KW (by rw[←hy34];first | omega | (right;right;unfold Jh;rw[show c.Aa.xs.length=k3 by omega];omega)))
   refine BP 19 0 [0] [[oF,o0,o0,(a1 2),oF,o0,o0,o0],[o0],[o0],[o0,(a1 1),o0,o0]] [EF (portOf y34) 0,Qb n25,EF y34.Kind 1,Qb z] [(1,pt z),(4,Ac k2),(6,i6 0),(7,i6 0),(Ih c),(49,Ac k2),(KF c),(73,i6 0)] rfl ⟨ef,rfl,ef,rfl,Ae⟩ ?_
   refine Di (fun m a w'=>∃ (n67:Nat) (k3:Nat),m=c.Aa.xs.length - k3∧n36≤n67∧(k3≤c.Aa.xs.length)∧St 106 [(1,pt z),(4,Ac k2),(Qy c k2 k3),(Pg c k2 k3),(Ih c),(49,Ac k2),(KF c),(73,Ac k3)] [] ⟨w,n67,[(Ak w),(N8 z c),(Vd n25 y34)]⟩ a w') (c.Aa.xs.length - 0) ?_ ?_
   ·intro a w' hs;exact⟨n36,0,rfl,Nat.le_refl _,Nat.zero_le _,hs⟩
   rintro m a w' ⟨n67,k3,rfl,hn66,hkk3,hs⟩
   refine(?_:G Tryd.prog 106 [(1,pt z),(4,Ac k2),(Qy c k2 k3),(Pg c k2 k3),(Ih c),(49,Ac k2),(KF c),(73,Ac k3)] [] ⟨w,n67,[(Ak w),(N8 z c),(Vd n25 y34)]⟩ _ _ _) a w' hs
   clear hs a w'
   have hsa:=VI (f:=fun x=>Ef x (k2:Int) true) (B:=8) (xs:=c.Aa.xs) (fun i hi=>PX (hp i (by omega)) _ _) k3 hkk3
   have hsb:=VI (f:=fun x=>Ef x (k2:Int) false) (B:=8) (xs:=c.Aa.xs) (fun i hi=>PX (hp i (by omega)) _ _) k3 hkk3
   refine Ce ?_
   by_cases h68:(k3:Int)<(c.Aa.xs.length:Int)
   ·refine Az 14 0 [1] [[oT],[o0,o0]] [BT ((k3:Int)<(c.Aa.xs.length:Int))] [(1,pt z),(4,Ac k2),(Qy c k2 k3),(Pg c k2 k3),(Ih c),(49,Ac k2),(KF c),(73,Ac k3),(8,Ac k3)] rfl ⟨bt,Ae⟩ ?_
    obtain⟨b69,o70,ha71,hF73,hc72⟩:=(hc.Aa).1.all (show 0<c.Aa.xs.length by omega)
    replace ha71:c.Aa.a=some ⟨b69,o70,none⟩:=ha71
    have hc74:=hc72 k3 (show k3<c.Aa.xs.length by omega)
    have he75:=(hc.Aa).2 k3 (show k3<c.Aa.xs.length by omega)
    obtain⟨y76,hy76⟩:∃ y_,y_=gd c.Aa.xs k3:=⟨_,rfl⟩
    rw[←hy76]at he75 hc74
    have hqy76:=hp k3 (by omega);rw[←hy76]at hqy76;have hl1y76:=PX hqy76 (k2:Int) true;have hl2y76:=PX hqy76 (k2:Int) false
    refine Az 1 7 [] [[o0,o0,(DN 1 b69 o70 c.Aa),o0,(oi k3),(ol 0 (Ap.arr y76)),o0]] [Qb z,Dh b69 o70 c.Aa,Ci k3,k3<c.Aa.xs.length,BN,Fa w b69 (o70+k3*8) (Ap.arr y76)] [(1,pt z),(4,Ac k2),(Pg c k2 k3),(Ih c),(49,Ac k2),(KF c),(73,Ac k3),(8,Ac k3),(76,i6 ((G5 (fun x=>Ef x (k2:Int) true) c.Aa.xs k3:Nat):Int)),(81,.agg (Ap.arr y76)),(82,Ac k2)] rfl ⟨rfl,Df ha71,rfl,(by omega),rfl,Dt hc74,Ae⟩ ?_
    refine Bf 82 #[.agg (Ap.arr y76),Ac k2,.bool true] (some 83) (i6 ((Ef y76 (k2:Int) true:Nat):Int)) (fun w77 hw77=>Oq w77 y76 (k2:Int) true (he75.ext (hw77.ext rfl) (fun _ h=>h))) (fun n78 (hn79:n67≤n78) => ?_)
    refine BP 3 7 [] [[(ov (i6 (((G5 (fun x=>Ef x (k2:Int) true) c.Aa.xs k3)+(Ef y76 (k2:Int) true):Nat):Int))),o0],[o0,o0,(DN 1 b69 o70 c.Aa),o0,(oi k3),(ol 0 (Ap.arr y76)),o0]] [Wr ((((G5 (fun x=>Ef x (k2:Int) true) c.Aa.xs k3:Nat):Int):Int)+((Ef y76 (k2:Int) true:Nat):Int)) ((((G5 (fun x=>Ef x (k2:Int) true) c.Aa.xs k3)+(Ef y76 (k2:Int) true):Nat):Int)),Qb z,Dh b69 o70 c.Aa,Ci k3,k3<c.Aa.xs.length,BN,Fa w b69 (o70+k3*8) (Ap.arr y76)] [(1,pt z),(4,Ac k2),(Ih c),(49,Ac k2),(KF c),(73,Ac k3),(Z9 c k2 k3 y76),(85,i6 ((G5 (fun x=>Ef x (k2:Int) false) c.Aa.xs k3:Nat):Int)),(90,.agg (Ap.arr y76)),(91,Ac k2)] rfl ⟨BQ,rfl,Df ha71,rfl,(by omega),rfl,Dt hc74,Ae⟩ ?_
    refine Bf 82 #[.agg (Ap.arr y76),Ac k2,.bool false] (some 92) (i6 ((Ef y76 (k2:Int) false:Nat):Int)) (fun w80 hw80=>Oq w80 y76 (k2:Int) false (he75.ext (hw80.ext rfl) (fun _ h=>h))) (fun n81 (hn82:n78≤n81) => ?_)
    refine BP 5 0 [] [[(ov (i6 (((G5 (fun x=>Ef x (k2:Int) false) c.Aa.xs k3)+(Ef y76 (k2:Int) false):Nat):Int))),o0],[(ov (i6 ((k3+1:Nat):Int))),o0]] [Wr ((((G5 (fun x=>Ef x (k2:Int) false) c.Aa.xs k3:Nat):Int):Int)+((Ef y76 (k2:Int) false:Nat):Int)) ((((G5 (fun x=>Ef x (k2:Int) false) c.Aa.xs k3)+(Ef y76 (k2:Int) false):Nat):Int)),Wr ((k3:Int)+1) (((k3+1:Nat):Int))] [(1,pt z),(4,Ac k2),(Ih c),(49,Ac k2),(KF c),(73,i6 ((k3+1:Nat):Int)),(Z9 c k2 k3 y76),(7,i6 (((G5 (fun x=>Ef x (k2:Int) false) c.Aa.xs k3)+(Ef y76 (k2:Int) false):Nat):Int))] rfl ⟨BQ,BQ,Ae⟩ ?_
    have hT1:=Ro (f:=fun x=>Ef x (k2:Int) true) (show k3<c.Aa.xs.length by omega)
    have hT2:=Ro (f:=fun x=>Ef x (k2:Int) false) (show k3<c.Aa.xs.length by omega)
    rw[←hy76]at hT1 hT2
    refine BK [1,4,6,7,48,49,72,73] [(1,pt z),(4,Ac k2),(Z9 c k2 k3 y76),(7,i6 (((G5 (fun x=>Ef x (k2:Int) false) c.Aa.xs k3)+(Ef y76 (k2:Int) false):Nat):Int)),(Ih c),(49,Ac k2),(KF c),(73,i6 ((k3+1:Nat):Int))] ?_
    refine BD (fun a w' hs=>⟨c.Aa.xs.length - (k3+1),by omega,n81,(k3+1),rfl,by omega,by omega,by(try dsimp only[Vd,N8,Z9,Pg,Qy,Qh,KF,Ih]at hs ⊢);rw[hT1,hT2];exact hs⟩)
   refine Az 11 0 [0] [[oF]] [BF ((k3:Int)<(c.Aa.xs.length:Int))] [(1,pt z),(4,Ac k2),(Qy c k2 k3),(Pg c k2 k3),(Ih c),(49,Ac k2),(KF c),(73,Ac k3),(74,.bool false)] rfl ⟨bf,Ae⟩ ?_
   by_cases h83:(((G5 (fun x=>Ef x (k2:Int) true) c.Aa.xs k3:Nat):Int):Int)=1
   ·by_cases h84:(((G5 (fun x=>Ef x (k2:Int) false) c.Aa.xs k3:Nat):Int):Int)<1
    ·refine Az 9 0 [1] [[o0,oF,o0,o0,oT,o0,o0,o0],[o0]] [NF ((G5 (fun x=>Ef x (k2:Int) true) c.Aa.xs k3:Nat):Int) 1,BT ((((G5 (fun x=>Ef x (k2:Int) false) c.Aa.xs k3:Nat):Int):Int)<1)] [(2,.bool false)] rfl ⟨nf,bt,Ae⟩ ?_
     refine AA [] [] (.bool false) Ae ?_
     intro w85 hw85
     refine⟨congrArg (fun b=>Ending.returned (Value.bool b)) (Eq.symm (?_:EK c=false)),AO hw85⟩
     exact JQ (k:=k2) (by omega) (KW (by rw[←hy34];first | omega | (right;right;unfold Jh;rw[show c.Aa.xs.length=k3 by omega];omega)))
    by_cases h86:(4:Int)<((G5 (fun x=>Ef x (k2:Int) false) c.Aa.xs k3:Nat):Int)
    ·refine Az 9 0 [1] [[o0,oF,o0,o0,oF,o0,o0,o0,oT,o0],[o0]] [NF ((G5 (fun x=>Ef x (k2:Int) true) c.Aa.xs k3:Nat):Int) 1,BF ((((G5 (fun x=>Ef x (k2:Int) false) c.Aa.xs k3:Nat):Int):Int)<1),BT ((((G5 (fun x=>Ef x (k2:Int) false) c.Aa.xs k3:Nat):Int):Int) > 4)] [(2,.bool false)] rfl ⟨nf,bf,bt,Ae⟩ ?_
     refine AA [] [] (.bool false) Ae ?_
     intro w87 hw87
     refine⟨congrArg (fun b=>Ending.returned (Value.bool b)) (Eq.symm (?_:EK c=false)),AO hw87⟩
     exact JQ (k:=k2) (by omega) (KW (by rw[←hy34];first | omega | (right;right;unfold Jh;rw[show c.Aa.xs.length=k3 by omega];omega)))
    refine Az 9 0 [0] [[o0,oF,o0,o0,oF,o0,o0,o0,oF,o0],[(ov (i6 ((k2+1:Nat):Int))),o0]] [NF ((G5 (fun x=>Ef x (k2:Int) true) c.Aa.xs k3:Nat):Int) 1,BF ((((G5 (fun x=>Ef x (k2:Int) false) c.Aa.xs k3:Nat):Int):Int)<1),BF ((((G5 (fun x=>Ef x (k2:Int) false) c.Aa.xs k3:Nat):Int):Int) > 4),Wr ((k2:Int)+1) (((k2+1:Nat):Int))] [(1,pt z),(Ih c),(49,i6 ((k2+1:Nat):Int))] rfl ⟨nf,bf,bf,BQ,Ae⟩ ?_
    refine Cb [0,1] [(Ak w),(N8 z c)] rfl rfl ?_
    refine BK [1,48,49] [(1,pt z),(Ih c),(49,i6 ((k2+1:Nat):Int))] ?_
    refine BD (fun a w' hs=>⟨c.Ag.xs.length - (k2+1),by omega,n67,(k2+1),rfl,by omega,by omega,upto hch (WL (by rw[←hy34];omega) (by rw[←hy34];omega) (by unfold Jh;rw[show c.Aa.xs.length=k3 by omega];omega) (by unfold Jh;rw[show c.Aa.xs.length=k3 by omega];omega)),hs⟩)
   refine Az 9 0 [1] [[o0,oT,o0,o0,o0,o0],[o0]] [NT ((G5 (fun x=>Ef x (k2:Int) true) c.Aa.xs k3:Nat):Int) 1] [(2,.bool false)] rfl ⟨nt,Ae⟩ ?_
   refine AA [] [] (.bool false) Ae ?_
   intro w88 hw88
   refine⟨congrArg (fun b=>Ending.returned (Value.bool b)) (Eq.symm (?_:EK c=false)),AO hw88⟩
   exact JQ (k:=k2) (by omega) (KW (by rw[←hy34];first | omega | (right;right;unfold Jh;rw[show c.Aa.xs.length=k3 by omega];omega)))
  refine Az 15 0 [0] [[oF],[o0]] [BF ((k2:Int)<(c.Ag.xs.length:Int))] [(2,.bool true)] rfl ⟨bf,Ae⟩ ?_
  refine AA [] [] (.bool true) Ae ?_
  intro w89 hw89
  refine⟨congrArg (fun b=>Ending.returned (Value.bool b)) (Eq.symm (?_:EK c=true)),AO hw89⟩
  exact Zcv (by omega) (by omega) (by omega) (fun i hi=>hp i (by omega)) (fun i hi=>hch i (by omega))
 refine Az 9 0 [1] [[o0,(a1 1),oF,o0,o0,(a1 1),oT,o0,o0,o0,o0,o0],[o0]] [Qb z,BF ((c.Kernel:Int)<0),Qb z,BT ((c.Kernel:Int)≥1024)] [(2,.bool false)] rfl ⟨rfl,bf,rfl,bt,Ae⟩ ?_
 refine AA [] [] (.bool false) Ae ?_
 intro w90 hw90
 refine⟨congrArg (fun b=>Ending.returned (Value.bool b)) (Eq.symm (?_:EK c=false)),AO hw90⟩
 exact PU (by omega)
def CZ(p:Nat)(x:Ap)(k:Int)(b:Bool)(j:Nat):List GH:=((List.range j).filter (fun q=>Ju k b (gd x.Am.xs q))).map (fun(q:Nat)=>(⟨(p:Int),(q:Int)⟩:GH))
def Dw(c:Aj)(k:Int)(b:Bool)(i:Nat):List GH:=(List.range i).flatMap (fun p=>CZ p (gd c.Aa.xs p) k b (gd c.Aa.xs p).Am.xs.length)
def CQ(c:Aj)(k:Int)(b:Bool):List GH:=Dw c k b c.Aa.xs.length
theorem Qc{p:Nat}{x:Ap}{k:Int}{b:Bool}{j:Nat}(h:Ju k b (gd x.Am.xs j)=true):CZ p x k b (j+1)=CZ p x k b j++[⟨(p:Int),(j:Int)⟩]:=by
 unfold CZ;rw[List.range_succ,List.filter_append,List.map_append];simp[h]
theorem LD{p:Nat}{x:Ap}{k:Int}{b:Bool}{j:Nat}(h:Ju k b (gd x.Am.xs j)=false):CZ p x k b (j+1)=CZ p x k b j:=by
 unfold CZ;rw[List.range_succ,List.filter_append,List.map_append];simp[h]
theorem Su{p:Nat}{x:Ap}{k:Int}{b:Bool}{j:Nat}:(CZ p x k b j).length≤j:=by
 unfold CZ;rw[List.length_map];exact Nat.le_trans (List.length_filter_le _ _) (by simp)
theorem MW{c:Aj}{k:Int}{b:Bool}{i:Nat}:Dw c k b (i+1)=Dw c k b i++CZ i (gd c.Aa.xs i) k b (gd c.Aa.xs i).Am.xs.length:=by
 unfold Dw;rw[List.range_succ,List.flatMap_append];simp
theorem TY{c:Aj}{k:Int}{b:Bool}(hp:∀ i,i<c.Aa.xs.length→(gd c.Aa.xs i).Am.xs.length≤8):∀ (i:Nat),i≤c.Aa.xs.length→(Dw c k b i).length≤8*i
 | 0,_=>by simp[Dw]
 | i+1,h=>by
  have h1:=TY (k:=k) (b:=b) hp i (by omega)
  have h2:=hp i (by omega)
  have h3:=Su (p:=i) (x:=gd c.Aa.xs i) (k:=k) (b:=b) (j:=(gd c.Aa.xs i).Am.xs.length)
  rw[MW,List.length_append];omega
theorem Zbi(xs:List Bh)(p:Bh→Bool):∀ (j:Nat),j≤xs.length→((List.range j).filter (fun q=>p (gd xs q))).length=(xs.take j).countP p
 | 0,_=>by simp
 | j+1,h=>by
  rw[List.range_succ,List.filter_append,List.length_append,Zbi xs p j (by omega),take_snoc (by omega),List.countP_append]
  cases hp:p (gd xs j) <;> simp[hp]
theorem ZW{c:Aj}{k:Int}{b:Bool}:∀ (i:Nat),i≤c.Aa.xs.length→(Dw c k b i).length=G5 (fun x=>Ef x k b) c.Aa.xs i
 | 0,_=>by simp[Dw,G5]
 | i+1,h=>by
  rw[MW,List.length_append,ZW i (by omega),Ro (by omega)]
  congr 1
  unfold CZ Ef
  rw[List.length_map,Zbi _ _ _ (Nat.le_refl _),List.take_length]
theorem Sm(c:Aj)(k:Nat)(b:Bool):(CQ c k b).length=Jh c k b:=ZW _ (Nat.le_refl _)
section
variable (n2:Nat)(y11:Ap)(z:Nat)(c:Aj)(aD2:Option Addr)(ch:Int)(i j cD2:Nat)(aS2:Option Addr)(cS2:Nat)(aD:Option Addr)(cD:Nat)(aS:Option Addr)(cS b4:Nat)(o5 b15 o16:Nat)
abbrev GV:=bk n2 (Ap.arr y11) 41
abbrev F5:=bk z (Aj.arr c) 26
abbrev FU:=BJ z 101 2 GH.cells (.slice aD2 ((Dw c ch false i++CZ i y11 ch false j).length) cD2) (Dw c ch false i++CZ i y11 ch false j)
abbrev FT:=BJ z 101 2 GH.cells (.slice aS2 ((Dw c ch true i++CZ i y11 ch true j).length) cS2) (Dw c ch true i++CZ i y11 ch true j)
abbrev FX:=BJ z 101 2 GH.cells (.slice aD ((Dw c ch false i).length) cD) (Dw c ch false i)
abbrev Ig:=BJ z 101 2 GH.cells (.slice aS ((Dw c ch true i).length) cS) (Dw c ch true i)
abbrev Gh:DJ:=(5,.slice aD2 ((Dw c ch false i++CZ i y11 ch false j).length) cD2)
abbrev FW:DJ:=(4,.slice aS2 ((Dw c ch true i++CZ i y11 ch true j).length) cS2)
abbrev F6:DJ:=(11,.slice (some ⟨b4,o5,none⟩) c.Aa.xs.length c.Aa.cap)
abbrev Hg:DJ:=(19,.slice (some ⟨b15,o16,none⟩) y11.Am.xs.length y11.Am.cap)
abbrev EM:DJ:=(11,.slice c.Aa.a c.Aa.xs.length c.Aa.cap)
abbrev Fp:DJ:=(19,.slice y11.Am.a y11.Am.xs.length y11.Am.cap)
abbrev EH:=(12,Ac c.Aa.xs.length)
abbrev Iu:=(20,Ac y11.Am.xs.length)
abbrev KL:DJ:=(5,.slice aD ((Dw c ch false i).length) cD)
abbrev Mc:=(21,i6 ((j+1:Nat):Int))
end
theorem RJ(w:World)(c:Aj)(ch:Int)(hc:Aj.ok Any w c)(hl:c.Aa.xs.length≤8)(hp:∀ i,i<c.Aa.xs.length→(gd c.Aa.xs i).Am.xs.length≤8):Calls Tryd.prog 58 #[.agg (Aj.arr c),.int .i64 ch] w fun e w'=>∃ a1 c1 a2 c2,e = .returned (.tuple #[.slice a1 (CQ c ch true).length c1,.slice a2 (CQ c ch false).length c2])∧KU GH.cells 2 (New w.heap.size) w' ⟨a1,c1,CQ c ch true⟩∧KU GH.cells 2 (New w.heap.size) w' ⟨a2,c2,CQ c ch false⟩∧CP (fun _=>False) w w':=by
 obtain⟨z,hz⟩:∃ z,z=w.heap.size:=⟨_,rfl⟩
 refine CE (args:=[.agg (Aj.arr c),i6 ch]) 50 ⟨w,z,[(Ak w)]⟩ Tryd.func58 rfl (by kernel_rfl) (by kernel_rfl) (Ep hz) ?_
 refine DC [0,1] [(0,.agg (Aj.arr c)),(1,i6 ch)] ?_
 refine q_c 10 0 [] [[o0,o0,o0],[o0,(a1 1),o0,o0]] [Qb z] [(1,i6 ch),(4,.slice none 0 0),(5,.slice none 0 0),(EM c),(EH c),(13,i6 0)] ⟨w,z+1,[(Ak w),(F5 z c)]⟩ rfl ⟨rfl,Ae⟩ ?_
 refine OZ z 101 2 GH.cells ?_
 refine OZ z 101 2 GH.cells ?_
 refine Di (fun m a w'=>∃ (n2:Nat) (i:Nat) (aS:Option Addr) (cS:Nat) (aD:Option Addr) (cD:Nat),m=c.Aa.xs.length - i∧z+1≤n2∧(i≤c.Aa.xs.length)∧St 50 [(1,i6 ch),(4,.slice aS ((Dw c ch true i).length) cS),(KL c ch i aD cD),(EM c),(EH c),(13,Ac i)] [] ⟨w,n2,[(Ak w),(F5 z c),(Ig z c ch i aS cS),(FX z c ch i aD cD)]⟩ a w') (c.Aa.xs.length - 0) ?_ ?_
 ·intro a w' hs;exact⟨(z+1),0,none,0,none,0,rfl,Nat.le_refl _,Nat.zero_le _,hs⟩
 rintro m a w' ⟨n2,i,aS,cS,aD,cD,rfl,hn1,hki,hs⟩
 refine(?_:G Tryd.prog 50 [(1,i6 ch),(4,.slice aS ((Dw c ch true i).length) cS),(KL c ch i aD cD),(EM c),(EH c),(13,Ac i)] [] ⟨w,n2,[(Ak w),(F5 z c),(Ig z c ch i aS cS),(FX z c ch i aD cD)]⟩ _ _ _) a w' hs
 clear hs a w'
 have hq3:=TY (k:=ch) (b:=true) hp i (by omega)
 have hq4:=TY (k:=ch) (b:=false) hp i (by omega)
 refine Ce ?_
 by_cases h3:(i:Int)<(c.Aa.xs.length:Int)
 ·refine Az 10 0 [1] [[oT]] [BT ((i:Int)<(c.Aa.xs.length:Int))] [(1,i6 ch),(4,.slice aS ((Dw c ch true i).length) cS),(KL c ch i aD cD),(EM c),(EH c),(13,Ac i),(14,.bool true)] rfl ⟨bt,Ae⟩ ?_
  obtain⟨b4,o5,ha6,hF8,hc7⟩:=(hc.Aa).1.all (show 0<c.Aa.xs.length by omega)
  replace ha6:c.Aa.a=some ⟨b4,o5,none⟩:=ha6
  refine MQ [(1,i6 ch),(4,.slice aS ((Dw c ch true i).length) cS),(KL c ch i aD cD),(F6 c b4 o5),(EH c),(13,Ac i),(14,.bool true)] (by(try dsimp only[F5,FX,Ig,F6,EM,EH,KL]);simp only[ha6]) ?_
  have hc9:=hc7 i (show i<c.Aa.xs.length by omega)
  have he10:=(hc.Aa).2 i (show i<c.Aa.xs.length by omega)
  obtain⟨y11,hy11⟩:∃ y_,y_=gd c.Aa.xs i:=⟨_,rfl⟩
  rw[←hy11]at he10 hc9
  have h8y11:=hp i (by omega);rw[←hy11]at h8y11
  refine q_c 8 0 [] [[o0,(oi i),(ol 0 (Ap.arr y11)),o0,o0,(an 8 4)],[o0,(a1 4),o0,o0]] [Ci i,i<c.Aa.xs.length,BN,Fa w b4 (o5+i*8) (Ap.arr y11),Qb n2,Qb n2,Qb n2,Qb n2,Qb n2,Qb n2,Qb n2,Qb n2,Qb n2] [(1,i6 ch),(4,.slice aS ((Dw c ch true i).length) cS),(KL c ch i aD cD),(6,Ac i),(F6 c b4 o5),(EH c),(13,Ac i),(Fp y11),(Iu y11),(21,i6 0)] ⟨w,n2+1,[(Ak w),(F5 z c),(Ig z c ch i aS cS),(FX z c ch i aD cD),(GV n2 y11)]⟩ rfl ⟨rfl,(by omega),rfl,Dt hc9,rfl,rfl,rfl,rfl,rfl,rfl,rfl,rfl,rfl,Ae⟩ ?_
  refine Di (fun m a w'=>∃ (n13:Nat) (j:Nat) (aS2:Option Addr) (cS2:Nat) (aD2:Option Addr) (cD2:Nat),m=y11.Am.xs.length - j∧n2+1≤n13∧(j≤y11.Am.xs.length)∧St 50 [(1,i6 ch),(FW y11 c ch i j aS2 cS2),(Gh y11 c aD2 ch i j cD2),(6,Ac i),(F6 c b4 o5),(EH c),(13,Ac i),(Fp y11),(Iu y11),(21,Ac j)] [] ⟨w,n13,[(Ak w),(F5 z c),(FT y11 z c ch i j aS2 cS2),(FU y11 z c aD2 ch i j cD2),(GV n2 y11)]⟩ a w') (y11.Am.xs.length - 0) ?_ ?_
  ·intro a w' hs;exact⟨(n2+1),0,aS,cS,aD,cD,rfl,Nat.le_refl _,Nat.zero_le _,by(try dsimp only[GV,F5,FU,FT,FX,Ig,Gh,FW,F6,EM,Fp,EH,Iu,KL]at hs ⊢);rw[show CZ i y11 ch true 0=[]from rfl,show CZ i y11 ch false 0=[]from rfl,List.append_nil,List.append_nil];exact hs⟩
  rintro m a w' ⟨n13,j,aS2,cS2,aD2,cD2,rfl,hn12,hkj,hs⟩
  refine(?_:G Tryd.prog 50 [(1,i6 ch),(FW y11 c ch i j aS2 cS2),(Gh y11 c aD2 ch i j cD2),(6,Ac i),(F6 c b4 o5),(EH c),(13,Ac i),(Fp y11),(Iu y11),(21,Ac j)] [] ⟨w,n13,[(Ak w),(F5 z c),(FT y11 z c ch i j aS2 cS2),(FU y11 z c aD2 ch i j cD2),(GV n2 y11)]⟩ _ _ _) a w' hs
  clear hs a w'
  have hq1:(CZ i y11 ch true j).length≤j:=Su
  have hq2:(CZ i y11 ch false j).length≤j:=Su
  refine Ce ?_
  by_cases h14:(j:Int)<(y11.Am.xs.length:Int)
  ·refine Az 10 0 [1] [[oT]] [BT ((j:Int)<(y11.Am.xs.length:Int))] [(1,i6 ch),(FW y11 c ch i j aS2 cS2),(Gh y11 c aD2 ch i j cD2),(6,Ac i),(F6 c b4 o5),(EH c),(13,Ac i),(Fp y11),(Iu y11),(21,Ac j),(22,.bool true)] rfl ⟨bt,Ae⟩ ?_
   obtain⟨b15,o16,ha17,hF19,hc18⟩:=(he10.Am).1.all (show 0<y11.Am.xs.length by omega)
   replace ha17:y11.Am.a=some ⟨b15,o16,none⟩:=ha17
   refine MQ [(1,i6 ch),(FW y11 c ch i j aS2 cS2),(Gh y11 c aD2 ch i j cD2),(6,Ac i),(F6 c b4 o5),(EH c),(13,Ac i),(Hg y11 b15 o16),(Iu y11),(21,Ac j),(22,.bool true)] (by(try dsimp only[GV,F5,FU,FT,FX,Ig,Gh,FW,F6,Hg,EM,Fp,EH,Iu,KL]);simp only[ha17]) ?_
   have hc20:=hc18 j (show j<y11.Am.xs.length by omega)
   have he21:=(he10.Am).2 j (show j<y11.Am.xs.length by omega)
   obtain⟨y22,hy22⟩:∃ y_,y_=gd y11.Am.xs j:=⟨_,rfl⟩
   rw[←hy22]at he21 hc20
   refine q_c 5 0 [] [[o0,(oi j),(ol 0 (Bh.arr y22)),o0,o0,(an 2 5)]] [Ci j,j<y11.Am.xs.length,BN,Fa w b15 (o16+j*2) (Bh.arr y22),Qb n13,Qb n13] [(1,i6 ch),(FW y11 c ch i j aS2 cS2),(Gh y11 c aD2 ch i j cD2),(6,Ac i),(F6 c b4 o5),(EH c),(13,Ac i),(Hg y11 b15 o16),(Iu y11),(21,Ac j),(9,pt n13),(8,Ac j)] ⟨w,n13+1,[(Ak w),(F5 z c),(FT y11 z c ch i j aS2 cS2),(FU y11 z c aD2 ch i j cD2),(GV n2 y11),(bk n13 (Bh.arr y22) 57)]⟩ rfl ⟨rfl,(by omega),rfl,Dt hc20,rfl,rfl,Ae⟩ ?_
   by_cases h23:(y22.Channel:Int)=ch
   ·refine Az 8 0 [0] [[o0,(a1 5),o0,oF,o0],[o0,(a1 5),o0]] [Qb n13,NF y22.Channel ch,Qb n13] [(1,i6 ch),(FW y11 c ch i j aS2 cS2),(Gh y11 c aD2 ch i j cD2),(6,Ac i),(F6 c b4 o5),(EH c),(13,Ac i),(Hg y11 b15 o16),(Iu y11),(21,Ac j),(8,Ac j),(37,.bool y22.Source)] rfl ⟨rfl,nf,rfl,Ae⟩ ?_
    by_cases h24:y22.Source=true
    ·refine q_c 2 5 [3] [[o0,o0,o0,o0,o0]] [Value.bool y22.Source=Value.bool true] [(1,i6 ch),(Gh y11 c aD2 ch i j cD2),(6,Ac i),(F6 c b4 o5),(EH c),(13,Ac i),(Hg y11 b15 o16),(Iu y11),(21,Ac j),(40,.slice aS2 ((Dw c ch true i++CZ i y11 ch true j).length) cS2),(44,.slice (some ⟨n13+1,0,none⟩) 1 1)] ⟨w,n13+2,[(Ak w),(F5 z c),(FT y11 z c ch i j aS2 cS2),(FU y11 z c aD2 ch i j cD2),(GV n2 y11),(bk n13 (Bh.arr y22) 57),(bk (n13+1) #[(Ac i),Ac j] 101)]⟩ rfl ⟨(congrArg Value.bool h24),Ae⟩ ?_
     refine PW z 2 6 (Dw c ch true i++CZ i y11 ch true j) [(⟨(i:Int),(j:Int)⟩:GH)] GH.cells 101 2 16 (.slice aS2 ((Dw c ch true i++CZ i y11 ch true j).length) cS2) (n13+1) 1 1 #[(Ac i),Ac j] 101 (0,0) true (some 45) (by simp only[List.length_cons,List.length_nil,List.length_append];omega) (show z≤n13+2 by omega) (fun ax25 cp26 n27 (hn28:n13+2≤n27) => ?_)
     refine BP 6 0 [] [[o0],[(ov (i6 ((j+1:Nat):Int))),o0]] [Wr ((j:Int)+1) (((j+1:Nat):Int))] [(1,i6 ch),(Gh y11 c aD2 ch i j cD2),(6,Ac i),(F6 c b4 o5),(EH c),(13,Ac i),(Hg y11 b15 o16),(Iu y11),(Mc j),(4,.slice ax25 ((Dw c ch true i++CZ i y11 ch true j++[(⟨(i:Int),(j:Int)⟩:GH)]).length) cp26)] rfl ⟨BQ,Ae⟩ ?_
     refine Cb [0,1,2,3,4] [(Ak w),(F5 z c),(BJ z 101 2 GH.cells (.slice ax25 ((Dw c ch true i++CZ i y11 ch true j++[(⟨(i:Int),(j:Int)⟩:GH)]).length) cp26) (Dw c ch true i++CZ i y11 ch true j++[(⟨(i:Int),(j:Int)⟩:GH)])),(FU y11 z c aD2 ch i j cD2),(GV n2 y11)] rfl rfl ?_
     have hTtrue:=Qc (p:=i) (x:=y11) (k:=ch) (b:=true) (j:=j) (by rw[←hy22];exact XQ (by omega) (by revert h24;cases y22.Source <;> simp))
     have hTfalse:=LD (p:=i) (x:=y11) (k:=ch) (b:=false) (j:=j) (by rw[←hy22];exact Wv (by revert h24;cases y22.Source <;> simp))
     refine H5 [1,4,5,6,11,12,13,19,20,21] [(1,i6 ch),(4,.slice ax25 ((Dw c ch true i++CZ i y11 ch true j++[(⟨(i:Int),(j:Int)⟩:GH)]).length) cp26),(Gh y11 c aD2 ch i j cD2),(6,Ac i),(F6 c b4 o5),(EH c),(13,Ac i),(Fp y11),(Iu y11),(Mc j)] (by(try dsimp only[GV,F5,FU,FT,FX,Ig,Gh,FW,F6,Hg,EM,Fp,EH,Iu,KL,Mc]);simp only[ha17];rfl) ?_
     refine BD (fun a w' hs=>⟨y11.Am.xs.length - (j+1),by omega,n27,(j+1),ax25,cp26,aD2,cD2,rfl,by omega,by omega,by(try dsimp only[GV,F5,FU,FT,FX,Ig,Gh,FW,F6,Hg,EM,Fp,EH,Iu,KL,Mc]at hs ⊢);rw[hTtrue,←List.append_assoc,hTfalse];exact hs⟩)
    refine q_c 2 5 [2] [[o0,o0,o0,o0,o0]] [Value.bool y22.Source=Value.bool false] [(1,i6 ch),(FW y11 c ch i j aS2 cS2),(6,Ac i),(F6 c b4 o5),(EH c),(13,Ac i),(Hg y11 b15 o16),(Iu y11),(21,Ac j),(26,.slice aD2 ((Dw c ch false i++CZ i y11 ch false j).length) cD2),(30,.slice (some ⟨n13+1,0,none⟩) 1 1)] ⟨w,n13+2,[(Ak w),(F5 z c),(FT y11 z c ch i j aS2 cS2),(FU y11 z c aD2 ch i j cD2),(GV n2 y11),(bk n13 (Bh.arr y22) 57),(bk (n13+1) #[(Ac i),Ac j] 101)]⟩ rfl ⟨(congrArg Value.bool (Bool.eq_false_iff.2 h24)),Ae⟩ ?_
    refine PW z 3 6 (Dw c ch false i++CZ i y11 ch false j) [(⟨(i:Int),(j:Int)⟩:GH)] GH.cells 101 2 16 (.slice aD2 ((Dw c ch false i++CZ i y11 ch false j).length) cD2) (n13+1) 1 1 #[(Ac i),Ac j] 101 (0,0) true (some 31) (by simp only[List.length_cons,List.length_nil,List.length_append];omega) (show z≤n13+2 by omega) (fun ax29 cp30 n31 (hn32:n13+2≤n31) => ?_)
    refine BP 6 0 [] [[o0],[(ov (i6 ((j+1:Nat):Int))),o0]] [Wr ((j:Int)+1) (((j+1:Nat):Int))] [(1,i6 ch),(FW y11 c ch i j aS2 cS2),(6,Ac i),(F6 c b4 o5),(EH c),(13,Ac i),(Hg y11 b15 o16),(Iu y11),(Mc j),(5,.slice ax29 ((Dw c ch false i++CZ i y11 ch false j++[(⟨(i:Int),(j:Int)⟩:GH)]).length) cp30)] rfl ⟨BQ,Ae⟩ ?_
    refine Cb [0,1,2,3,4] [(Ak w),(F5 z c),(FT y11 z c ch i j aS2 cS2),(BJ z 101 2 GH.cells (.slice ax29 ((Dw c ch false i++CZ i y11 ch false j++[(⟨(i:Int),(j:Int)⟩:GH)]).length) cp30) (Dw c ch false i++CZ i y11 ch false j++[(⟨(i:Int),(j:Int)⟩:GH)])),(GV n2 y11)] rfl rfl ?_
    have hTtrue:=LD (p:=i) (x:=y11) (k:=ch) (b:=true) (j:=j) (by rw[←hy22];exact Wv (by revert h24;cases y22.Source <;> simp))
    have hTfalse:=Qc (p:=i) (x:=y11) (k:=ch) (b:=false) (j:=j) (by rw[←hy22];exact XQ (by omega) (by revert h24;cases y22.Source <;> simp))
    refine H5 [1,4,5,6,11,12,13,19,20,21] [(1,i6 ch),(FW y11 c ch i j aS2 cS2),(5,.slice ax29 ((Dw c ch false i++CZ i y11 ch false j++[(⟨(i:Int),(j:Int)⟩:GH)]).length) cp30),(6,Ac i),(F6 c b4 o5),(EH c),(13,Ac i),(Fp y11),(Iu y11),(Mc j)] (by(try dsimp only[GV,F5,FU,FT,FX,Ig,Gh,FW,F6,Hg,EM,Fp,EH,Iu,KL,Mc]);simp only[ha17];rfl) ?_
    refine BD (fun a w' hs=>⟨y11.Am.xs.length - (j+1),by omega,n31,(j+1),aS2,cS2,ax29,cp30,rfl,by omega,by omega,by(try dsimp only[GV,F5,FU,FT,FX,Ig,Gh,FW,F6,Hg,EM,Fp,EH,Iu,KL,Mc]at hs ⊢);rw[hTtrue,hTfalse,←List.append_assoc];exact hs⟩)
   refine Az 10 0 [1] [[o0,(a1 5),o0,oT,o0],[(ov (i6 ((j+1:Nat):Int))),o0]] [Qb n13,NT y22.Channel ch,Wr ((j:Int)+1) (((j+1:Nat):Int))] [(1,i6 ch),(FW y11 c ch i j aS2 cS2),(Gh y11 c aD2 ch i j cD2),(6,Ac i),(F6 c b4 o5),(EH c),(13,Ac i),(Hg y11 b15 o16),(Iu y11),(Mc j)] rfl ⟨rfl,nt,BQ,Ae⟩ ?_
   refine Cb [0,1,2,3,4] [(Ak w),(F5 z c),(FT y11 z c ch i j aS2 cS2),(FU y11 z c aD2 ch i j cD2),(GV n2 y11)] rfl rfl ?_
   have hTtrue:=LD (p:=i) (x:=y11) (k:=ch) (b:=true) (j:=j) (by rw[←hy22];exact Xv (by omega))
   have hTfalse:=LD (p:=i) (x:=y11) (k:=ch) (b:=false) (j:=j) (by rw[←hy22];exact Xv (by omega))
   refine H5 [1,4,5,6,11,12,13,19,20,21] [(1,i6 ch),(FW y11 c ch i j aS2 cS2),(Gh y11 c aD2 ch i j cD2),(6,Ac i),(F6 c b4 o5),(EH c),(13,Ac i),(Fp y11),(Iu y11),(Mc j)] (by(try dsimp only[GV,F5,FU,FT,FX,Ig,Gh,FW,F6,Hg,EM,Fp,EH,Iu,KL,Mc]);simp only[ha17];rfl) ?_
   refine BD (fun a w' hs=>⟨y11.Am.xs.length - (j+1),by omega,(n13+1),(j+1),aS2,cS2,aD2,cD2,rfl,by omega,by omega,by(try dsimp only[GV,F5,FU,FT,FX,Ig,Gh,FW,F6,Hg,EM,Fp,EH,Iu,KL,Mc]at hs ⊢);rw[hTtrue,hTfalse];exact hs⟩)
  refine Az 13 0 [0] [[oF],[(ov (i6 ((i+1:Nat):Int))),o0]] [BF ((j:Int)<(y11.Am.xs.length:Int)),Wr ((i:Int)+1) (((i+1:Nat):Int))] [(1,i6 ch),(FW y11 c ch i j aS2 cS2),(Gh y11 c aD2 ch i j cD2),(F6 c b4 o5),(EH c),(13,i6 ((i+1:Nat):Int))] rfl ⟨bf,BQ,Ae⟩ ?_
  refine Cb [0,1,2,3] [(Ak w),(F5 z c),(FT y11 z c ch i j aS2 cS2),(FU y11 z c aD2 ch i j cD2)] rfl rfl ?_
  refine H5 [1,4,5,11,12,13] [(1,i6 ch),(FW y11 c ch i j aS2 cS2),(Gh y11 c aD2 ch i j cD2),(EM c),(EH c),(13,i6 ((i+1:Nat):Int))] (by(try dsimp only[GV,F5,FU,FT,FX,Ig,Gh,FW,F6,Hg,EM,Fp,EH,Iu,KL,Mc]);simp only[ha6];rfl) ?_
  refine BD (fun a w' hs=>⟨c.Aa.xs.length - (i+1),by omega,n13,(i+1),aS2,cS2,aD2,cD2,rfl,by omega,by omega,by(try dsimp only[GV,F5,FU,FT,FX,Ig,Gh,FW,F6,Hg,EM,Fp,EH,Iu,KL,Mc]at hs ⊢);rw[MW,MW,←hy11,show y11.Am.xs.length=j by omega];exact hs⟩)
 refine Az 15 0 [0] [[oF],[o0,o0,o0,o0]] [BF ((i:Int)<(c.Aa.xs.length:Int))] [(4,.slice aS ((Dw c ch true i).length) cS),(KL c ch i aD cD)] rfl ⟨bf,Ae⟩ ?_
 refine AA [] [] (.tuple #[.slice aS ((Dw c ch true i).length) cS,.slice aD ((Dw c ch false i).length) cD]) Ae ?_
 intro w33 hw33
 have e0:i=c.Aa.xs.length:=by omega
 subst e0
 refine⟨_,_,_,_,rfl,hz ▸ MI (fun _=>rfl) (hw33.at (i:=2) rfl) (by unfold CQ;omega),hz ▸ MI (fun _=>rfl) (hw33.at (i:=3) rfl) (by unfold CQ;omega),AO hw33⟩
section
variable (z:Nat)(c:Aj)(b11 o12:Nat)(b27 o28:Nat)
abbrev Nw:=bk z (Aj.arr c) 26
abbrev UH:DJ:=(30,.slice (some ⟨b11,o12,none⟩) c.Aa.xs.length c.Aa.cap)
abbrev Qe:DJ:=(42,.slice (some ⟨b27,o28,none⟩) c.Ag.xs.length c.Ag.cap)
abbrev Qz:DJ:=(30,.slice c.Aa.a c.Aa.xs.length c.Aa.cap)
abbrev Sr:DJ:=(42,.slice c.Ag.a c.Ag.xs.length c.Ag.cap)
abbrev Oc:=(31,Ac c.Aa.xs.length)
abbrev LG:=(43,Ac c.Ag.xs.length)
end
theorem Zby(w:World)(c:Aj)(hc:Aj.ok Any w c):Calls Tryd.prog 56 #[.agg (Aj.arr c)] w fun e w'=>e = .returned (.bool (EK c))∧CP (fun _=>False) w w':=by
 obtain⟨z,hz⟩:∃ z,z=w.heap.size:=⟨_,rfl⟩
 refine CE (args:=[.agg (Aj.arr c)]) 82 ⟨w,z,[(Ak w)]⟩ Tryd.func56 rfl (by kernel_rfl) (by kernel_rfl) (Ep hz) ?_
 have hlC:=hc.Ag.1.len
 refine DC [0] [(0,.agg (Aj.arr c))] ?_
 refine q_c 6 0 [] [[o0,o0]] [] [(1,pt z)] ⟨w,z+1,[(Ak w),(Nw z c)]⟩ rfl Ae ?_
 by_cases h1:(c.Kernel:Int)<0
 ·refine Az 9 0 [1] [[o0,(a1 1),oT,o0,o0,o0,o0,o0,o0],[o0]] [Qb z,BT ((c.Kernel:Int)<0)] [(2,.bool false)] rfl ⟨rfl,bt,Ae⟩ ?_
  refine AA [] [] (.bool false) Ae ?_
  intro w2 hw2
  refine⟨congrArg (fun b=>Ending.returned (Value.bool b)) (Eq.symm (?_:EK c=false)),AO hw2⟩
  exact PU (by omega)
 by_cases h3:(c.Kernel:Int)<1024
 ·by_cases h4:(8:Int)<(c.Aa.xs.length:Int)
  ·refine Az 9 0 [1] [[o0,(a1 1),oF,o0,o0,(a1 1),oF,o0,o0,o0,(a1 1),o0,oT,o0,o0,o0],[o0]] [Qb z,BF ((c.Kernel:Int)<0),Qb z,BF ((c.Kernel:Int)≥1024),Qb z,BT ((c.Aa.xs.length:Int) > 8)] [(2,.bool false)] rfl ⟨rfl,bf,rfl,bf,rfl,bt,Ae⟩ ?_
   refine AA [] [] (.bool false) Ae ?_
   intro w5 hw5
   refine⟨congrArg (fun b=>Ending.returned (Value.bool b)) (Eq.symm (?_:EK c=false)),AO hw5⟩
   exact PU (by omega)
  by_cases h6:(16:Int)<(c.Ag.xs.length:Int)
  ·refine Az 9 0 [1] [[o0,(a1 1),oF,o0,o0,(a1 1),oF,o0,o0,o0,(a1 1),o0,oF,o0,o0,o0,(a1 1),o0,oT,o0],[o0]] [Qb z,BF ((c.Kernel:Int)<0),Qb z,BF ((c.Kernel:Int)≥1024),Qb z,BF ((c.Aa.xs.length:Int) > 8),Qb z,BT ((c.Ag.xs.length:Int) > 16)] [(2,.bool false)] rfl ⟨rfl,bf,rfl,bf,rfl,bf,rfl,bt,Ae⟩ ?_
   refine AA [] [] (.bool false) Ae ?_
   intro w7 hw7
   refine⟨congrArg (fun b=>Ending.returned (Value.bool b)) (Eq.symm (?_:EK c=false)),AO hw7⟩
   exact PU (by omega)
  refine Az 12 0 [0] [[o0,(a1 1),oF,o0,o0,(a1 1),oF,o0,o0,o0,(a1 1),o0,oF,o0,o0,o0,(a1 1),o0,oF,o0],[o0,(a1 1),o0,o0]] [Qb z,BF ((c.Kernel:Int)<0),Qb z,BF ((c.Kernel:Int)≥1024),Qb z,BF ((c.Aa.xs.length:Int) > 8),Qb z,BF ((c.Ag.xs.length:Int) > 16),Qb z] [(1,pt z),(Qz c),(Oc c),(32,i6 0)] rfl ⟨rfl,bf,rfl,bf,rfl,bf,rfl,bf,rfl,Ae⟩ ?_
  refine Di (fun m a w'=>∃ (n9:Nat) (k:Nat),m=c.Aa.xs.length - k∧z+1≤n9∧(k≤c.Aa.xs.length)∧(∀ i,i<k→Ew c.Ag.xs.length (gd c.Aa.xs i)=true)∧St 82 [(1,pt z),(Qz c),(Oc c),(32,Ac k)] [] ⟨w,n9,[(Ak w),(Nw z c)]⟩ a w') (c.Aa.xs.length - 0) ?_ ?_
  ·intro a w' hs;exact⟨(z+1),0,rfl,Nat.le_refl _,Nat.zero_le _,fun i hi=>absurd hi (Nat.not_lt_zero i),hs⟩
  rintro m a w' ⟨n9,k,rfl,hn8,hkk,hp,hs⟩
  refine(?_:G Tryd.prog 82 [(1,pt z),(Qz c),(Oc c),(32,Ac k)] [] ⟨w,n9,[(Ak w),(Nw z c)]⟩ _ _ _) a w' hs
  clear hs a w'
  refine Ce ?_
  by_cases h10:(k:Int)<(c.Aa.xs.length:Int)
  ·refine Az 10 0 [1] [[oT]] [BT ((k:Int)<(c.Aa.xs.length:Int))] [(1,pt z),(Qz c),(Oc c),(32,Ac k),(33,.bool true)] rfl ⟨bt,Ae⟩ ?_
   obtain⟨b11,o12,ha13,hF15,hc14⟩:=(hc.Aa).1.all (show 0<c.Aa.xs.length by omega)
   replace ha13:c.Aa.a=some ⟨b11,o12,none⟩:=ha13
   refine MQ [(1,pt z),(UH c b11 o12),(Oc c),(32,Ac k),(33,.bool true)] (by(try dsimp only[Nw,UH,Qz,Oc]);simp only[ha13]) ?_
   have hc16:=hc14 k (show k<c.Aa.xs.length by omega)
   have he17:=(hc.Aa).2 k (show k<c.Aa.xs.length by omega)
   obtain⟨y18,hy18⟩:∃ y_,y_=gd c.Aa.xs k:=⟨_,rfl⟩
   rw[←hy18]at he17 hc16
   refine q_c 5 2 [] [[(oi k),(ol 0 (Ap.arr y18)),o0,(an 8 2)],[(an 7 1),(an 8 2)]] [Ci k,k<c.Aa.xs.length,BN,Fa w b11 (o12+k*8) (Ap.arr y18),Qb n9,Qb n9,Qb n9,Qb n9,Qb n9,Qb n9,Qb n9,Qb n9,Qb z,Qb z,Qb z,Qb z,Qb z,Qb z,Qb z,Qb n9,Qb n9,Qb n9,Qb n9,Qb n9,Qb n9,Qb n9,Qb n9] [(1,pt z),(UH c b11 o12),(Oc c),(32,Ac k),(36,.agg (Aj.arr c)),(37,.agg (Ap.arr y18))] ⟨w,n9+1,[(Ak w),(Nw z c),(bk n9 (Ap.arr y18) 41)]⟩ rfl ⟨rfl,(by omega),rfl,Dt hc16,rfl,rfl,rfl,rfl,rfl,rfl,rfl,rfl,rfl,rfl,rfl,rfl,rfl,rfl,rfl,rfl,rfl,rfl,rfl,rfl,rfl,rfl,rfl,Ae⟩ ?_
   refine Bf 74 #[.agg (Aj.arr c),.agg (Ap.arr y18)] (some 38) (.bool (Ew c.Ag.xs.length y18)) (fun w19 hw19=>S9 w19 c y18 (hc.ext (hw19.ext rfl) (fun _ h=>h)) (he17.ext (hw19.ext rfl) (fun _ h=>h))) (fun n20 (hn21:n9+1≤n20) => ?_)
   refine Dc [1,30,31,32,38] [(1,pt z),(UH c b11 o12),(Oc c),(32,Ac k),(38,.bool (Ew c.Ag.xs.length y18))] ?_
   by_cases h22:(Ew c.Ag.xs.length y18)=true
   ·refine BP 8 0 [0] [[(ov (.bool false))],[(ov (i6 ((k+1:Nat):Int))),o0]] [Value.bool (!(Ew c.Ag.xs.length y18))=Value.bool false,Wr ((k:Int)+1) (((k+1:Nat):Int))] [(1,pt z),(UH c b11 o12),(Oc c),(32,i6 ((k+1:Nat):Int))] rfl ⟨by simp[h22],BQ,Ae⟩ ?_
    refine Cb [0,1] [(Ak w),(Nw z c)] rfl rfl ?_
    refine H5 [1,30,31,32] [(1,pt z),(Qz c),(Oc c),(32,i6 ((k+1:Nat):Int))] (by(try dsimp only[Nw,UH,Qz,Oc]);simp only[ha13];rfl) ?_
    refine BD (fun a w' hs=>⟨c.Aa.xs.length - (k+1),by omega,n20,(k+1),rfl,by omega,by omega,upto hp (by rw[←hy18];exact h22),hs⟩)
   refine BP 8 0 [1] [[(ov (.bool true))],[o0]] [Value.bool (!(Ew c.Ag.xs.length y18))=Value.bool true] [(2,.bool false)] rfl ⟨by simp[h22],Ae⟩ ?_
   refine AA [] [] (.bool false) Ae ?_
   intro w23 hw23
   refine⟨congrArg (fun b=>Ending.returned (Value.bool b)) (Eq.symm (?_:EK c=false)),AO hw23⟩
   exact Zcn (k:=k) (by omega) (by rw[←hy18];exact Bool.eq_false_iff.2 h22)
  refine Az 16 0 [0] [[oF],[o0,(a1 1),o0,o0]] [BF ((k:Int)<(c.Aa.xs.length:Int)),Qb z] [(1,pt z),(Sr c),(LG c),(44,i6 0)] rfl ⟨bf,rfl,Ae⟩ ?_
  refine Di (fun m a w'=>∃ (n25:Nat) (k2:Nat),m=c.Ag.xs.length - k2∧n9≤n25∧(k2≤c.Ag.xs.length)∧(∀ i,i<k2→Nk c i=true)∧St 82 [(1,pt z),(Sr c),(LG c),(44,Ac k2)] [] ⟨w,n25,[(Ak w),(Nw z c)]⟩ a w') (c.Ag.xs.length - 0) ?_ ?_
  ·intro a w' hs;exact⟨n9,0,rfl,Nat.le_refl _,Nat.zero_le _,fun i hi=>absurd hi (Nat.not_lt_zero i),hs⟩
  rintro m a w' ⟨n25,k2,rfl,hn24,hkk2,hch,hs⟩
  refine(?_:G Tryd.prog 82 [(1,pt z),(Sr c),(LG c),(44,Ac k2)] [] ⟨w,n25,[(Ak w),(Nw z c)]⟩ _ _ _) a w' hs
  clear hs a w'
  refine Ce ?_
  by_cases h26:(k2:Int)<(c.Ag.xs.length:Int)
  ·refine Az 10 0 [1] [[oT]] [BT ((k2:Int)<(c.Ag.xs.length:Int))] [(1,pt z),(Sr c),(LG c),(44,Ac k2),(45,.bool true)] rfl ⟨bt,Ae⟩ ?_
   obtain⟨b27,o28,ha29,hF31,hc30⟩:=(hc.Ag).1.all (show 0<c.Ag.xs.length by omega)
   replace ha29:c.Ag.a=some ⟨b27,o28,none⟩:=ha29
   refine MQ [(1,pt z),(Qe c b27 o28),(LG c),(44,Ac k2),(45,.bool true)] (by(try dsimp only[Nw,UH,Qe,Qz,Sr,Oc,LG]);simp only[ha29]) ?_
   have hc32:=hc30 k2 (show k2<c.Ag.xs.length by omega)
   have he33:=(hc.Ag).2 k2 (show k2<c.Ag.xs.length by omega)
   obtain⟨y34,hy34⟩:∃ y_,y_=gd c.Ag.xs k2:=⟨_,rfl⟩
   rw[←hy34]at he33 hc32
   have hsb:=Ot y34;have hsp:=L9 y34;have hec1:=Sm c k2 true;have hec2:=Sm c k2 false
   refine q_c 5 2 [] [[o0,(oi k2),(ol 0 (AL.arr y34)),o0,o0,(an 3 2)],[(an 7 1),o0]] [Ci k2,k2<c.Ag.xs.length,BN,Fa w b27 (o28+k2*3) (AL.arr y34),Qb n25,Qb n25,Qb n25,Qb z,Qb z,Qb z,Qb z,Qb z,Qb z,Qb z] [(1,pt z),(Qe c b27 o28),(LG c),(44,Ac k2),(6,pt n25),(50,.agg (Aj.arr c)),(51,Ac k2)] ⟨w,n25+1,[(Ak w),(Nw z c),(bk n25 (AL.arr y34) 55)]⟩ rfl ⟨rfl,(by omega),rfl,Dt hc32,rfl,rfl,rfl,rfl,rfl,rfl,rfl,rfl,rfl,rfl,Ae⟩ ?_
   refine l_call [] [] 58 #[.agg (Aj.arr c),Ac k2] (some 52) Ae ?_
   intro w35 hw35
   refine(RJ w35 c (k2:Int) (hc.ext (hw35.ext rfl) (fun _ h=>h)) (by omega) (fun i hi=>OW (hp i (by omega)))).mono ?_
   rintro e w36 ⟨ax37,cp38,ax39,cp40,rfl,hSw36,hDw36,hkw36⟩
   have hnw36:n25+1≤w36.heap.size:=Fg hw35 hkw36
   rw[hw35.size]at hSw36 hDw36
   refine⟨_,_,rfl,hw35.Qi hkw36, ?_⟩
   refine BP 5 1 [] [[o0,o0,o0,o0,o0],[(an 3 2)]] [Qb n25,Qb n25,Qb n25] [(1,pt z),(Qe c b27 o28),(LG c),(44,Ac k2),(6,pt n25),(7,.slice ax37 ((CQ c (k2:Int) true).length) cp38),(8,.slice ax39 ((CQ c (k2:Int) false).length) cp40),(55,.agg (AL.arr y34))] rfl ⟨rfl,rfl,rfl,Ae⟩ ?_
   refine Bf 59 #[.agg (AL.arr y34)] (some 56) (i6 (BV y34)) (fun w41 hw41=>Q3 w41 y34 (he33.ext (hw41.ext rfl) (fun _ h=>h))) (fun n42 (hn43:w36.heap.size≤n42) => ?_)
   refine Dc [1,42,43,44,6,7,8,56] [(1,pt z),(Qe c b27 o28),(LG c),(44,Ac k2),(6,pt n25),(7,.slice ax37 ((CQ c (k2:Int) true).length) cp38),(8,.slice ax39 ((CQ c (k2:Int) false).length) cp40),(56,i6 (BV y34))] ?_
   by_cases h44:(BV y34:Int)=0
   ·refine BP 8 0 [1] [[oT,o0,o0],[o0]] [ET (BV y34) 0] [(2,.bool false)] rfl ⟨et,Ae⟩ ?_
    refine AA [] [] (.bool false) Ae ?_
    intro w45 hw45
    refine⟨congrArg (fun b=>Ending.returned (Value.bool b)) (Eq.symm (?_:EK c=false)),AO hw45⟩
    exact JQ (k:=k2) (by omega) (KW (by rw[←hy34];first | omega | (left;exact(L9 _).1 (by omega))))
   by_cases h46:(y34.Kind:Int)=1
   ·by_cases h47:(y34.Dn:Int)=0
    ·refine BP 6 0 [0] [[oF,o0,o0,(a1 2),oT,o0,o0,(a1 2),oF,o0,o0]] [EF (BV y34) 0,Qb n25,ET y34.Kind 1,Qb n25,NF y34.Dn 0] [(1,pt z),(Qe c b27 o28),(LG c),(44,Ac k2),(7,.slice ax37 ((CQ c (k2:Int) true).length) cp38),(8,.slice ax39 ((CQ c (k2:Int) false).length) cp40),(67,.bool false)] rfl ⟨ef,rfl,et,rfl,nf,Ae⟩ ?_
     by_cases h48:((((CQ c (k2:Int) true).length:Nat):Int):Int)=1
     ·by_cases h49:((((CQ c (k2:Int) false).length:Nat):Int):Int)<1
      ·refine Az 9 0 [1] [[o0,o0,oF,o0,o0,o0,oT,o0,o0,o0],[o0]] [NF (((CQ c (k2:Int) true).length:Nat):Int) 1,BT (((((CQ c (k2:Int) false).length:Nat):Int):Int)<1)] [(2,.bool false)] rfl ⟨nf,bt,Ae⟩ ?_
       refine AA [] [] (.bool false) Ae ?_
       intro w50 hw50
       refine⟨congrArg (fun b=>Ending.returned (Value.bool b)) (Eq.symm (?_:EK c=false)),AO hw50⟩
       exact JQ (k:=k2) (by omega) (KW (by rw[←hy34];first | omega | (left;exact(L9 _).1 (by omega))))
      by_cases h51:(4:Int)<(((CQ c (k2:Int) false).length:Nat):Int)
      ·refine Az 9 0 [1] [[o0,o0,oF,o0,o0,o0,oF,o0,o0,o0,o0,oT,o0],[o0]] [NF (((CQ c (k2:Int) true).length:Nat):Int) 1,BF (((((CQ c (k2:Int) false).length:Nat):Int):Int)<1),BT (((((CQ c (k2:Int) false).length:Nat):Int):Int) > 4)] [(2,.bool false)] rfl ⟨nf,bf,bt,Ae⟩ ?_
       refine AA [] [] (.bool false) Ae ?_
       intro w52 hw52
       refine⟨congrArg (fun b=>Ending.returned (Value.bool b)) (Eq.symm (?_:EK c=false)),AO hw52⟩
       exact JQ (k:=k2) (by omega) (KW (by rw[←hy34];first | omega | (left;exact(L9 _).1 (by omega))))
      refine Az 9 0 [0] [[o0,o0,oF,o0,o0,o0,oF,o0,o0,o0,o0,oF,o0],[(ov (i6 ((k2+1:Nat):Int))),o0]] [NF (((CQ c (k2:Int) true).length:Nat):Int) 1,BF (((((CQ c (k2:Int) false).length:Nat):Int):Int)<1),BF (((((CQ c (k2:Int) false).length:Nat):Int):Int) > 4),Wr ((k2:Int)+1) (((k2+1:Nat):Int))] [(1,pt z),(Qe c b27 o28),(LG c),(44,i6 ((k2+1:Nat):Int))] rfl ⟨nf,bf,bf,BQ,Ae⟩ ?_
      refine Cb [0,1] [(Ak w),(Nw z c)] rfl rfl ?_
      refine H5 [1,42,43,44] [(1,pt z),(Sr c),(LG c),(44,i6 ((k2+1:Nat):Int))] (by(try dsimp only[Nw,Qe,Qz,Sr,Oc,LG]);simp only[ha29];rfl) ?_
      refine BD (fun a w' hs=>⟨c.Ag.xs.length - (k2+1),by omega,n42,(k2+1),rfl,by omega,by omega,upto hch (WL (by rw[←hy34];intro e;exact absurd (hsp.2 e) (by omega)) (by rw[←hy34];omega) (by omega) (by omega)),hs⟩)
     refine Az 9 0 [1] [[o0,o0,oT,o0,o0,o0,o0],[o0]] [NT (((CQ c (k2:Int) true).length:Nat):Int) 1] [(2,.bool false)] rfl ⟨nt,Ae⟩ ?_
     refine AA [] [] (.bool false) Ae ?_
     intro w53 hw53
     refine⟨congrArg (fun b=>Ending.returned (Value.bool b)) (Eq.symm (?_:EK c=false)),AO hw53⟩
     exact JQ (k:=k2) (by omega) (KW (by rw[←hy34];first | omega | (left;exact(L9 _).1 (by omega))))
    refine BP 8 0 [1] [[oF,o0,o0,(a1 2),oT,o0,o0,(a1 2),oT,o0,o0],[o0]] [EF (BV y34) 0,Qb n25,ET y34.Kind 1,Qb n25,NT y34.Dn 0] [(2,.bool false)] rfl ⟨ef,rfl,et,rfl,nt,Ae⟩ ?_
    refine AA [] [] (.bool false) Ae ?_
    intro w54 hw54
    refine⟨congrArg (fun b=>Ending.returned (Value.bool b)) (Eq.symm (?_:EK c=false)),AO hw54⟩
    exact JQ (k:=k2) (by omega) (KW (by rw[←hy34];first | omega | (left;exact(L9 _).1 (by omega))))
   refine BP 6 0 [0] [[oF,o0,o0,(a1 2),oF,o0,o0,o0]] [EF (BV y34) 0,Qb n25,EF y34.Kind 1] [(1,pt z),(Qe c b27 o28),(LG c),(44,Ac k2),(7,.slice ax37 ((CQ c (k2:Int) true).length) cp38),(8,.slice ax39 ((CQ c (k2:Int) false).length) cp40),(67,.bool false)] rfl ⟨ef,rfl,ef,Ae⟩ ?_
   by_cases h55:((((CQ c (k2:Int) true).length:Nat):Int):Int)=1
   ·by_cases h56:((((CQ c (k2:Int) false).length:Nat):Int):Int)<1
    ·refine Az 9 0 [1] [[o0,o0,oF,o0,o0,o0,oT,o0,o0,o0],[o0]] [NF (((CQ c (k2:Int) true).length:Nat):Int) 1,BT (((((CQ c (k2:Int) false).length:Nat):Int):Int)<1)] [(2,.bool false)] rfl ⟨nf,bt,Ae⟩ ?_
     refine AA [] [] (.bool false) Ae ?_
     intro w57 hw57
     refine⟨congrArg (fun b=>Ending.returned (Value.bool b)) (Eq.symm (?_:EK c=false)),AO hw57⟩
     exact JQ (k:=k2) (by omega) (KW (by rw[←hy34];first | omega | (left;exact(L9 _).1 (by omega))))
    by_cases h58:(4:Int)<(((CQ c (k2:Int) false).length:Nat):Int)
    ·refine Az 9 0 [1] [[o0,o0,oF,o0,o0,o0,oF,o0,o0,o0,o0,oT,o0],[o0]] [NF (((CQ c (k2:Int) true).length:Nat):Int) 1,BF (((((CQ c (k2:Int) false).length:Nat):Int):Int)<1),BT (((((CQ c (k2:Int) false).length:Nat):Int):Int) > 4)] [(2,.bool false)] rfl ⟨nf,bf,bt,Ae⟩ ?_
     refine AA [] [] (.bool false) Ae ?_
     intro w59 hw59
     refine⟨congrArg (fun b=>Ending.returned (Value.bool b)) (Eq.symm (?_:EK c=false)),AO hw59⟩
     exact JQ (k:=k2) (by omega) (KW (by rw[←hy34];first | omega | (left;exact(L9 _).1 (by omega))))
    refine Az 9 0 [0] [[o0,o0,oF,o0,o0,o0,oF,o0,o0,o0,o0,oF,o0],[(ov (i6 ((k2+1:Nat):Int))),o0]] [NF (((CQ c (k2:Int) true).length:Nat):Int) 1,BF (((((CQ c (k2:Int) false).length:Nat):Int):Int)<1),BF (((((CQ c (k2:Int) false).length:Nat):Int):Int) > 4),Wr ((k2:Int)+1) (((k2+1:Nat):Int))] [(1,pt z),(Qe c b27 o28),(LG c),(44,i6 ((k2+1:Nat):Int))] rfl ⟨nf,bf,bf,BQ,Ae⟩ ?_
    refine Cb [0,1] [(Ak w),(Nw z c)] rfl rfl ?_
    refine H5 [1,42,43,44] [(1,pt z),(Sr c),(LG c),(44,i6 ((k2+1:Nat):Int))] (by(try dsimp only[Nw,Qe,Qz,Sr,Oc,LG]);simp only[ha29];rfl) ?_
    refine BD (fun a w' hs=>⟨c.Ag.xs.length - (k2+1),by omega,n42,(k2+1),rfl,by omega,by omega,upto hch (WL (by rw[←hy34];intro e;exact absurd (hsp.2 e) (by omega)) (by rw[←hy34];omega) (by omega) (by omega)),hs⟩)
   refine Az 9 0 [1] [[o0,o0,oT,o0,o0,o0,o0],[o0]] [NT (((CQ c (k2:Int) true).length:Nat):Int) 1] [(2,.bool false)] rfl ⟨nt,Ae⟩ ?_
   refine AA [] [] (.bool false) Ae ?_
   intro w60 hw60
   refine⟨congrArg (fun b=>Ending.returned (Value.bool b)) (Eq.symm (?_:EK c=false)),AO hw60⟩
   exact JQ (k:=k2) (by omega) (KW (by rw[←hy34];first | omega | (left;exact(L9 _).1 (by omega))))
  refine Az 15 0 [0] [[oF],[o0]] [BF ((k2:Int)<(c.Ag.xs.length:Int))] [(2,.bool true)] rfl ⟨bf,Ae⟩ ?_
  refine AA [] [] (.bool true) Ae ?_
  intro w61 hw61
  refine⟨congrArg (fun b=>Ending.returned (Value.bool b)) (Eq.symm (?_:EK c=true)),AO hw61⟩
  exact Zcv (by omega) (by omega) (by omega) (fun i hi=>hp i (by omega)) (fun i hi=>hch i (by omega))
 refine Az 9 0 [1] [[o0,(a1 1),oF,o0,o0,(a1 1),oT,o0,o0,o0,o0,o0],[o0]] [Qb z,BF ((c.Kernel:Int)<0),Qb z,BT ((c.Kernel:Int)≥1024)] [(2,.bool false)] rfl ⟨rfl,bf,rfl,bt,Ae⟩ ?_
 refine AA [] [] (.bool false) Ae ?_
 intro w62 hw62
 refine⟨congrArg (fun b=>Ending.returned (Value.bool b)) (Eq.symm (?_:EK c=false)),AO hw62⟩
 exact PU (by omega)
def Px(g:A8)(n:Nat):List Nat:=(List.range n).map (fun(k:Nat)=>((g.Bj+(k:Int)) / 16).toNat)
def G9(x:Ap)(i:Nat):List Nat:=(List.range i).flatMap (fun r=>Px (gd x.Af.xs r) (gd x.Af.xs r).AV.toNat)
def KN(l:List Nat):Array Value:=((List.range 16).map (fun t=>Value.bool (l.contains t))).toArray
theorem X0(l:List Nat):(KN l).size=16:=by simp[KN]
theorem ZaP(l:List Nat){t:Nat}(h:t<16):(KN l)[t]? = some (Value.bool (l.contains t)):=by simp[KN,h]
theorem mark_push(l:List Nat)(t:Nat):KN (l++[t])=(KN l).setIfInBounds t (.bool true):=by
 apply Array.ext_getElem?
 intro i
 rw[Array.getElem?_setIfInBounds,X0]
 by_cases hi:i<16
 ·rw[ZaP _ hi,ZaP _ hi]
  by_cases e:t=i
  ·subst e;simp[hi]
  rw[if_neg e]
  simp[Ne.symm e]
 have h1:∀ l,(KN l)[i]? = none:=fun l=>Array.getElem?_eq_none (by rw[X0];omega)
 rw[h1,h1]
 by_cases e:t=i
 ·subst e;simp[hi]
 simp[e]
theorem Zdb{g:A8}{k:Nat}:Px g (k+1)=Px g k++[((g.Bj+(k:Int)) / 16).toNat]:=by
 unfold Px;rw[List.range_succ,List.map_append];rfl
theorem Zdh{x:Ap}{i:Nat}:G9 x (i+1)=G9 x i++Px (gd x.Af.xs i) (gd x.Af.xs i).AV.toNat:=by
 unfold G9;rw[List.range_succ,List.flatMap_append];simp
def Jq(x:Ap):Nat:=(List.range 16).countP (fun t=>(G9 x x.Af.xs.length).contains t)
theorem Vk{p:Nat→Bool}{j:Nat}:(List.range (j+1)).countP p=(List.range j).countP p+if p j then 1 else 0:=by
 rw[List.range_succ,List.countP_append];simp[List.countP_singleton]
theorem UN(x:Ap):Jq x≤16:=Nat.le_trans List.countP_le_length (by simp)
theorem blk_row{b:Nat}{c:Array Value}{t:TypeId}{r:Bool}:RowOf (.blk b (.cells c t (0,0)) r) b 0 c:=fun w hw i v hv=>by
 have hw':w.heap[b]? = some (.cells c t (0,0)):=hw
 simp only[World.cell?,hw',Nat.zero_add];simpa using hv
section
variable (z:Nat)(x:Ap)(n2:Nat)(y11:A8)(j b4 o5:Nat)(w:World)
abbrev MM:=bk z (Ap.arr x) 41
abbrev Q9:=bk n2 (A8.arr y11) 49
abbrev ZC:=(7,i6 ((((List.range j).countP (fun t=>(G9 x x.Af.xs.length).contains t))+1:Nat):Int))
abbrev UG:=(7,i6 (((List.range j).countP (fun t=>(G9 x x.Af.xs.length).contains t):Nat):Int))
abbrev O0:DJ:=(11,.slice (some ⟨b4,o5,none⟩) x.Af.xs.length x.Af.cap)
abbrev Pq:DJ:=(11,.slice x.Af.a x.Af.xs.length x.Af.cap)
abbrev Lj:=(12,Ac x.Af.xs.length)
abbrev RZ:DJ:=(30,.agg (KN (G9 x x.Af.xs.length)))
abbrev Ll:=(3,pt (z+1))
abbrev Zae:=[(Ak w),(MM z x),(bk (z+1) (KN (G9 x x.Af.xs.length)) 114)]
end
theorem ZcC(w:World)(x:Ap)(hx:Ap.ok Any w x)(hr:∀ i,i<x.Af.xs.length→KO (gd x.Af.xs i)=true):Calls Tryd.prog 61 #[.agg (Ap.arr x)] w fun e w'=>e = .returned (.int .i64 (Jq x:Nat))∧CP (fun _=>False) w w':=by
 obtain⟨z,hz⟩:∃ z,z=w.heap.size:=⟨_,rfl⟩
 refine CE (args:=[.agg (Ap.arr x)]) 39 ⟨w,z,[(Ak w)]⟩ Tryd.func61 rfl (by kernel_rfl) (by kernel_rfl) (Ep hz) ?_
 have hlR:=hx.Af.1.len
 refine DC [0] [(0,.agg (Ap.arr x))] ?_
 refine q_c 14 0 [] [[o0,o0],[o0],[o0,(a1 1),o0,o0]] [Qb z] [(Ll z),(Pq x),(Lj x),(13,i6 0)] ⟨w,z+2,[(Ak w),(MM z x),(bk (z+1) #[.bool false,.bool false,.bool false,.bool false,.bool false,.bool false,.bool false,.bool false,.bool false,.bool false,.bool false,.bool false,.bool false,.bool false,.bool false,.bool false] 114)]⟩ rfl ⟨rfl,Ae⟩ ?_
 refine Di (fun m a w'=>∃ (n2:Nat) (i:Nat),m=x.Af.xs.length - i∧z+2≤n2∧(i≤x.Af.xs.length)∧St 39 [(Ll z),(Pq x),(Lj x),(13,Ac i)] [] ⟨w,n2,[(Ak w),(MM z x),(bk (z+1) (KN (G9 x i)) 114)]⟩ a w') (x.Af.xs.length - 0) ?_ ?_
 ·intro a w' hs;exact⟨(z+2),0,rfl,Nat.le_refl _,Nat.zero_le _,hs⟩
 rintro m a w' ⟨n2,i,rfl,hn1,hki,hs⟩
 refine(?_:G Tryd.prog 39 [(Ll z),(Pq x),(Lj x),(13,Ac i)] [] ⟨w,n2,[(Ak w),(MM z x),(bk (z+1) (KN (G9 x i)) 114)]⟩ _ _ _) a w' hs
 clear hs a w'
 refine Ce ?_
 by_cases h3:(i:Int)<(x.Af.xs.length:Int)
 ·refine Az 10 0 [1] [[oT]] [BT ((i:Int)<(x.Af.xs.length:Int))] [(Ll z),(Pq x),(Lj x),(13,Ac i),(14,.bool true)] rfl ⟨bt,Ae⟩ ?_
  obtain⟨b4,o5,ha6,hF8,hc7⟩:=(hx.Af).1.all (show 0<x.Af.xs.length by omega)
  replace ha6:x.Af.a=some ⟨b4,o5,none⟩:=ha6
  refine MQ [(Ll z),(O0 x b4 o5),(Lj x),(13,Ac i),(14,.bool true)] (by(try dsimp only[MM,O0,Pq,Lj,Ll]);simp only[ha6]) ?_
  have hc9:=hc7 i (show i<x.Af.xs.length by omega)
  have he10:=(hx.Af).2 i (show i<x.Af.xs.length by omega)
  obtain⟨y11,hy11⟩:∃ y_,y_=gd x.Af.xs i:=⟨_,rfl⟩
  rw[←hy11]at he10 hc9
  have hrg:=hr i (by omega);rw[←hy11]at hrg;unfold KO at hrg;rw[decide_eq_true_eq]at hrg
  refine q_c 8 0 [] [[(oi i),(ol 0 (A8.arr y11)),o0,(an 4 3)],[o0,(a1 3),o0]] [Ci i,i<x.Af.xs.length,BN,Fa w b4 (o5+i*4) (A8.arr y11),Qb n2,Qb n2,Qb n2,Qb n2,Qb n2] [(Ll z),(5,pt n2),(O0 x b4 o5),(Lj x),(13,Ac i),(18,i6 y11.AV),(19,i6 0)] ⟨w,n2+1,[(Ak w),(MM z x),(bk (z+1) (KN (G9 x i)) 114),(Q9 n2 y11)]⟩ rfl ⟨rfl,(by omega),rfl,Dt hc9,rfl,rfl,rfl,rfl,rfl,Ae⟩ ?_
  refine Di (fun m a w'=>∃ (n13:Nat) (k:Nat),m=y11.AV.toNat - k∧n2+1≤n13∧(k≤y11.AV.toNat)∧St 39 [(Ll z),(5,pt n2),(O0 x b4 o5),(Lj x),(13,Ac i),(18,i6 y11.AV),(19,Ac k)] [] ⟨w,n13,[(Ak w),(MM z x),(bk (z+1) (KN (G9 x i++Px y11 k)) 114),(Q9 n2 y11)]⟩ a w') (y11.AV.toNat - 0) ?_ ?_
  ·intro a w' hs;exact⟨(n2+1),0,rfl,Nat.le_refl _,Nat.zero_le _,by(try dsimp only[MM,Q9,O0,Pq,Lj,Ll]at hs ⊢);rw[show Px y11 0=[]from rfl,List.append_nil];exact hs⟩
  rintro m a w' ⟨n13,k,rfl,hn12,hkk,hs⟩
  refine(?_:G Tryd.prog 39 [(Ll z),(5,pt n2),(O0 x b4 o5),(Lj x),(13,Ac i),(18,i6 y11.AV),(19,Ac k)] [] ⟨w,n13,[(Ak w),(MM z x),(bk (z+1) (KN (G9 x i++Px y11 k)) 114),(Q9 n2 y11)]⟩ _ _ _) a w' hs
  clear hs a w'
  refine Ce ?_
  by_cases h14:(k:Int)<y11.AV
  ·refine q_c 19 0 [1] [[oT],[o0,o0],[o0,(a1 3),o0,(ov (i6 (y11.Bj+(k:Int)))),(ov (i6 ((y11.Bj+(k:Int)) / 16))),(oi (((y11.Bj+(k:Int)) / 16).toNat)),(oa [.atv 2 undef])],[(ov (i6 ((k+1:Nat):Int))),o0]] [BT ((k:Int)<y11.AV),Qb n2,Wr ((y11.Bj:Int)+(k:Int)) (y11.Bj+(k:Int)),Wr (Int.tdiv (y11.Bj+(k:Int)) 16) ((y11.Bj+(k:Int)) / 16),((y11.Bj+(k:Int)) / 16:Int)=((((y11.Bj+(k:Int)) / 16).toNat:Nat):Int),((y11.Bj+(k:Int)) / 16).toNat<16,BN,BN,Qb (z+1),0+(((y11.Bj+(k:Int)) / 16).toNat)<(KN (G9 x i++Px y11 k)).size,Wr ((k:Int)+1) (((k+1:Nat):Int))] [(Ll z),(5,pt n2),(O0 x b4 o5),(Lj x),(13,Ac i),(18,i6 y11.AV),(19,i6 ((k+1:Nat):Int))] ⟨w,n13,[(Ak w),(MM z x),(Ch.blk (z+1) (.cells ((KN (G9 x i++Px y11 k)).setIfInBounds (0+(((y11.Bj+(k:Int)) / 16).toNat)) (.bool true)) 114 (0,0)) true),(Q9 n2 y11)]⟩ rfl ⟨bt,rfl,BQ,congrArg (Value.int .i64) (Pn (by omega) (by omega) (by omega)),(by omega),(by omega),rfl,rfl,rfl,(by rw[X0];omega),BQ,Ae⟩ ?_
   refine BD (fun a w' hs=>⟨y11.AV.toNat - (k+1),by omega,n13,(k+1),rfl,by omega,by omega,by(try dsimp only[MM,Q9,O0,Pq,Lj,Ll]at hs ⊢);rw[Zdb,←List.append_assoc,mark_push];simpa only[Nat.zero_add]using hs⟩)
  refine Az 13 0 [0] [[oF],[(ov (i6 ((i+1:Nat):Int))),o0]] [BF ((k:Int)<y11.AV),Wr ((i:Int)+1) (((i+1:Nat):Int))] [(Ll z),(O0 x b4 o5),(Lj x),(13,i6 ((i+1:Nat):Int))] rfl ⟨bf,BQ,Ae⟩ ?_
  refine Cb [0,1,2] [(Ak w),(MM z x),(bk (z+1) (KN (G9 x i++Px y11 k)) 114)] rfl rfl ?_
  refine H5 [3,11,12,13] [(Ll z),(Pq x),(Lj x),(13,i6 ((i+1:Nat):Int))] (by(try dsimp only[MM,Q9,O0,Pq,Lj,Ll]);simp only[ha6];rfl) ?_
  refine BD (fun a w' hs=>⟨x.Af.xs.length - (i+1),by omega,n13,(i+1),rfl,by omega,by omega,by(try dsimp only[MM,Q9,O0,Pq,Lj,Ll]at hs ⊢);rw[Zdh,←hy11,show y11.AV.toNat=k by omega];exact hs⟩)
 refine Az 20 0 [0] [[oF],[o0],[⟨.row 2 (KN (G9 x i)),none⟩,o0]] [BF ((i:Int)<(x.Af.xs.length:Int)),RowOf (bk (z+1) (KN (G9 x i)) 114) (z+1) 0 (KN (G9 x i))] [(7,i6 0),(30,.agg (KN (G9 x i))),(31,i6 0)] rfl ⟨bf,blk_row,Ae⟩ ?_
 have e0:i=x.Af.xs.length:=by omega
 subst e0
 refine Di (fun m a w'=>∃ (n16:Nat) (j:Nat),m=16 - j∧n2≤n16∧(j≤16)∧St 39 [(UG x j),(RZ x),(31,Ac j)] [] ⟨w,n16,(Zae z x w)⟩ a w') (16 - 0) ?_ ?_
 ·intro a w' hs;exact⟨n2,0,rfl,Nat.le_refl _,Nat.zero_le _,hs⟩
 rintro m a w' ⟨n16,j,rfl,hn15,hkj,hs⟩
 refine(?_:G Tryd.prog 39 [(UG x j),(RZ x),(31,Ac j)] [] ⟨w,n16,(Zae z x w)⟩ _ _ _) a w' hs
 clear hs a w'
 have hcl:(List.range j).countP (fun t=>(G9 x x.Af.xs.length).contains t)≤j:=Nat.le_trans List.countP_le_length (by simp)
 refine Ce ?_
 by_cases h17:(j:Int)<16
 ·refine Az 17 0 [1] [[oT],[⟨.aidx j (.bool ((G9 x x.Af.xs.length).contains j)),none⟩,o0],[o0]] [BT ((j:Int)<16),Ci j,j<16,((KN (G9 x x.Af.xs.length)):Array Value)[Gi 1 j]? = some (.bool ((G9 x x.Af.xs.length).contains j))] [(UG x j),(RZ x),(31,Ac j),(34,.bool ((G9 x x.Af.xs.length).contains j))] rfl ⟨bt,rfl,(by omega),(ZaP (t:=j) _ (by omega)),Ae⟩ ?_
  by_cases h18:((G9 x x.Af.xs.length).contains j)=true
  ·refine Az 7 0 [3] [[o0,(ov (i6 ((((List.range j).countP (fun t=>(G9 x x.Af.xs.length).contains t))+1:Nat):Int))),o0],[(ov (i6 ((j+1:Nat):Int))),o0]] [Value.bool ((G9 x x.Af.xs.length).contains j)=Value.bool true,Wr (((((List.range j).countP (fun t=>(G9 x x.Af.xs.length).contains t):Nat):Int):Int)+1) (((((List.range j).countP (fun t=>(G9 x x.Af.xs.length).contains t))+1:Nat):Int)),Wr ((j:Int)+1) (((j+1:Nat):Int))] [(ZC x j),(RZ x),(31,i6 ((j+1:Nat):Int))] rfl ⟨(congrArg Value.bool h18),BQ,BQ,Ae⟩ ?_
   have hT:=Vk (p:=fun t=>(G9 x x.Af.xs.length).contains t) (j:=j)
   simp only[h18,if_true,if_false,Nat.add_zero]at hT
   refine BK [7,30,31] [(ZC x j),(RZ x),(31,i6 ((j+1:Nat):Int))] ?_
   refine BD (fun a w' hs=>⟨16 - (j+1),by omega,n16,(j+1),rfl,by omega,by omega,by(try dsimp only[MM,Q9,ZC,UG,O0,Pq,Lj,RZ,Ll,Zae]at hs ⊢);rw[hT];exact hs⟩)
  refine Az 6 0 [2] [[(ov (i6 ((j+1:Nat):Int))),o0]] [Value.bool ((G9 x x.Af.xs.length).contains j)=Value.bool false,Wr ((j:Int)+1) (((j+1:Nat):Int))] [(UG x j),(RZ x),(31,i6 ((j+1:Nat):Int))] rfl ⟨(congrArg Value.bool (Bool.eq_false_iff.2 h18)),BQ,Ae⟩ ?_
  have hT:=Vk (p:=fun t=>(G9 x x.Af.xs.length).contains t) (j:=j)
  simp only[(Bool.eq_false_iff.2 h18),Bool.false_eq_true,if_true,if_false,Nat.add_zero]at hT
  refine BK [7,30,31] [(UG x j),(RZ x),(31,i6 ((j+1:Nat):Int))] ?_
  refine BD (fun a w' hs=>⟨16 - (j+1),by omega,n16,(j+1),rfl,by omega,by omega,by(try dsimp only[MM,Q9,ZC,UG,O0,Pq,Lj,RZ,Ll,Zae]at hs ⊢);rw[hT];exact hs⟩)
 refine Az 15 0 [0] [[oF],[o0,o0]] [BF ((j:Int)<16)] [(2,i6 (((List.range j).countP (fun t=>(G9 x x.Af.xs.length).contains t):Nat):Int))] rfl ⟨bf,Ae⟩ ?_
 refine AA [] [] (i6 (((List.range j).countP (fun t=>(G9 x x.Af.xs.length).contains t):Nat):Int)) Ae ?_
 intro w19 hw19
 refine⟨congrArg (fun n=>Ending.returned (i6 n)) (?_:((((List.range j).countP (fun t=>(G9 x x.Af.xs.length).contains t):Nat):Int):Int)=(Jq x:Int)),AO hw19⟩
 rw[show j=16 by omega];rfl
open Go Go.RowKit Go.Proofs.YtnjhekfgmbpmlaaDoor.Eng Go.Proofs.YtnjhekfgmbpmlaaDoor.Mem
def Dp(c:Aj)(i:Nat):Int:=c.Kernel*16+2+24*(i:Int)
def Qn(c:Aj)(i:Nat):Aw:=⟨Dp c i,Dp c i+2,Dp c i+2+17,0,⟨none,0,[]⟩⟩
def Jc(c:Aj)(i:Nat):List Aw:=(List.range i).map (Qn c)
theorem Zb1{c:Aj}{i:Nat}:Jc c (i+1)=Jc c i++[Qn c i]:=by unfold Jc;rw[List.range_succ,List.map_append];rfl
theorem X9{c:Aj}{i:Nat}:(Jc c i).length=i:=by simp[Jc]
theorem ZbK{β:Type}[Inhabited β]{f:Nat→β}{n i:Nat}(h:i<n):gd ((List.range n).map f) i=f i:=by
 rw[F9 (by simpa using h)];simp
def Kw(c:Aj)(k:Nat):Nat:=(CQ c (k:Int) false).length
def cLen(c:Aj)(k:Nat):Int:=2+BV (gd c.Ag.xs k)+(Kw c k:Int)*portOf (gd c.Ag.xs k)
def Dl(c:Aj):Nat→Int
 | 0=>Dp c c.Aa.xs.length
 | k+1=>Dl c k+cLen c k
def IR(c:Aj)(k j:Nat):Int:=Dl c k+2+BV (gd c.Ag.xs k)+(j:Int)*portOf (gd c.Ag.xs k)
def QA(c:Aj)(k d:Nat):BO:=⟨(gd (CQ c (k:Int) false) d).partition,(gd (CQ c (k:Int) false) d).port,IR c k d⟩
def FD(c:Aj)(k j:Nat):List BO:=(List.range j).map (QA c k)
theorem Xu{c:Aj}{k j:Nat}:FD c k (j+1)=FD c k j++[QA c k j]:=by unfold FD;rw[List.range_succ,List.map_append];rfl
theorem Vs{c:Aj}{k j:Nat}:(FD c k j).length=j:=by simp[FD]
theorem Zc5{c:Aj}{k j:Nat}:IR c k (j+1)=IR c k j+portOf (gd c.Ag.xs k):=by
 unfold IR;rw[show((j+1:Nat):Int)=(j:Int)+1 from by omega,Int.add_mul];omega
theorem Zc6{c:Aj}{k:Nat}:Dl c (k+1)=IR c k (Kw c k):=by unfold IR;rw[Dl,cLen];omega
def Ku(c:Aj)(k:Nat)(s:Sl BO):AC:=⟨Dl c k,Dl c k+2,(gd (CQ c (k:Int) true) 0).partition,(gd (CQ c (k:Int) true) 0).port,s⟩
def Ns(c:Aj):Int:=(Dl c c.Ag.xs.length+16 - 1) / 16
def Et(c:Aj):Nat→Int
 | 0=>Ns c
 | i+1=>Et c i+1+(Jq (gd c.Aa.xs i):Int)
def Gs(c:Aj)(i n:Nat):List Int:=(List.range n).map (fun(k:Nat)=>Et c i+1+(k:Int))
theorem YO{c:Aj}{i n:Nat}:Gs c i (n+1)=Gs c i n++[Et c i+1+(n:Int)]:=by unfold Gs;rw[List.range_succ,List.map_append];rfl
theorem WS{c:Aj}{i n:Nat}:(Gs c i n).length=n:=by simp[Gs]
def Hq(c:Aj)(i:Nat)(s:Sl Int):Aw:=⟨Dp c i,Dp c i+2,Dp c i+2+17,Et c i,s⟩
structure Fine(c:Aj):Prop where
 kn:0≤c.Kernel∧c.Kernel<1024
 pn:c.Aa.xs.length≤8
 cn:c.Ag.xs.length≤16
 parts:∀ i,i<c.Aa.xs.length→Ew c.Ag.xs.length (gd c.Aa.xs i)=true
 chans:∀ i,i<c.Ag.xs.length→Nk c i=true
theorem Wp{c:Aj}(h:EK c=true):Fine c:=by
 unfold EK at h
 simp only[Bool.and_eq_true,decide_eq_true_eq,List.all_eq_true,List.mem_range]at h
 exact⟨h.1.1.1.1,h.1.1.1.2,h.1.1.2,fun i hi=>h.1.2 _ (by rw[F9 hi];exact List.getElem_mem hi),h.2⟩
theorem Fine.XP{c:Aj}(h:Fine c){k:Nat}(hk:k<c.Ag.xs.length):(CQ c (k:Int) true).length=1∧1≤Kw c k∧Kw c k≤4:=by
 have:=h.chans k hk
 unfold Nk at this
 simp only[Bool.and_eq_true,decide_eq_true_eq]at this
 have e1:=Sm c k true
 have e2:=Sm c k false
 unfold Kw
 omega
theorem ZaQ{c:Aj}(h:Fine c){k:Nat}(hk:k<c.Ag.xs.length):2≤cLen c k∧cLen c k≤695:=by
 have h1:=Ot (gd c.Ag.xs k)
 have h2:=U0 (gd c.Ag.xs k)
 have h3:=h.XP hk
 unfold cLen
 have h4:=Int.mul_nonneg (show(0:Int)≤(Kw c k:Int)by omega) h2.1
 have h5:=Int.mul_le_mul (show(Kw c k:Int)≤4 by omega) h2.2 h2.1 (by omega)
 omega
theorem UT{c:Aj}(h:Fine c):∀ (k:Nat),k≤c.Ag.xs.length→Dp c c.Aa.xs.length≤Dl c k∧Dl c k≤Dp c c.Aa.xs.length+695*k
 | 0,_=>by simp[Dl]
 | k+1,hk=>by
  have h1:=UT h k (by omega)
  have h2:=ZaQ h (show k<c.Ag.xs.length by omega)
  rw[Dl];omega
theorem Zcg{c:Aj}(h:Fine c){k j:Nat}(hk:k<c.Ag.xs.length)(hj:j≤4):Dl c k≤IR c k j∧IR c k j≤Dl c k+695:=by
 have h1:=Ot (gd c.Ag.xs k)
 have h2:=U0 (gd c.Ag.xs k)
 unfold IR
 have h4:=Int.mul_nonneg (show(0:Int)≤(j:Int)by omega) h2.1
 have h5:=Int.mul_le_mul (show(j:Int)≤4 by omega) h2.2 h2.1 (by omega)
 omega
theorem frame0_bd{c:Aj}(h:Fine c):0≤Ns c∧Ns c≤2000:=by
 have h1:=UT h _ (Nat.le_refl _)
 have h2:=h.kn;have h3:=h.pn;have h4:=h.cn
 unfold Ns
 unfold Dp at h1
 omega
theorem SA{c:Aj}(h:Fine c):∀ (i:Nat),i≤c.Aa.xs.length→0≤Et c i∧Et c i≤2000+17*i
 | 0,_=>by have:=frame0_bd h;simp only[Et];omega
 | i+1,hi=>by
  have h1:=SA h i (by omega)
  have h2:=UN (gd c.Aa.xs i)
  rw[Et];omega
theorem Za1{α:Type}[Inhabited α]{xs:List α}{y:α}:gd (xs++[y]) xs.length=y:=by rw[F9 (by simp)];simp
theorem MK{α:Type}[Inhabited α]{xs:List α}{y:α}{q:Nat}(h:q<xs.length):gd (xs++[y]) q=gd xs q:=by
 rw[F9 h,F9 (by simp;omega),List.getElem_append_left h]
theorem JY{α:Type}[Inhabited α]{xs:List α}{y:α}{q:Nat}(h:q<xs.length):gd (xs.set q y) q=y:=by rw[F9 (by simpa using h)];simp
theorem KA{α:Type}[Inhabited α]{xs:List α}{y:α}{q p:Nat}(h:q≠p)(hp:p<xs.length):gd (xs.set q y) p=gd xs p:=by rw[F9 (by simpa using hp),F9 hp,List.getElem_set_ne h]
theorem TN{α:Type}{xs:List α}{y:α}{i:Nat}(h:i<xs.length):(xs.set i y).take (i+1)=xs.take i++[y]:=by
 rw[List.take_succ_eq_append_getElem (by simpa using h),List.getElem_set_self]
 rw[List.take_set_of_le (Nat.le_refl i)]
theorem chans_push{c:Aj}{cs:List AC}{k:Nat}(hl:cs.length=k)(h:∀ q,q<k→∃ a cp,gd cs q=Ku c q ⟨a,cp,FD c q (Kw c q)⟩){y:AC}{a:Option Addr}{cp:Nat}(hy:y=Ku c k ⟨a,cp,FD c k (Kw c k)⟩) :
   ∀ q,q<k+1→∃ a cp,gd (cs++[y]) q=Ku c q ⟨a,cp,FD c q (Kw c q)⟩:=by
 intro q hq
 by_cases e:q=k
 · subst e;subst hl;exact⟨a,cp,by rw[Za1];exact hy⟩
 · rw[MK (by omega)];exact h q (by omega)
theorem Zc7{α:Type}[Inhabited α]{cells:α→List Value}{sz:Nat}{ok:(Nat→Prop)→World→α→Prop}{F:Nat→Prop}{W:World}:Je cells sz ok F W ⟨none,0,[]⟩ :=
 ⟨⟨Nat.zero_le _,Nat.le_refl _,fun h=>absurd rfl h⟩,fun i hi=>absurd hi (Nat.not_lt_zero i)⟩
structure Yj(c:Aj)(L:IA):Prop where
 bar:L.Ut=c.Kernel*16
 fin:L.End=Et c c.Aa.xs.length
 pl:L.Aa.xs.length=c.Aa.xs.length
 ps:∀ p,p<c.Aa.xs.length→∃ a cp,gd L.Aa.xs p=Hq c p ⟨a,cp,Gs c p (Jq (gd c.Aa.xs p))⟩
 cl:L.Ag.xs.length=c.Ag.xs.length
 cs:∀ k,k<c.Ag.xs.length→∃ a cp,gd L.Ag.xs k=Ku c k ⟨a,cp,FD c k (Kw c k)⟩
end Go.Proofs.YtnjhekfgmbpmlaaDoor.Ly
