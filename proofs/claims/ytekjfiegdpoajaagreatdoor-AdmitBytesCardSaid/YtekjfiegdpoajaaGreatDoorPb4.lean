/- Packed: Ae, Af, Ag, La. No conditions. -/
import Derived.Test.YtekjfiegdpoajaaGreatDoorPb3
set_option maxHeartbeats 4000000
namespace Go.Proofs.YtekjfiegdpoajaaGreatDoor.Ad
open Go Go.Proofs.YtekjfiegdpoajaaGreatDoor.Eng Go.Proofs.YtekjfiegdpoajaaGreatDoor.Mem Go.Proofs.YtekjfiegdpoajaaGreatDoor.Ly
set_option linter.unusedSimpArgs false
set_option linter.unusedVariables false
set_option maxRecDepth 100000
def FB(o:Am)(f:Nat→Am)(n:Nat):Am:=Bl (o :: (List.range n).map f)
theorem fst_app{a b:List Am}:Bl (a++b)=if Bl a=DF then Bl b else Bl a:=by
 induction a with
 | nil=>rw[List.nil_append,if_pos (show Bl []=DF from rfl)]
 | cons x r ih =>
  show(if x=DF then Bl (r++b)else x)=if(if x=DF then Bl r else x)=DF then Bl b else(if x=DF then Bl r else x)
  by_cases h:x=DF
  ·rw[if_pos h,if_pos h];exact ih
  rw[if_neg h,if_neg h,if_neg h]
theorem fst_one(x:Am):Bl [x]=x:=by
 unfold Bl
 by_cases h:x=DF
 ·rw[if_pos h,h];rfl
 rw[if_neg h]
theorem QC(o:Am)(f:Nat→Am):FB o f 0=o:=fst_one o
theorem Qq{o:Am}{f:Nat→Am}{n:Nat}(h:FB o f n=DF):FB o f (n+1)=f n:=by
 unfold FB at h ⊢
 rw[List.range_succ,List.map_append,←List.cons_append,fst_app,if_pos h]
 exact fst_one _
theorem Nu{o:Am}{f:Nat→Am}{k:Nat}(h:FB o f k≠DF):∀ {n:Nat},k≤n→FB o f n=FB o f k
 | 0,hn=>by rw[Nat.le_zero.1 hn]
 | n+1,hn=>by
  by_cases e:k=n+1
  ·rw[e]
  have ih:=Nu h (n:=n) (by omega)
  have h2:FB o f n≠DF:=by rw[ih];exact h
  unfold FB at h2 ih ⊢
  rw[List.range_succ,List.map_append,←List.cons_append,fst_app,if_neg h2]
  exact ih
theorem WW{o:Am}{f:Nat→Am}{n:Nat}(h:FB o f n=DF):o=DF∧∀ i,i<n→f i=DF:=by
 constructor
 ·by_cases e:o=DF
  ·exact e
  have h1:=Nu (f:=f) (k:=0) (by rw[QC];exact e) (Nat.zero_le n)
  rw[QC,h]at h1;exact h1.symm
 intro i hi
 by_cases e1:FB o f i=DF
 ·by_cases e2:f i=DF
  ·exact e2
  have h3:=Qq e1
  have h4:=Nu (k:=i+1) (by rw[h3];exact e2) (show i+1≤n by omega)
  rw[h,h3]at h4;exact h4.symm
 have h4:=Nu e1 (show i≤n by omega)
 rw[h]at h4;exact absurd h4.symm e1
def IG(c:Ai)(p:Nat):List Am:=[Af (AO c p) 405 ⟨(p:Int), -1⟩,Af (win (FY c p).Dz 0 2&&win (FY c p).AU 0 15) 406 ⟨(p:Int), -1⟩,Af (win (FY c p).Dx 0 16&&win (FY c p).AZ 0 16) 407 ⟨(p:Int), -1⟩,Af (win ((FY c p).Ah.xs.length:Nat) 1 8) 408 ⟨(p:Int), -1⟩]
def Jj(c:Ai)(p:Nat):Am:=FB (Bl (IG c p)) (FZ c p) (FY c p).Ah.xs.length
def IM(c:Ai)(p:Nat):List Am:=[Af (win (FY c p).Entry 0 4095&&G9 (FY c p)) 412 ⟨(p:Int), -1⟩,Af (decide ((FY c p).Aq.xs.length≤8)) 413 ⟨(p:Int), -1⟩]
def KQ(c:Ai)(p k:Nat):Am:=Af (win (Zae c p k).Channel 0 ((c.Aj.xs.length:Nat) - 1)) 414 ⟨(p:Int),(k:Int)⟩
def Es(c:Ai)(p:Nat):Am:=if Jj c p=DF then FB (Bl (IM c p)) (KQ c p) (FY c p).Aq.xs.length else Jj c p
theorem V7{b:Bool}{e:Int}{w:KO}(he:e≠0):Af b e w=DF↔b=true:=by
 unfold Af DF
 cases b
 ·simp[he]
 simp
theorem VD{c:Ai}{p:Nat}(h:Es c p=DF):Jj c p=DF:=by
 unfold Es at h
 by_cases hb:Jj c p=DF
 ·exact hb
 rw[if_neg hb]at h;exact absurd h hb
theorem VN{c:Ai}{p:Nat}(hF:c.Frames≤1024)(h:Jj c p=DF):∀ n,n<(FY c p).Ah.xs.length→Bd (Ep c p n):=fun n hn=>regB_bd hF (Zag ((WW h).2 n hn))
theorem bd_all{c:Ai}{p k:Nat}(hF:1≤c.Frames∧c.Frames≤1024)(hpf:∀ q,q<p→Es c q=DF)(hk:∀ i,i<k→FZ c p i=DF):∀ q n,q≤p→n<(gd c.Ac.xs q).Ah.xs.length→(q<p∨n<k)→Bd (Ep c q n):=fun q n hq hn h=>by
 by_cases e:q<p
 ·exact VN hF.2 (VD (hpf q e)) n hn
 have e2:q=p:=by omega
 subst e2
 exact regB_bd hF.2 (Zag (hk n (by omega)))
section
variable (n35:Nat)(c:Ai)(p:Nat)(y8:Ap)(b43 n32:Nat)(n78 b86:Nat)(n75 n123:Nat)(b131 n120:Nat)(n165 b173:Nat)(n162 n209:Nat)(n220 n232:Nat)(n242 b36:Nat)(b42 b17:Nat)(b79 b85:Nat)(b61 b124:Nat)(b130 b106:Nat)(b166 b172:Nat)(b149 b6:Nat)(k z:Nat)(w:World)(y260:BR)
abbrev Hy:=bk n35 #[i6 ((Af (AO c p) 405 ⟨(p:Int), -1⟩).e),i6 ((Af (AO c p) 405 ⟨(p:Int), -1⟩).Ag.First),i6 ((Af (AO c p) 405 ⟨(p:Int), -1⟩).Ag.Second),i6 ((Af (win y8.AU 0 15) 406 ⟨(p:Int), -1⟩).e),i6 ((Af (win y8.AU 0 15) 406 ⟨(p:Int), -1⟩).Ag.First),i6 ((Af (win y8.AU 0 15) 406 ⟨(p:Int), -1⟩).Ag.Second),i6 ((Af (win y8.AZ 0 16) 407 ⟨(p:Int), -1⟩).e),i6 ((Af (win y8.AZ 0 16) 407 ⟨(p:Int), -1⟩).Ag.First),i6 ((Af (win y8.AZ 0 16) 407 ⟨(p:Int), -1⟩).Ag.Second),i6 ((Af (win (y8.Ah.xs.length:Int) 1 8) 408 ⟨(p:Int), -1⟩).e),i6 ((Af (win (y8.Ah.xs.length:Int) 1 8) 408 ⟨(p:Int), -1⟩).Ag.First),i6 ((Af (win (y8.Ah.xs.length:Int) 1 8) 408 ⟨(p:Int), -1⟩).Ag.Second)] 98
abbrev GZ:=bk b43 #[i6 ((Af (AO c p) 405 ⟨(p:Int), -1⟩).e),i6 ((Af (AO c p) 405 ⟨(p:Int), -1⟩).Ag.First),i6 ((Af (AO c p) 405 ⟨(p:Int), -1⟩).Ag.Second),i6 ((Af (win y8.AU 0 15) 406 ⟨(p:Int), -1⟩).e),i6 ((Af (win y8.AU 0 15) 406 ⟨(p:Int), -1⟩).Ag.First),i6 ((Af (win y8.AU 0 15) 406 ⟨(p:Int), -1⟩).Ag.Second),i6 ((Af (win y8.AZ 0 16) 407 ⟨(p:Int), -1⟩).e),i6 ((Af (win y8.AZ 0 16) 407 ⟨(p:Int), -1⟩).Ag.First),i6 ((Af (win y8.AZ 0 16) 407 ⟨(p:Int), -1⟩).Ag.Second),i6 ((Af (win (y8.Ah.xs.length:Int) 1 8) 408 ⟨(p:Int), -1⟩).e),i6 ((Af (win (y8.Ah.xs.length:Int) 1 8) 408 ⟨(p:Int), -1⟩).Ag.First),i6 ((Af (win (y8.Ah.xs.length:Int) 1 8) 408 ⟨(p:Int), -1⟩).Ag.Second)] 98
abbrev NH:=bk n32 #[i6 ((Af (AO c p) 405 ⟨(p:Int), -1⟩).e),i6 ((Af (AO c p) 405 ⟨(p:Int), -1⟩).Ag.First),i6 ((Af (AO c p) 405 ⟨(p:Int), -1⟩).Ag.Second),i6 ((Af (win y8.AU 0 15) 406 ⟨(p:Int), -1⟩).e),i6 ((Af (win y8.AU 0 15) 406 ⟨(p:Int), -1⟩).Ag.First),i6 ((Af (win y8.AU 0 15) 406 ⟨(p:Int), -1⟩).Ag.Second),i6 ((Af (win y8.AZ 0 16) 407 ⟨(p:Int), -1⟩).e),i6 ((Af (win y8.AZ 0 16) 407 ⟨(p:Int), -1⟩).Ag.First),i6 ((Af (win y8.AZ 0 16) 407 ⟨(p:Int), -1⟩).Ag.Second),i6 ((Af (win (y8.Ah.xs.length:Int) 1 8) 408 ⟨(p:Int), -1⟩).e),i6 ((Af (win (y8.Ah.xs.length:Int) 1 8) 408 ⟨(p:Int), -1⟩).Ag.First),i6 ((Af (win (y8.Ah.xs.length:Int) 1 8) 408 ⟨(p:Int), -1⟩).Ag.Second)] 98
abbrev LW:=bk n78 #[i6 ((Af (AO c p) 405 ⟨(p:Int), -1⟩).e),i6 ((Af (AO c p) 405 ⟨(p:Int), -1⟩).Ag.First),i6 ((Af (AO c p) 405 ⟨(p:Int), -1⟩).Ag.Second),i6 ((Af (win y8.AU 0 15) 406 ⟨(p:Int), -1⟩).e),i6 ((Af (win y8.AU 0 15) 406 ⟨(p:Int), -1⟩).Ag.First),i6 ((Af (win y8.AU 0 15) 406 ⟨(p:Int), -1⟩).Ag.Second),i6 ((Af false 407 ⟨(p:Int), -1⟩).e),i6 ((Af false 407 ⟨(p:Int), -1⟩).Ag.First),i6 ((Af false 407 ⟨(p:Int), -1⟩).Ag.Second),i6 ((Af (win (y8.Ah.xs.length:Int) 1 8) 408 ⟨(p:Int), -1⟩).e),i6 ((Af (win (y8.Ah.xs.length:Int) 1 8) 408 ⟨(p:Int), -1⟩).Ag.First),i6 ((Af (win (y8.Ah.xs.length:Int) 1 8) 408 ⟨(p:Int), -1⟩).Ag.Second)] 98
abbrev ND:=bk b86 #[i6 ((Af (AO c p) 405 ⟨(p:Int), -1⟩).e),i6 ((Af (AO c p) 405 ⟨(p:Int), -1⟩).Ag.First),i6 ((Af (AO c p) 405 ⟨(p:Int), -1⟩).Ag.Second),i6 ((Af (win y8.AU 0 15) 406 ⟨(p:Int), -1⟩).e),i6 ((Af (win y8.AU 0 15) 406 ⟨(p:Int), -1⟩).Ag.First),i6 ((Af (win y8.AU 0 15) 406 ⟨(p:Int), -1⟩).Ag.Second),i6 ((Af false 407 ⟨(p:Int), -1⟩).e),i6 ((Af false 407 ⟨(p:Int), -1⟩).Ag.First),i6 ((Af false 407 ⟨(p:Int), -1⟩).Ag.Second),i6 ((Af (win (y8.Ah.xs.length:Int) 1 8) 408 ⟨(p:Int), -1⟩).e),i6 ((Af (win (y8.Ah.xs.length:Int) 1 8) 408 ⟨(p:Int), -1⟩).Ag.First),i6 ((Af (win (y8.Ah.xs.length:Int) 1 8) 408 ⟨(p:Int), -1⟩).Ag.Second)] 98
abbrev JK:=bk n75 #[i6 ((Af (AO c p) 405 ⟨(p:Int), -1⟩).e),i6 ((Af (AO c p) 405 ⟨(p:Int), -1⟩).Ag.First),i6 ((Af (AO c p) 405 ⟨(p:Int), -1⟩).Ag.Second),i6 ((Af (win y8.AU 0 15) 406 ⟨(p:Int), -1⟩).e),i6 ((Af (win y8.AU 0 15) 406 ⟨(p:Int), -1⟩).Ag.First),i6 ((Af (win y8.AU 0 15) 406 ⟨(p:Int), -1⟩).Ag.Second),i6 ((Af false 407 ⟨(p:Int), -1⟩).e),i6 ((Af false 407 ⟨(p:Int), -1⟩).Ag.First),i6 ((Af false 407 ⟨(p:Int), -1⟩).Ag.Second),i6 ((Af (win (y8.Ah.xs.length:Int) 1 8) 408 ⟨(p:Int), -1⟩).e),i6 ((Af (win (y8.Ah.xs.length:Int) 1 8) 408 ⟨(p:Int), -1⟩).Ag.First),i6 ((Af (win (y8.Ah.xs.length:Int) 1 8) 408 ⟨(p:Int), -1⟩).Ag.Second)] 98
abbrev Lj:=bk n123 #[i6 ((Af (AO c p) 405 ⟨(p:Int), -1⟩).e),i6 ((Af (AO c p) 405 ⟨(p:Int), -1⟩).Ag.First),i6 ((Af (AO c p) 405 ⟨(p:Int), -1⟩).Ag.Second),i6 ((Af false 406 ⟨(p:Int), -1⟩).e),i6 ((Af false 406 ⟨(p:Int), -1⟩).Ag.First),i6 ((Af false 406 ⟨(p:Int), -1⟩).Ag.Second),i6 ((Af (win y8.AZ 0 16) 407 ⟨(p:Int), -1⟩).e),i6 ((Af (win y8.AZ 0 16) 407 ⟨(p:Int), -1⟩).Ag.First),i6 ((Af (win y8.AZ 0 16) 407 ⟨(p:Int), -1⟩).Ag.Second),i6 ((Af (win (y8.Ah.xs.length:Int) 1 8) 408 ⟨(p:Int), -1⟩).e),i6 ((Af (win (y8.Ah.xs.length:Int) 1 8) 408 ⟨(p:Int), -1⟩).Ag.First),i6 ((Af (win (y8.Ah.xs.length:Int) 1 8) 408 ⟨(p:Int), -1⟩).Ag.Second)] 98
abbrev JH:=bk b131 #[i6 ((Af (AO c p) 405 ⟨(p:Int), -1⟩).e),i6 ((Af (AO c p) 405 ⟨(p:Int), -1⟩).Ag.First),i6 ((Af (AO c p) 405 ⟨(p:Int), -1⟩).Ag.Second),i6 ((Af false 406 ⟨(p:Int), -1⟩).e),i6 ((Af false 406 ⟨(p:Int), -1⟩).Ag.First),i6 ((Af false 406 ⟨(p:Int), -1⟩).Ag.Second),i6 ((Af (win y8.AZ 0 16) 407 ⟨(p:Int), -1⟩).e),i6 ((Af (win y8.AZ 0 16) 407 ⟨(p:Int), -1⟩).Ag.First),i6 ((Af (win y8.AZ 0 16) 407 ⟨(p:Int), -1⟩).Ag.Second),i6 ((Af (win (y8.Ah.xs.length:Int) 1 8) 408 ⟨(p:Int), -1⟩).e),i6 ((Af (win (y8.Ah.xs.length:Int) 1 8) 408 ⟨(p:Int), -1⟩).Ag.First),i6 ((Af (win (y8.Ah.xs.length:Int) 1 8) 408 ⟨(p:Int), -1⟩).Ag.Second)] 98
abbrev Wh:=bk n120 #[i6 ((Af (AO c p) 405 ⟨(p:Int), -1⟩).e),i6 ((Af (AO c p) 405 ⟨(p:Int), -1⟩).Ag.First),i6 ((Af (AO c p) 405 ⟨(p:Int), -1⟩).Ag.Second),i6 ((Af false 406 ⟨(p:Int), -1⟩).e),i6 ((Af false 406 ⟨(p:Int), -1⟩).Ag.First),i6 ((Af false 406 ⟨(p:Int), -1⟩).Ag.Second),i6 ((Af (win y8.AZ 0 16) 407 ⟨(p:Int), -1⟩).e),i6 ((Af (win y8.AZ 0 16) 407 ⟨(p:Int), -1⟩).Ag.First),i6 ((Af (win y8.AZ 0 16) 407 ⟨(p:Int), -1⟩).Ag.Second),i6 ((Af (win (y8.Ah.xs.length:Int) 1 8) 408 ⟨(p:Int), -1⟩).e),i6 ((Af (win (y8.Ah.xs.length:Int) 1 8) 408 ⟨(p:Int), -1⟩).Ag.First),i6 ((Af (win (y8.Ah.xs.length:Int) 1 8) 408 ⟨(p:Int), -1⟩).Ag.Second)] 98
abbrev Y5:=bk n165 #[i6 ((Af (AO c p) 405 ⟨(p:Int), -1⟩).e),i6 ((Af (AO c p) 405 ⟨(p:Int), -1⟩).Ag.First),i6 ((Af (AO c p) 405 ⟨(p:Int), -1⟩).Ag.Second),i6 ((Af false 406 ⟨(p:Int), -1⟩).e),i6 ((Af false 406 ⟨(p:Int), -1⟩).Ag.First),i6 ((Af false 406 ⟨(p:Int), -1⟩).Ag.Second),i6 ((Af false 407 ⟨(p:Int), -1⟩).e),i6 ((Af false 407 ⟨(p:Int), -1⟩).Ag.First),i6 ((Af false 407 ⟨(p:Int), -1⟩).Ag.Second),i6 ((Af (win (y8.Ah.xs.length:Int) 1 8) 408 ⟨(p:Int), -1⟩).e),i6 ((Af (win (y8.Ah.xs.length:Int) 1 8) 408 ⟨(p:Int), -1⟩).Ag.First),i6 ((Af (win (y8.Ah.xs.length:Int) 1 8) 408 ⟨(p:Int), -1⟩).Ag.Second)] 98
abbrev X3:=bk b173 #[i6 ((Af (AO c p) 405 ⟨(p:Int), -1⟩).e),i6 ((Af (AO c p) 405 ⟨(p:Int), -1⟩).Ag.First),i6 ((Af (AO c p) 405 ⟨(p:Int), -1⟩).Ag.Second),i6 ((Af false 406 ⟨(p:Int), -1⟩).e),i6 ((Af false 406 ⟨(p:Int), -1⟩).Ag.First),i6 ((Af false 406 ⟨(p:Int), -1⟩).Ag.Second),i6 ((Af false 407 ⟨(p:Int), -1⟩).e),i6 ((Af false 407 ⟨(p:Int), -1⟩).Ag.First),i6 ((Af false 407 ⟨(p:Int), -1⟩).Ag.Second),i6 ((Af (win (y8.Ah.xs.length:Int) 1 8) 408 ⟨(p:Int), -1⟩).e),i6 ((Af (win (y8.Ah.xs.length:Int) 1 8) 408 ⟨(p:Int), -1⟩).Ag.First),i6 ((Af (win (y8.Ah.xs.length:Int) 1 8) 408 ⟨(p:Int), -1⟩).Ag.Second)] 98
abbrev Vt:=bk n162 #[i6 ((Af (AO c p) 405 ⟨(p:Int), -1⟩).e),i6 ((Af (AO c p) 405 ⟨(p:Int), -1⟩).Ag.First),i6 ((Af (AO c p) 405 ⟨(p:Int), -1⟩).Ag.Second),i6 ((Af false 406 ⟨(p:Int), -1⟩).e),i6 ((Af false 406 ⟨(p:Int), -1⟩).Ag.First),i6 ((Af false 406 ⟨(p:Int), -1⟩).Ag.Second),i6 ((Af false 407 ⟨(p:Int), -1⟩).e),i6 ((Af false 407 ⟨(p:Int), -1⟩).Ag.First),i6 ((Af false 407 ⟨(p:Int), -1⟩).Ag.Second),i6 ((Af (win (y8.Ah.xs.length:Int) 1 8) 408 ⟨(p:Int), -1⟩).e),i6 ((Af (win (y8.Ah.xs.length:Int) 1 8) 408 ⟨(p:Int), -1⟩).Ag.First),i6 ((Af (win (y8.Ah.xs.length:Int) 1 8) 408 ⟨(p:Int), -1⟩).Ag.Second)] 98
abbrev X7:=bk n209 #[i6 ((Af (G9 y8) 412 ⟨(p:Int), -1⟩).e),i6 ((Af (G9 y8) 412 ⟨(p:Int), -1⟩).Ag.First),i6 ((Af (G9 y8) 412 ⟨(p:Int), -1⟩).Ag.Second),i6 ((Af false 413 ⟨(p:Int), -1⟩).e),i6 ((Af false 413 ⟨(p:Int), -1⟩).Ag.First),i6 ((Af false 413 ⟨(p:Int), -1⟩).Ag.Second)] 98
abbrev Xg:=bk n220 #[i6 ((Af (G9 y8) 412 ⟨(p:Int), -1⟩).e),i6 ((Af (G9 y8) 412 ⟨(p:Int), -1⟩).Ag.First),i6 ((Af (G9 y8) 412 ⟨(p:Int), -1⟩).Ag.Second),i6 ((Af true 413 ⟨(p:Int), -1⟩).e),i6 ((Af true 413 ⟨(p:Int), -1⟩).Ag.First),i6 ((Af true 413 ⟨(p:Int), -1⟩).Ag.Second)] 98
abbrev XB:=bk n232 #[i6 ((Af false 412 ⟨(p:Int), -1⟩).e),i6 ((Af false 412 ⟨(p:Int), -1⟩).Ag.First),i6 ((Af false 412 ⟨(p:Int), -1⟩).Ag.Second),i6 ((Af false 413 ⟨(p:Int), -1⟩).e),i6 ((Af false 413 ⟨(p:Int), -1⟩).Ag.First),i6 ((Af false 413 ⟨(p:Int), -1⟩).Ag.Second)] 98
abbrev XH:=bk n242 #[i6 ((Af false 412 ⟨(p:Int), -1⟩).e),i6 ((Af false 412 ⟨(p:Int), -1⟩).Ag.First),i6 ((Af false 412 ⟨(p:Int), -1⟩).Ag.Second),i6 ((Af true 413 ⟨(p:Int), -1⟩).e),i6 ((Af true 413 ⟨(p:Int), -1⟩).Ag.First),i6 ((Af true 413 ⟨(p:Int), -1⟩).Ag.Second)] 98
abbrev Zac:Ch:= .blk b36 (.cells (Am.arr (Bl [(Af (AO c p) 405 ⟨(p:Int), -1⟩),(Af (win y8.AU 0 15) 406 ⟨(p:Int), -1⟩),(Af (win y8.AZ 0 16) 407 ⟨(p:Int), -1⟩),(Af (win (y8.Ah.xs.length:Int) 1 8) 408 ⟨(p:Int), -1⟩)])) 98 (0,0)) true
abbrev Zab:Ch:= .blk b42 (.cells (Am.arr (Bl [(Af (AO c p) 405 ⟨(p:Int), -1⟩),(Af (win y8.AU 0 15) 406 ⟨(p:Int), -1⟩),(Af (win y8.AZ 0 16) 407 ⟨(p:Int), -1⟩),(Af (win (y8.Ah.xs.length:Int) 1 8) 408 ⟨(p:Int), -1⟩)])) 98 (0,0)) true
abbrev XO:Ch:= .blk b17 (.cells (Am.arr (Bl [(Af (AO c p) 405 ⟨(p:Int), -1⟩),(Af (win y8.AU 0 15) 406 ⟨(p:Int), -1⟩),(Af (win y8.AZ 0 16) 407 ⟨(p:Int), -1⟩),(Af (win (y8.Ah.xs.length:Int) 1 8) 408 ⟨(p:Int), -1⟩)])) 98 (0,0)) true
abbrev Zz:Ch:= .blk b79 (.cells (Am.arr (Bl [(Af (AO c p) 405 ⟨(p:Int), -1⟩),(Af (win y8.AU 0 15) 406 ⟨(p:Int), -1⟩),(Af false 407 ⟨(p:Int), -1⟩),(Af (win (y8.Ah.xs.length:Int) 1 8) 408 ⟨(p:Int), -1⟩)])) 98 (0,0)) true
abbrev Zaa:Ch:= .blk b85 (.cells (Am.arr (Bl [(Af (AO c p) 405 ⟨(p:Int), -1⟩),(Af (win y8.AU 0 15) 406 ⟨(p:Int), -1⟩),(Af false 407 ⟨(p:Int), -1⟩),(Af (win (y8.Ah.xs.length:Int) 1 8) 408 ⟨(p:Int), -1⟩)])) 98 (0,0)) true
abbrev Z7:Ch:= .blk b61 (.cells (Am.arr (Bl [(Af (AO c p) 405 ⟨(p:Int), -1⟩),(Af (win y8.AU 0 15) 406 ⟨(p:Int), -1⟩),(Af false 407 ⟨(p:Int), -1⟩),(Af (win (y8.Ah.xs.length:Int) 1 8) 408 ⟨(p:Int), -1⟩)])) 98 (0,0)) true
abbrev ZI:Ch:= .blk b124 (.cells (Am.arr (Bl [(Af (AO c p) 405 ⟨(p:Int), -1⟩),(Af false 406 ⟨(p:Int), -1⟩),(Af (win y8.AZ 0 16) 407 ⟨(p:Int), -1⟩),(Af (win (y8.Ah.xs.length:Int) 1 8) 408 ⟨(p:Int), -1⟩)])) 98 (0,0)) true
abbrev Zx:Ch:= .blk b130 (.cells (Am.arr (Bl [(Af (AO c p) 405 ⟨(p:Int), -1⟩),(Af false 406 ⟨(p:Int), -1⟩),(Af (win y8.AZ 0 16) 407 ⟨(p:Int), -1⟩),(Af (win (y8.Ah.xs.length:Int) 1 8) 408 ⟨(p:Int), -1⟩)])) 98 (0,0)) true
abbrev XN:Ch:= .blk b106 (.cells (Am.arr (Bl [(Af (AO c p) 405 ⟨(p:Int), -1⟩),(Af false 406 ⟨(p:Int), -1⟩),(Af (win y8.AZ 0 16) 407 ⟨(p:Int), -1⟩),(Af (win (y8.Ah.xs.length:Int) 1 8) 408 ⟨(p:Int), -1⟩)])) 98 (0,0)) true
abbrev ZN:Ch:= .blk b166 (.cells (Am.arr (Bl [(Af (AO c p) 405 ⟨(p:Int), -1⟩),(Af false 406 ⟨(p:Int), -1⟩),(Af false 407 ⟨(p:Int), -1⟩),(Af (win (y8.Ah.xs.length:Int) 1 8) 408 ⟨(p:Int), -1⟩)])) 98 (0,0)) true
abbrev ZK:Ch:= .blk b172 (.cells (Am.arr (Bl [(Af (AO c p) 405 ⟨(p:Int), -1⟩),(Af false 406 ⟨(p:Int), -1⟩),(Af false 407 ⟨(p:Int), -1⟩),(Af (win (y8.Ah.xs.length:Int) 1 8) 408 ⟨(p:Int), -1⟩)])) 98 (0,0)) true
abbrev ZT:Ch:= .blk b149 (.cells (Am.arr (Bl [(Af (AO c p) 405 ⟨(p:Int), -1⟩),(Af false 406 ⟨(p:Int), -1⟩),(Af false 407 ⟨(p:Int), -1⟩),(Af (win (y8.Ah.xs.length:Int) 1 8) 408 ⟨(p:Int), -1⟩)])) 98 (0,0)) true
abbrev X0:Ch:= .blk b6 (.cells (Am.arr (Bl [(Af (G9 y8) 412 ⟨(p:Int), -1⟩),(Af false 413 ⟨(p:Int), -1⟩)])) 98 (0,0)) true
abbrev XC:Ch:= .blk b6 (.cells (Am.arr (Bl [(Af (G9 y8) 412 ⟨(p:Int), -1⟩),(Af true 413 ⟨(p:Int), -1⟩)])) 98 (0,0)) true
abbrev Xx:Ch:= .blk b6 (.cells (Am.arr (Bl [(Af false 412 ⟨(p:Int), -1⟩),(Af false 413 ⟨(p:Int), -1⟩)])) 98 (0,0)) true
abbrev Xm:Ch:= .blk b6 (.cells (Am.arr (Bl [(Af false 412 ⟨(p:Int), -1⟩),(Af true 413 ⟨(p:Int), -1⟩)])) 98 (0,0)) true
abbrev QP:Ch:= .blk b6 (.cells (Am.arr (FB (Bl (IM c p)) (KQ c p) k)) 98 (0,0)) true
abbrev Bf:=bk (z+1) #[i6 0,i6 0,i6 0] 98
abbrev Be:=bk (z+2) (Ap.arr y8) 57
abbrev IY:=bk b6 (Am.arr (Jj c p)) 98
abbrev Ba:=bk z (Ai.arr c) 27
abbrev Qd:Dv:=(50,.agg (Am.arr (Bl [(Af (AO c p) 405 ⟨(p:Int), -1⟩),(Af (win y8.AU 0 15) 406 ⟨(p:Int), -1⟩),(Af (win y8.AZ 0 16) 407 ⟨(p:Int), -1⟩),(Af (win (y8.Ah.xs.length:Int) 1 8) 408 ⟨(p:Int), -1⟩)])))
abbrev PU:Dv:=(50,.agg (Am.arr (Bl [(Af (AO c p) 405 ⟨(p:Int), -1⟩),(Af (win y8.AU 0 15) 406 ⟨(p:Int), -1⟩),(Af false 407 ⟨(p:Int), -1⟩),(Af (win (y8.Ah.xs.length:Int) 1 8) 408 ⟨(p:Int), -1⟩)])))
abbrev PI:Dv:=(50,.agg (Am.arr (Bl [(Af (AO c p) 405 ⟨(p:Int), -1⟩),(Af false 406 ⟨(p:Int), -1⟩),(Af (win y8.AZ 0 16) 407 ⟨(p:Int), -1⟩),(Af (win (y8.Ah.xs.length:Int) 1 8) 408 ⟨(p:Int), -1⟩)])))
abbrev PO:Dv:=(50,.agg (Am.arr (Bl [(Af (AO c p) 405 ⟨(p:Int), -1⟩),(Af false 406 ⟨(p:Int), -1⟩),(Af false 407 ⟨(p:Int), -1⟩),(Af (win (y8.Ah.xs.length:Int) 1 8) 408 ⟨(p:Int), -1⟩)])))
abbrev JA:Dv:=(48,.agg (Am.arr (Af (win (y8.Ah.xs.length:Int) 1 8) 408 ⟨(p:Int), -1⟩)))
abbrev Qh:Dv:=(30,.agg (Am.arr (Af (win y8.AU 0 15) 406 ⟨(p:Int), -1⟩)))
abbrev NL:Dv:=(41,.agg (Am.arr (Af (win y8.AZ 0 16) 407 ⟨(p:Int), -1⟩)))
abbrev JB:Dv:=(19,.agg (Am.arr (Af (AO c p) 405 ⟨(p:Int), -1⟩)))
abbrev Qe:Dv:=(41,.agg (Am.arr (Af false 407 ⟨(p:Int), -1⟩)))
abbrev PW:Dv:=(30,.agg (Am.arr (Af false 406 ⟨(p:Int), -1⟩)))
abbrev PS:=(44,Aa y8.Ah.xs.length)
abbrev AA:=(4,pt (z+1))
abbrev AL:=(5,pt (z+2))
abbrev CY:=(6,pt b6)
abbrev X8:=[(Ak w),(Ba c z),(Bf z),(Be y8 z),(.blk b6 (.cells (Am.arr (Af (win y260.Channel 0 ((c.Aj.xs.length:Int) - 1)) 414 ⟨(p:Int),(k:Int)⟩)) 98 (0,0)) true)]
abbrev IX:=[(Ak w),(Ba c z),(Bf z),(Be y8 z),(IY c p b6)]
end
theorem LM(w:World)(hL:Gf w)(c:Ai)(hc:Ai.ok Any w c)(p:Nat)(hp:p<c.Ac.xs.length)(hFr:1≤c.Frames∧c.Frames≤1024)(hpf:∀ q,q<p→Es c q=DF):Calls Tryz.prog 78 #[.agg (Ai.arr c),.int .i64 (p:Int)] w fun e w'=>e = .returned (.agg (Am.arr (Es c p)))∧BH (fun _=>False) w w':=by
 obtain⟨z,hz⟩:∃ z,z=w.heap.size:=⟨_,rfl⟩
 refine BA (args:=[.agg (Ai.arr c),Aa p]) 118 ⟨w,z,[(Ak w)]⟩ Tryz.func78 rfl (by kernel_rfl) (by kernel_rfl) (En hz) ?_
 have hpl:=hc.Ac.1.len;have hpc:=hc.Ac.1.le;have hrl:=(hc.Ac.2 p hp).Ah.1.len;have hrc:=(hc.Ac.2 p hp).Ah.1.le;have hpp:=(hc.Ac.2 p hp).Aq.1.len;have hcl:=hc.Aj.1.len
 refine Cc [0,1] [(0,.agg (Ai.arr c)),(1,Aa p)] ?_
 refine q_c 5 0 [] [[o0,o0]] [] [(1,Aa p),(2,pt z),(AA z)] ⟨w,z+2,[(Ak w),(Ba c z),(Bf z)]⟩ rfl Ae ?_
 obtain⟨b1,o2,ha3,hF5,hc4⟩:=(hc.Ac).1.all (show 0<c.Ac.xs.length by omega)
 replace ha3:c.Ac.a=some ⟨b1,o2,none⟩:=ha3
 have hc6:=hc4 p (show p<c.Ac.xs.length by omega)
 have he7:=(hc.Ac).2 p (show p<c.Ac.xs.length by omega)
 obtain⟨y8,hy8⟩:∃ y_,y_=gd c.Ac.xs p:=⟨_,rfl⟩
 rw[←hy8]at he7 hc6
 (try rw[←hy8]at hrl hrc hpp)
 refine q_c 3 0 [] [[o0,(J3 1 b1 o2 c.Ac),o0,(oi p),(ol 0 (Ap.arr y8)),o0,(an 8 3)]] [Qb z,IJ b1 o2 c.Ac,Ea p,p<c.Ac.xs.length,Ec,Hu w b1 (o2+p*8) (Ap.arr y8),Qb (z+2),Qb (z+2),Qb (z+2),Qb (z+2),Qb (z+2),Qb (z+2),Qb (z+2),Qb (z+2)] [(1,Aa p),(2,pt z),(AA z),(AL z)] ⟨w,z+3,[(Ak w),(Ba c z),(Bf z),(Be y8 z)]⟩ rfl ⟨rfl,IK ha3,rfl,(by omega),rfl,EE hc6,rfl,rfl,rfl,rfl,rfl,rfl,rfl,rfl,Ae⟩ ?_
 refine VQ (fun a w'=>∃ (n9:Nat) (b6:Nat),z+3≤n9∧St 118 [(1,Aa p),(2,pt z),(AA z),(AL z),(CY b6)] [] ⟨w,n9,[(Ak w),(Ba c z),(Bf z),(Be y8 z),(.blk b6 (.cells (Am.arr (Bl (IG c p))) 98 (0,0)) true)]⟩ a w') ?_ ?_
 ·by_cases h11:(win y8.Dz 0 2)=true
  ·have hd12:=Iz h11
   by_cases h13:(win y8.Dx 0 16)=true
   ·have hd14:=Iz h13
    refine DK 38 [0,1,2,3] [(Ak w),(Ba c z),(Bf z),(Be y8 z)] rfl rfl ?_
    refine CP [(0,(an 7 1)),(1,o0),(3,o0),(6,o0),(7,(a1 3)),(14,o0),(17,o0),(18,(a1 3)),(25,o0),(28,o0),(29,(a1 3)),(30,o0),(32,o0)] [1,2,4,5,14,15,17,21,28,32,39,44,46] [Qb z,Qb z,Qb z,Qb z,Qb z,Qb z,Qb z,Qb (z+2),Qb (z+2),Qb (z+2)] [true,true,false,true,false,false,true,true,false,false,false,false,false,false,true,false,false,true,true,false,false,false,false,false,false,true,false,false,true,true,true,false,true,false,false,false,false,false,false] [(1,Aa p),(2,pt z),(AA z),(AL z),(14,.agg (Ai.arr c)),(15,Aa p),(17,Aa p),(21,i6 y8.Dz),(28,Aa p),(32,i6 y8.Dx),(39,Aa p),(PS y8),(46,Aa p)] ⟨rfl,rfl,rfl,rfl,rfl,rfl,rfl,rfl,rfl,rfl,Ae⟩ ?_
    refine Pi (fun x:{p:Nat×Nat×Nat // z+3≤p.1∧z+3≤p.2.1∧z+3≤p.2.2}=>([(1,Aa p),(2,pt z),(AA z),(AL z),(6,pt x.1.2.2)],⟨w,x.1.1,[(Ak w),(Ba c z),(Bf z),(Be y8 z),(.blk x.1.2.1 (.cells #[i6 ((Af (AO c p) 405 ⟨(p:Int), -1⟩).e),i6 ((Af (AO c p) 405 ⟨(p:Int), -1⟩).Ag.First),i6 ((Af (AO c p) 405 ⟨(p:Int), -1⟩).Ag.Second),i6 ((Af (win y8.AU 0 15) 406 ⟨(p:Int), -1⟩).e),i6 ((Af (win y8.AU 0 15) 406 ⟨(p:Int), -1⟩).Ag.First),i6 ((Af (win y8.AU 0 15) 406 ⟨(p:Int), -1⟩).Ag.Second),i6 ((Af (win y8.AZ 0 16) 407 ⟨(p:Int), -1⟩).e),i6 ((Af (win y8.AZ 0 16) 407 ⟨(p:Int), -1⟩).Ag.First),i6 ((Af (win y8.AZ 0 16) 407 ⟨(p:Int), -1⟩).Ag.Second),i6 ((Af (win (y8.Ah.xs.length:Int) 1 8) 408 ⟨(p:Int), -1⟩).e),i6 ((Af (win (y8.Ah.xs.length:Int) 1 8) 408 ⟨(p:Int), -1⟩).Ag.First),i6 ((Af (win (y8.Ah.xs.length:Int) 1 8) 408 ⟨(p:Int), -1⟩).Ag.Second)] 98 (0,0)) true),(.blk x.1.2.2 (.cells (Am.arr (Bl [(Af (AO c p) 405 ⟨(p:Int), -1⟩),(Af (win y8.AU 0 15) 406 ⟨(p:Int), -1⟩),(Af (win y8.AZ 0 16) 407 ⟨(p:Int), -1⟩),(Af (win (y8.Ah.xs.length:Int) 1 8) 408 ⟨(p:Int), -1⟩)])) 98 (0,0)) true)]⟩)) (fun hK => ?_) ?_
    ·refine O4 37 6 [.cl 2 (.bool (AO c p)),.cl 4 (.agg #[(Aa p),i6 (-1)]),.cl 5 (.agg (Am.arr (Af (AO c p) 405 ⟨(p:Int), -1⟩))),.cl 8 (.bool (win y8.Dz 0 2)),.tk 9 (ov (.bool true)),.tk 10 o0,.tk 11 (a1 3),.cl 12 (.bool (win y8.AU 0 15)),.tk 13 o0,.cl 15 (.agg #[(Aa p),i6 (-1)]),.cl 16 (.agg (Am.arr (Af (win y8.AU 0 15) 406 ⟨(p:Int), -1⟩))),.cl 19 (.bool (win y8.Dx 0 16)),.tk 20 (ov (.bool true)),.tk 21 o0,.tk 22 (a1 3),.cl 23 (.bool (win y8.AZ 0 16)),.tk 24 o0,.cl 26 (.agg #[(Aa p),i6 (-1)]),.cl 27 (.agg (Am.arr (Af (win y8.AZ 0 16) 407 ⟨(p:Int), -1⟩))),.cl 31 (.bool (win (y8.Ah.xs.length:Int) 1 8)),.cl 33 (.agg #[(Aa p),i6 (-1)]),.cl 34 (.agg (Am.arr (Af (win (y8.Ah.xs.length:Int) 1 8) 408 ⟨(p:Int), -1⟩)))] [1,2,4,5,19,30,41,48] [(109,#[.agg (Ai.arr c),Aa p],.bool (AO c p)),(110,#[(Aa p)],.agg #[(Aa p),i6 (-1)]),(71,#[.bool (AO c p),i6 405,.agg #[(Aa p),i6 (-1)]],.agg (Am.arr (Af (AO c p) 405 ⟨(p:Int), -1⟩))),(72,#[i6 y8.Dz,i6 0,i6 2],.bool (win y8.Dz 0 2)),(72,#[i6 y8.AU,i6 0,i6 15],.bool (win y8.AU 0 15)),(110,#[(Aa p)],.agg #[(Aa p),i6 (-1)]),(71,#[.bool (win y8.AU 0 15),i6 406,.agg #[(Aa p),i6 (-1)]],.agg (Am.arr (Af (win y8.AU 0 15) 406 ⟨(p:Int), -1⟩))),(72,#[i6 y8.Dx,i6 0,i6 16],.bool (win y8.Dx 0 16)),(72,#[i6 y8.AZ,i6 0,i6 16],.bool (win y8.AZ 0 16)),(110,#[(Aa p)],.agg #[(Aa p),i6 (-1)]),(71,#[.bool (win y8.AZ 0 16),i6 407,.agg #[(Aa p),i6 (-1)]],.agg (Am.arr (Af (win y8.AZ 0 16) 407 ⟨(p:Int), -1⟩))),(72,#[(Aa y8.Ah.xs.length),i6 1,i6 8],.bool (win (y8.Ah.xs.length:Int) 1 8)),(110,#[(Aa p)],.agg #[(Aa p),i6 (-1)]),(71,#[.bool (win (y8.Ah.xs.length:Int) 1 8),i6 408,.agg #[(Aa p),i6 (-1)]],.agg (Am.arr (Af (win (y8.Ah.xs.length:Int) 1 8) 408 ⟨(p:Int), -1⟩)))] (Dy 35 4) [Value.bool (win y8.Dz 0 2)=Value.bool true,Qb (z+2),Value.bool (win y8.Dx 0 16)=Value.bool true,Qb (z+2)] [(1,Aa p),(2,pt z),(AA z),(AL z),(JB c p),(Qh p y8),(NL p y8),(JA p y8)] (.cells #[i6 0,i6 0,i6 0] 98 (0,0)) [0,1,2,3] ⟨(congrArg Value.bool h11),rfl,(congrArg Value.bool h13),rfl,Ae⟩ ⟨fun w18 hw18=>Ro w18 c (hc.ext (hw18.ext rfl) (fun _ h=>h)) p hp,fun w19 hw19=>Df w19 (p:Int),fun w20 hw20=>Bg w20 (hL.ext (hw20.ext rfl)) (AO c p) 405 (p:Int) (-1),fun w21 hw21=>BQ w21 y8.Dz 0 2,fun w22 hw22=>BQ w22 y8.AU 0 15,fun w23 hw23=>Df w23 (p:Int),fun w24 hw24=>Bg w24 (hL.ext (hw24.ext rfl)) (win y8.AU 0 15) 406 (p:Int) (-1),fun w25 hw25=>BQ w25 y8.Dx 0 16,fun w26 hw26=>BQ w26 y8.AZ 0 16,fun w27 hw27=>Df w27 (p:Int),fun w28 hw28=>Bg w28 (hL.ext (hw28.ext rfl)) (win y8.AZ 0 16) 407 (p:Int) (-1),fun w29 hw29=>BQ w29 (y8.Ah.xs.length:Int) 1 8,fun w30 hw30=>Df w30 (p:Int),fun w31 hw31=>Bg w31 (hL.ext (hw31.ext rfl)) (win (y8.Ah.xs.length:Int) 1 8) 408 (p:Int) (-1),Ae⟩ ?_ (fun hv34 n32 hn33 => ?_)
     ·rintro⟨⟨n35,b36⟩,hb37⟩
      simp only at hb37
      refine AV 35 ?_
      refine Bi o0 [6,1,2,4,5,49] [] [(6,pt b36),(1,Aa p),(2,pt z),(AA z),(AL z),(49,.slice (some ⟨n35,0,none⟩) 4 4)] ⟨w,n35+1,[(Ak w),(Ba c z),(Bf z),(Be y8 z),(bk b36 #[i6 0,i6 0,i6 0] 98),(Hy n35 c p y8)]⟩ [0,1,2,3] Ae (.inr rfl) ?_
      refine AV 36 ?_
      refine Gi 108 #[.slice (some ⟨n35,0,none⟩) 4 4] (some 50) (.agg (Am.arr (Bl [(Af (AO c p) 405 ⟨(p:Int), -1⟩),(Af (win y8.AU 0 15) 406 ⟨(p:Int), -1⟩),(Af (win y8.AZ 0 16) 407 ⟨(p:Int), -1⟩),(Af (win (y8.Ah.xs.length:Int) 1 8) 408 ⟨(p:Int), -1⟩)]))) [6,1,2,4,5,50] [(6,pt b36),(1,Aa p),(2,pt z),(AA z),(AL z),(Qd c p y8)] [0,1,2,3] (fun w38 hw38=>Dp w38 (hL.ext (hw38.ext rfl)) ⟨some ⟨n35,0,none⟩,4,[(Af (AO c p) 405 ⟨(p:Int), -1⟩),(Af (win y8.AU 0 15) 406 ⟨(p:Int), -1⟩),(Af (win y8.AZ 0 16) 407 ⟨(p:Int), -1⟩),(Af (win (y8.Ah.xs.length:Int) 1 8) 408 ⟨(p:Int), -1⟩)]⟩ (Ef hw38 (i:=5) [(Af (AO c p) 405 ⟨(p:Int), -1⟩),(Af (win y8.AU 0 15) 406 ⟨(p:Int), -1⟩),(Af (win y8.AZ 0 16) 407 ⟨(p:Int), -1⟩),(Af (win (y8.Ah.xs.length:Int) 1 8) 408 ⟨(p:Int), -1⟩)]) (show 4≤1000 by decide)) (fun n39 hn40 => ?_)
      replace hn40:n35+1≤n39:=hn40
      refine AV 38 ?_
      refine Bi (an 3 4) [6,1,2,4,5] [Qb b36,Qb b36,Qb b36] [(6,pt b36),(1,Aa p),(2,pt z),(AA z),(AL z)] ⟨w,n39,[(Ak w),(Ba c z),(Bf z),(Be y8 z),(Zac c p y8 b36),(Hy n35 c p y8)]⟩ [] ⟨rfl,rfl,rfl,Ae⟩ (.inl rfl) ?_
      refine D9 39 [0,1,2,3,4,5] [(Ak w),(Ba c z),(Bf z),(Be y8 z),(Zac c p y8 b36),(Hy n35 c p y8)] rfl rfl ?_
      refine CQ ?_
      refine Cb [1,2,4,5,6] [(1,Aa p),(2,pt z),(AA z),(AL z),(6,pt b36)] ?_
      refine C9 [0,1,2,3,5,4] [(Ak w),(Ba c z),(Bf z),(Be y8 z),(Hy n35 c p y8),(Zac c p y8 b36)] rfl rfl ?_
      exact hK ⟨(n39,n35,b36),by first | omega | (dsimp only;omega)⟩
     replace hn33:z+3≤n32:=hn33
     refine MH (fun x:{p:Nat×Nat×Nat // n32≤p.1∧n32≤p.2.1∧n32≤p.2.2}=>[(1,Aa p),(2,pt z),(AA z),(AL z),(6,pt x.1.2.1),(Qd c p y8)]) (fun x=>⟨w,x.1.1,[(Ak w),(Ba c z),(Bf z),(Be y8 z),(.blk x.1.2.1 (.cells #[i6 0,i6 0,i6 0] 98 (0,0)) true),(.blk x.1.2.2 (.cells #[i6 ((Af (AO c p) 405 ⟨(p:Int), -1⟩).e),i6 ((Af (AO c p) 405 ⟨(p:Int), -1⟩).Ag.First),i6 ((Af (AO c p) 405 ⟨(p:Int), -1⟩).Ag.Second),i6 ((Af (win y8.AU 0 15) 406 ⟨(p:Int), -1⟩).e),i6 ((Af (win y8.AU 0 15) 406 ⟨(p:Int), -1⟩).Ag.First),i6 ((Af (win y8.AU 0 15) 406 ⟨(p:Int), -1⟩).Ag.Second),i6 ((Af (win y8.AZ 0 16) 407 ⟨(p:Int), -1⟩).e),i6 ((Af (win y8.AZ 0 16) 407 ⟨(p:Int), -1⟩).Ag.First),i6 ((Af (win y8.AZ 0 16) 407 ⟨(p:Int), -1⟩).Ag.Second),i6 ((Af (win (y8.Ah.xs.length:Int) 1 8) 408 ⟨(p:Int), -1⟩).e),i6 ((Af (win (y8.Ah.xs.length:Int) 1 8) 408 ⟨(p:Int), -1⟩).Ag.First),i6 ((Af (win (y8.Ah.xs.length:Int) 1 8) 408 ⟨(p:Int), -1⟩).Ag.Second)] 98 (0,0)) true)]⟩) 1 (Dy 38 1) ?_ (fun hv44 => ?_)
     ·rintro⟨⟨n41,b42,b43⟩,hb45⟩
      simp only at hb45
      show Wg _ _ [(1,Aa p),(2,pt z),(AA z),(AL z),(6,pt b42),(Qd c p y8)] _ ⟨w,n41,[(Ak w),(Ba c z),(Bf z),(Be y8 z),(bk b42 #[i6 0,i6 0,i6 0] 98),(GZ c p y8 b43)]⟩ _ _ _ _ _ _ _
      refine AV 38 ?_
      refine Bi (an 3 4) [1,2,4,5,6] [Qb b42,Qb b42,Qb b42] [(1,Aa p),(2,pt z),(AA z),(AL z),(6,pt b42)] ⟨w,n41,[(Ak w),(Ba c z),(Bf z),(Be y8 z),(Zab c p y8 b42),(GZ c p y8 b43)]⟩ [] ⟨rfl,rfl,rfl,Ae⟩ (.inl rfl) ?_
      refine D9 39 [0,1,2,3,4,5] [(Ak w),(Ba c z),(Bf z),(Be y8 z),(Zab c p y8 b42),(GZ c p y8 b43)] rfl rfl ?_
      refine CQ ?_
      refine Cb [1,2,4,5,6] [(1,Aa p),(2,pt z),(AA z),(AL z),(6,pt b42)] ?_
      refine C9 [0,1,2,3,5,4] [(Ak w),(Ba c z),(Bf z),(Be y8 z),(GZ c p y8 b43),(Zab c p y8 b42)] rfl rfl ?_
      exact hK ⟨(n41,b43,b42),by first | omega | (dsimp only;omega)⟩
     refine MH (fun x:{p:Nat×Nat×Nat // n32≤p.1∧n32≤p.2.1∧n32≤p.2.2}=>[(1,Aa p),(2,pt z),(AA z),(AL z),(6,pt x.1.2.1),(49,.slice (some ⟨x.1.2.2,0,none⟩) 4 4)]) (fun x=>⟨w,x.1.1,[(Ak w),(Ba c z),(Bf z),(Be y8 z),(.blk x.1.2.1 (.cells #[i6 0,i6 0,i6 0] 98 (0,0)) true),(.blk x.1.2.2 (.cells #[i6 ((Af (AO c p) 405 ⟨(p:Int), -1⟩).e),i6 ((Af (AO c p) 405 ⟨(p:Int), -1⟩).Ag.First),i6 ((Af (AO c p) 405 ⟨(p:Int), -1⟩).Ag.Second),i6 ((Af (win y8.AU 0 15) 406 ⟨(p:Int), -1⟩).e),i6 ((Af (win y8.AU 0 15) 406 ⟨(p:Int), -1⟩).Ag.First),i6 ((Af (win y8.AU 0 15) 406 ⟨(p:Int), -1⟩).Ag.Second),i6 ((Af (win y8.AZ 0 16) 407 ⟨(p:Int), -1⟩).e),i6 ((Af (win y8.AZ 0 16) 407 ⟨(p:Int), -1⟩).Ag.First),i6 ((Af (win y8.AZ 0 16) 407 ⟨(p:Int), -1⟩).Ag.Second),i6 ((Af (win (y8.Ah.xs.length:Int) 1 8) 408 ⟨(p:Int), -1⟩).e),i6 ((Af (win (y8.Ah.xs.length:Int) 1 8) 408 ⟨(p:Int), -1⟩).Ag.First),i6 ((Af (win (y8.Ah.xs.length:Int) 1 8) 408 ⟨(p:Int), -1⟩).Ag.Second)] 98 (0,0)) true)]⟩) 2 [true,true,true,true,true,true,true,true,true,true,true,true,true,true,true,true,true,true,true,true,true,true,true,true,true,true,true,true,true,true,true,true,true,true,true,true,false,true,false] ?_ (fun hv49 => ?_)
     ·rintro⟨⟨n46,b47,b48⟩,hb50⟩
      simp only at hb50
      show Wg _ _ [(1,Aa p),(2,pt z),(AA z),(AL z),(6,pt b47),(49,.slice (some ⟨b48,0,none⟩) 4 4)] _ ⟨w,n46,[(Ak w),(Ba c z),(Bf z),(Be y8 z),(bk b47 #[i6 0,i6 0,i6 0] 98),(bk b48 #[i6 ((Af (AO c p) 405 ⟨(p:Int), -1⟩).e),i6 ((Af (AO c p) 405 ⟨(p:Int), -1⟩).Ag.First),i6 ((Af (AO c p) 405 ⟨(p:Int), -1⟩).Ag.Second),i6 ((Af (win y8.AU 0 15) 406 ⟨(p:Int), -1⟩).e),i6 ((Af (win y8.AU 0 15) 406 ⟨(p:Int), -1⟩).Ag.First),i6 ((Af (win y8.AU 0 15) 406 ⟨(p:Int), -1⟩).Ag.Second),i6 ((Af (win y8.AZ 0 16) 407 ⟨(p:Int), -1⟩).e),i6 ((Af (win y8.AZ 0 16) 407 ⟨(p:Int), -1⟩).Ag.First),i6 ((Af (win y8.AZ 0 16) 407 ⟨(p:Int), -1⟩).Ag.Second),i6 ((Af (win (y8.Ah.xs.length:Int) 1 8) 408 ⟨(p:Int), -1⟩).e),i6 ((Af (win (y8.Ah.xs.length:Int) 1 8) 408 ⟨(p:Int), -1⟩).Ag.First),i6 ((Af (win (y8.Ah.xs.length:Int) 1 8) 408 ⟨(p:Int), -1⟩).Ag.Second)] 98)]⟩ _ _ _ _ _ _ _
      refine AV 36 ?_
      refine Gi 108 #[.slice (some ⟨b48,0,none⟩) 4 4] (some 50) (.agg (Am.arr (Bl [(Af (AO c p) 405 ⟨(p:Int), -1⟩),(Af (win y8.AU 0 15) 406 ⟨(p:Int), -1⟩),(Af (win y8.AZ 0 16) 407 ⟨(p:Int), -1⟩),(Af (win (y8.Ah.xs.length:Int) 1 8) 408 ⟨(p:Int), -1⟩)]))) [1,2,4,5,6,50] [(1,Aa p),(2,pt z),(AA z),(AL z),(6,pt b47),(Qd c p y8)] [0,1,2,3] (fun w51 hw51=>Dp w51 (hL.ext (hw51.ext rfl)) ⟨some ⟨b48,0,none⟩,4,[(Af (AO c p) 405 ⟨(p:Int), -1⟩),(Af (win y8.AU 0 15) 406 ⟨(p:Int), -1⟩),(Af (win y8.AZ 0 16) 407 ⟨(p:Int), -1⟩),(Af (win (y8.Ah.xs.length:Int) 1 8) 408 ⟨(p:Int), -1⟩)]⟩ (Ef hw51 (i:=5) [(Af (AO c p) 405 ⟨(p:Int), -1⟩),(Af (win y8.AU 0 15) 406 ⟨(p:Int), -1⟩),(Af (win y8.AZ 0 16) 407 ⟨(p:Int), -1⟩),(Af (win (y8.Ah.xs.length:Int) 1 8) 408 ⟨(p:Int), -1⟩)]) (show 4≤1000 by decide)) (fun n52 hn53 => ?_)
      replace hn53:n46≤n52:=hn53
      refine CB [1,2,4,5,6,50] [(1,Aa p),(2,pt z),(AA z),(AL z),(6,pt b47),(Qd c p y8)] ?_
      exact hv44 ⟨(n52,b47,b48),by first | omega | (dsimp only;omega)⟩
     refine IA [35,37] ?_
     refine List.forall_mem_cons.2 ⟨?_,List.forall_mem_cons.2 ⟨?_,fun _ h=>absurd h List.not_mem_nil⟩⟩
     ·refine Bi o0 [1,2,4,5,49] [] [(1,Aa p),(2,pt z),(AA z),(AL z),(49,.slice (some ⟨n32,0,none⟩) 4 4)] ⟨w,n32+1,[(Ak w),(Ba c z),(Bf z),(Be y8 z),(NH c p y8 n32)]⟩ [0,1,2,3] Ae (.inr rfl) ?_
      refine IA [36,37] ?_
      refine List.forall_mem_cons.2 ⟨?_,List.forall_mem_cons.2 ⟨?_,fun _ h=>absurd h List.not_mem_nil⟩⟩
      ·refine Gi 108 #[.slice (some ⟨n32,0,none⟩) 4 4] (some 50) (.agg (Am.arr (Bl [(Af (AO c p) 405 ⟨(p:Int), -1⟩),(Af (win y8.AU 0 15) 406 ⟨(p:Int), -1⟩),(Af (win y8.AZ 0 16) 407 ⟨(p:Int), -1⟩),(Af (win (y8.Ah.xs.length:Int) 1 8) 408 ⟨(p:Int), -1⟩)]))) [1,2,4,5,50] [(1,Aa p),(2,pt z),(AA z),(AL z),(Qd c p y8)] [0,1,2,3] (fun w54 hw54=>Dp w54 (hL.ext (hw54.ext rfl)) ⟨some ⟨n32,0,none⟩,4,[(Af (AO c p) 405 ⟨(p:Int), -1⟩),(Af (win y8.AU 0 15) 406 ⟨(p:Int), -1⟩),(Af (win y8.AZ 0 16) 407 ⟨(p:Int), -1⟩),(Af (win (y8.Ah.xs.length:Int) 1 8) 408 ⟨(p:Int), -1⟩)]⟩ (Ef hw54 (i:=4) [(Af (AO c p) 405 ⟨(p:Int), -1⟩),(Af (win y8.AU 0 15) 406 ⟨(p:Int), -1⟩),(Af (win y8.AZ 0 16) 407 ⟨(p:Int), -1⟩),(Af (win (y8.Ah.xs.length:Int) 1 8) 408 ⟨(p:Int), -1⟩)]) (show 4≤1000 by decide)) (fun n55 hn56 => ?_)
       replace hn56:n32+1≤n55:=hn56
       refine AV 37 ?_
       refine Bi o0 [1,2,4,5,50,6] [] [(1,Aa p),(2,pt z),(AA z),(AL z),(Qd c p y8),(6,pt n55)] ⟨w,n55+1,[(Ak w),(Ba c z),(Bf z),(Be y8 z),(NH c p y8 n32),(bk n55 #[i6 0,i6 0,i6 0] 98)]⟩ [0,1,2,3] Ae (.inr rfl) ?_
       refine KJ [0,1,2,3,5,4] [(Ak w),(Ba c z),(Bf z),(Be y8 z),(bk n55 #[i6 0,i6 0,i6 0] 98),(NH c p y8 n32)] rfl rfl ?_
       refine CB [1,2,4,5,6,50] [(1,Aa p),(2,pt z),(AA z),(AL z),(6,pt n55),(Qd c p y8)] ?_
       exact hv44 ⟨(n55+1,n55,n32),by first | omega | (dsimp only;omega)⟩
      refine Bi o0 [1,2,4,5,49,6] [] [(1,Aa p),(2,pt z),(AA z),(AL z),(49,.slice (some ⟨n32,0,none⟩) 4 4),(6,pt (n32+1))] ⟨w,n32+2,[(Ak w),(Ba c z),(Bf z),(Be y8 z),(NH c p y8 n32),(bk (n32+1) #[i6 0,i6 0,i6 0] 98)]⟩ [0,1,2,3] Ae (.inr rfl) ?_
      refine KJ [0,1,2,3,5,4] [(Ak w),(Ba c z),(Bf z),(Be y8 z),(bk (n32+1) #[i6 0,i6 0,i6 0] 98),(NH c p y8 n32)] rfl rfl ?_
      refine CB [1,2,4,5,6,49] [(1,Aa p),(2,pt z),(AA z),(AL z),(6,pt (n32+1)),(49,.slice (some ⟨n32,0,none⟩) 4 4)] ?_
      exact hv49 ⟨(n32+2,n32+1,n32),by first | omega | (dsimp only;omega)⟩
     refine Bi o0 [1,2,4,5,19,30,41,48,6] [] [(1,Aa p),(2,pt z),(AA z),(AL z),(JB c p),(Qh p y8),(NL p y8),(JA p y8),(6,pt n32)] ⟨w,n32+1,[(Ak w),(Ba c z),(Bf z),(Be y8 z),(bk n32 #[i6 0,i6 0,i6 0] 98)]⟩ [0,1,2,3] Ae (.inr rfl) ?_
     refine CB [6,1,2,4,5,19,30,41,48] [(6,pt n32),(1,Aa p),(2,pt z),(AA z),(AL z),(JB c p),(Qh p y8),(NL p y8),(JA p y8)] ?_
     exact hv34 ⟨(n32+1,n32),by first | omega | (dsimp only;omega)⟩
    rintro⟨⟨n15,b16,b17⟩,hJ57⟩
    simp only at hJ57
    show E _ _ [(1,Aa p),(2,pt z),(AA z),(AL z),(6,pt b17)] _ ⟨w,n15,[(Ak w),(Ba c z),(Bf z),(Be y8 z),(bk b16 #[i6 ((Af (AO c p) 405 ⟨(p:Int), -1⟩).e),i6 ((Af (AO c p) 405 ⟨(p:Int), -1⟩).Ag.First),i6 ((Af (AO c p) 405 ⟨(p:Int), -1⟩).Ag.Second),i6 ((Af (win y8.AU 0 15) 406 ⟨(p:Int), -1⟩).e),i6 ((Af (win y8.AU 0 15) 406 ⟨(p:Int), -1⟩).Ag.First),i6 ((Af (win y8.AU 0 15) 406 ⟨(p:Int), -1⟩).Ag.Second),i6 ((Af (win y8.AZ 0 16) 407 ⟨(p:Int), -1⟩).e),i6 ((Af (win y8.AZ 0 16) 407 ⟨(p:Int), -1⟩).Ag.First),i6 ((Af (win y8.AZ 0 16) 407 ⟨(p:Int), -1⟩).Ag.Second),i6 ((Af (win (y8.Ah.xs.length:Int) 1 8) 408 ⟨(p:Int), -1⟩).e),i6 ((Af (win (y8.Ah.xs.length:Int) 1 8) 408 ⟨(p:Int), -1⟩).Ag.First),i6 ((Af (win (y8.Ah.xs.length:Int) 1 8) 408 ⟨(p:Int), -1⟩).Ag.Second)] 98),(XO c p y8 b17)]⟩ _ _ _
    refine C9 [0,1,2,3,5] [(Ak w),(Ba c z),(Bf z),(Be y8 z),(XO c p y8 b17)] rfl rfl ?_
    have eA:Bl (IG c p)=(Bl [(Af (AO c p) 405 ⟨(p:Int), -1⟩),(Af (win y8.AU 0 15) 406 ⟨(p:Int), -1⟩),(Af (win y8.AZ 0 16) 407 ⟨(p:Int), -1⟩),(Af (win (y8.Ah.xs.length:Int) 1 8) 408 ⟨(p:Int), -1⟩)]):=by have e0:FY c p=y8:=hy8.symm;unfold IG;simp only[e0];simp[h11,h13]
    refine Cb [1,2,4,5,6] [(1,Aa p),(2,pt z),(AA z),(AL z),(6,pt b17)] ?_
    refine CS (fun a w' hs=>⟨n15,b17,by omega,(by(try dsimp only[XO,Bf,Be,Ba,JA,Qh,NL,JB,PS,AA,AL,CY]at hs ⊢);rw[eA];exact hs)⟩)
   have hd58:=KL h13
   refine DK 38 [0,1,2,3] [(Ak w),(Ba c z),(Bf z),(Be y8 z)] rfl rfl ?_
   refine CP [(0,(an 7 1)),(1,o0),(3,o0),(6,o0),(7,(a1 3)),(14,o0),(17,o0),(18,(a1 3)),(25,o0),(28,o0),(29,(a1 3)),(30,o0),(32,o0)] [1,2,4,5,14,15,17,21,28,32,39,44,46] [Qb z,Qb z,Qb z,Qb z,Qb z,Qb z,Qb z,Qb (z+2),Qb (z+2),Qb (z+2)] [true,true,false,true,false,false,true,true,false,false,false,false,false,false,true,false,false,true,true,false,false,false,false,false,false,true,false,false,true,true,true,false,true,false,false,false,false,false,false] [(1,Aa p),(2,pt z),(AA z),(AL z),(14,.agg (Ai.arr c)),(15,Aa p),(17,Aa p),(21,i6 y8.Dz),(28,Aa p),(32,i6 y8.Dx),(39,Aa p),(PS y8),(46,Aa p)] ⟨rfl,rfl,rfl,rfl,rfl,rfl,rfl,rfl,rfl,rfl,Ae⟩ ?_
   refine Pi (fun x:{p:Nat×Nat×Nat // z+3≤p.1∧z+3≤p.2.1∧z+3≤p.2.2}=>([(1,Aa p),(2,pt z),(AA z),(AL z),(6,pt x.1.2.2)],⟨w,x.1.1,[(Ak w),(Ba c z),(Bf z),(Be y8 z),(.blk x.1.2.1 (.cells #[i6 ((Af (AO c p) 405 ⟨(p:Int), -1⟩).e),i6 ((Af (AO c p) 405 ⟨(p:Int), -1⟩).Ag.First),i6 ((Af (AO c p) 405 ⟨(p:Int), -1⟩).Ag.Second),i6 ((Af (win y8.AU 0 15) 406 ⟨(p:Int), -1⟩).e),i6 ((Af (win y8.AU 0 15) 406 ⟨(p:Int), -1⟩).Ag.First),i6 ((Af (win y8.AU 0 15) 406 ⟨(p:Int), -1⟩).Ag.Second),i6 ((Af false 407 ⟨(p:Int), -1⟩).e),i6 ((Af false 407 ⟨(p:Int), -1⟩).Ag.First),i6 ((Af false 407 ⟨(p:Int), -1⟩).Ag.Second),i6 ((Af (win (y8.Ah.xs.length:Int) 1 8) 408 ⟨(p:Int), -1⟩).e),i6 ((Af (win (y8.Ah.xs.length:Int) 1 8) 408 ⟨(p:Int), -1⟩).Ag.First),i6 ((Af (win (y8.Ah.xs.length:Int) 1 8) 408 ⟨(p:Int), -1⟩).Ag.Second)] 98 (0,0)) true),(.blk x.1.2.2 (.cells (Am.arr (Bl [(Af (AO c p) 405 ⟨(p:Int), -1⟩),(Af (win y8.AU 0 15) 406 ⟨(p:Int), -1⟩),(Af false 407 ⟨(p:Int), -1⟩),(Af (win (y8.Ah.xs.length:Int) 1 8) 408 ⟨(p:Int), -1⟩)])) 98 (0,0)) true)]⟩)) (fun hK => ?_) ?_
   ·refine O4 37 6 [.cl 2 (.bool (AO c p)),.cl 4 (.agg #[(Aa p),i6 (-1)]),.cl 5 (.agg (Am.arr (Af (AO c p) 405 ⟨(p:Int), -1⟩))),.cl 8 (.bool (win y8.Dz 0 2)),.tk 9 (ov (.bool true)),.tk 10 o0,.tk 11 (a1 3),.cl 12 (.bool (win y8.AU 0 15)),.tk 13 o0,.cl 15 (.agg #[(Aa p),i6 (-1)]),.cl 16 (.agg (Am.arr (Af (win y8.AU 0 15) 406 ⟨(p:Int), -1⟩))),.cl 19 (.bool (win y8.Dx 0 16)),.tk 20 (ov (.bool false)),.tk 21 o0,.tk 22 o0,.tk 23 o0,.tk 24 o0,.cl 26 (.agg #[(Aa p),i6 (-1)]),.cl 27 (.agg (Am.arr (Af false 407 ⟨(p:Int), -1⟩))),.cl 31 (.bool (win (y8.Ah.xs.length:Int) 1 8)),.cl 33 (.agg #[(Aa p),i6 (-1)]),.cl 34 (.agg (Am.arr (Af (win (y8.Ah.xs.length:Int) 1 8) 408 ⟨(p:Int), -1⟩)))] [1,2,4,5,19,30,41,48] [(109,#[.agg (Ai.arr c),Aa p],.bool (AO c p)),(110,#[(Aa p)],.agg #[(Aa p),i6 (-1)]),(71,#[.bool (AO c p),i6 405,.agg #[(Aa p),i6 (-1)]],.agg (Am.arr (Af (AO c p) 405 ⟨(p:Int), -1⟩))),(72,#[i6 y8.Dz,i6 0,i6 2],.bool (win y8.Dz 0 2)),(72,#[i6 y8.AU,i6 0,i6 15],.bool (win y8.AU 0 15)),(110,#[(Aa p)],.agg #[(Aa p),i6 (-1)]),(71,#[.bool (win y8.AU 0 15),i6 406,.agg #[(Aa p),i6 (-1)]],.agg (Am.arr (Af (win y8.AU 0 15) 406 ⟨(p:Int), -1⟩))),(72,#[i6 y8.Dx,i6 0,i6 16],.bool (win y8.Dx 0 16)),(110,#[(Aa p)],.agg #[(Aa p),i6 (-1)]),(71,#[.bool false,i6 407,.agg #[(Aa p),i6 (-1)]],.agg (Am.arr (Af false 407 ⟨(p:Int), -1⟩))),(72,#[(Aa y8.Ah.xs.length),i6 1,i6 8],.bool (win (y8.Ah.xs.length:Int) 1 8)),(110,#[(Aa p)],.agg #[(Aa p),i6 (-1)]),(71,#[.bool (win (y8.Ah.xs.length:Int) 1 8),i6 408,.agg #[(Aa p),i6 (-1)]],.agg (Am.arr (Af (win (y8.Ah.xs.length:Int) 1 8) 408 ⟨(p:Int), -1⟩)))] (Dy 35 4) [Value.bool (win y8.Dz 0 2)=Value.bool true,Qb (z+2),Value.bool (win y8.Dx 0 16)=Value.bool false] [(1,Aa p),(2,pt z),(AA z),(AL z),(JB c p),(Qh p y8),(Qe p),(JA p y8)] (.cells #[i6 0,i6 0,i6 0] 98 (0,0)) [0,1,2,3] ⟨(congrArg Value.bool h11),rfl,(congrArg Value.bool (Bool.eq_false_iff.2 h13)),Ae⟩ ⟨fun w62 hw62=>Ro w62 c (hc.ext (hw62.ext rfl) (fun _ h=>h)) p hp,fun w63 hw63=>Df w63 (p:Int),fun w64 hw64=>Bg w64 (hL.ext (hw64.ext rfl)) (AO c p) 405 (p:Int) (-1),fun w65 hw65=>BQ w65 y8.Dz 0 2,fun w66 hw66=>BQ w66 y8.AU 0 15,fun w67 hw67=>Df w67 (p:Int),fun w68 hw68=>Bg w68 (hL.ext (hw68.ext rfl)) (win y8.AU 0 15) 406 (p:Int) (-1),fun w69 hw69=>BQ w69 y8.Dx 0 16,fun w70 hw70=>Df w70 (p:Int),fun w71 hw71=>Bg w71 (hL.ext (hw71.ext rfl)) false 407 (p:Int) (-1),fun w72 hw72=>BQ w72 (y8.Ah.xs.length:Int) 1 8,fun w73 hw73=>Df w73 (p:Int),fun w74 hw74=>Bg w74 (hL.ext (hw74.ext rfl)) (win (y8.Ah.xs.length:Int) 1 8) 408 (p:Int) (-1),Ae⟩ ?_ (fun hv77 n75 hn76 => ?_)
    ·rintro⟨⟨n78,b79⟩,hb80⟩
     simp only at hb80
     refine AV 35 ?_
     refine Bi o0 [6,1,2,4,5,49] [] [(6,pt b79),(1,Aa p),(2,pt z),(AA z),(AL z),(49,.slice (some ⟨n78,0,none⟩) 4 4)] ⟨w,n78+1,[(Ak w),(Ba c z),(Bf z),(Be y8 z),(bk b79 #[i6 0,i6 0,i6 0] 98),(LW c p y8 n78)]⟩ [0,1,2,3] Ae (.inr rfl) ?_
     refine AV 36 ?_
     refine Gi 108 #[.slice (some ⟨n78,0,none⟩) 4 4] (some 50) (.agg (Am.arr (Bl [(Af (AO c p) 405 ⟨(p:Int), -1⟩),(Af (win y8.AU 0 15) 406 ⟨(p:Int), -1⟩),(Af false 407 ⟨(p:Int), -1⟩),(Af (win (y8.Ah.xs.length:Int) 1 8) 408 ⟨(p:Int), -1⟩)]))) [6,1,2,4,5,50] [(6,pt b79),(1,Aa p),(2,pt z),(AA z),(AL z),(PU c p y8)] [0,1,2,3] (fun w81 hw81=>Dp w81 (hL.ext (hw81.ext rfl)) ⟨some ⟨n78,0,none⟩,4,[(Af (AO c p) 405 ⟨(p:Int), -1⟩),(Af (win y8.AU 0 15) 406 ⟨(p:Int), -1⟩),(Af false 407 ⟨(p:Int), -1⟩),(Af (win (y8.Ah.xs.length:Int) 1 8) 408 ⟨(p:Int), -1⟩)]⟩ (Ef hw81 (i:=5) [(Af (AO c p) 405 ⟨(p:Int), -1⟩),(Af (win y8.AU 0 15) 406 ⟨(p:Int), -1⟩),(Af false 407 ⟨(p:Int), -1⟩),(Af (win (y8.Ah.xs.length:Int) 1 8) 408 ⟨(p:Int), -1⟩)]) (show 4≤1000 by decide)) (fun n82 hn83 => ?_)
     replace hn83:n78+1≤n82:=hn83
     refine AV 38 ?_
     refine Bi (an 3 4) [6,1,2,4,5] [Qb b79,Qb b79,Qb b79] [(6,pt b79),(1,Aa p),(2,pt z),(AA z),(AL z)] ⟨w,n82,[(Ak w),(Ba c z),(Bf z),(Be y8 z),(Zz c p y8 b79),(LW c p y8 n78)]⟩ [] ⟨rfl,rfl,rfl,Ae⟩ (.inl rfl) ?_
     refine D9 39 [0,1,2,3,4,5] [(Ak w),(Ba c z),(Bf z),(Be y8 z),(Zz c p y8 b79),(LW c p y8 n78)] rfl rfl ?_
     refine CQ ?_
     refine Cb [1,2,4,5,6] [(1,Aa p),(2,pt z),(AA z),(AL z),(6,pt b79)] ?_
     refine C9 [0,1,2,3,5,4] [(Ak w),(Ba c z),(Bf z),(Be y8 z),(LW c p y8 n78),(Zz c p y8 b79)] rfl rfl ?_
     exact hK ⟨(n82,n78,b79),by first | omega | (dsimp only;omega)⟩
    replace hn76:z+3≤n75:=hn76
    refine MH (fun x:{p:Nat×Nat×Nat // n75≤p.1∧n75≤p.2.1∧n75≤p.2.2}=>[(1,Aa p),(2,pt z),(AA z),(AL z),(6,pt x.1.2.1),(PU c p y8)]) (fun x=>⟨w,x.1.1,[(Ak w),(Ba c z),(Bf z),(Be y8 z),(.blk x.1.2.1 (.cells #[i6 0,i6 0,i6 0] 98 (0,0)) true),(.blk x.1.2.2 (.cells #[i6 ((Af (AO c p) 405 ⟨(p:Int), -1⟩).e),i6 ((Af (AO c p) 405 ⟨(p:Int), -1⟩).Ag.First),i6 ((Af (AO c p) 405 ⟨(p:Int), -1⟩).Ag.Second),i6 ((Af (win y8.AU 0 15) 406 ⟨(p:Int), -1⟩).e),i6 ((Af (win y8.AU 0 15) 406 ⟨(p:Int), -1⟩).Ag.First),i6 ((Af (win y8.AU 0 15) 406 ⟨(p:Int), -1⟩).Ag.Second),i6 ((Af false 407 ⟨(p:Int), -1⟩).e),i6 ((Af false 407 ⟨(p:Int), -1⟩).Ag.First),i6 ((Af false 407 ⟨(p:Int), -1⟩).Ag.Second),i6 ((Af (win (y8.Ah.xs.length:Int) 1 8) 408 ⟨(p:Int), -1⟩).e),i6 ((Af (win (y8.Ah.xs.length:Int) 1 8) 408 ⟨(p:Int), -1⟩).Ag.First),i6 ((Af (win (y8.Ah.xs.length:Int) 1 8) 408 ⟨(p:Int), -1⟩).Ag.Second)] 98 (0,0)) true)]⟩) 1 (Dy 38 1) ?_ (fun hv87 => ?_)
    ·rintro⟨⟨n84,b85,b86⟩,hb88⟩
     simp only at hb88
     show Wg _ _ [(1,Aa p),(2,pt z),(AA z),(AL z),(6,pt b85),(PU c p y8)] _ ⟨w,n84,[(Ak w),(Ba c z),(Bf z),(Be y8 z),(bk b85 #[i6 0,i6 0,i6 0] 98),(ND c p y8 b86)]⟩ _ _ _ _ _ _ _
     refine AV 38 ?_
     refine Bi (an 3 4) [1,2,4,5,6] [Qb b85,Qb b85,Qb b85] [(1,Aa p),(2,pt z),(AA z),(AL z),(6,pt b85)] ⟨w,n84,[(Ak w),(Ba c z),(Bf z),(Be y8 z),(Zaa c p y8 b85),(ND c p y8 b86)]⟩ [] ⟨rfl,rfl,rfl,Ae⟩ (.inl rfl) ?_
     refine D9 39 [0,1,2,3,4,5] [(Ak w),(Ba c z),(Bf z),(Be y8 z),(Zaa c p y8 b85),(ND c p y8 b86)] rfl rfl ?_
     refine CQ ?_
     refine Cb [1,2,4,5,6] [(1,Aa p),(2,pt z),(AA z),(AL z),(6,pt b85)] ?_
     refine C9 [0,1,2,3,5,4] [(Ak w),(Ba c z),(Bf z),(Be y8 z),(ND c p y8 b86),(Zaa c p y8 b85)] rfl rfl ?_
     exact hK ⟨(n84,b86,b85),by first | omega | (dsimp only;omega)⟩
    refine MH (fun x:{p:Nat×Nat×Nat // n75≤p.1∧n75≤p.2.1∧n75≤p.2.2}=>[(1,Aa p),(2,pt z),(AA z),(AL z),(6,pt x.1.2.1),(49,.slice (some ⟨x.1.2.2,0,none⟩) 4 4)]) (fun x=>⟨w,x.1.1,[(Ak w),(Ba c z),(Bf z),(Be y8 z),(.blk x.1.2.1 (.cells #[i6 0,i6 0,i6 0] 98 (0,0)) true),(.blk x.1.2.2 (.cells #[i6 ((Af (AO c p) 405 ⟨(p:Int), -1⟩).e),i6 ((Af (AO c p) 405 ⟨(p:Int), -1⟩).Ag.First),i6 ((Af (AO c p) 405 ⟨(p:Int), -1⟩).Ag.Second),i6 ((Af (win y8.AU 0 15) 406 ⟨(p:Int), -1⟩).e),i6 ((Af (win y8.AU 0 15) 406 ⟨(p:Int), -1⟩).Ag.First),i6 ((Af (win y8.AU 0 15) 406 ⟨(p:Int), -1⟩).Ag.Second),i6 ((Af false 407 ⟨(p:Int), -1⟩).e),i6 ((Af false 407 ⟨(p:Int), -1⟩).Ag.First),i6 ((Af false 407 ⟨(p:Int), -1⟩).Ag.Second),i6 ((Af (win (y8.Ah.xs.length:Int) 1 8) 408 ⟨(p:Int), -1⟩).e),i6 ((Af (win (y8.Ah.xs.length:Int) 1 8) 408 ⟨(p:Int), -1⟩).Ag.First),i6 ((Af (win (y8.Ah.xs.length:Int) 1 8) 408 ⟨(p:Int), -1⟩).Ag.Second)] 98 (0,0)) true)]⟩) 2 [true,true,true,true,true,true,true,true,true,true,true,true,true,true,true,true,true,true,true,true,true,true,true,true,true,true,true,true,true,true,true,true,true,true,true,true,false,true,false] ?_ (fun hv92 => ?_)
    ·rintro⟨⟨n89,b90,b91⟩,hb93⟩
     simp only at hb93
     show Wg _ _ [(1,Aa p),(2,pt z),(AA z),(AL z),(6,pt b90),(49,.slice (some ⟨b91,0,none⟩) 4 4)] _ ⟨w,n89,[(Ak w),(Ba c z),(Bf z),(Be y8 z),(bk b90 #[i6 0,i6 0,i6 0] 98),(bk b91 #[i6 ((Af (AO c p) 405 ⟨(p:Int), -1⟩).e),i6 ((Af (AO c p) 405 ⟨(p:Int), -1⟩).Ag.First),i6 ((Af (AO c p) 405 ⟨(p:Int), -1⟩).Ag.Second),i6 ((Af (win y8.AU 0 15) 406 ⟨(p:Int), -1⟩).e),i6 ((Af (win y8.AU 0 15) 406 ⟨(p:Int), -1⟩).Ag.First),i6 ((Af (win y8.AU 0 15) 406 ⟨(p:Int), -1⟩).Ag.Second),i6 ((Af false 407 ⟨(p:Int), -1⟩).e),i6 ((Af false 407 ⟨(p:Int), -1⟩).Ag.First),i6 ((Af false 407 ⟨(p:Int), -1⟩).Ag.Second),i6 ((Af (win (y8.Ah.xs.length:Int) 1 8) 408 ⟨(p:Int), -1⟩).e),i6 ((Af (win (y8.Ah.xs.length:Int) 1 8) 408 ⟨(p:Int), -1⟩).Ag.First),i6 ((Af (win (y8.Ah.xs.length:Int) 1 8) 408 ⟨(p:Int), -1⟩).Ag.Second)] 98)]⟩ _ _ _ _ _ _ _
     refine AV 36 ?_
     refine Gi 108 #[.slice (some ⟨b91,0,none⟩) 4 4] (some 50) (.agg (Am.arr (Bl [(Af (AO c p) 405 ⟨(p:Int), -1⟩),(Af (win y8.AU 0 15) 406 ⟨(p:Int), -1⟩),(Af false 407 ⟨(p:Int), -1⟩),(Af (win (y8.Ah.xs.length:Int) 1 8) 408 ⟨(p:Int), -1⟩)]))) [1,2,4,5,6,50] [(1,Aa p),(2,pt z),(AA z),(AL z),(6,pt b90),(PU c p y8)] [0,1,2,3] (fun w94 hw94=>Dp w94 (hL.ext (hw94.ext rfl)) ⟨some ⟨b91,0,none⟩,4,[(Af (AO c p) 405 ⟨(p:Int), -1⟩),(Af (win y8.AU 0 15) 406 ⟨(p:Int), -1⟩),(Af false 407 ⟨(p:Int), -1⟩),(Af (win (y8.Ah.xs.length:Int) 1 8) 408 ⟨(p:Int), -1⟩)]⟩ (Ef hw94 (i:=5) [(Af (AO c p) 405 ⟨(p:Int), -1⟩),(Af (win y8.AU 0 15) 406 ⟨(p:Int), -1⟩),(Af false 407 ⟨(p:Int), -1⟩),(Af (win (y8.Ah.xs.length:Int) 1 8) 408 ⟨(p:Int), -1⟩)]) (show 4≤1000 by decide)) (fun n95 hn96 => ?_)
     replace hn96:n89≤n95:=hn96
     refine CB [1,2,4,5,6,50] [(1,Aa p),(2,pt z),(AA z),(AL z),(6,pt b90),(PU c p y8)] ?_
     exact hv87 ⟨(n95,b90,b91),by first | omega | (dsimp only;omega)⟩
    refine IA [35,37] ?_
    refine List.forall_mem_cons.2 ⟨?_,List.forall_mem_cons.2 ⟨?_,fun _ h=>absurd h List.not_mem_nil⟩⟩
    ·refine Bi o0 [1,2,4,5,49] [] [(1,Aa p),(2,pt z),(AA z),(AL z),(49,.slice (some ⟨n75,0,none⟩) 4 4)] ⟨w,n75+1,[(Ak w),(Ba c z),(Bf z),(Be y8 z),(JK c p y8 n75)]⟩ [0,1,2,3] Ae (.inr rfl) ?_
     refine IA [36,37] ?_
     refine List.forall_mem_cons.2 ⟨?_,List.forall_mem_cons.2 ⟨?_,fun _ h=>absurd h List.not_mem_nil⟩⟩
     ·refine Gi 108 #[.slice (some ⟨n75,0,none⟩) 4 4] (some 50) (.agg (Am.arr (Bl [(Af (AO c p) 405 ⟨(p:Int), -1⟩),(Af (win y8.AU 0 15) 406 ⟨(p:Int), -1⟩),(Af false 407 ⟨(p:Int), -1⟩),(Af (win (y8.Ah.xs.length:Int) 1 8) 408 ⟨(p:Int), -1⟩)]))) [1,2,4,5,50] [(1,Aa p),(2,pt z),(AA z),(AL z),(PU c p y8)] [0,1,2,3] (fun w97 hw97=>Dp w97 (hL.ext (hw97.ext rfl)) ⟨some ⟨n75,0,none⟩,4,[(Af (AO c p) 405 ⟨(p:Int), -1⟩),(Af (win y8.AU 0 15) 406 ⟨(p:Int), -1⟩),(Af false 407 ⟨(p:Int), -1⟩),(Af (win (y8.Ah.xs.length:Int) 1 8) 408 ⟨(p:Int), -1⟩)]⟩ (Ef hw97 (i:=4) [(Af (AO c p) 405 ⟨(p:Int), -1⟩),(Af (win y8.AU 0 15) 406 ⟨(p:Int), -1⟩),(Af false 407 ⟨(p:Int), -1⟩),(Af (win (y8.Ah.xs.length:Int) 1 8) 408 ⟨(p:Int), -1⟩)]) (show 4≤1000 by decide)) (fun n98 hn99 => ?_)
      replace hn99:n75+1≤n98:=hn99
      refine AV 37 ?_
      refine Bi o0 [1,2,4,5,50,6] [] [(1,Aa p),(2,pt z),(AA z),(AL z),(PU c p y8),(6,pt n98)] ⟨w,n98+1,[(Ak w),(Ba c z),(Bf z),(Be y8 z),(JK c p y8 n75),(bk n98 #[i6 0,i6 0,i6 0] 98)]⟩ [0,1,2,3] Ae (.inr rfl) ?_
      refine KJ [0,1,2,3,5,4] [(Ak w),(Ba c z),(Bf z),(Be y8 z),(bk n98 #[i6 0,i6 0,i6 0] 98),(JK c p y8 n75)] rfl rfl ?_
      refine CB [1,2,4,5,6,50] [(1,Aa p),(2,pt z),(AA z),(AL z),(6,pt n98),(PU c p y8)] ?_
      exact hv87 ⟨(n98+1,n98,n75),by first | omega | (dsimp only;omega)⟩
     refine Bi o0 [1,2,4,5,49,6] [] [(1,Aa p),(2,pt z),(AA z),(AL z),(49,.slice (some ⟨n75,0,none⟩) 4 4),(6,pt (n75+1))] ⟨w,n75+2,[(Ak w),(Ba c z),(Bf z),(Be y8 z),(JK c p y8 n75),(bk (n75+1) #[i6 0,i6 0,i6 0] 98)]⟩ [0,1,2,3] Ae (.inr rfl) ?_
     refine KJ [0,1,2,3,5,4] [(Ak w),(Ba c z),(Bf z),(Be y8 z),(bk (n75+1) #[i6 0,i6 0,i6 0] 98),(JK c p y8 n75)] rfl rfl ?_
     refine CB [1,2,4,5,6,49] [(1,Aa p),(2,pt z),(AA z),(AL z),(6,pt (n75+1)),(49,.slice (some ⟨n75,0,none⟩) 4 4)] ?_
     exact hv92 ⟨(n75+2,n75+1,n75),by first | omega | (dsimp only;omega)⟩
    refine Bi o0 [1,2,4,5,19,30,41,48,6] [] [(1,Aa p),(2,pt z),(AA z),(AL z),(JB c p),(Qh p y8),(Qe p),(JA p y8),(6,pt n75)] ⟨w,n75+1,[(Ak w),(Ba c z),(Bf z),(Be y8 z),(bk n75 #[i6 0,i6 0,i6 0] 98)]⟩ [0,1,2,3] Ae (.inr rfl) ?_
    refine CB [6,1,2,4,5,19,30,41,48] [(6,pt n75),(1,Aa p),(2,pt z),(AA z),(AL z),(JB c p),(Qh p y8),(Qe p),(JA p y8)] ?_
    exact hv77 ⟨(n75+1,n75),by first | omega | (dsimp only;omega)⟩
   rintro⟨⟨n59,b60,b61⟩,hJ100⟩
   simp only at hJ100
   show E _ _ [(1,Aa p),(2,pt z),(AA z),(AL z),(6,pt b61)] _ ⟨w,n59,[(Ak w),(Ba c z),(Bf z),(Be y8 z),(bk b60 #[i6 ((Af (AO c p) 405 ⟨(p:Int), -1⟩).e),i6 ((Af (AO c p) 405 ⟨(p:Int), -1⟩).Ag.First),i6 ((Af (AO c p) 405 ⟨(p:Int), -1⟩).Ag.Second),i6 ((Af (win y8.AU 0 15) 406 ⟨(p:Int), -1⟩).e),i6 ((Af (win y8.AU 0 15) 406 ⟨(p:Int), -1⟩).Ag.First),i6 ((Af (win y8.AU 0 15) 406 ⟨(p:Int), -1⟩).Ag.Second),i6 ((Af false 407 ⟨(p:Int), -1⟩).e),i6 ((Af false 407 ⟨(p:Int), -1⟩).Ag.First),i6 ((Af false 407 ⟨(p:Int), -1⟩).Ag.Second),i6 ((Af (win (y8.Ah.xs.length:Int) 1 8) 408 ⟨(p:Int), -1⟩).e),i6 ((Af (win (y8.Ah.xs.length:Int) 1 8) 408 ⟨(p:Int), -1⟩).Ag.First),i6 ((Af (win (y8.Ah.xs.length:Int) 1 8) 408 ⟨(p:Int), -1⟩).Ag.Second)] 98),(Z7 c p y8 b61)]⟩ _ _ _
   refine C9 [0,1,2,3,5] [(Ak w),(Ba c z),(Bf z),(Be y8 z),(Z7 c p y8 b61)] rfl rfl ?_
   have eA:Bl (IG c p)=(Bl [(Af (AO c p) 405 ⟨(p:Int), -1⟩),(Af (win y8.AU 0 15) 406 ⟨(p:Int), -1⟩),(Af false 407 ⟨(p:Int), -1⟩),(Af (win (y8.Ah.xs.length:Int) 1 8) 408 ⟨(p:Int), -1⟩)]):=by have e0:FY c p=y8:=hy8.symm;unfold IG;simp only[e0];simp[h11,h13]
   refine Cb [1,2,4,5,6] [(1,Aa p),(2,pt z),(AA z),(AL z),(6,pt b61)] ?_
   refine CS (fun a w' hs=>⟨n59,b61,by omega,(by(try dsimp only[XO,Z7,Bf,Be,Ba,JA,Qh,NL,JB,Qe,PS,AA,AL,CY]at hs ⊢);rw[eA];exact hs)⟩)
  have hd101:=KL h11
  by_cases h102:(win y8.Dx 0 16)=true
  ·have hd103:=Iz h102
   refine DK 38 [0,1,2,3] [(Ak w),(Ba c z),(Bf z),(Be y8 z)] rfl rfl ?_
   refine CP [(0,(an 7 1)),(1,o0),(3,o0),(6,o0),(7,(a1 3)),(14,o0),(17,o0),(18,(a1 3)),(25,o0),(28,o0),(29,(a1 3)),(30,o0),(32,o0)] [1,2,4,5,14,15,17,21,28,32,39,44,46] [Qb z,Qb z,Qb z,Qb z,Qb z,Qb z,Qb z,Qb (z+2),Qb (z+2),Qb (z+2)] [true,true,false,true,false,false,true,true,false,false,false,false,false,false,true,false,false,true,true,false,false,false,false,false,false,true,false,false,true,true,true,false,true,false,false,false,false,false,false] [(1,Aa p),(2,pt z),(AA z),(AL z),(14,.agg (Ai.arr c)),(15,Aa p),(17,Aa p),(21,i6 y8.Dz),(28,Aa p),(32,i6 y8.Dx),(39,Aa p),(PS y8),(46,Aa p)] ⟨rfl,rfl,rfl,rfl,rfl,rfl,rfl,rfl,rfl,rfl,Ae⟩ ?_
   refine Pi (fun x:{p:Nat×Nat×Nat // z+3≤p.1∧z+3≤p.2.1∧z+3≤p.2.2}=>([(1,Aa p),(2,pt z),(AA z),(AL z),(6,pt x.1.2.2)],⟨w,x.1.1,[(Ak w),(Ba c z),(Bf z),(Be y8 z),(.blk x.1.2.1 (.cells #[i6 ((Af (AO c p) 405 ⟨(p:Int), -1⟩).e),i6 ((Af (AO c p) 405 ⟨(p:Int), -1⟩).Ag.First),i6 ((Af (AO c p) 405 ⟨(p:Int), -1⟩).Ag.Second),i6 ((Af false 406 ⟨(p:Int), -1⟩).e),i6 ((Af false 406 ⟨(p:Int), -1⟩).Ag.First),i6 ((Af false 406 ⟨(p:Int), -1⟩).Ag.Second),i6 ((Af (win y8.AZ 0 16) 407 ⟨(p:Int), -1⟩).e),i6 ((Af (win y8.AZ 0 16) 407 ⟨(p:Int), -1⟩).Ag.First),i6 ((Af (win y8.AZ 0 16) 407 ⟨(p:Int), -1⟩).Ag.Second),i6 ((Af (win (y8.Ah.xs.length:Int) 1 8) 408 ⟨(p:Int), -1⟩).e),i6 ((Af (win (y8.Ah.xs.length:Int) 1 8) 408 ⟨(p:Int), -1⟩).Ag.First),i6 ((Af (win (y8.Ah.xs.length:Int) 1 8) 408 ⟨(p:Int), -1⟩).Ag.Second)] 98 (0,0)) true),(.blk x.1.2.2 (.cells (Am.arr (Bl [(Af (AO c p) 405 ⟨(p:Int), -1⟩),(Af false 406 ⟨(p:Int), -1⟩),(Af (win y8.AZ 0 16) 407 ⟨(p:Int), -1⟩),(Af (win (y8.Ah.xs.length:Int) 1 8) 408 ⟨(p:Int), -1⟩)])) 98 (0,0)) true)]⟩)) (fun hK => ?_) ?_
   ·refine O4 37 6 [.cl 2 (.bool (AO c p)),.cl 4 (.agg #[(Aa p),i6 (-1)]),.cl 5 (.agg (Am.arr (Af (AO c p) 405 ⟨(p:Int), -1⟩))),.cl 8 (.bool (win y8.Dz 0 2)),.tk 9 (ov (.bool false)),.tk 10 o0,.tk 11 o0,.tk 12 o0,.tk 13 o0,.cl 15 (.agg #[(Aa p),i6 (-1)]),.cl 16 (.agg (Am.arr (Af false 406 ⟨(p:Int), -1⟩))),.cl 19 (.bool (win y8.Dx 0 16)),.tk 20 (ov (.bool true)),.tk 21 o0,.tk 22 (a1 3),.cl 23 (.bool (win y8.AZ 0 16)),.tk 24 o0,.cl 26 (.agg #[(Aa p),i6 (-1)]),.cl 27 (.agg (Am.arr (Af (win y8.AZ 0 16) 407 ⟨(p:Int), -1⟩))),.cl 31 (.bool (win (y8.Ah.xs.length:Int) 1 8)),.cl 33 (.agg #[(Aa p),i6 (-1)]),.cl 34 (.agg (Am.arr (Af (win (y8.Ah.xs.length:Int) 1 8) 408 ⟨(p:Int), -1⟩)))] [1,2,4,5,19,30,41,48] [(109,#[.agg (Ai.arr c),Aa p],.bool (AO c p)),(110,#[(Aa p)],.agg #[(Aa p),i6 (-1)]),(71,#[.bool (AO c p),i6 405,.agg #[(Aa p),i6 (-1)]],.agg (Am.arr (Af (AO c p) 405 ⟨(p:Int), -1⟩))),(72,#[i6 y8.Dz,i6 0,i6 2],.bool (win y8.Dz 0 2)),(110,#[(Aa p)],.agg #[(Aa p),i6 (-1)]),(71,#[.bool false,i6 406,.agg #[(Aa p),i6 (-1)]],.agg (Am.arr (Af false 406 ⟨(p:Int), -1⟩))),(72,#[i6 y8.Dx,i6 0,i6 16],.bool (win y8.Dx 0 16)),(72,#[i6 y8.AZ,i6 0,i6 16],.bool (win y8.AZ 0 16)),(110,#[(Aa p)],.agg #[(Aa p),i6 (-1)]),(71,#[.bool (win y8.AZ 0 16),i6 407,.agg #[(Aa p),i6 (-1)]],.agg (Am.arr (Af (win y8.AZ 0 16) 407 ⟨(p:Int), -1⟩))),(72,#[(Aa y8.Ah.xs.length),i6 1,i6 8],.bool (win (y8.Ah.xs.length:Int) 1 8)),(110,#[(Aa p)],.agg #[(Aa p),i6 (-1)]),(71,#[.bool (win (y8.Ah.xs.length:Int) 1 8),i6 408,.agg #[(Aa p),i6 (-1)]],.agg (Am.arr (Af (win (y8.Ah.xs.length:Int) 1 8) 408 ⟨(p:Int), -1⟩)))] (Dy 35 4) [Value.bool (win y8.Dz 0 2)=Value.bool false,Value.bool (win y8.Dx 0 16)=Value.bool true,Qb (z+2)] [(1,Aa p),(2,pt z),(AA z),(AL z),(JB c p),(PW p),(NL p y8),(JA p y8)] (.cells #[i6 0,i6 0,i6 0] 98 (0,0)) [0,1,2,3] ⟨(congrArg Value.bool (Bool.eq_false_iff.2 h11)),(congrArg Value.bool h102),rfl,Ae⟩ ⟨fun w107 hw107=>Ro w107 c (hc.ext (hw107.ext rfl) (fun _ h=>h)) p hp,fun w108 hw108=>Df w108 (p:Int),fun w109 hw109=>Bg w109 (hL.ext (hw109.ext rfl)) (AO c p) 405 (p:Int) (-1),fun w110 hw110=>BQ w110 y8.Dz 0 2,fun w111 hw111=>Df w111 (p:Int),fun w112 hw112=>Bg w112 (hL.ext (hw112.ext rfl)) false 406 (p:Int) (-1),fun w113 hw113=>BQ w113 y8.Dx 0 16,fun w114 hw114=>BQ w114 y8.AZ 0 16,fun w115 hw115=>Df w115 (p:Int),fun w116 hw116=>Bg w116 (hL.ext (hw116.ext rfl)) (win y8.AZ 0 16) 407 (p:Int) (-1),fun w117 hw117=>BQ w117 (y8.Ah.xs.length:Int) 1 8,fun w118 hw118=>Df w118 (p:Int),fun w119 hw119=>Bg w119 (hL.ext (hw119.ext rfl)) (win (y8.Ah.xs.length:Int) 1 8) 408 (p:Int) (-1),Ae⟩ ?_ (fun hv122 n120 hn121 => ?_)
    ·rintro⟨⟨n123,b124⟩,hb125⟩
     simp only at hb125
     refine AV 35 ?_
     refine Bi o0 [6,1,2,4,5,49] [] [(6,pt b124),(1,Aa p),(2,pt z),(AA z),(AL z),(49,.slice (some ⟨n123,0,none⟩) 4 4)] ⟨w,n123+1,[(Ak w),(Ba c z),(Bf z),(Be y8 z),(bk b124 #[i6 0,i6 0,i6 0] 98),(Lj c p y8 n123)]⟩ [0,1,2,3] Ae (.inr rfl) ?_
     refine AV 36 ?_
     refine Gi 108 #[.slice (some ⟨n123,0,none⟩) 4 4] (some 50) (.agg (Am.arr (Bl [(Af (AO c p) 405 ⟨(p:Int), -1⟩),(Af false 406 ⟨(p:Int), -1⟩),(Af (win y8.AZ 0 16) 407 ⟨(p:Int), -1⟩),(Af (win (y8.Ah.xs.length:Int) 1 8) 408 ⟨(p:Int), -1⟩)]))) [6,1,2,4,5,50] [(6,pt b124),(1,Aa p),(2,pt z),(AA z),(AL z),(PI c p y8)] [0,1,2,3] (fun w126 hw126=>Dp w126 (hL.ext (hw126.ext rfl)) ⟨some ⟨n123,0,none⟩,4,[(Af (AO c p) 405 ⟨(p:Int), -1⟩),(Af false 406 ⟨(p:Int), -1⟩),(Af (win y8.AZ 0 16) 407 ⟨(p:Int), -1⟩),(Af (win (y8.Ah.xs.length:Int) 1 8) 408 ⟨(p:Int), -1⟩)]⟩ (Ef hw126 (i:=5) [(Af (AO c p) 405 ⟨(p:Int), -1⟩),(Af false 406 ⟨(p:Int), -1⟩),(Af (win y8.AZ 0 16) 407 ⟨(p:Int), -1⟩),(Af (win (y8.Ah.xs.length:Int) 1 8) 408 ⟨(p:Int), -1⟩)]) (show 4≤1000 by decide)) (fun n127 hn128 => ?_)
     replace hn128:n123+1≤n127:=hn128
     refine AV 38 ?_
     refine Bi (an 3 4) [6,1,2,4,5] [Qb b124,Qb b124,Qb b124] [(6,pt b124),(1,Aa p),(2,pt z),(AA z),(AL z)] ⟨w,n127,[(Ak w),(Ba c z),(Bf z),(Be y8 z),(ZI c p y8 b124),(Lj c p y8 n123)]⟩ [] ⟨rfl,rfl,rfl,Ae⟩ (.inl rfl) ?_
     refine D9 39 [0,1,2,3,4,5] [(Ak w),(Ba c z),(Bf z),(Be y8 z),(ZI c p y8 b124),(Lj c p y8 n123)] rfl rfl ?_
     refine CQ ?_
     refine Cb [1,2,4,5,6] [(1,Aa p),(2,pt z),(AA z),(AL z),(6,pt b124)] ?_
     refine C9 [0,1,2,3,5,4] [(Ak w),(Ba c z),(Bf z),(Be y8 z),(Lj c p y8 n123),(ZI c p y8 b124)] rfl rfl ?_
     exact hK ⟨(n127,n123,b124),by first | omega | (dsimp only;omega)⟩
    replace hn121:z+3≤n120:=hn121
    refine MH (fun x:{p:Nat×Nat×Nat // n120≤p.1∧n120≤p.2.1∧n120≤p.2.2}=>[(1,Aa p),(2,pt z),(AA z),(AL z),(6,pt x.1.2.1),(PI c p y8)]) (fun x=>⟨w,x.1.1,[(Ak w),(Ba c z),(Bf z),(Be y8 z),(.blk x.1.2.1 (.cells #[i6 0,i6 0,i6 0] 98 (0,0)) true),(.blk x.1.2.2 (.cells #[i6 ((Af (AO c p) 405 ⟨(p:Int), -1⟩).e),i6 ((Af (AO c p) 405 ⟨(p:Int), -1⟩).Ag.First),i6 ((Af (AO c p) 405 ⟨(p:Int), -1⟩).Ag.Second),i6 ((Af false 406 ⟨(p:Int), -1⟩).e),i6 ((Af false 406 ⟨(p:Int), -1⟩).Ag.First),i6 ((Af false 406 ⟨(p:Int), -1⟩).Ag.Second),i6 ((Af (win y8.AZ 0 16) 407 ⟨(p:Int), -1⟩).e),i6 ((Af (win y8.AZ 0 16) 407 ⟨(p:Int), -1⟩).Ag.First),i6 ((Af (win y8.AZ 0 16) 407 ⟨(p:Int), -1⟩).Ag.Second),i6 ((Af (win (y8.Ah.xs.length:Int) 1 8) 408 ⟨(p:Int), -1⟩).e),i6 ((Af (win (y8.Ah.xs.length:Int) 1 8) 408 ⟨(p:Int), -1⟩).Ag.First),i6 ((Af (win (y8.Ah.xs.length:Int) 1 8) 408 ⟨(p:Int), -1⟩).Ag.Second)] 98 (0,0)) true)]⟩) 1 (Dy 38 1) ?_ (fun hv132 => ?_)
    ·rintro⟨⟨n129,b130,b131⟩,hb133⟩
     simp only at hb133
     show Wg _ _ [(1,Aa p),(2,pt z),(AA z),(AL z),(6,pt b130),(PI c p y8)] _ ⟨w,n129,[(Ak w),(Ba c z),(Bf z),(Be y8 z),(bk b130 #[i6 0,i6 0,i6 0] 98),(JH c p y8 b131)]⟩ _ _ _ _ _ _ _
     refine AV 38 ?_
     refine Bi (an 3 4) [1,2,4,5,6] [Qb b130,Qb b130,Qb b130] [(1,Aa p),(2,pt z),(AA z),(AL z),(6,pt b130)] ⟨w,n129,[(Ak w),(Ba c z),(Bf z),(Be y8 z),(Zx c p y8 b130),(JH c p y8 b131)]⟩ [] ⟨rfl,rfl,rfl,Ae⟩ (.inl rfl) ?_
     refine D9 39 [0,1,2,3,4,5] [(Ak w),(Ba c z),(Bf z),(Be y8 z),(Zx c p y8 b130),(JH c p y8 b131)] rfl rfl ?_
     refine CQ ?_
     refine Cb [1,2,4,5,6] [(1,Aa p),(2,pt z),(AA z),(AL z),(6,pt b130)] ?_
     refine C9 [0,1,2,3,5,4] [(Ak w),(Ba c z),(Bf z),(Be y8 z),(JH c p y8 b131),(Zx c p y8 b130)] rfl rfl ?_
     exact hK ⟨(n129,b131,b130),by first | omega | (dsimp only;omega)⟩
    refine MH (fun x:{p:Nat×Nat×Nat // n120≤p.1∧n120≤p.2.1∧n120≤p.2.2}=>[(1,Aa p),(2,pt z),(AA z),(AL z),(6,pt x.1.2.1),(49,.slice (some ⟨x.1.2.2,0,none⟩) 4 4)]) (fun x=>⟨w,x.1.1,[(Ak w),(Ba c z),(Bf z),(Be y8 z),(.blk x.1.2.1 (.cells #[i6 0,i6 0,i6 0] 98 (0,0)) true),(.blk x.1.2.2 (.cells #[i6 ((Af (AO c p) 405 ⟨(p:Int), -1⟩).e),i6 ((Af (AO c p) 405 ⟨(p:Int), -1⟩).Ag.First),i6 ((Af (AO c p) 405 ⟨(p:Int), -1⟩).Ag.Second),i6 ((Af false 406 ⟨(p:Int), -1⟩).e),i6 ((Af false 406 ⟨(p:Int), -1⟩).Ag.First),i6 ((Af false 406 ⟨(p:Int), -1⟩).Ag.Second),i6 ((Af (win y8.AZ 0 16) 407 ⟨(p:Int), -1⟩).e),i6 ((Af (win y8.AZ 0 16) 407 ⟨(p:Int), -1⟩).Ag.First),i6 ((Af (win y8.AZ 0 16) 407 ⟨(p:Int), -1⟩).Ag.Second),i6 ((Af (win (y8.Ah.xs.length:Int) 1 8) 408 ⟨(p:Int), -1⟩).e),i6 ((Af (win (y8.Ah.xs.length:Int) 1 8) 408 ⟨(p:Int), -1⟩).Ag.First),i6 ((Af (win (y8.Ah.xs.length:Int) 1 8) 408 ⟨(p:Int), -1⟩).Ag.Second)] 98 (0,0)) true)]⟩) 2 [true,true,true,true,true,true,true,true,true,true,true,true,true,true,true,true,true,true,true,true,true,true,true,true,true,true,true,true,true,true,true,true,true,true,true,true,false,true,false] ?_ (fun hv137 => ?_)
    ·rintro⟨⟨n134,b135,b136⟩,hb138⟩
     simp only at hb138
     show Wg _ _ [(1,Aa p),(2,pt z),(AA z),(AL z),(6,pt b135),(49,.slice (some ⟨b136,0,none⟩) 4 4)] _ ⟨w,n134,[(Ak w),(Ba c z),(Bf z),(Be y8 z),(bk b135 #[i6 0,i6 0,i6 0] 98),(bk b136 #[i6 ((Af (AO c p) 405 ⟨(p:Int), -1⟩).e),i6 ((Af (AO c p) 405 ⟨(p:Int), -1⟩).Ag.First),i6 ((Af (AO c p) 405 ⟨(p:Int), -1⟩).Ag.Second),i6 ((Af false 406 ⟨(p:Int), -1⟩).e),i6 ((Af false 406 ⟨(p:Int), -1⟩).Ag.First),i6 ((Af false 406 ⟨(p:Int), -1⟩).Ag.Second),i6 ((Af (win y8.AZ 0 16) 407 ⟨(p:Int), -1⟩).e),i6 ((Af (win y8.AZ 0 16) 407 ⟨(p:Int), -1⟩).Ag.First),i6 ((Af (win y8.AZ 0 16) 407 ⟨(p:Int), -1⟩).Ag.Second),i6 ((Af (win (y8.Ah.xs.length:Int) 1 8) 408 ⟨(p:Int), -1⟩).e),i6 ((Af (win (y8.Ah.xs.length:Int) 1 8) 408 ⟨(p:Int), -1⟩).Ag.First),i6 ((Af (win (y8.Ah.xs.length:Int) 1 8) 408 ⟨(p:Int), -1⟩).Ag.Second)] 98)]⟩ _ _ _ _ _ _ _
     refine AV 36 ?_
     refine Gi 108 #[.slice (some ⟨b136,0,none⟩) 4 4] (some 50) (.agg (Am.arr (Bl [(Af (AO c p) 405 ⟨(p:Int), -1⟩),(Af false 406 ⟨(p:Int), -1⟩),(Af (win y8.AZ 0 16) 407 ⟨(p:Int), -1⟩),(Af (win (y8.Ah.xs.length:Int) 1 8) 408 ⟨(p:Int), -1⟩)]))) [1,2,4,5,6,50] [(1,Aa p),(2,pt z),(AA z),(AL z),(6,pt b135),(PI c p y8)] [0,1,2,3] (fun w139 hw139=>Dp w139 (hL.ext (hw139.ext rfl)) ⟨some ⟨b136,0,none⟩,4,[(Af (AO c p) 405 ⟨(p:Int), -1⟩),(Af false 406 ⟨(p:Int), -1⟩),(Af (win y8.AZ 0 16) 407 ⟨(p:Int), -1⟩),(Af (win (y8.Ah.xs.length:Int) 1 8) 408 ⟨(p:Int), -1⟩)]⟩ (Ef hw139 (i:=5) [(Af (AO c p) 405 ⟨(p:Int), -1⟩),(Af false 406 ⟨(p:Int), -1⟩),(Af (win y8.AZ 0 16) 407 ⟨(p:Int), -1⟩),(Af (win (y8.Ah.xs.length:Int) 1 8) 408 ⟨(p:Int), -1⟩)]) (show 4≤1000 by decide)) (fun n140 hn141 => ?_)
     replace hn141:n134≤n140:=hn141
     refine CB [1,2,4,5,6,50] [(1,Aa p),(2,pt z),(AA z),(AL z),(6,pt b135),(PI c p y8)] ?_
     exact hv132 ⟨(n140,b135,b136),by first | omega | (dsimp only;omega)⟩
    refine IA [35,37] ?_
    refine List.forall_mem_cons.2 ⟨?_,List.forall_mem_cons.2 ⟨?_,fun _ h=>absurd h List.not_mem_nil⟩⟩
    ·refine Bi o0 [1,2,4,5,49] [] [(1,Aa p),(2,pt z),(AA z),(AL z),(49,.slice (some ⟨n120,0,none⟩) 4 4)] ⟨w,n120+1,[(Ak w),(Ba c z),(Bf z),(Be y8 z),(Wh c p y8 n120)]⟩ [0,1,2,3] Ae (.inr rfl) ?_
     refine IA [36,37] ?_
     refine List.forall_mem_cons.2 ⟨?_,List.forall_mem_cons.2 ⟨?_,fun _ h=>absurd h List.not_mem_nil⟩⟩
     ·refine Gi 108 #[.slice (some ⟨n120,0,none⟩) 4 4] (some 50) (.agg (Am.arr (Bl [(Af (AO c p) 405 ⟨(p:Int), -1⟩),(Af false 406 ⟨(p:Int), -1⟩),(Af (win y8.AZ 0 16) 407 ⟨(p:Int), -1⟩),(Af (win (y8.Ah.xs.length:Int) 1 8) 408 ⟨(p:Int), -1⟩)]))) [1,2,4,5,50] [(1,Aa p),(2,pt z),(AA z),(AL z),(PI c p y8)] [0,1,2,3] (fun w142 hw142=>Dp w142 (hL.ext (hw142.ext rfl)) ⟨some ⟨n120,0,none⟩,4,[(Af (AO c p) 405 ⟨(p:Int), -1⟩),(Af false 406 ⟨(p:Int), -1⟩),(Af (win y8.AZ 0 16) 407 ⟨(p:Int), -1⟩),(Af (win (y8.Ah.xs.length:Int) 1 8) 408 ⟨(p:Int), -1⟩)]⟩ (Ef hw142 (i:=4) [(Af (AO c p) 405 ⟨(p:Int), -1⟩),(Af false 406 ⟨(p:Int), -1⟩),(Af (win y8.AZ 0 16) 407 ⟨(p:Int), -1⟩),(Af (win (y8.Ah.xs.length:Int) 1 8) 408 ⟨(p:Int), -1⟩)]) (show 4≤1000 by decide)) (fun n143 hn144 => ?_)
      replace hn144:n120+1≤n143:=hn144
      refine AV 37 ?_
      refine Bi o0 [1,2,4,5,50,6] [] [(1,Aa p),(2,pt z),(AA z),(AL z),(PI c p y8),(6,pt n143)] ⟨w,n143+1,[(Ak w),(Ba c z),(Bf z),(Be y8 z),(Wh c p y8 n120),(bk n143 #[i6 0,i6 0,i6 0] 98)]⟩ [0,1,2,3] Ae (.inr rfl) ?_
      refine KJ [0,1,2,3,5,4] [(Ak w),(Ba c z),(Bf z),(Be y8 z),(bk n143 #[i6 0,i6 0,i6 0] 98),(Wh c p y8 n120)] rfl rfl ?_
      refine CB [1,2,4,5,6,50] [(1,Aa p),(2,pt z),(AA z),(AL z),(6,pt n143),(PI c p y8)] ?_
      exact hv132 ⟨(n143+1,n143,n120),by first | omega | (dsimp only;omega)⟩
     refine Bi o0 [1,2,4,5,49,6] [] [(1,Aa p),(2,pt z),(AA z),(AL z),(49,.slice (some ⟨n120,0,none⟩) 4 4),(6,pt (n120+1))] ⟨w,n120+2,[(Ak w),(Ba c z),(Bf z),(Be y8 z),(Wh c p y8 n120),(bk (n120+1) #[i6 0,i6 0,i6 0] 98)]⟩ [0,1,2,3] Ae (.inr rfl) ?_
     refine KJ [0,1,2,3,5,4] [(Ak w),(Ba c z),(Bf z),(Be y8 z),(bk (n120+1) #[i6 0,i6 0,i6 0] 98),(Wh c p y8 n120)] rfl rfl ?_
     refine CB [1,2,4,5,6,49] [(1,Aa p),(2,pt z),(AA z),(AL z),(6,pt (n120+1)),(49,.slice (some ⟨n120,0,none⟩) 4 4)] ?_
     exact hv137 ⟨(n120+2,n120+1,n120),by first | omega | (dsimp only;omega)⟩
    refine Bi o0 [1,2,4,5,19,30,41,48,6] [] [(1,Aa p),(2,pt z),(AA z),(AL z),(JB c p),(PW p),(NL p y8),(JA p y8),(6,pt n120)] ⟨w,n120+1,[(Ak w),(Ba c z),(Bf z),(Be y8 z),(bk n120 #[i6 0,i6 0,i6 0] 98)]⟩ [0,1,2,3] Ae (.inr rfl) ?_
    refine CB [6,1,2,4,5,19,30,41,48] [(6,pt n120),(1,Aa p),(2,pt z),(AA z),(AL z),(JB c p),(PW p),(NL p y8),(JA p y8)] ?_
    exact hv122 ⟨(n120+1,n120),by first | omega | (dsimp only;omega)⟩
   rintro⟨⟨n104,b105,b106⟩,hJ145⟩
   simp only at hJ145
   show E _ _ [(1,Aa p),(2,pt z),(AA z),(AL z),(6,pt b106)] _ ⟨w,n104,[(Ak w),(Ba c z),(Bf z),(Be y8 z),(bk b105 #[i6 ((Af (AO c p) 405 ⟨(p:Int), -1⟩).e),i6 ((Af (AO c p) 405 ⟨(p:Int), -1⟩).Ag.First),i6 ((Af (AO c p) 405 ⟨(p:Int), -1⟩).Ag.Second),i6 ((Af false 406 ⟨(p:Int), -1⟩).e),i6 ((Af false 406 ⟨(p:Int), -1⟩).Ag.First),i6 ((Af false 406 ⟨(p:Int), -1⟩).Ag.Second),i6 ((Af (win y8.AZ 0 16) 407 ⟨(p:Int), -1⟩).e),i6 ((Af (win y8.AZ 0 16) 407 ⟨(p:Int), -1⟩).Ag.First),i6 ((Af (win y8.AZ 0 16) 407 ⟨(p:Int), -1⟩).Ag.Second),i6 ((Af (win (y8.Ah.xs.length:Int) 1 8) 408 ⟨(p:Int), -1⟩).e),i6 ((Af (win (y8.Ah.xs.length:Int) 1 8) 408 ⟨(p:Int), -1⟩).Ag.First),i6 ((Af (win (y8.Ah.xs.length:Int) 1 8) 408 ⟨(p:Int), -1⟩).Ag.Second)] 98),(XN c p y8 b106)]⟩ _ _ _
   refine C9 [0,1,2,3,5] [(Ak w),(Ba c z),(Bf z),(Be y8 z),(XN c p y8 b106)] rfl rfl ?_
   have eA:Bl (IG c p)=(Bl [(Af (AO c p) 405 ⟨(p:Int), -1⟩),(Af false 406 ⟨(p:Int), -1⟩),(Af (win y8.AZ 0 16) 407 ⟨(p:Int), -1⟩),(Af (win (y8.Ah.xs.length:Int) 1 8) 408 ⟨(p:Int), -1⟩)]):=by have e0:FY c p=y8:=hy8.symm;unfold IG;simp only[e0];simp[h11,h102]
   refine Cb [1,2,4,5,6] [(1,Aa p),(2,pt z),(AA z),(AL z),(6,pt b106)] ?_
   refine CS (fun a w' hs=>⟨n104,b106,by omega,(by(try dsimp only[XN,Bf,Be,Ba,JA,NL,JB,PW,PS,AA,AL,CY]at hs ⊢);rw[eA];exact hs)⟩)
  have hd146:=KL h102
  refine DK 38 [0,1,2,3] [(Ak w),(Ba c z),(Bf z),(Be y8 z)] rfl rfl ?_
  refine CP [(0,(an 7 1)),(1,o0),(3,o0),(6,o0),(7,(a1 3)),(14,o0),(17,o0),(18,(a1 3)),(25,o0),(28,o0),(29,(a1 3)),(30,o0),(32,o0)] [1,2,4,5,14,15,17,21,28,32,39,44,46] [Qb z,Qb z,Qb z,Qb z,Qb z,Qb z,Qb z,Qb (z+2),Qb (z+2),Qb (z+2)] [true,true,false,true,false,false,true,true,false,false,false,false,false,false,true,false,false,true,true,false,false,false,false,false,false,true,false,false,true,true,true,false,true,false,false,false,false,false,false] [(1,Aa p),(2,pt z),(AA z),(AL z),(14,.agg (Ai.arr c)),(15,Aa p),(17,Aa p),(21,i6 y8.Dz),(28,Aa p),(32,i6 y8.Dx),(39,Aa p),(PS y8),(46,Aa p)] ⟨rfl,rfl,rfl,rfl,rfl,rfl,rfl,rfl,rfl,rfl,Ae⟩ ?_
  refine Pi (fun x:{p:Nat×Nat×Nat // z+3≤p.1∧z+3≤p.2.1∧z+3≤p.2.2}=>([(1,Aa p),(2,pt z),(AA z),(AL z),(6,pt x.1.2.2)],⟨w,x.1.1,[(Ak w),(Ba c z),(Bf z),(Be y8 z),(.blk x.1.2.1 (.cells #[i6 ((Af (AO c p) 405 ⟨(p:Int), -1⟩).e),i6 ((Af (AO c p) 405 ⟨(p:Int), -1⟩).Ag.First),i6 ((Af (AO c p) 405 ⟨(p:Int), -1⟩).Ag.Second),i6 ((Af false 406 ⟨(p:Int), -1⟩).e),i6 ((Af false 406 ⟨(p:Int), -1⟩).Ag.First),i6 ((Af false 406 ⟨(p:Int), -1⟩).Ag.Second),i6 ((Af false 407 ⟨(p:Int), -1⟩).e),i6 ((Af false 407 ⟨(p:Int), -1⟩).Ag.First),i6 ((Af false 407 ⟨(p:Int), -1⟩).Ag.Second),i6 ((Af (win (y8.Ah.xs.length:Int) 1 8) 408 ⟨(p:Int), -1⟩).e),i6 ((Af (win (y8.Ah.xs.length:Int) 1 8) 408 ⟨(p:Int), -1⟩).Ag.First),i6 ((Af (win (y8.Ah.xs.length:Int) 1 8) 408 ⟨(p:Int), -1⟩).Ag.Second)] 98 (0,0)) true),(.blk x.1.2.2 (.cells (Am.arr (Bl [(Af (AO c p) 405 ⟨(p:Int), -1⟩),(Af false 406 ⟨(p:Int), -1⟩),(Af false 407 ⟨(p:Int), -1⟩),(Af (win (y8.Ah.xs.length:Int) 1 8) 408 ⟨(p:Int), -1⟩)])) 98 (0,0)) true)]⟩)) (fun hK => ?_) ?_
  ·refine O4 37 6 [.cl 2 (.bool (AO c p)),.cl 4 (.agg #[(Aa p),i6 (-1)]),.cl 5 (.agg (Am.arr (Af (AO c p) 405 ⟨(p:Int), -1⟩))),.cl 8 (.bool (win y8.Dz 0 2)),.tk 9 (ov (.bool false)),.tk 10 o0,.tk 11 o0,.tk 12 o0,.tk 13 o0,.cl 15 (.agg #[(Aa p),i6 (-1)]),.cl 16 (.agg (Am.arr (Af false 406 ⟨(p:Int), -1⟩))),.cl 19 (.bool (win y8.Dx 0 16)),.tk 20 (ov (.bool false)),.tk 21 o0,.tk 22 o0,.tk 23 o0,.tk 24 o0,.cl 26 (.agg #[(Aa p),i6 (-1)]),.cl 27 (.agg (Am.arr (Af false 407 ⟨(p:Int), -1⟩))),.cl 31 (.bool (win (y8.Ah.xs.length:Int) 1 8)),.cl 33 (.agg #[(Aa p),i6 (-1)]),.cl 34 (.agg (Am.arr (Af (win (y8.Ah.xs.length:Int) 1 8) 408 ⟨(p:Int), -1⟩)))] [1,2,4,5,19,30,41,48] [(109,#[.agg (Ai.arr c),Aa p],.bool (AO c p)),(110,#[(Aa p)],.agg #[(Aa p),i6 (-1)]),(71,#[.bool (AO c p),i6 405,.agg #[(Aa p),i6 (-1)]],.agg (Am.arr (Af (AO c p) 405 ⟨(p:Int), -1⟩))),(72,#[i6 y8.Dz,i6 0,i6 2],.bool (win y8.Dz 0 2)),(110,#[(Aa p)],.agg #[(Aa p),i6 (-1)]),(71,#[.bool false,i6 406,.agg #[(Aa p),i6 (-1)]],.agg (Am.arr (Af false 406 ⟨(p:Int), -1⟩))),(72,#[i6 y8.Dx,i6 0,i6 16],.bool (win y8.Dx 0 16)),(110,#[(Aa p)],.agg #[(Aa p),i6 (-1)]),(71,#[.bool false,i6 407,.agg #[(Aa p),i6 (-1)]],.agg (Am.arr (Af false 407 ⟨(p:Int), -1⟩))),(72,#[(Aa y8.Ah.xs.length),i6 1,i6 8],.bool (win (y8.Ah.xs.length:Int) 1 8)),(110,#[(Aa p)],.agg #[(Aa p),i6 (-1)]),(71,#[.bool (win (y8.Ah.xs.length:Int) 1 8),i6 408,.agg #[(Aa p),i6 (-1)]],.agg (Am.arr (Af (win (y8.Ah.xs.length:Int) 1 8) 408 ⟨(p:Int), -1⟩)))] (Dy 35 4) [Value.bool (win y8.Dz 0 2)=Value.bool false,Value.bool (win y8.Dx 0 16)=Value.bool false] [(1,Aa p),(2,pt z),(AA z),(AL z),(JB c p),(PW p),(Qe p),(JA p y8)] (.cells #[i6 0,i6 0,i6 0] 98 (0,0)) [0,1,2,3] ⟨(congrArg Value.bool (Bool.eq_false_iff.2 h11)),(congrArg Value.bool (Bool.eq_false_iff.2 h102)),Ae⟩ ⟨fun w150 hw150=>Ro w150 c (hc.ext (hw150.ext rfl) (fun _ h=>h)) p hp,fun w151 hw151=>Df w151 (p:Int),fun w152 hw152=>Bg w152 (hL.ext (hw152.ext rfl)) (AO c p) 405 (p:Int) (-1),fun w153 hw153=>BQ w153 y8.Dz 0 2,fun w154 hw154=>Df w154 (p:Int),fun w155 hw155=>Bg w155 (hL.ext (hw155.ext rfl)) false 406 (p:Int) (-1),fun w156 hw156=>BQ w156 y8.Dx 0 16,fun w157 hw157=>Df w157 (p:Int),fun w158 hw158=>Bg w158 (hL.ext (hw158.ext rfl)) false 407 (p:Int) (-1),fun w159 hw159=>BQ w159 (y8.Ah.xs.length:Int) 1 8,fun w160 hw160=>Df w160 (p:Int),fun w161 hw161=>Bg w161 (hL.ext (hw161.ext rfl)) (win (y8.Ah.xs.length:Int) 1 8) 408 (p:Int) (-1),Ae⟩ ?_ (fun hv164 n162 hn163 => ?_)
   ·rintro⟨⟨n165,b166⟩,hb167⟩
    simp only at hb167
    refine AV 35 ?_
    refine Bi o0 [6,1,2,4,5,49] [] [(6,pt b166),(1,Aa p),(2,pt z),(AA z),(AL z),(49,.slice (some ⟨n165,0,none⟩) 4 4)] ⟨w,n165+1,[(Ak w),(Ba c z),(Bf z),(Be y8 z),(bk b166 #[i6 0,i6 0,i6 0] 98),(Y5 c p y8 n165)]⟩ [0,1,2,3] Ae (.inr rfl) ?_
    refine AV 36 ?_
    refine Gi 108 #[.slice (some ⟨n165,0,none⟩) 4 4] (some 50) (.agg (Am.arr (Bl [(Af (AO c p) 405 ⟨(p:Int), -1⟩),(Af false 406 ⟨(p:Int), -1⟩),(Af false 407 ⟨(p:Int), -1⟩),(Af (win (y8.Ah.xs.length:Int) 1 8) 408 ⟨(p:Int), -1⟩)]))) [6,1,2,4,5,50] [(6,pt b166),(1,Aa p),(2,pt z),(AA z),(AL z),(PO c p y8)] [0,1,2,3] (fun w168 hw168=>Dp w168 (hL.ext (hw168.ext rfl)) ⟨some ⟨n165,0,none⟩,4,[(Af (AO c p) 405 ⟨(p:Int), -1⟩),(Af false 406 ⟨(p:Int), -1⟩),(Af false 407 ⟨(p:Int), -1⟩),(Af (win (y8.Ah.xs.length:Int) 1 8) 408 ⟨(p:Int), -1⟩)]⟩ (Ef hw168 (i:=5) [(Af (AO c p) 405 ⟨(p:Int), -1⟩),(Af false 406 ⟨(p:Int), -1⟩),(Af false 407 ⟨(p:Int), -1⟩),(Af (win (y8.Ah.xs.length:Int) 1 8) 408 ⟨(p:Int), -1⟩)]) (show 4≤1000 by decide)) (fun n169 hn170 => ?_)
    replace hn170:n165+1≤n169:=hn170
    refine AV 38 ?_
    refine Bi (an 3 4) [6,1,2,4,5] [Qb b166,Qb b166,Qb b166] [(6,pt b166),(1,Aa p),(2,pt z),(AA z),(AL z)] ⟨w,n169,[(Ak w),(Ba c z),(Bf z),(Be y8 z),(ZN c p y8 b166),(Y5 c p y8 n165)]⟩ [] ⟨rfl,rfl,rfl,Ae⟩ (.inl rfl) ?_
    refine D9 39 [0,1,2,3,4,5] [(Ak w),(Ba c z),(Bf z),(Be y8 z),(ZN c p y8 b166),(Y5 c p y8 n165)] rfl rfl ?_
    refine CQ ?_
    refine Cb [1,2,4,5,6] [(1,Aa p),(2,pt z),(AA z),(AL z),(6,pt b166)] ?_
    refine C9 [0,1,2,3,5,4] [(Ak w),(Ba c z),(Bf z),(Be y8 z),(Y5 c p y8 n165),(ZN c p y8 b166)] rfl rfl ?_
    exact hK ⟨(n169,n165,b166),by first | omega | (dsimp only;omega)⟩
   replace hn163:z+3≤n162:=hn163
   refine MH (fun x:{p:Nat×Nat×Nat // n162≤p.1∧n162≤p.2.1∧n162≤p.2.2}=>[(1,Aa p),(2,pt z),(AA z),(AL z),(6,pt x.1.2.1),(PO c p y8)]) (fun x=>⟨w,x.1.1,[(Ak w),(Ba c z),(Bf z),(Be y8 z),(.blk x.1.2.1 (.cells #[i6 0,i6 0,i6 0] 98 (0,0)) true),(.blk x.1.2.2 (.cells #[i6 ((Af (AO c p) 405 ⟨(p:Int), -1⟩).e),i6 ((Af (AO c p) 405 ⟨(p:Int), -1⟩).Ag.First),i6 ((Af (AO c p) 405 ⟨(p:Int), -1⟩).Ag.Second),i6 ((Af false 406 ⟨(p:Int), -1⟩).e),i6 ((Af false 406 ⟨(p:Int), -1⟩).Ag.First),i6 ((Af false 406 ⟨(p:Int), -1⟩).Ag.Second),i6 ((Af false 407 ⟨(p:Int), -1⟩).e),i6 ((Af false 407 ⟨(p:Int), -1⟩).Ag.First),i6 ((Af false 407 ⟨(p:Int), -1⟩).Ag.Second),i6 ((Af (win (y8.Ah.xs.length:Int) 1 8) 408 ⟨(p:Int), -1⟩).e),i6 ((Af (win (y8.Ah.xs.length:Int) 1 8) 408 ⟨(p:Int), -1⟩).Ag.First),i6 ((Af (win (y8.Ah.xs.length:Int) 1 8) 408 ⟨(p:Int), -1⟩).Ag.Second)] 98 (0,0)) true)]⟩) 1 (Dy 38 1) ?_ (fun hv174 => ?_)
   ·rintro⟨⟨n171,b172,b173⟩,hb175⟩
    simp only at hb175
    show Wg _ _ [(1,Aa p),(2,pt z),(AA z),(AL z),(6,pt b172),(PO c p y8)] _ ⟨w,n171,[(Ak w),(Ba c z),(Bf z),(Be y8 z),(bk b172 #[i6 0,i6 0,i6 0] 98),(X3 c p y8 b173)]⟩ _ _ _ _ _ _ _
    refine AV 38 ?_
    refine Bi (an 3 4) [1,2,4,5,6] [Qb b172,Qb b172,Qb b172] [(1,Aa p),(2,pt z),(AA z),(AL z),(6,pt b172)] ⟨w,n171,[(Ak w),(Ba c z),(Bf z),(Be y8 z),(ZK c p y8 b172),(X3 c p y8 b173)]⟩ [] ⟨rfl,rfl,rfl,Ae⟩ (.inl rfl) ?_
    refine D9 39 [0,1,2,3,4,5] [(Ak w),(Ba c z),(Bf z),(Be y8 z),(ZK c p y8 b172),(X3 c p y8 b173)] rfl rfl ?_
    refine CQ ?_
    refine Cb [1,2,4,5,6] [(1,Aa p),(2,pt z),(AA z),(AL z),(6,pt b172)] ?_
    refine C9 [0,1,2,3,5,4] [(Ak w),(Ba c z),(Bf z),(Be y8 z),(X3 c p y8 b173),(ZK c p y8 b172)] rfl rfl ?_
    exact hK ⟨(n171,b173,b172),by first | omega | (dsimp only;omega)⟩
   refine MH (fun x:{p:Nat×Nat×Nat // n162≤p.1∧n162≤p.2.1∧n162≤p.2.2}=>[(1,Aa p),(2,pt z),(AA z),(AL z),(6,pt x.1.2.1),(49,.slice (some ⟨x.1.2.2,0,none⟩) 4 4)]) (fun x=>⟨w,x.1.1,[(Ak w),(Ba c z),(Bf z),(Be y8 z),(.blk x.1.2.1 (.cells #[i6 0,i6 0,i6 0] 98 (0,0)) true),(.blk x.1.2.2 (.cells #[i6 ((Af (AO c p) 405 ⟨(p:Int), -1⟩).e),i6 ((Af (AO c p) 405 ⟨(p:Int), -1⟩).Ag.First),i6 ((Af (AO c p) 405 ⟨(p:Int), -1⟩).Ag.Second),i6 ((Af false 406 ⟨(p:Int), -1⟩).e),i6 ((Af false 406 ⟨(p:Int), -1⟩).Ag.First),i6 ((Af false 406 ⟨(p:Int), -1⟩).Ag.Second),i6 ((Af false 407 ⟨(p:Int), -1⟩).e),i6 ((Af false 407 ⟨(p:Int), -1⟩).Ag.First),i6 ((Af false 407 ⟨(p:Int), -1⟩).Ag.Second),i6 ((Af (win (y8.Ah.xs.length:Int) 1 8) 408 ⟨(p:Int), -1⟩).e),i6 ((Af (win (y8.Ah.xs.length:Int) 1 8) 408 ⟨(p:Int), -1⟩).Ag.First),i6 ((Af (win (y8.Ah.xs.length:Int) 1 8) 408 ⟨(p:Int), -1⟩).Ag.Second)] 98 (0,0)) true)]⟩) 2 [true,true,true,true,true,true,true,true,true,true,true,true,true,true,true,true,true,true,true,true,true,true,true,true,true,true,true,true,true,true,true,true,true,true,true,true,false,true,false] ?_ (fun hv179 => ?_)
   ·rintro⟨⟨n176,b177,b178⟩,hb180⟩
    simp only at hb180
    show Wg _ _ [(1,Aa p),(2,pt z),(AA z),(AL z),(6,pt b177),(49,.slice (some ⟨b178,0,none⟩) 4 4)] _ ⟨w,n176,[(Ak w),(Ba c z),(Bf z),(Be y8 z),(bk b177 #[i6 0,i6 0,i6 0] 98),(bk b178 #[i6 ((Af (AO c p) 405 ⟨(p:Int), -1⟩).e),i6 ((Af (AO c p) 405 ⟨(p:Int), -1⟩).Ag.First),i6 ((Af (AO c p) 405 ⟨(p:Int), -1⟩).Ag.Second),i6 ((Af false 406 ⟨(p:Int), -1⟩).e),i6 ((Af false 406 ⟨(p:Int), -1⟩).Ag.First),i6 ((Af false 406 ⟨(p:Int), -1⟩).Ag.Second),i6 ((Af false 407 ⟨(p:Int), -1⟩).e),i6 ((Af false 407 ⟨(p:Int), -1⟩).Ag.First),i6 ((Af false 407 ⟨(p:Int), -1⟩).Ag.Second),i6 ((Af (win (y8.Ah.xs.length:Int) 1 8) 408 ⟨(p:Int), -1⟩).e),i6 ((Af (win (y8.Ah.xs.length:Int) 1 8) 408 ⟨(p:Int), -1⟩).Ag.First),i6 ((Af (win (y8.Ah.xs.length:Int) 1 8) 408 ⟨(p:Int), -1⟩).Ag.Second)] 98)]⟩ _ _ _ _ _ _ _
    refine AV 36 ?_
    refine Gi 108 #[.slice (some ⟨b178,0,none⟩) 4 4] (some 50) (.agg (Am.arr (Bl [(Af (AO c p) 405 ⟨(p:Int), -1⟩),(Af false 406 ⟨(p:Int), -1⟩),(Af false 407 ⟨(p:Int), -1⟩),(Af (win (y8.Ah.xs.length:Int) 1 8) 408 ⟨(p:Int), -1⟩)]))) [1,2,4,5,6,50] [(1,Aa p),(2,pt z),(AA z),(AL z),(6,pt b177),(PO c p y8)] [0,1,2,3] (fun w181 hw181=>Dp w181 (hL.ext (hw181.ext rfl)) ⟨some ⟨b178,0,none⟩,4,[(Af (AO c p) 405 ⟨(p:Int), -1⟩),(Af false 406 ⟨(p:Int), -1⟩),(Af false 407 ⟨(p:Int), -1⟩),(Af (win (y8.Ah.xs.length:Int) 1 8) 408 ⟨(p:Int), -1⟩)]⟩ (Ef hw181 (i:=5) [(Af (AO c p) 405 ⟨(p:Int), -1⟩),(Af false 406 ⟨(p:Int), -1⟩),(Af false 407 ⟨(p:Int), -1⟩),(Af (win (y8.Ah.xs.length:Int) 1 8) 408 ⟨(p:Int), -1⟩)]) (show 4≤1000 by decide)) (fun n182 hn183 => ?_)
    replace hn183:n176≤n182:=hn183
    refine CB [1,2,4,5,6,50] [(1,Aa p),(2,pt z),(AA z),(AL z),(6,pt b177),(PO c p y8)] ?_
    exact hv174 ⟨(n182,b177,b178),by first | omega | (dsimp only;omega)⟩
   refine IA [35,37] ?_
   refine List.forall_mem_cons.2 ⟨?_,List.forall_mem_cons.2 ⟨?_,fun _ h=>absurd h List.not_mem_nil⟩⟩
   ·refine Bi o0 [1,2,4,5,49] [] [(1,Aa p),(2,pt z),(AA z),(AL z),(49,.slice (some ⟨n162,0,none⟩) 4 4)] ⟨w,n162+1,[(Ak w),(Ba c z),(Bf z),(Be y8 z),(Vt c p y8 n162)]⟩ [0,1,2,3] Ae (.inr rfl) ?_
    refine IA [36,37] ?_
    refine List.forall_mem_cons.2 ⟨?_,List.forall_mem_cons.2 ⟨?_,fun _ h=>absurd h List.not_mem_nil⟩⟩
    ·refine Gi 108 #[.slice (some ⟨n162,0,none⟩) 4 4] (some 50) (.agg (Am.arr (Bl [(Af (AO c p) 405 ⟨(p:Int), -1⟩),(Af false 406 ⟨(p:Int), -1⟩),(Af false 407 ⟨(p:Int), -1⟩),(Af (win (y8.Ah.xs.length:Int) 1 8) 408 ⟨(p:Int), -1⟩)]))) [1,2,4,5,50] [(1,Aa p),(2,pt z),(AA z),(AL z),(PO c p y8)] [0,1,2,3] (fun w184 hw184=>Dp w184 (hL.ext (hw184.ext rfl)) ⟨some ⟨n162,0,none⟩,4,[(Af (AO c p) 405 ⟨(p:Int), -1⟩),(Af false 406 ⟨(p:Int), -1⟩),(Af false 407 ⟨(p:Int), -1⟩),(Af (win (y8.Ah.xs.length:Int) 1 8) 408 ⟨(p:Int), -1⟩)]⟩ (Ef hw184 (i:=4) [(Af (AO c p) 405 ⟨(p:Int), -1⟩),(Af false 406 ⟨(p:Int), -1⟩),(Af false 407 ⟨(p:Int), -1⟩),(Af (win (y8.Ah.xs.length:Int) 1 8) 408 ⟨(p:Int), -1⟩)]) (show 4≤1000 by decide)) (fun n185 hn186 => ?_)
     replace hn186:n162+1≤n185:=hn186
     refine AV 37 ?_
     refine Bi o0 [1,2,4,5,50,6] [] [(1,Aa p),(2,pt z),(AA z),(AL z),(PO c p y8),(6,pt n185)] ⟨w,n185+1,[(Ak w),(Ba c z),(Bf z),(Be y8 z),(Vt c p y8 n162),(bk n185 #[i6 0,i6 0,i6 0] 98)]⟩ [0,1,2,3] Ae (.inr rfl) ?_
     refine KJ [0,1,2,3,5,4] [(Ak w),(Ba c z),(Bf z),(Be y8 z),(bk n185 #[i6 0,i6 0,i6 0] 98),(Vt c p y8 n162)] rfl rfl ?_
     refine CB [1,2,4,5,6,50] [(1,Aa p),(2,pt z),(AA z),(AL z),(6,pt n185),(PO c p y8)] ?_
     exact hv174 ⟨(n185+1,n185,n162),by first | omega | (dsimp only;omega)⟩
    refine Bi o0 [1,2,4,5,49,6] [] [(1,Aa p),(2,pt z),(AA z),(AL z),(49,.slice (some ⟨n162,0,none⟩) 4 4),(6,pt (n162+1))] ⟨w,n162+2,[(Ak w),(Ba c z),(Bf z),(Be y8 z),(Vt c p y8 n162),(bk (n162+1) #[i6 0,i6 0,i6 0] 98)]⟩ [0,1,2,3] Ae (.inr rfl) ?_
    refine KJ [0,1,2,3,5,4] [(Ak w),(Ba c z),(Bf z),(Be y8 z),(bk (n162+1) #[i6 0,i6 0,i6 0] 98),(Vt c p y8 n162)] rfl rfl ?_
    refine CB [1,2,4,5,6,49] [(1,Aa p),(2,pt z),(AA z),(AL z),(6,pt (n162+1)),(49,.slice (some ⟨n162,0,none⟩) 4 4)] ?_
    exact hv179 ⟨(n162+2,n162+1,n162),by first | omega | (dsimp only;omega)⟩
   refine Bi o0 [1,2,4,5,19,30,41,48,6] [] [(1,Aa p),(2,pt z),(AA z),(AL z),(JB c p),(PW p),(Qe p),(JA p y8),(6,pt n162)] ⟨w,n162+1,[(Ak w),(Ba c z),(Bf z),(Be y8 z),(bk n162 #[i6 0,i6 0,i6 0] 98)]⟩ [0,1,2,3] Ae (.inr rfl) ?_
   refine CB [6,1,2,4,5,19,30,41,48] [(6,pt n162),(1,Aa p),(2,pt z),(AA z),(AL z),(JB c p),(PW p),(Qe p),(JA p y8)] ?_
   exact hv164 ⟨(n162+1,n162),by first | omega | (dsimp only;omega)⟩
  rintro⟨⟨n147,b148,b149⟩,hJ187⟩
  simp only at hJ187
  show E _ _ [(1,Aa p),(2,pt z),(AA z),(AL z),(6,pt b149)] _ ⟨w,n147,[(Ak w),(Ba c z),(Bf z),(Be y8 z),(bk b148 #[i6 ((Af (AO c p) 405 ⟨(p:Int), -1⟩).e),i6 ((Af (AO c p) 405 ⟨(p:Int), -1⟩).Ag.First),i6 ((Af (AO c p) 405 ⟨(p:Int), -1⟩).Ag.Second),i6 ((Af false 406 ⟨(p:Int), -1⟩).e),i6 ((Af false 406 ⟨(p:Int), -1⟩).Ag.First),i6 ((Af false 406 ⟨(p:Int), -1⟩).Ag.Second),i6 ((Af false 407 ⟨(p:Int), -1⟩).e),i6 ((Af false 407 ⟨(p:Int), -1⟩).Ag.First),i6 ((Af false 407 ⟨(p:Int), -1⟩).Ag.Second),i6 ((Af (win (y8.Ah.xs.length:Int) 1 8) 408 ⟨(p:Int), -1⟩).e),i6 ((Af (win (y8.Ah.xs.length:Int) 1 8) 408 ⟨(p:Int), -1⟩).Ag.First),i6 ((Af (win (y8.Ah.xs.length:Int) 1 8) 408 ⟨(p:Int), -1⟩).Ag.Second)] 98),(ZT c p y8 b149)]⟩ _ _ _
  refine C9 [0,1,2,3,5] [(Ak w),(Ba c z),(Bf z),(Be y8 z),(ZT c p y8 b149)] rfl rfl ?_
  have eA:Bl (IG c p)=(Bl [(Af (AO c p) 405 ⟨(p:Int), -1⟩),(Af false 406 ⟨(p:Int), -1⟩),(Af false 407 ⟨(p:Int), -1⟩),(Af (win (y8.Ah.xs.length:Int) 1 8) 408 ⟨(p:Int), -1⟩)]):=by have e0:FY c p=y8:=hy8.symm;unfold IG;simp only[e0];simp[h11,h102]
  refine Cb [1,2,4,5,6] [(1,Aa p),(2,pt z),(AA z),(AL z),(6,pt b149)] ?_
  refine CS (fun a w' hs=>⟨n147,b149,by omega,(by(try dsimp only[XN,ZT,Bf,Be,Ba,JA,NL,JB,Qe,PW,PS,AA,AL,CY]at hs ⊢);rw[eA];exact hs)⟩)
 rintro a w' ⟨n9,b6,hn10,hs⟩
 refine(?_:G Tryz.prog 118 [(1,Aa p),(2,pt z),(AA z),(AL z),(CY b6)] [] ⟨w,n9,[(Ak w),(Ba c z),(Bf z),(Be y8 z),(.blk b6 (.cells (Am.arr (Bl (IG c p))) 98 (0,0)) true)]⟩ _ _ _) a w' hs
 clear hs a w'
 refine VQ (fun a w'=>∃ (n188:Nat),n9≤n188∧St 118 [(1,Aa p),(2,pt z),(AA z),(AL z),(CY b6)] [] ⟨w,n188,(IX c p y8 b6 z w)⟩ a w') ?_ ?_
 ·refine A8 5 0 [] [[o0]] [] [(1,Aa p),(2,pt z),(AA z),(AL z),(CY b6),(7,i6 0)] rfl Ae ?_
  refine DI (fun m a w'=>∃ (n191:Nat) (k:Nat),m=y8.Ah.xs.length - k∧n9≤n191∧(k≤y8.Ah.xs.length)∧St 118 [(1,Aa p),(2,pt z),(AA z),(AL z),(CY b6),(7,Aa k)] [] ⟨w,n191,[(Ak w),(Ba c z),(Bf z),(Be y8 z),(.blk b6 (.cells (Am.arr (FB (Bl (IG c p)) (FZ c p) k)) 98 (0,0)) true)]⟩ a w') (y8.Ah.xs.length - 0) ?_ ?_
  ·intro a w' hs;exact⟨n9,0,rfl,Nat.le_refl _,Nat.zero_le _,(by(try dsimp only[Bf,Be,IY,Ba,AA,AL,CY,IX]at hs ⊢);rw[QC];exact hs)⟩
  rintro m a w' ⟨n191,k,rfl,hn190,hkk,hs⟩
  refine(?_:G Tryz.prog 118 [(1,Aa p),(2,pt z),(AA z),(AL z),(CY b6),(7,Aa k)] [] ⟨w,n191,[(Ak w),(Ba c z),(Bf z),(Be y8 z),(.blk b6 (.cells (Am.arr (FB (Bl (IG c p)) (FZ c p) k)) 98 (0,0)) true)]⟩ _ _ _) a w' hs
  clear hs a w'
  refine Dl <| Dl ?_
  by_cases h192:(k:Int)<(y8.Ah.xs.length:Int)
  ·by_cases h193:(((FB (Bl (IG c p)) (FZ c p) k).e:Int)==(0:Int)&&((((FB (Bl (IG c p)) (FZ c p) k).Ag.First:Int)==(0:Int)&&(((FB (Bl (IG c p)) (FZ c p) k).Ag.Second:Int)==(0:Int)&&true))&&true))=true
   ·refine A8 9 3 [1] [[o0,o0,(a1 3),o0,oT,o0,(an 3 4),(oa [.via 0 (i6 0),.via 0 (i6 0),.via 0 (i6 0)]),⟨.seq true,none⟩,o0],[(an 7 1),o0,o0]] [Qb (z+2),BT ((k:Int)<(y8.Ah.xs.length:Int)),Qb b6,Qb b6,Qb b6,Old w 0 0 (i6 0),Old w 0 1 (i6 0),Old w 0 2 (i6 0),(((FB (Bl (IG c p)) (FZ c p) k).e:Int)==(0:Int)&&((((FB (Bl (IG c p)) (FZ c p) k).Ag.First:Int)==(0:Int)&&(((FB (Bl (IG c p)) (FZ c p) k).Ag.Second:Int)==(0:Int)&&true))&&true))=true,Qb z,Qb z,Qb z,Qb z,Qb z,Qb z,Qb z] [(1,Aa p),(2,pt z),(AA z),(AL z),(CY b6),(7,Aa k),(63,.agg (Ai.arr c)),(64,Aa p),(65,Aa k)] rfl ⟨rfl,bt,rfl,rfl,rfl,Aw (hL.2 0 _ rfl),Aw (hL.2 1 _ rfl),Aw (hL.2 2 _ rfl),h193,rfl,rfl,rfl,rfl,rfl,rfl,rfl,Ae⟩ ?_
    refine BV 111 #[.agg (Ai.arr c),Aa p,Aa k] (some 66) (.agg (Am.arr (FZ c p k))) (fun w194 hw194=>Uc w194 (hL.ext (hw194.ext rfl)) c (hc.ext (hw194.ext rfl) (fun _ h=>h)) p k hp (by rw[←hy8];omega) hFr (bd_all hFr hpf (WW (FP.1 h193)).2)) (fun n195 (hn196:n191≤n195) => ?_)
    refine EG 5 0 [] [[(an 3 4)],[o0,(ov (i6 ((k+1:Nat):Int))),o0]] [Qb b6,Qb b6,Qb b6,Wr ((k:Int)+1) (((k+1:Nat):Int))] [(1,Aa p),(2,pt z),(AA z),(AL z),(CY b6),(7,i6 ((k+1:Nat):Int))] ⟨w,n195,[(Ak w),(Ba c z),(Bf z),(Be y8 z),(bk b6 (Am.arr (FZ c p k)) 98)]⟩ rfl ⟨rfl,rfl,rfl,Dk,Ae⟩ ?_
    have eS:=Qq (FP.1 h193)
    refine Cb [1,2,4,5,6,7] [(1,Aa p),(2,pt z),(AA z),(AL z),(CY b6),(7,i6 ((k+1:Nat):Int))] ?_
    refine CS (fun a w' hs=>⟨y8.Ah.xs.length - (k+1),by omega,n195,(k+1),rfl,by omega,by omega,(by(try dsimp only[Bf,Be,IY,Ba,AA,AL,CY,IX]at hs ⊢);rw[eS];exact hs)⟩)
   refine A8 8 0 [0] [[o0,o0,(a1 3),o0,oT,o0,(an 3 4),(oa [.via 0 (i6 0),.via 0 (i6 0),.via 0 (i6 0)]),⟨.seq false,none⟩,o0]] [Qb (z+2),BT ((k:Int)<(y8.Ah.xs.length:Int)),Qb b6,Qb b6,Qb b6,Old w 0 0 (i6 0),Old w 0 1 (i6 0),Old w 0 2 (i6 0),(((FB (Bl (IG c p)) (FZ c p) k).e:Int)==(0:Int)&&((((FB (Bl (IG c p)) (FZ c p) k).Ag.First:Int)==(0:Int)&&(((FB (Bl (IG c p)) (FZ c p) k).Ag.Second:Int)==(0:Int)&&true))&&true))=false] [(1,Aa p),(2,pt z),(AA z),(AL z),(CY b6),(7,Aa k),(60,.bool false)] rfl ⟨rfl,bt,rfl,rfl,rfl,Aw (hL.2 0 _ rfl),Aw (hL.2 1 _ rfl),Aw (hL.2 2 _ rfl),(Bool.eq_false_iff.2 h193),Ae⟩ ?_
   have eB:(Jj c p)=(FB (Bl (IG c p)) (FZ c p) k):=Nu (fun e=>h193 (FP.2 e)) (by dsimp only[FY];rw[←hy8];omega)
   refine Cb [1,2,4,5,6] [(1,Aa p),(2,pt z),(AA z),(AL z),(CY b6)] ?_
   refine CS (fun a w' hs=>⟨n191,by omega,(by(try dsimp only[Bf,Be,IY,Ba,AA,AL,CY,IX]at hs ⊢);rw[eB];exact hs)⟩)
  refine A8 8 0 [0] [[o0,o0,(a1 3),o0,oF,o0,o0]] [Qb (z+2),BF ((k:Int)<(y8.Ah.xs.length:Int))] [(1,Aa p),(2,pt z),(AA z),(AL z),(CY b6),(7,Aa k),(60,.bool false)] rfl ⟨rfl,bf,Ae⟩ ?_
  have eB:(Jj c p)=(FB (Bl (IG c p)) (FZ c p) k):=congrArg (FB _ _) (by dsimp only[FY];rw[←hy8];omega)
  refine Cb [1,2,4,5,6] [(1,Aa p),(2,pt z),(AA z),(AL z),(CY b6)] ?_
  refine CS (fun a w' hs=>⟨n191,by omega,(by(try dsimp only[Bf,Be,IY,Ba,AA,AL,CY,IX]at hs ⊢);rw[eB];exact hs)⟩)
 rintro a w' ⟨n188,hn189,hs⟩
 refine(?_:G Tryz.prog 118 [(1,Aa p),(2,pt z),(AA z),(AL z),(CY b6)] [] ⟨w,n188,(IX c p y8 b6 z w)⟩ _ _ _) a w' hs
 clear hs a w'
 refine Dl <| Dl ?_
 by_cases h197:(((Jj c p).e:Int)==(0:Int)&&((((Jj c p).Ag.First:Int)==(0:Int)&&(((Jj c p).Ag.Second:Int)==(0:Int)&&true))&&true))=true
 ·have hB0:=FP.1 h197
  refine A8 6 0 [0] [[(an 3 4),(oa [.via 0 (i6 0),.via 0 (i6 0),.via 0 (i6 0)]),⟨.seq true,none⟩]] [Qb b6,Qb b6,Qb b6,Old w 0 0 (i6 0),Old w 0 1 (i6 0),Old w 0 2 (i6 0),(((Jj c p).e:Int)==(0:Int)&&((((Jj c p).Ag.First:Int)==(0:Int)&&(((Jj c p).Ag.Second:Int)==(0:Int)&&true))&&true))=true] [(1,Aa p),(2,pt z),(AA z),(AL z),(CY b6),(69,.bool false)] rfl ⟨rfl,rfl,rfl,Aw (hL.2 0 _ rfl),Aw (hL.2 1 _ rfl),Aw (hL.2 2 _ rfl),h197,Ae⟩ ?_
  refine VQ (fun a w'=>∃ (n198:Nat),n188≤n198∧St 118 [(1,Aa p),(2,pt z),(AA z),(AL z),(CY b6)] [] ⟨w,n198,[(Ak w),(Ba c z),(Bf z),(Be y8 z),(.blk b6 (.cells (Am.arr (Bl (IM c p))) 98 (0,0)) true)]⟩ a w') ?_ ?_
  ·by_cases h200:(win y8.Entry 0 4095)=true
   ·have hd201:=Iz h200
    by_cases h202:(8:Int)<(y8.Aq.xs.length:Int)
    ·refine DK 19 [0,1,2,3,4] (IX c p y8 b6 z w) rfl rfl ?_
     refine JP [.tk 0 o0,.tk 1 (a1 3),.tk 7 o0,.tk 10 o0,.tk 11 (a1 3),.tk 12 o0,.tk 13 oF,.tk 14 o0,.cl 2 (.bool (win y8.Entry 0 4095)),.tk 3 (ov (.bool true)),.tk 4 (an 8 3),.cl 5 (.bool (G9 y8)),.tk 6 o0,.cl 8 (.agg #[(Aa p),i6 (-1)]),.cl 9 (.agg (Am.arr (Af (G9 y8) 412 ⟨(p:Int), -1⟩))),.cl 15 (.agg #[(Aa p),i6 (-1)]),.cl 16 (.agg (Am.arr (Af false 413 ⟨(p:Int), -1⟩)))] [1,2,4,5,6,80,87] [(72,#[i6 y8.Entry,i6 0,i6 4095],.bool (win y8.Entry 0 4095)),(112,#[.agg (Ap.arr y8)],.bool (G9 y8)),(110,#[(Aa p)],.agg #[(Aa p),i6 (-1)]),(71,#[.bool (G9 y8),i6 412,.agg #[(Aa p),i6 (-1)]],.agg (Am.arr (Af (G9 y8) 412 ⟨(p:Int), -1⟩))),(110,#[(Aa p)],.agg #[(Aa p),i6 (-1)]),(71,#[.bool false,i6 413,.agg #[(Aa p),i6 (-1)]],.agg (Am.arr (Af false 413 ⟨(p:Int), -1⟩)))] (Dy 17 3) [Qb (z+2),Qb (z+2),BF ((y8.Aq.xs.length:Int)≤8),Value.bool (win y8.Entry 0 4095)=Value.bool true,Qb (z+2),Qb (z+2),Qb (z+2),Qb (z+2),Qb (z+2),Qb (z+2),Qb (z+2),Qb (z+2)] [(1,Aa p),(2,pt z),(AA z),(AL z),(CY b6),(80,.agg (Am.arr (Af (G9 y8) 412 ⟨(p:Int), -1⟩))),(87,.agg (Am.arr (Af false 413 ⟨(p:Int), -1⟩)))] [0,1,2,3,4] ⟨rfl,rfl,bf,(congrArg Value.bool h200),rfl,rfl,rfl,rfl,rfl,rfl,rfl,rfl,Ae⟩ ⟨fun w203 hw203=>BQ w203 y8.Entry 0 4095,fun w204 hw204=>Zl w204 y8 (he7.ext (hw204.ext rfl) (fun _ h=>h)) (by omega) (fun k hk=>by have hz:=VN hFr.2 hB0 k (by dsimp only[FY];rw[←hy8];exact hk);dsimp only[Ep]at hz;rw[←hy8]at hz;exact⟨hz.1,hz.2.1⟩),fun w205 hw205=>Df w205 (p:Int),fun w206 hw206=>Bg w206 (hL.ext (hw206.ext rfl)) (G9 y8) 412 (p:Int) (-1),fun w207 hw207=>Df w207 (p:Int),fun w208 hw208=>Bg w208 (hL.ext (hw208.ext rfl)) false 413 (p:Int) (-1),Ae⟩ (fun n209 hn210 => ?_)
     replace hn210:n188≤n209:=hn210
     refine AV 17 ?_
     refine Bi o0 [1,2,4,5,6,88] [] [(1,Aa p),(2,pt z),(AA z),(AL z),(CY b6),(88,.slice (some ⟨n209,0,none⟩) 2 2)] ⟨w,n209+1,[(Ak w),(Ba c z),(Bf z),(Be y8 z),(IY c p b6),(X7 p y8 n209)]⟩ [0,1,2,3,4] Ae (.inr rfl) ?_
     refine AV 18 ?_
     refine Gi 108 #[.slice (some ⟨n209,0,none⟩) 2 2] (some 89) (.agg (Am.arr (Bl [(Af (G9 y8) 412 ⟨(p:Int), -1⟩),(Af false 413 ⟨(p:Int), -1⟩)]))) [1,2,4,5,6,89] [(1,Aa p),(2,pt z),(AA z),(AL z),(CY b6),(89,.agg (Am.arr (Bl [(Af (G9 y8) 412 ⟨(p:Int), -1⟩),(Af false 413 ⟨(p:Int), -1⟩)])))] [0,1,2,3,4] (fun w211 hw211=>Dp w211 (hL.ext (hw211.ext rfl)) ⟨some ⟨n209,0,none⟩,2,[(Af (G9 y8) 412 ⟨(p:Int), -1⟩),(Af false 413 ⟨(p:Int), -1⟩)]⟩ (Ef hw211 (i:=5) [(Af (G9 y8) 412 ⟨(p:Int), -1⟩),(Af false 413 ⟨(p:Int), -1⟩)]) (show 2≤1000 by decide)) (fun n212 hn213 => ?_)
     replace hn213:n209+1≤n212:=hn213
     refine AV 19 ?_
     refine Bi (an 3 4) [1,2,4,5,6] [Qb b6,Qb b6,Qb b6] [(1,Aa p),(2,pt z),(AA z),(AL z),(CY b6)] ⟨w,n212,[(Ak w),(Ba c z),(Bf z),(Be y8 z),(X0 p y8 b6),(X7 p y8 n209)]⟩ [] ⟨rfl,rfl,rfl,Ae⟩ (.inl rfl) ?_
     refine D9 20 [0,1,2,3,4,5] [(Ak w),(Ba c z),(Bf z),(Be y8 z),(X0 p y8 b6),(X7 p y8 n209)] rfl rfl ?_
     refine CQ ?_
     refine Cb [1,2,4,5,6] [(1,Aa p),(2,pt z),(AA z),(AL z),(CY b6)] ?_
     refine C9 [0,1,2,3,4] [(Ak w),(Ba c z),(Bf z),(Be y8 z),(X0 p y8 b6)] rfl rfl ?_
     have eB:(Bl (IM c p))=(Bl [(Af (G9 y8) 412 ⟨(p:Int), -1⟩),(Af false 413 ⟨(p:Int), -1⟩)]):=by have e0:FY c p=y8:=hy8.symm;unfold IM;simp only[e0];first | simp[h200,show ¬ y8.Aq.xs.length≤8 by omega] | simp[h200,show y8.Aq.xs.length≤8 by omega]
     refine Cb [1,2,4,5,6] [(1,Aa p),(2,pt z),(AA z),(AL z),(CY b6)] ?_
     refine CS (fun a w' hs=>⟨n212,by omega,(by(try dsimp only[X7,X0,Bf,Be,IY,Ba,AA,AL,CY,IX]at hs ⊢);rw[eB];exact hs)⟩)
    refine DK 19 [0,1,2,3,4] (IX c p y8 b6 z w) rfl rfl ?_
    refine JP [.tk 0 o0,.tk 1 (a1 3),.tk 7 o0,.tk 10 o0,.tk 11 (a1 3),.tk 12 o0,.tk 13 oT,.tk 14 o0,.cl 2 (.bool (win y8.Entry 0 4095)),.tk 3 (ov (.bool true)),.tk 4 (an 8 3),.cl 5 (.bool (G9 y8)),.tk 6 o0,.cl 8 (.agg #[(Aa p),i6 (-1)]),.cl 9 (.agg (Am.arr (Af (G9 y8) 412 ⟨(p:Int), -1⟩))),.cl 15 (.agg #[(Aa p),i6 (-1)]),.cl 16 (.agg (Am.arr (Af true 413 ⟨(p:Int), -1⟩)))] [1,2,4,5,6,80,87] [(72,#[i6 y8.Entry,i6 0,i6 4095],.bool (win y8.Entry 0 4095)),(112,#[.agg (Ap.arr y8)],.bool (G9 y8)),(110,#[(Aa p)],.agg #[(Aa p),i6 (-1)]),(71,#[.bool (G9 y8),i6 412,.agg #[(Aa p),i6 (-1)]],.agg (Am.arr (Af (G9 y8) 412 ⟨(p:Int), -1⟩))),(110,#[(Aa p)],.agg #[(Aa p),i6 (-1)]),(71,#[.bool true,i6 413,.agg #[(Aa p),i6 (-1)]],.agg (Am.arr (Af true 413 ⟨(p:Int), -1⟩)))] (Dy 17 3) [Qb (z+2),Qb (z+2),BT ((y8.Aq.xs.length:Int)≤8),Value.bool (win y8.Entry 0 4095)=Value.bool true,Qb (z+2),Qb (z+2),Qb (z+2),Qb (z+2),Qb (z+2),Qb (z+2),Qb (z+2),Qb (z+2)] [(1,Aa p),(2,pt z),(AA z),(AL z),(CY b6),(80,.agg (Am.arr (Af (G9 y8) 412 ⟨(p:Int), -1⟩))),(87,.agg (Am.arr (Af true 413 ⟨(p:Int), -1⟩)))] [0,1,2,3,4] ⟨rfl,rfl,bt,(congrArg Value.bool h200),rfl,rfl,rfl,rfl,rfl,rfl,rfl,rfl,Ae⟩ ⟨fun w214 hw214=>BQ w214 y8.Entry 0 4095,fun w215 hw215=>Zl w215 y8 (he7.ext (hw215.ext rfl) (fun _ h=>h)) (by omega) (fun k hk=>by have hz:=VN hFr.2 hB0 k (by dsimp only[FY];rw[←hy8];exact hk);dsimp only[Ep]at hz;rw[←hy8]at hz;exact⟨hz.1,hz.2.1⟩),fun w216 hw216=>Df w216 (p:Int),fun w217 hw217=>Bg w217 (hL.ext (hw217.ext rfl)) (G9 y8) 412 (p:Int) (-1),fun w218 hw218=>Df w218 (p:Int),fun w219 hw219=>Bg w219 (hL.ext (hw219.ext rfl)) true 413 (p:Int) (-1),Ae⟩ (fun n220 hn221 => ?_)
    replace hn221:n188≤n220:=hn221
    refine AV 17 ?_
    refine Bi o0 [1,2,4,5,6,88] [] [(1,Aa p),(2,pt z),(AA z),(AL z),(CY b6),(88,.slice (some ⟨n220,0,none⟩) 2 2)] ⟨w,n220+1,[(Ak w),(Ba c z),(Bf z),(Be y8 z),(IY c p b6),(Xg p y8 n220)]⟩ [0,1,2,3,4] Ae (.inr rfl) ?_
    refine AV 18 ?_
    refine Gi 108 #[.slice (some ⟨n220,0,none⟩) 2 2] (some 89) (.agg (Am.arr (Bl [(Af (G9 y8) 412 ⟨(p:Int), -1⟩),(Af true 413 ⟨(p:Int), -1⟩)]))) [1,2,4,5,6,89] [(1,Aa p),(2,pt z),(AA z),(AL z),(CY b6),(89,.agg (Am.arr (Bl [(Af (G9 y8) 412 ⟨(p:Int), -1⟩),(Af true 413 ⟨(p:Int), -1⟩)])))] [0,1,2,3,4] (fun w222 hw222=>Dp w222 (hL.ext (hw222.ext rfl)) ⟨some ⟨n220,0,none⟩,2,[(Af (G9 y8) 412 ⟨(p:Int), -1⟩),(Af true 413 ⟨(p:Int), -1⟩)]⟩ (Ef hw222 (i:=5) [(Af (G9 y8) 412 ⟨(p:Int), -1⟩),(Af true 413 ⟨(p:Int), -1⟩)]) (show 2≤1000 by decide)) (fun n223 hn224 => ?_)
    replace hn224:n220+1≤n223:=hn224
    refine AV 19 ?_
    refine Bi (an 3 4) [1,2,4,5,6] [Qb b6,Qb b6,Qb b6] [(1,Aa p),(2,pt z),(AA z),(AL z),(CY b6)] ⟨w,n223,[(Ak w),(Ba c z),(Bf z),(Be y8 z),(XC p y8 b6),(Xg p y8 n220)]⟩ [] ⟨rfl,rfl,rfl,Ae⟩ (.inl rfl) ?_
    refine D9 20 [0,1,2,3,4,5] [(Ak w),(Ba c z),(Bf z),(Be y8 z),(XC p y8 b6),(Xg p y8 n220)] rfl rfl ?_
    refine CQ ?_
    refine Cb [1,2,4,5,6] [(1,Aa p),(2,pt z),(AA z),(AL z),(CY b6)] ?_
    refine C9 [0,1,2,3,4] [(Ak w),(Ba c z),(Bf z),(Be y8 z),(XC p y8 b6)] rfl rfl ?_
    have eB:(Bl (IM c p))=(Bl [(Af (G9 y8) 412 ⟨(p:Int), -1⟩),(Af true 413 ⟨(p:Int), -1⟩)]):=by have e0:FY c p=y8:=hy8.symm;unfold IM;simp only[e0];first | simp[h200,show ¬ y8.Aq.xs.length≤8 by omega] | simp[h200,show y8.Aq.xs.length≤8 by omega]
    refine Cb [1,2,4,5,6] [(1,Aa p),(2,pt z),(AA z),(AL z),(CY b6)] ?_
    refine CS (fun a w' hs=>⟨n223,by omega,(by(try dsimp only[Xg,XC,Bf,Be,IY,Ba,AA,AL,CY,IX]at hs ⊢);rw[eB];exact hs)⟩)
   have hd225:=KL h200
   by_cases h226:(8:Int)<(y8.Aq.xs.length:Int)
   ·refine DK 19 [0,1,2,3,4] (IX c p y8 b6 z w) rfl rfl ?_
    refine JP [.tk 0 o0,.tk 1 (a1 3),.tk 7 o0,.tk 10 o0,.tk 11 (a1 3),.tk 12 o0,.tk 13 oF,.tk 14 o0,.cl 2 (.bool (win y8.Entry 0 4095)),.tk 3 (ov (.bool false)),.tk 4 o0,.tk 5 o0,.tk 6 o0,.cl 8 (.agg #[(Aa p),i6 (-1)]),.cl 9 (.agg (Am.arr (Af false 412 ⟨(p:Int), -1⟩))),.cl 15 (.agg #[(Aa p),i6 (-1)]),.cl 16 (.agg (Am.arr (Af false 413 ⟨(p:Int), -1⟩)))] [1,2,4,5,6,80,87] [(72,#[i6 y8.Entry,i6 0,i6 4095],.bool (win y8.Entry 0 4095)),(110,#[(Aa p)],.agg #[(Aa p),i6 (-1)]),(71,#[.bool false,i6 412,.agg #[(Aa p),i6 (-1)]],.agg (Am.arr (Af false 412 ⟨(p:Int), -1⟩))),(110,#[(Aa p)],.agg #[(Aa p),i6 (-1)]),(71,#[.bool false,i6 413,.agg #[(Aa p),i6 (-1)]],.agg (Am.arr (Af false 413 ⟨(p:Int), -1⟩)))] (Dy 17 3) [Qb (z+2),Qb (z+2),BF ((y8.Aq.xs.length:Int)≤8),Value.bool (win y8.Entry 0 4095)=Value.bool false] [(1,Aa p),(2,pt z),(AA z),(AL z),(CY b6),(80,.agg (Am.arr (Af false 412 ⟨(p:Int), -1⟩))),(87,.agg (Am.arr (Af false 413 ⟨(p:Int), -1⟩)))] [0,1,2,3,4] ⟨rfl,rfl,bf,(congrArg Value.bool (Bool.eq_false_iff.2 h200)),Ae⟩ ⟨fun w227 hw227=>BQ w227 y8.Entry 0 4095,fun w228 hw228=>Df w228 (p:Int),fun w229 hw229=>Bg w229 (hL.ext (hw229.ext rfl)) false 412 (p:Int) (-1),fun w230 hw230=>Df w230 (p:Int),fun w231 hw231=>Bg w231 (hL.ext (hw231.ext rfl)) false 413 (p:Int) (-1),Ae⟩ (fun n232 hn233 => ?_)
    replace hn233:n188≤n232:=hn233
    refine AV 17 ?_
    refine Bi o0 [1,2,4,5,6,88] [] [(1,Aa p),(2,pt z),(AA z),(AL z),(CY b6),(88,.slice (some ⟨n232,0,none⟩) 2 2)] ⟨w,n232+1,[(Ak w),(Ba c z),(Bf z),(Be y8 z),(IY c p b6),(XB p n232)]⟩ [0,1,2,3,4] Ae (.inr rfl) ?_
    refine AV 18 ?_
    refine Gi 108 #[.slice (some ⟨n232,0,none⟩) 2 2] (some 89) (.agg (Am.arr (Bl [(Af false 412 ⟨(p:Int), -1⟩),(Af false 413 ⟨(p:Int), -1⟩)]))) [1,2,4,5,6,89] [(1,Aa p),(2,pt z),(AA z),(AL z),(CY b6),(89,.agg (Am.arr (Bl [(Af false 412 ⟨(p:Int), -1⟩),(Af false 413 ⟨(p:Int), -1⟩)])))] [0,1,2,3,4] (fun w234 hw234=>Dp w234 (hL.ext (hw234.ext rfl)) ⟨some ⟨n232,0,none⟩,2,[(Af false 412 ⟨(p:Int), -1⟩),(Af false 413 ⟨(p:Int), -1⟩)]⟩ (Ef hw234 (i:=5) [(Af false 412 ⟨(p:Int), -1⟩),(Af false 413 ⟨(p:Int), -1⟩)]) (show 2≤1000 by decide)) (fun n235 hn236 => ?_)
    replace hn236:n232+1≤n235:=hn236
    refine AV 19 ?_
    refine Bi (an 3 4) [1,2,4,5,6] [Qb b6,Qb b6,Qb b6] [(1,Aa p),(2,pt z),(AA z),(AL z),(CY b6)] ⟨w,n235,[(Ak w),(Ba c z),(Bf z),(Be y8 z),(Xx p b6),(XB p n232)]⟩ [] ⟨rfl,rfl,rfl,Ae⟩ (.inl rfl) ?_
    refine D9 20 [0,1,2,3,4,5] [(Ak w),(Ba c z),(Bf z),(Be y8 z),(Xx p b6),(XB p n232)] rfl rfl ?_
    refine CQ ?_
    refine Cb [1,2,4,5,6] [(1,Aa p),(2,pt z),(AA z),(AL z),(CY b6)] ?_
    refine C9 [0,1,2,3,4] [(Ak w),(Ba c z),(Bf z),(Be y8 z),(Xx p b6)] rfl rfl ?_
    have eB:(Bl (IM c p))=(Bl [(Af false 412 ⟨(p:Int), -1⟩),(Af false 413 ⟨(p:Int), -1⟩)]):=by have e0:FY c p=y8:=hy8.symm;unfold IM;simp only[e0];first | simp[h200,show ¬ y8.Aq.xs.length≤8 by omega] | simp[h200,show y8.Aq.xs.length≤8 by omega]
    refine Cb [1,2,4,5,6] [(1,Aa p),(2,pt z),(AA z),(AL z),(CY b6)] ?_
    refine CS (fun a w' hs=>⟨n235,by omega,(by(try dsimp only[XB,Xx,Bf,Be,IY,Ba,AA,AL,CY,IX]at hs ⊢);rw[eB];exact hs)⟩)
   refine DK 19 [0,1,2,3,4] (IX c p y8 b6 z w) rfl rfl ?_
   refine JP [.tk 0 o0,.tk 1 (a1 3),.tk 7 o0,.tk 10 o0,.tk 11 (a1 3),.tk 12 o0,.tk 13 oT,.tk 14 o0,.cl 2 (.bool (win y8.Entry 0 4095)),.tk 3 (ov (.bool false)),.tk 4 o0,.tk 5 o0,.tk 6 o0,.cl 8 (.agg #[(Aa p),i6 (-1)]),.cl 9 (.agg (Am.arr (Af false 412 ⟨(p:Int), -1⟩))),.cl 15 (.agg #[(Aa p),i6 (-1)]),.cl 16 (.agg (Am.arr (Af true 413 ⟨(p:Int), -1⟩)))] [1,2,4,5,6,80,87] [(72,#[i6 y8.Entry,i6 0,i6 4095],.bool (win y8.Entry 0 4095)),(110,#[(Aa p)],.agg #[(Aa p),i6 (-1)]),(71,#[.bool false,i6 412,.agg #[(Aa p),i6 (-1)]],.agg (Am.arr (Af false 412 ⟨(p:Int), -1⟩))),(110,#[(Aa p)],.agg #[(Aa p),i6 (-1)]),(71,#[.bool true,i6 413,.agg #[(Aa p),i6 (-1)]],.agg (Am.arr (Af true 413 ⟨(p:Int), -1⟩)))] (Dy 17 3) [Qb (z+2),Qb (z+2),BT ((y8.Aq.xs.length:Int)≤8),Value.bool (win y8.Entry 0 4095)=Value.bool false] [(1,Aa p),(2,pt z),(AA z),(AL z),(CY b6),(80,.agg (Am.arr (Af false 412 ⟨(p:Int), -1⟩))),(87,.agg (Am.arr (Af true 413 ⟨(p:Int), -1⟩)))] [0,1,2,3,4] ⟨rfl,rfl,bt,(congrArg Value.bool (Bool.eq_false_iff.2 h200)),Ae⟩ ⟨fun w237 hw237=>BQ w237 y8.Entry 0 4095,fun w238 hw238=>Df w238 (p:Int),fun w239 hw239=>Bg w239 (hL.ext (hw239.ext rfl)) false 412 (p:Int) (-1),fun w240 hw240=>Df w240 (p:Int),fun w241 hw241=>Bg w241 (hL.ext (hw241.ext rfl)) true 413 (p:Int) (-1),Ae⟩ (fun n242 hn243 => ?_)
   replace hn243:n188≤n242:=hn243
   refine AV 17 ?_
   refine Bi o0 [1,2,4,5,6,88] [] [(1,Aa p),(2,pt z),(AA z),(AL z),(CY b6),(88,.slice (some ⟨n242,0,none⟩) 2 2)] ⟨w,n242+1,[(Ak w),(Ba c z),(Bf z),(Be y8 z),(IY c p b6),(XH p n242)]⟩ [0,1,2,3,4] Ae (.inr rfl) ?_
   refine AV 18 ?_
   refine Gi 108 #[.slice (some ⟨n242,0,none⟩) 2 2] (some 89) (.agg (Am.arr (Bl [(Af false 412 ⟨(p:Int), -1⟩),(Af true 413 ⟨(p:Int), -1⟩)]))) [1,2,4,5,6,89] [(1,Aa p),(2,pt z),(AA z),(AL z),(CY b6),(89,.agg (Am.arr (Bl [(Af false 412 ⟨(p:Int), -1⟩),(Af true 413 ⟨(p:Int), -1⟩)])))] [0,1,2,3,4] (fun w244 hw244=>Dp w244 (hL.ext (hw244.ext rfl)) ⟨some ⟨n242,0,none⟩,2,[(Af false 412 ⟨(p:Int), -1⟩),(Af true 413 ⟨(p:Int), -1⟩)]⟩ (Ef hw244 (i:=5) [(Af false 412 ⟨(p:Int), -1⟩),(Af true 413 ⟨(p:Int), -1⟩)]) (show 2≤1000 by decide)) (fun n245 hn246 => ?_)
   replace hn246:n242+1≤n245:=hn246
   refine AV 19 ?_
   refine Bi (an 3 4) [1,2,4,5,6] [Qb b6,Qb b6,Qb b6] [(1,Aa p),(2,pt z),(AA z),(AL z),(CY b6)] ⟨w,n245,[(Ak w),(Ba c z),(Bf z),(Be y8 z),(Xm p b6),(XH p n242)]⟩ [] ⟨rfl,rfl,rfl,Ae⟩ (.inl rfl) ?_
   refine D9 20 [0,1,2,3,4,5] [(Ak w),(Ba c z),(Bf z),(Be y8 z),(Xm p b6),(XH p n242)] rfl rfl ?_
   refine CQ ?_
   refine Cb [1,2,4,5,6] [(1,Aa p),(2,pt z),(AA z),(AL z),(CY b6)] ?_
   refine C9 [0,1,2,3,4] [(Ak w),(Ba c z),(Bf z),(Be y8 z),(Xm p b6)] rfl rfl ?_
   have eB:(Bl (IM c p))=(Bl [(Af false 412 ⟨(p:Int), -1⟩),(Af true 413 ⟨(p:Int), -1⟩)]):=by have e0:FY c p=y8:=hy8.symm;unfold IM;simp only[e0];first | simp[h200,show ¬ y8.Aq.xs.length≤8 by omega] | simp[h200,show y8.Aq.xs.length≤8 by omega]
   refine Cb [1,2,4,5,6] [(1,Aa p),(2,pt z),(AA z),(AL z),(CY b6)] ?_
   refine CS (fun a w' hs=>⟨n245,by omega,(by(try dsimp only[XH,Xm,Bf,Be,IY,Ba,AA,AL,CY,IX]at hs ⊢);rw[eB];exact hs)⟩)
  rintro a w' ⟨n198,hn199,hs⟩
  refine(?_:G Tryz.prog 118 [(1,Aa p),(2,pt z),(AA z),(AL z),(CY b6)] [] ⟨w,n198,[(Ak w),(Ba c z),(Bf z),(Be y8 z),(.blk b6 (.cells (Am.arr (Bl (IM c p))) 98 (0,0)) true)]⟩ _ _ _) a w' hs
  clear hs a w'
  refine VQ (fun a w'=>∃ (n247:Nat),n198≤n247∧St 118 [(AA z),(CY b6)] [] ⟨w,n247,[(Ak w),(Ba c z),(Bf z),(Be y8 z),(bk b6 (Am.arr (Es c p)) 98)]⟩ a w') ?_ ?_
  ·refine A8 5 0 [] [[o0]] [] [(1,Aa p),(2,pt z),(AA z),(AL z),(CY b6),(8,i6 0)] rfl Ae ?_
   refine DI (fun m a w'=>∃ (n250:Nat) (k:Nat),m=y8.Aq.xs.length - k∧n198≤n250∧(k≤y8.Aq.xs.length)∧St 118 [(1,Aa p),(2,pt z),(AA z),(AL z),(CY b6),(8,Aa k)] [] ⟨w,n250,[(Ak w),(Ba c z),(Bf z),(Be y8 z),(QP c p b6 k)]⟩ a w') (y8.Aq.xs.length - 0) ?_ ?_
   ·intro a w' hs;exact⟨n198,0,rfl,Nat.le_refl _,Nat.zero_le _,(by(try dsimp only[QP,Bf,Be,IY,Ba,AA,AL,CY,IX]at hs ⊢);rw[QC];exact hs)⟩
   rintro m a w' ⟨n250,k,rfl,hn249,hkk,hs⟩
   refine(?_:G Tryz.prog 118 [(1,Aa p),(2,pt z),(AA z),(AL z),(CY b6),(8,Aa k)] [] ⟨w,n250,[(Ak w),(Ba c z),(Bf z),(Be y8 z),(QP c p b6 k)]⟩ _ _ _) a w' hs
   clear hs a w'
   refine Dl <| Dl ?_
   by_cases h251:(k:Int)<(y8.Aq.xs.length:Int)
   ·by_cases h252:(((FB (Bl (IM c p)) (KQ c p) k).e:Int)==(0:Int)&&((((FB (Bl (IM c p)) (KQ c p) k).Ag.First:Int)==(0:Int)&&(((FB (Bl (IM c p)) (KQ c p) k).Ag.Second:Int)==(0:Int)&&true))&&true))=true
    ·refine A8 8 0 [1] [[o0,o0,(a1 3),o0,oT,o0,(an 3 4),(oa [.via 0 (i6 0),.via 0 (i6 0),.via 0 (i6 0)]),⟨.seq true,none⟩,o0]] [Qb (z+2),BT ((k:Int)<(y8.Aq.xs.length:Int)),Qb b6,Qb b6,Qb b6,Old w 0 0 (i6 0),Old w 0 1 (i6 0),Old w 0 2 (i6 0),(((FB (Bl (IM c p)) (KQ c p) k).e:Int)==(0:Int)&&((((FB (Bl (IM c p)) (KQ c p) k).Ag.First:Int)==(0:Int)&&(((FB (Bl (IM c p)) (KQ c p) k).Ag.Second:Int)==(0:Int)&&true))&&true))=true] [(1,Aa p),(2,pt z),(AA z),(AL z),(CY b6),(8,Aa k),(99,.bool true)] rfl ⟨rfl,bt,rfl,rfl,rfl,Aw (hL.2 0 _ rfl),Aw (hL.2 1 _ rfl),Aw (hL.2 2 _ rfl),h252,Ae⟩ ?_
     obtain⟨b253,o254,ha255,hF257,hc256⟩:=(he7.Aq).1.all (show 0<y8.Aq.xs.length by omega)
     replace ha255:y8.Aq.a=some ⟨b253,o254,none⟩:=ha255
     have hc258:=hc256 k (show k<y8.Aq.xs.length by omega)
     have he259:=(he7.Aq).2 k (show k<y8.Aq.xs.length by omega)
     obtain⟨y260,hy260⟩:∃ y_,y_=gd y8.Aq.xs k:=⟨_,rfl⟩
     rw[←hy260]at he259 hc258
     refine DK 15 [0,1,2,3,4] [(Ak w),(Ba c z),(Bf z),(Be y8 z),(QP c p b6 k)] rfl rfl ?_
     refine JP [.tk 0 o0,.tk 1 (J3 3 b253 o254 y8.Aq),.tk 2 o0,.tk 3 (oi k),.tk 4 o0,.tk 5 (oa [.via 0 (i6 y260.Channel)]),.tk 6 o0,.tk 7 (a1 1),.tk 8 o0,.tk 9 (ov (i6 ((c.Aj.xs.length:Int) - 1))),.tk 11 o0,.tk 12 o0,.cl 10 (.bool (win y260.Channel 0 ((c.Aj.xs.length:Int) - 1))),.cl 13 (.agg #[(Aa p),Aa k]),.cl 14 (.agg (Am.arr (Af (win y260.Channel 0 ((c.Aj.xs.length:Int) - 1)) 414 ⟨(p:Int),(k:Int)⟩)))] [1,2,4,5,6,8,116] [(72,#[i6 y260.Channel,i6 0,i6 ((c.Aj.xs.length:Int) - 1)],.bool (win y260.Channel 0 ((c.Aj.xs.length:Int) - 1))),(19,#[(Aa p),Aa k],.agg #[(Aa p),Aa k]),(71,#[.bool (win y260.Channel 0 ((c.Aj.xs.length:Int) - 1)),i6 414,.agg #[(Aa p),Aa k]],.agg (Am.arr (Af (win y260.Channel 0 ((c.Aj.xs.length:Int) - 1)) 414 ⟨(p:Int),(k:Int)⟩)))] (Dy 15 1) [Qb (z+2),IJ b253 o254 y8.Aq,Ea k,k<y8.Aq.xs.length,Ec,Old w b253 (o254+k*2) (i6 y260.Channel),Qb z,Wr ((c.Aj.xs.length:Int) - 1) ((c.Aj.xs.length:Int) - 1)] [(1,Aa p),(2,pt z),(AA z),(AL z),(CY b6),(8,Aa k),(116,.agg (Am.arr (Af (win y260.Channel 0 ((c.Aj.xs.length:Int) - 1)) 414 ⟨(p:Int),(k:Int)⟩)))] [0,1,2,3,4] ⟨rfl,IK ha255,rfl,(by omega),rfl,Aw (hc258 0 _ rfl),rfl,Dk,Ae⟩ ⟨fun w261 hw261=>BQ w261 y260.Channel 0 ((c.Aj.xs.length:Int) - 1),fun w262 hw262=>Fv w262 (p:Int) (k:Int),fun w263 hw263=>Bg w263 (hL.ext (hw263.ext rfl)) (win y260.Channel 0 ((c.Aj.xs.length:Int) - 1)) 414 (p:Int) (k:Int),Ae⟩ (fun n264 hn265 => ?_)
     replace hn265:n250≤n264:=hn265
     refine AV 15 ?_
     refine Bi (an 3 4) [1,2,4,5,6,8] [Qb b6,Qb b6,Qb b6] [(1,Aa p),(2,pt z),(AA z),(AL z),(CY b6),(8,Aa k)] ⟨w,n264,(X8 c p y8 b6 k z w y260)⟩ [] ⟨rfl,rfl,rfl,Ae⟩ (.inl rfl) ?_
     refine D9 16 [0,1,2,3,4] (X8 c p y8 b6 k z w y260) rfl rfl ?_
     refine CQ ?_
     refine Nl 4 0 [] [[o0,(ov (i6 ((k+1:Nat):Int))),o0]] [Wr ((k:Int)+1) (((k+1:Nat):Int))] [(1,Aa p),(2,pt z),(AA z),(AL z),(CY b6),(8,i6 ((k+1:Nat):Int))] rfl ⟨Dk,Ae⟩ ?_
     have eS:=Qq (FP.1 h252)
     have eP:KQ c p k=(Af (win y260.Channel 0 ((c.Aj.xs.length:Int) - 1)) 414 ⟨(p:Int),(k:Int)⟩):=by have e0:Zae c p k=y260:=(by dsimp only[Zae];rw[←hy8,←hy260]);unfold KQ;rw[e0]
     refine Cb [1,2,4,5,6,8] [(1,Aa p),(2,pt z),(AA z),(AL z),(CY b6),(8,i6 ((k+1:Nat):Int))] ?_
     refine CS (fun a w' hs=>⟨y8.Aq.xs.length - (k+1),by omega,n264,(k+1),rfl,by omega,by omega,(by(try dsimp only[QP,Bf,Be,IY,Ba,AA,AL,CY,X8,IX]at hs ⊢);rw[eS,eP];exact hs)⟩)
    refine A8 8 0 [0] [[o0,o0,(a1 3),o0,oT,o0,(an 3 4),(oa [.via 0 (i6 0),.via 0 (i6 0),.via 0 (i6 0)]),⟨.seq false,none⟩,o0]] [Qb (z+2),BT ((k:Int)<(y8.Aq.xs.length:Int)),Qb b6,Qb b6,Qb b6,Old w 0 0 (i6 0),Old w 0 1 (i6 0),Old w 0 2 (i6 0),(((FB (Bl (IM c p)) (KQ c p) k).e:Int)==(0:Int)&&((((FB (Bl (IM c p)) (KQ c p) k).Ag.First:Int)==(0:Int)&&(((FB (Bl (IM c p)) (KQ c p) k).Ag.Second:Int)==(0:Int)&&true))&&true))=false] [(1,Aa p),(2,pt z),(AA z),(AL z),(CY b6),(8,Aa k),(99,.bool false)] rfl ⟨rfl,bt,rfl,rfl,rfl,Aw (hL.2 0 _ rfl),Aw (hL.2 1 _ rfl),Aw (hL.2 2 _ rfl),(Bool.eq_false_iff.2 h252),Ae⟩ ?_
    have eB:(Es c p)=(FB (Bl (IM c p)) (KQ c p) k):=(if_pos hB0).trans (Nu (fun e=>h252 (FP.2 e)) (by dsimp only[FY];rw[←hy8];omega))
    refine Cb [4,6] [(AA z),(CY b6)] ?_
    refine CS (fun a w' hs=>⟨n250,by omega,(by(try dsimp only[QP,Bf,Be,IY,Ba,AA,AL,CY,X8,IX]at hs ⊢);rw[eB];exact hs)⟩)
   refine A8 8 0 [0] [[o0,o0,(a1 3),o0,oF,o0,o0]] [Qb (z+2),BF ((k:Int)<(y8.Aq.xs.length:Int))] [(1,Aa p),(2,pt z),(AA z),(AL z),(CY b6),(8,Aa k),(99,.bool false)] rfl ⟨rfl,bf,Ae⟩ ?_
   have eB:(Es c p)=(FB (Bl (IM c p)) (KQ c p) k):=(if_pos hB0).trans (congrArg (FB _ _) (by dsimp only[FY];rw[←hy8];omega))
   refine Cb [4,6] [(AA z),(CY b6)] ?_
   refine CS (fun a w' hs=>⟨n250,by omega,(by(try dsimp only[QP,Bf,Be,IY,Ba,AA,AL,CY,IX]at hs ⊢);rw[eB];exact hs)⟩)
  rintro a w' ⟨n247,hn248,hs⟩
  refine(?_:G Tryz.prog 118 [(AA z),(CY b6)] [] ⟨w,n247,[(Ak w),(Ba c z),(Bf z),(Be y8 z),(bk b6 (Am.arr (Es c p)) 98)]⟩ _ _ _) a w' hs
  clear hs a w'
  refine q_c 5 0 [] [[(an 3 4),(an 3 2)]] [Qb b6,Qb b6,Qb b6,Qb (z+1),Qb (z+1),Qb (z+1)] [(AA z)] ⟨w,n247,[(Ak w),(Ba c z),(bk (z+1) (Am.arr (Es c p)) 98),(Be y8 z),(bk b6 (Am.arr (Es c p)) 98)]⟩ rfl ⟨rfl,rfl,rfl,rfl,rfl,rfl,Ae⟩ ?_
  refine AP [.at 2,.at 2,.at 2] [Qb (z+1),Qb (z+1),Qb (z+1)] (.agg #[i6 ((Es c p).e),i6 ((Es c p).Ag.First),i6 ((Es c p).Ag.Second)]) ⟨rfl,rfl,rfl,Ae⟩ ?_
  intro w266 hw266
  exact⟨rfl,Au hw266⟩
 refine q_c 9 0 [1] [[(an 3 4),(oa [.via 0 (i6 0),.via 0 (i6 0),.via 0 (i6 0)]),⟨.seq false,none⟩],[(an 3 4),(an 3 2)]] [Qb b6,Qb b6,Qb b6,Old w 0 0 (i6 0),Old w 0 1 (i6 0),Old w 0 2 (i6 0),(((Jj c p).e:Int)==(0:Int)&&((((Jj c p).Ag.First:Int)==(0:Int)&&(((Jj c p).Ag.Second:Int)==(0:Int)&&true))&&true))=false,Qb b6,Qb b6,Qb b6,Qb (z+1),Qb (z+1),Qb (z+1)] [(AA z)] ⟨w,n188,[(Ak w),(Ba c z),(bk (z+1) (Am.arr (Jj c p)) 98),(Be y8 z),(IY c p b6)]⟩ rfl ⟨rfl,rfl,rfl,Aw (hL.2 0 _ rfl),Aw (hL.2 1 _ rfl),Aw (hL.2 2 _ rfl),(Bool.eq_false_iff.2 h197),rfl,rfl,rfl,rfl,rfl,rfl,Ae⟩ ?_
 refine AP [.at 2,.at 2,.at 2] [Qb (z+1),Qb (z+1),Qb (z+1)] (.agg #[i6 ((Jj c p).e),i6 ((Jj c p).Ag.First),i6 ((Jj c p).Ag.Second)]) ⟨rfl,rfl,rfl,Ae⟩ ?_
 intro w267 hw267
 exact⟨by rw[show Es c p=Jj c p from if_neg (fun e=>h197 (FP.2 e))],Au hw267⟩
abbrev OJ(c:Ai)(h:Nat):AQ:=gd c.Aj.xs h
def Ez(x:AQ):Bool:=if x.Kind=2 then win x.Dj 1 8 else decide (x.Dj=0)
def Az(x:AQ):Int:=if x.Kind=2 then 1 else 4
def Em(c:Ai)(h:Nat):Am:=Bl [Af (win (OJ c h).Kind 1 2&&win (OJ c h).Words 1 16&&Ez (OJ c h)) 415 ⟨(h:Int), -1⟩,Af (decide ((Ko c h:Nat)=(1:Int))) 416 ⟨(h:Int), -1⟩,Af (win (BG c h:Nat) 1 (Az (OJ c h))) 417 ⟨(h:Int), -1⟩]
section
variable (n224:Nat)(y8:AQ)(h:Nat)(c:Ai)(n68 n205:Nat)(n49 n114:Nat)(n160 n270:Nat)(n316 n141:Nat)(n251 n297:Nat)(n95 z:Nat)
abbrev qt5j_0:=bk n224 #[i6 ((Af (Ez y8) 415 ⟨(h:Int), -1⟩).e),i6 ((Af (Ez y8) 415 ⟨(h:Int), -1⟩).Ag.First),i6 ((Af (Ez y8) 415 ⟨(h:Int), -1⟩).Ag.Second),i6 ((Af false 416 ⟨(h:Int), -1⟩).e),i6 ((Af false 416 ⟨(h:Int), -1⟩).Ag.First),i6 ((Af false 416 ⟨(h:Int), -1⟩).Ag.Second),i6 ((Af (win ((BG c (h:Int):Nat):Int) 1 (Az y8)) 417 ⟨(h:Int), -1⟩).e),i6 ((Af (win ((BG c (h:Int):Nat):Int) 1 (Az y8)) 417 ⟨(h:Int), -1⟩).Ag.First),i6 ((Af (win ((BG c (h:Int):Nat):Int) 1 (Az y8)) 417 ⟨(h:Int), -1⟩).Ag.Second)] 98
abbrev qt5j_1:=bk n68 #[i6 ((Af (Ez y8) 415 ⟨(h:Int), -1⟩).e),i6 ((Af (Ez y8) 415 ⟨(h:Int), -1⟩).Ag.First),i6 ((Af (Ez y8) 415 ⟨(h:Int), -1⟩).Ag.Second),i6 ((Af false 416 ⟨(h:Int), -1⟩).e),i6 ((Af false 416 ⟨(h:Int), -1⟩).Ag.First),i6 ((Af false 416 ⟨(h:Int), -1⟩).Ag.Second),i6 ((Af (win ((BG c (h:Int):Nat):Int) 1 (Az y8)) 417 ⟨(h:Int), -1⟩).e),i6 ((Af (win ((BG c (h:Int):Nat):Int) 1 (Az y8)) 417 ⟨(h:Int), -1⟩).Ag.First),i6 ((Af (win ((BG c (h:Int):Nat):Int) 1 (Az y8)) 417 ⟨(h:Int), -1⟩).Ag.Second)] 98
abbrev qt5j_2:=bk n205 #[i6 ((Af (Ez y8) 415 ⟨(h:Int), -1⟩).e),i6 ((Af (Ez y8) 415 ⟨(h:Int), -1⟩).Ag.First),i6 ((Af (Ez y8) 415 ⟨(h:Int), -1⟩).Ag.Second),i6 ((Af true 416 ⟨(h:Int), -1⟩).e),i6 ((Af true 416 ⟨(h:Int), -1⟩).Ag.First),i6 ((Af true 416 ⟨(h:Int), -1⟩).Ag.Second),i6 ((Af (win ((BG c (h:Int):Nat):Int) 1 (Az y8)) 417 ⟨(h:Int), -1⟩).e),i6 ((Af (win ((BG c (h:Int):Nat):Int) 1 (Az y8)) 417 ⟨(h:Int), -1⟩).Ag.First),i6 ((Af (win ((BG c (h:Int):Nat):Int) 1 (Az y8)) 417 ⟨(h:Int), -1⟩).Ag.Second)] 98
abbrev qt5j_3:=bk n49 #[i6 ((Af (Ez y8) 415 ⟨(h:Int), -1⟩).e),i6 ((Af (Ez y8) 415 ⟨(h:Int), -1⟩).Ag.First),i6 ((Af (Ez y8) 415 ⟨(h:Int), -1⟩).Ag.Second),i6 ((Af true 416 ⟨(h:Int), -1⟩).e),i6 ((Af true 416 ⟨(h:Int), -1⟩).Ag.First),i6 ((Af true 416 ⟨(h:Int), -1⟩).Ag.Second),i6 ((Af (win ((BG c (h:Int):Nat):Int) 1 (Az y8)) 417 ⟨(h:Int), -1⟩).e),i6 ((Af (win ((BG c (h:Int):Nat):Int) 1 (Az y8)) 417 ⟨(h:Int), -1⟩).Ag.First),i6 ((Af (win ((BG c (h:Int):Nat):Int) 1 (Az y8)) 417 ⟨(h:Int), -1⟩).Ag.Second)] 98
abbrev qt5j_4:=bk n114 #[i6 ((Af false 415 ⟨(h:Int), -1⟩).e),i6 ((Af false 415 ⟨(h:Int), -1⟩).Ag.First),i6 ((Af false 415 ⟨(h:Int), -1⟩).Ag.Second),i6 ((Af false 416 ⟨(h:Int), -1⟩).e),i6 ((Af false 416 ⟨(h:Int), -1⟩).Ag.First),i6 ((Af false 416 ⟨(h:Int), -1⟩).Ag.Second),i6 ((Af (win ((BG c (h:Int):Nat):Int) 1 (Az y8)) 417 ⟨(h:Int), -1⟩).e),i6 ((Af (win ((BG c (h:Int):Nat):Int) 1 (Az y8)) 417 ⟨(h:Int), -1⟩).Ag.First),i6 ((Af (win ((BG c (h:Int):Nat):Int) 1 (Az y8)) 417 ⟨(h:Int), -1⟩).Ag.Second)] 98
abbrev qt5j_5:=bk n160 #[i6 ((Af false 415 ⟨(h:Int), -1⟩).e),i6 ((Af false 415 ⟨(h:Int), -1⟩).Ag.First),i6 ((Af false 415 ⟨(h:Int), -1⟩).Ag.Second),i6 ((Af false 416 ⟨(h:Int), -1⟩).e),i6 ((Af false 416 ⟨(h:Int), -1⟩).Ag.First),i6 ((Af false 416 ⟨(h:Int), -1⟩).Ag.Second),i6 ((Af (win ((BG c (h:Int):Nat):Int) 1 (Az y8)) 417 ⟨(h:Int), -1⟩).e),i6 ((Af (win ((BG c (h:Int):Nat):Int) 1 (Az y8)) 417 ⟨(h:Int), -1⟩).Ag.First),i6 ((Af (win ((BG c (h:Int):Nat):Int) 1 (Az y8)) 417 ⟨(h:Int), -1⟩).Ag.Second)] 98
abbrev qt5j_6:=bk n270 #[i6 ((Af false 415 ⟨(h:Int), -1⟩).e),i6 ((Af false 415 ⟨(h:Int), -1⟩).Ag.First),i6 ((Af false 415 ⟨(h:Int), -1⟩).Ag.Second),i6 ((Af false 416 ⟨(h:Int), -1⟩).e),i6 ((Af false 416 ⟨(h:Int), -1⟩).Ag.First),i6 ((Af false 416 ⟨(h:Int), -1⟩).Ag.Second),i6 ((Af (win ((BG c (h:Int):Nat):Int) 1 (Az y8)) 417 ⟨(h:Int), -1⟩).e),i6 ((Af (win ((BG c (h:Int):Nat):Int) 1 (Az y8)) 417 ⟨(h:Int), -1⟩).Ag.First),i6 ((Af (win ((BG c (h:Int):Nat):Int) 1 (Az y8)) 417 ⟨(h:Int), -1⟩).Ag.Second)] 98
abbrev qt5j_7:=bk n316 #[i6 ((Af false 415 ⟨(h:Int), -1⟩).e),i6 ((Af false 415 ⟨(h:Int), -1⟩).Ag.First),i6 ((Af false 415 ⟨(h:Int), -1⟩).Ag.Second),i6 ((Af false 416 ⟨(h:Int), -1⟩).e),i6 ((Af false 416 ⟨(h:Int), -1⟩).Ag.First),i6 ((Af false 416 ⟨(h:Int), -1⟩).Ag.Second),i6 ((Af (win ((BG c (h:Int):Nat):Int) 1 (Az y8)) 417 ⟨(h:Int), -1⟩).e),i6 ((Af (win ((BG c (h:Int):Nat):Int) 1 (Az y8)) 417 ⟨(h:Int), -1⟩).Ag.First),i6 ((Af (win ((BG c (h:Int):Nat):Int) 1 (Az y8)) 417 ⟨(h:Int), -1⟩).Ag.Second)] 98
abbrev qt5j_8:=bk n141 #[i6 ((Af false 415 ⟨(h:Int), -1⟩).e),i6 ((Af false 415 ⟨(h:Int), -1⟩).Ag.First),i6 ((Af false 415 ⟨(h:Int), -1⟩).Ag.Second),i6 ((Af true 416 ⟨(h:Int), -1⟩).e),i6 ((Af true 416 ⟨(h:Int), -1⟩).Ag.First),i6 ((Af true 416 ⟨(h:Int), -1⟩).Ag.Second),i6 ((Af (win ((BG c (h:Int):Nat):Int) 1 (Az y8)) 417 ⟨(h:Int), -1⟩).e),i6 ((Af (win ((BG c (h:Int):Nat):Int) 1 (Az y8)) 417 ⟨(h:Int), -1⟩).Ag.First),i6 ((Af (win ((BG c (h:Int):Nat):Int) 1 (Az y8)) 417 ⟨(h:Int), -1⟩).Ag.Second)] 98
abbrev qt5j_9:=bk n251 #[i6 ((Af false 415 ⟨(h:Int), -1⟩).e),i6 ((Af false 415 ⟨(h:Int), -1⟩).Ag.First),i6 ((Af false 415 ⟨(h:Int), -1⟩).Ag.Second),i6 ((Af true 416 ⟨(h:Int), -1⟩).e),i6 ((Af true 416 ⟨(h:Int), -1⟩).Ag.First),i6 ((Af true 416 ⟨(h:Int), -1⟩).Ag.Second),i6 ((Af (win ((BG c (h:Int):Nat):Int) 1 (Az y8)) 417 ⟨(h:Int), -1⟩).e),i6 ((Af (win ((BG c (h:Int):Nat):Int) 1 (Az y8)) 417 ⟨(h:Int), -1⟩).Ag.First),i6 ((Af (win ((BG c (h:Int):Nat):Int) 1 (Az y8)) 417 ⟨(h:Int), -1⟩).Ag.Second)] 98
abbrev qt5j_10:=bk n297 #[i6 ((Af false 415 ⟨(h:Int), -1⟩).e),i6 ((Af false 415 ⟨(h:Int), -1⟩).Ag.First),i6 ((Af false 415 ⟨(h:Int), -1⟩).Ag.Second),i6 ((Af true 416 ⟨(h:Int), -1⟩).e),i6 ((Af true 416 ⟨(h:Int), -1⟩).Ag.First),i6 ((Af true 416 ⟨(h:Int), -1⟩).Ag.Second),i6 ((Af (win ((BG c (h:Int):Nat):Int) 1 (Az y8)) 417 ⟨(h:Int), -1⟩).e),i6 ((Af (win ((BG c (h:Int):Nat):Int) 1 (Az y8)) 417 ⟨(h:Int), -1⟩).Ag.First),i6 ((Af (win ((BG c (h:Int):Nat):Int) 1 (Az y8)) 417 ⟨(h:Int), -1⟩).Ag.Second)] 98
abbrev qt5j_11:=bk n95 #[i6 ((Af false 415 ⟨(h:Int), -1⟩).e),i6 ((Af false 415 ⟨(h:Int), -1⟩).Ag.First),i6 ((Af false 415 ⟨(h:Int), -1⟩).Ag.Second),i6 ((Af true 416 ⟨(h:Int), -1⟩).e),i6 ((Af true 416 ⟨(h:Int), -1⟩).Ag.First),i6 ((Af true 416 ⟨(h:Int), -1⟩).Ag.Second),i6 ((Af (win ((BG c (h:Int):Nat):Int) 1 (Az y8)) 417 ⟨(h:Int), -1⟩).e),i6 ((Af (win ((BG c (h:Int):Nat):Int) 1 (Az y8)) 417 ⟨(h:Int), -1⟩).Ag.First),i6 ((Af (win ((BG c (h:Int):Nat):Int) 1 (Az y8)) 417 ⟨(h:Int), -1⟩).Ag.Second)] 98
abbrev qt5j_12:Ch:= .blk (z+1) (.cells (Am.arr (Bl [(Af (Ez y8) 415 ⟨(h:Int), -1⟩),(Af false 416 ⟨(h:Int), -1⟩),(Af (win ((BG c (h:Int):Nat):Int) 1 (Az y8)) 417 ⟨(h:Int), -1⟩)])) 98 (0,0)) true
abbrev qt5j_13:Ch:= .blk (z+1) (.cells (Am.arr (Bl [(Af (Ez y8) 415 ⟨(h:Int), -1⟩),(Af true 416 ⟨(h:Int), -1⟩),(Af (win ((BG c (h:Int):Nat):Int) 1 (Az y8)) 417 ⟨(h:Int), -1⟩)])) 98 (0,0)) true
abbrev Xk:Ch:= .blk (z+1) (.cells (Am.arr (Bl [(Af false 415 ⟨(h:Int), -1⟩),(Af false 416 ⟨(h:Int), -1⟩),(Af (win ((BG c (h:Int):Nat):Int) 1 (Az y8)) 417 ⟨(h:Int), -1⟩)])) 98 (0,0)) true
abbrev X4:Ch:= .blk (z+1) (.cells (Am.arr (Bl [(Af false 415 ⟨(h:Int), -1⟩),(Af true 416 ⟨(h:Int), -1⟩),(Af (win ((BG c (h:Int):Nat):Int) 1 (Az y8)) 417 ⟨(h:Int), -1⟩)])) 98 (0,0)) true
abbrev H6:=bk (z+1) #[i6 0,i6 0,i6 0] 98
abbrev Fb:=bk (z+2) (AQ.arr y8) 49
abbrev EZ:=bk z (Ai.arr c) 27
abbrev GX:Dv:=(51,.bool (win ((BG c (h:Int):Nat):Int) 1 (Az y8)))
abbrev H7:Dv:=(43,.agg (Am.arr (Af (Ez y8) 415 ⟨(h:Int), -1⟩)))
abbrev Jb:Dv:=(48,.agg (Am.arr (Af false 416 ⟨(h:Int), -1⟩)))
abbrev Eg:Dv:=(43,.agg (Am.arr (Af false 415 ⟨(h:Int), -1⟩)))
abbrev IZ:Dv:=(48,.agg (Am.arr (Af true 416 ⟨(h:Int), -1⟩)))
abbrev Tc:Dv:=(42,.agg #[(Aa h),i6 (-1)])
abbrev L6:Dv:=(47,.agg #[(Aa h),i6 (-1)])
abbrev L8:Dv:=(53,.agg #[(Aa h),i6 (-1)])
abbrev Ls:=(49,i6 ((BG c (h:Int):Nat):Int))
abbrev Gy:=(8,i6 ((Ko c (h:Int):Nat):Int))
abbrev DN:=(9,i6 ((BG c (h:Int):Nat):Int))
abbrev Bc:=(4,pt (z+1))
abbrev Gt:=(5,pt (z+2))
end
theorem Sm(w:World)(hL:Gf w)(c:Ai)(hc:Ai.ok Any w c)(h:Nat)(hh:h<c.Aj.xs.length)(hm:c.Ac.xs.length≤1024)(hq:∀ p,p<c.Ac.xs.length→(gd c.Ac.xs p).Aq.xs.length≤1024):Calls Tryz.prog 80 #[.agg (Ai.arr c),.int .i64 (h:Int)] w fun e w'=>e = .returned (.agg (Am.arr (Em c h)))∧BH (fun _=>False) w w':=by
 obtain⟨z,hz⟩:∃ z,z=w.heap.size:=⟨_,rfl⟩
 refine BA (args:=[.agg (Ai.arr c),Aa h]) 57 ⟨w,z,[(Ak w)]⟩ Tryz.func80 rfl (by kernel_rfl) (by kernel_rfl) (En hz) ?_
 have hpl:=hc.Aj.1.len
 refine Cc [0,1] [(0,.agg (Ai.arr c)),(1,Aa h)] ?_
 refine q_c 5 0 [] [[o0,o0]] [] [(1,Aa h),(2,pt z),(Bc z)] ⟨w,z+2,[(Ak w),(EZ c z),(H6 z)]⟩ rfl Ae ?_
 obtain⟨b1,o2,ha3,hF5,hc4⟩:=(hc.Aj).1.all (show 0<c.Aj.xs.length by omega)
 replace ha3:c.Aj.a=some ⟨b1,o2,none⟩:=ha3
 have hc6:=hc4 h (show h<c.Aj.xs.length by omega)
 have he7:=(hc.Aj).2 h (show h<c.Aj.xs.length by omega)
 obtain⟨y8,hy8⟩:∃ y_,y_=gd c.Aj.xs h:=⟨_,rfl⟩
 rw[←hy8]at he7 hc6
 refine q_c 4 0 [] [[o0,(J3 1 b1 o2 c.Aj),o0,(oi h),(ol 0 (AQ.arr y8)),o0,(an 3 3)]] [Qb z,IJ b1 o2 c.Aj,Ea h,h<c.Aj.xs.length,Ec,Hu w b1 (o2+h*3) (AQ.arr y8),Qb (z+2),Qb (z+2),Qb (z+2)] [(1,Aa h),(2,pt z),(Bc z),(Gt z)] ⟨w,z+3,[(Ak w),(EZ c z),(H6 z),(Fb y8 z)]⟩ rfl ⟨rfl,IK ha3,rfl,(by omega),rfl,EE hc6,rfl,rfl,rfl,Ae⟩ ?_
 by_cases h9:(y8.Dj:Int)=0
 ·refine A8 3 0 [] [[o0,(a1 3),oT,o0,o0]] [Qb (z+2),ET y8.Dj 0] [(1,Aa h),(2,pt z),(Bc z),(Gt z),(6,.bool true),(7,i6 4)] rfl ⟨rfl,et,Ae⟩ ?_
  refine VQ (fun a w'=>∃ (n10:Nat),z+3≤n10∧St 57 [(1,Aa h),(2,pt z),(Bc z),(Gt z),(6,.bool (Ez y8)),(7,i6 (Az y8))] [] ⟨w,n10,[(Ak w),(EZ c z),(H6 z),(Fb y8 z)]⟩ a w') ?_ ?_
  ·refine Dl ?_
   by_cases h12:(y8.Kind:Int)=2
   ·refine A8 5 2 [1] [[o0,(a1 3),oT],[o0,(a1 3)]] [Qb (z+2),ET y8.Kind 2,Qb (z+2)] [(1,Aa h),(2,pt z),(Bc z),(Gt z),(22,i6 y8.Dj)] rfl ⟨rfl,et,rfl,Ae⟩ ?_
    refine BV 72 #[i6 y8.Dj,i6 1,i6 8] (some 23) (.bool (win y8.Dj 1 8)) (fun w13 hw13=>BQ w13 y8.Dj 1 8) (fun n14 (hn15:z+3≤n14) => ?_)
    refine Bv 1 0 [] [[o0,o0]] [] [(1,Aa h),(2,pt z),(Bc z),(Gt z),(6,.bool (win y8.Dj 1 8)),(7,i6 1)] rfl Ae ?_
    have e6:Ez y8=win y8.Dj 1 8:=(if_pos h12).trans (by first | rfl | exact decide_eq_true (by assumption) | exact decide_eq_false (by assumption))
    have e7:Az y8=1:=if_pos h12
    refine Cb [1,2,4,5,6,7] [(1,Aa h),(2,pt z),(Bc z),(Gt z),(6,.bool (win y8.Dj 1 8)),(7,i6 1)] ?_
    refine CS (fun a w' hs=>⟨n14,by omega,(by(try dsimp only[H6,Fb,EZ,Bc,Gt]at hs ⊢);rw[e6,e7];exact hs)⟩)
   refine A8 5 0 [0] [[o0,(a1 3),oF]] [Qb (z+2),EF y8.Kind 2] [(1,Aa h),(2,pt z),(Bc z),(Gt z),(6,.bool true),(7,i6 4),(20,.bool false)] rfl ⟨rfl,ef,Ae⟩ ?_
   have e6:Ez y8=true:=(if_neg h12).trans (by first | rfl | exact decide_eq_true (by assumption) | exact decide_eq_false (by assumption))
   have e7:Az y8=4:=if_neg h12
   refine Cb [1,2,4,5,6,7] [(1,Aa h),(2,pt z),(Bc z),(Gt z),(6,.bool true),(7,i6 4)] ?_
   refine CS (fun a w' hs=>⟨(z+3),by omega,(by(try dsimp only[H6,Fb,EZ,Bc,Gt]at hs ⊢);rw[e6,e7];exact hs)⟩)
  rintro a w' ⟨n10,hn11,hs⟩
  refine(?_:G Tryz.prog 57 [(1,Aa h),(2,pt z),(Bc z),(Gt z),(6,.bool (Ez y8)),(7,i6 (Az y8))] [] ⟨w,n10,[(Ak w),(EZ c z),(H6 z),(Fb y8 z)]⟩ _ _ _) a w' hs
  clear hs a w'
  refine A8 2 2 [] [[(an 7 1),o0]] [Qb z,Qb z,Qb z,Qb z,Qb z,Qb z,Qb z] [(1,Aa h),(Bc z),(Gt z),(6,.bool (Ez y8)),(7,i6 (Az y8)),(25,.agg (Ai.arr c)),(26,Aa h)] rfl ⟨rfl,rfl,rfl,rfl,rfl,rfl,rfl,Ae⟩ ?_
  refine BV 113 #[.agg (Ai.arr c),Aa h] (some 27) (.tuple #[i6 ((Ko c (h:Int):Nat):Int),i6 ((BG c (h:Int):Nat):Int)]) (fun w16 hw16=>Qo w16 c (hc.ext (hw16.ext rfl) (fun _ h=>h)) (h:Int) hm hq) (fun n17 (hn18:n10≤n17) => ?_)
  refine Bv 4 2 [] [[o0,o0,o0,o0,o0],[o0,(a1 3)]] [Qb (z+2)] [(1,Aa h),(Bc z),(Gt z),(6,.bool (Ez y8)),(7,i6 (Az y8)),(Gy h c),(DN h c),(31,i6 y8.Kind)] rfl ⟨rfl,Ae⟩ ?_
  refine BV 72 #[i6 y8.Kind,i6 1,i6 2] (some 32) (.bool (win y8.Kind 1 2)) (fun w19 hw19=>BQ w19 y8.Kind 1 2) (fun n20 (hn21:n17≤n20) => ?_)
  refine CZ [1,4,5,6,7,8,9,32] [(1,Aa h),(Bc z),(Gt z),(6,.bool (Ez y8)),(7,i6 (Az y8)),(Gy h c),(DN h c),(32,.bool (win y8.Kind 1 2))] ?_
  by_cases h22:(win y8.Kind 1 2)=true
  ·have hd23:=Iz h22
   refine Bv 0 3 [] [[(ov (.bool true)),o0,(a1 3)]] [Value.bool (win y8.Kind 1 2)=Value.bool true,Qb (z+2)] [(1,Aa h),(Bc z),(6,.bool (Ez y8)),(7,i6 (Az y8)),(Gy h c),(DN h c),(33,.bool true),(35,i6 y8.Words)] rfl ⟨(congrArg Value.bool h22),rfl,Ae⟩ ?_
   refine BV 72 #[i6 y8.Words,i6 1,i6 16] (some 36) (.bool (win y8.Words 1 16)) (fun w24 hw24=>BQ w24 y8.Words 1 16) (fun n25 (hn26:n20≤n25) => ?_)
   refine CZ [1,4,6,7,8,9,33,36] [(1,Aa h),(Bc z),(6,.bool (Ez y8)),(7,i6 (Az y8)),(Gy h c),(DN h c),(33,.bool true),(36,.bool (win y8.Words 1 16))] ?_
   by_cases h27:(win y8.Words 1 16)=true
   ·have hd28:=Iz h27
    refine Bv 0 5 [] [[o0,(ov (.bool true)),o0,o0,o0]] [Value.bool (win y8.Words 1 16)=Value.bool true] [(1,Aa h),(Bc z),(7,i6 (Az y8)),(Gy h c),(DN h c),(40,.bool (Ez y8)),(41,Aa h)] rfl ⟨(congrArg Value.bool h27),Ae⟩ ?_
    refine BV 110 #[(Aa h)] (some 42) (.agg #[(Aa h),i6 (-1)]) (fun w29 hw29=>Df w29 (h:Int)) (fun n30 (hn31:n25≤n30) => ?_)
    refine CZ [1,4,7,8,9,40,42] [(1,Aa h),(Bc z),(7,i6 (Az y8)),(Gy h c),(DN h c),(40,.bool (Ez y8)),(Tc h)] ?_
    refine BV 71 #[.bool (Ez y8),i6 415,.agg #[(Aa h),i6 (-1)]] (some 43) (.agg (Am.arr (Af (Ez y8) 415 ⟨(h:Int), -1⟩))) (fun w32 hw32=>Bg w32 (hL.ext (hw32.ext rfl)) (Ez y8) 415 (h:Int) (-1)) (fun n33 (hn34:n30≤n33) => ?_)
    refine CZ [1,4,7,8,9,43] [(1,Aa h),(Bc z),(7,i6 (Az y8)),(Gy h c),(DN h c),(H7 y8 h)] ?_
    by_cases h35:(((Ko c (h:Int):Nat):Int):Int)=1
    ·refine Bv 0 3 [] [[o0,oT,o0]] [ET ((Ko c (h:Int):Nat):Int) 1] [(1,Aa h),(Bc z),(7,i6 (Az y8)),(DN h c),(H7 y8 h),(45,.bool true),(46,Aa h)] rfl ⟨et,Ae⟩ ?_
     refine BV 110 #[(Aa h)] (some 47) (.agg #[(Aa h),i6 (-1)]) (fun w36 hw36=>Df w36 (h:Int)) (fun n37 (hn38:n33≤n37) => ?_)
     refine CZ [1,4,7,9,43,45,47] [(1,Aa h),(Bc z),(7,i6 (Az y8)),(DN h c),(H7 y8 h),(45,.bool true),(L6 h)] ?_
     refine BV 71 #[.bool true,i6 416,.agg #[(Aa h),i6 (-1)]] (some 48) (.agg (Am.arr (Af true 416 ⟨(h:Int), -1⟩))) (fun w39 hw39=>Bg w39 (hL.ext (hw39.ext rfl)) true 416 (h:Int) (-1)) (fun n40 (hn41:n37≤n40) => ?_)
     refine Bv 0 2 [] [[o0,o0]] [] [(1,Aa h),(Bc z),(H7 y8 h),(IZ h),(Ls h c),(50,i6 (Az y8))] rfl Ae ?_
     refine BV 72 #[i6 ((BG c (h:Int):Nat):Int),i6 1,i6 (Az y8)] (some 51) (.bool (win ((BG c (h:Int):Nat):Int) 1 (Az y8))) (fun w42 hw42=>BQ w42 ((BG c (h:Int):Nat):Int) 1 (Az y8)) (fun n43 (hn44:n40≤n43) => ?_)
     refine Bv 0 1 [] [[o0]] [] [(Bc z),(H7 y8 h),(IZ h),(GX y8 h c),(52,Aa h)] rfl Ae ?_
     refine BV 110 #[(Aa h)] (some 53) (.agg #[(Aa h),i6 (-1)]) (fun w45 hw45=>Df w45 (h:Int)) (fun n46 (hn47:n43≤n46) => ?_)
     refine CZ [4,43,48,51,53] [(Bc z),(H7 y8 h),(IZ h),(GX y8 h c),(L8 h)] ?_
     refine BV 71 #[.bool (win ((BG c (h:Int):Nat):Int) 1 (Az y8)),i6 417,.agg #[(Aa h),i6 (-1)]] (some 54) (.agg (Am.arr (Af (win ((BG c (h:Int):Nat):Int) 1 (Az y8)) 417 ⟨(h:Int), -1⟩))) (fun w48 hw48=>Bg w48 (hL.ext (hw48.ext rfl)) (win ((BG c (h:Int):Nat):Int) 1 (Az y8)) 417 (h:Int) (-1)) (fun n49 (hn50:n46≤n49) => ?_)
     refine EG 0 1 [] [[o0]] [] [(Bc z),(55,.slice (some ⟨n49,0,none⟩) 3 3)] ⟨w,n49+1,[(Ak w),(EZ c z),(H6 z),(Fb y8 z),(qt5j_3 y8 h c n49)]⟩ rfl Ae ?_
     refine BV 108 #[.slice (some ⟨n49,0,none⟩) 3 3] (some 56) (.agg (Am.arr (Bl [(Af (Ez y8) 415 ⟨(h:Int), -1⟩),(Af true 416 ⟨(h:Int), -1⟩),(Af (win ((BG c (h:Int):Nat):Int) 1 (Az y8)) 417 ⟨(h:Int), -1⟩)]))) (fun w51 hw51=>Dp w51 (hL.ext (hw51.ext rfl)) ⟨some ⟨n49,0,none⟩,3,[(Af (Ez y8) 415 ⟨(h:Int), -1⟩),(Af true 416 ⟨(h:Int), -1⟩),(Af (win ((BG c (h:Int):Nat):Int) 1 (Az y8)) 417 ⟨(h:Int), -1⟩)]⟩ (Ef hw51 (i:=4) [(Af (Ez y8) 415 ⟨(h:Int), -1⟩),(Af true 416 ⟨(h:Int), -1⟩),(Af (win ((BG c (h:Int):Nat):Int) 1 (Az y8)) 417 ⟨(h:Int), -1⟩)]) (show 3≤1000 by decide)) (fun n52 (hn53:n49+1≤n52) => ?_)
     refine EG 3 0 [] [[(an 3 2)]] [Qb (z+1),Qb (z+1),Qb (z+1)] [(Bc z)] ⟨w,n52,[(Ak w),(EZ c z),(qt5j_13 y8 h c z),(Fb y8 z),(qt5j_3 y8 h c n49)]⟩ rfl ⟨rfl,rfl,rfl,Ae⟩ ?_
     refine AP [.at 2,.at 2,.at 2] [Qb (z+1),Qb (z+1),Qb (z+1)] (.agg #[i6 ((Bl [(Af (Ez y8) 415 ⟨(h:Int), -1⟩),(Af true 416 ⟨(h:Int), -1⟩),(Af (win ((BG c (h:Int):Nat):Int) 1 (Az y8)) 417 ⟨(h:Int), -1⟩)]).e),i6 ((Bl [(Af (Ez y8) 415 ⟨(h:Int), -1⟩),(Af true 416 ⟨(h:Int), -1⟩),(Af (win ((BG c (h:Int):Nat):Int) 1 (Az y8)) 417 ⟨(h:Int), -1⟩)]).Ag.First),i6 ((Bl [(Af (Ez y8) 415 ⟨(h:Int), -1⟩),(Af true 416 ⟨(h:Int), -1⟩),(Af (win ((BG c (h:Int):Nat):Int) 1 (Az y8)) 417 ⟨(h:Int), -1⟩)]).Ag.Second)]) ⟨rfl,rfl,rfl,Ae⟩ ?_
     intro w54 hw54
     have e0:OJ c h=y8:=hy8.symm
     have eC:Em c h=(Bl [(Af (Ez y8) 415 ⟨(h:Int), -1⟩),(Af true 416 ⟨(h:Int), -1⟩),(Af (win ((BG c (h:Int):Nat):Int) 1 (Az y8)) 417 ⟨(h:Int), -1⟩)]):=by unfold Em;simp only[e0];simp[h22,h27,h35]
     exact⟨congrArg (fun t=>Ending.returned (Value.agg (Am.arr t))) eC.symm,Au hw54⟩
    refine Bv 0 3 [] [[o0,oF,o0]] [EF ((Ko c (h:Int):Nat):Int) 1] [(1,Aa h),(Bc z),(7,i6 (Az y8)),(DN h c),(H7 y8 h),(45,.bool false),(46,Aa h)] rfl ⟨ef,Ae⟩ ?_
    refine BV 110 #[(Aa h)] (some 47) (.agg #[(Aa h),i6 (-1)]) (fun w55 hw55=>Df w55 (h:Int)) (fun n56 (hn57:n33≤n56) => ?_)
    refine CZ [1,4,7,9,43,45,47] [(1,Aa h),(Bc z),(7,i6 (Az y8)),(DN h c),(H7 y8 h),(45,.bool false),(L6 h)] ?_
    refine BV 71 #[.bool false,i6 416,.agg #[(Aa h),i6 (-1)]] (some 48) (.agg (Am.arr (Af false 416 ⟨(h:Int), -1⟩))) (fun w58 hw58=>Bg w58 (hL.ext (hw58.ext rfl)) false 416 (h:Int) (-1)) (fun n59 (hn60:n56≤n59) => ?_)
    refine Bv 0 2 [] [[o0,o0]] [] [(1,Aa h),(Bc z),(H7 y8 h),(Jb h),(Ls h c),(50,i6 (Az y8))] rfl Ae ?_
    refine BV 72 #[i6 ((BG c (h:Int):Nat):Int),i6 1,i6 (Az y8)] (some 51) (.bool (win ((BG c (h:Int):Nat):Int) 1 (Az y8))) (fun w61 hw61=>BQ w61 ((BG c (h:Int):Nat):Int) 1 (Az y8)) (fun n62 (hn63:n59≤n62) => ?_)
    refine Bv 0 1 [] [[o0]] [] [(Bc z),(H7 y8 h),(Jb h),(GX y8 h c),(52,Aa h)] rfl Ae ?_
    refine BV 110 #[(Aa h)] (some 53) (.agg #[(Aa h),i6 (-1)]) (fun w64 hw64=>Df w64 (h:Int)) (fun n65 (hn66:n62≤n65) => ?_)
    refine CZ [4,43,48,51,53] [(Bc z),(H7 y8 h),(Jb h),(GX y8 h c),(L8 h)] ?_
    refine BV 71 #[.bool (win ((BG c (h:Int):Nat):Int) 1 (Az y8)),i6 417,.agg #[(Aa h),i6 (-1)]] (some 54) (.agg (Am.arr (Af (win ((BG c (h:Int):Nat):Int) 1 (Az y8)) 417 ⟨(h:Int), -1⟩))) (fun w67 hw67=>Bg w67 (hL.ext (hw67.ext rfl)) (win ((BG c (h:Int):Nat):Int) 1 (Az y8)) 417 (h:Int) (-1)) (fun n68 (hn69:n65≤n68) => ?_)
    refine EG 0 1 [] [[o0]] [] [(Bc z),(55,.slice (some ⟨n68,0,none⟩) 3 3)] ⟨w,n68+1,[(Ak w),(EZ c z),(H6 z),(Fb y8 z),(qt5j_1 y8 h c n68)]⟩ rfl Ae ?_
    refine BV 108 #[.slice (some ⟨n68,0,none⟩) 3 3] (some 56) (.agg (Am.arr (Bl [(Af (Ez y8) 415 ⟨(h:Int), -1⟩),(Af false 416 ⟨(h:Int), -1⟩),(Af (win ((BG c (h:Int):Nat):Int) 1 (Az y8)) 417 ⟨(h:Int), -1⟩)]))) (fun w70 hw70=>Dp w70 (hL.ext (hw70.ext rfl)) ⟨some ⟨n68,0,none⟩,3,[(Af (Ez y8) 415 ⟨(h:Int), -1⟩),(Af false 416 ⟨(h:Int), -1⟩),(Af (win ((BG c (h:Int):Nat):Int) 1 (Az y8)) 417 ⟨(h:Int), -1⟩)]⟩ (Ef hw70 (i:=4) [(Af (Ez y8) 415 ⟨(h:Int), -1⟩),(Af false 416 ⟨(h:Int), -1⟩),(Af (win ((BG c (h:Int):Nat):Int) 1 (Az y8)) 417 ⟨(h:Int), -1⟩)]) (show 3≤1000 by decide)) (fun n71 (hn72:n68+1≤n71) => ?_)
    refine EG 3 0 [] [[(an 3 2)]] [Qb (z+1),Qb (z+1),Qb (z+1)] [(Bc z)] ⟨w,n71,[(Ak w),(EZ c z),(qt5j_12 y8 h c z),(Fb y8 z),(qt5j_1 y8 h c n68)]⟩ rfl ⟨rfl,rfl,rfl,Ae⟩ ?_
    refine AP [.at 2,.at 2,.at 2] [Qb (z+1),Qb (z+1),Qb (z+1)] (.agg #[i6 ((Bl [(Af (Ez y8) 415 ⟨(h:Int), -1⟩),(Af false 416 ⟨(h:Int), -1⟩),(Af (win ((BG c (h:Int):Nat):Int) 1 (Az y8)) 417 ⟨(h:Int), -1⟩)]).e),i6 ((Bl [(Af (Ez y8) 415 ⟨(h:Int), -1⟩),(Af false 416 ⟨(h:Int), -1⟩),(Af (win ((BG c (h:Int):Nat):Int) 1 (Az y8)) 417 ⟨(h:Int), -1⟩)]).Ag.First),i6 ((Bl [(Af (Ez y8) 415 ⟨(h:Int), -1⟩),(Af false 416 ⟨(h:Int), -1⟩),(Af (win ((BG c (h:Int):Nat):Int) 1 (Az y8)) 417 ⟨(h:Int), -1⟩)]).Ag.Second)]) ⟨rfl,rfl,rfl,Ae⟩ ?_
    intro w73 hw73
    have e0:OJ c h=y8:=hy8.symm
    have eC:Em c h=(Bl [(Af (Ez y8) 415 ⟨(h:Int), -1⟩),(Af false 416 ⟨(h:Int), -1⟩),(Af (win ((BG c (h:Int):Nat):Int) 1 (Az y8)) 417 ⟨(h:Int), -1⟩)]):=by unfold Em;simp only[e0];simp[h22,h27,h35]
    exact⟨congrArg (fun t=>Ending.returned (Value.agg (Am.arr t))) eC.symm,Au hw73⟩
   have hd74:=KL h27
   refine Bv 0 5 [] [[o0,(ov (.bool false)),o0,o0]] [Value.bool (win y8.Words 1 16)=Value.bool false] [(1,Aa h),(Bc z),(7,i6 (Az y8)),(Gy h c),(DN h c),(40,.bool false),(41,Aa h)] rfl ⟨(congrArg Value.bool (Bool.eq_false_iff.2 h27)),Ae⟩ ?_
   refine BV 110 #[(Aa h)] (some 42) (.agg #[(Aa h),i6 (-1)]) (fun w75 hw75=>Df w75 (h:Int)) (fun n76 (hn77:n25≤n76) => ?_)
   refine CZ [1,4,7,8,9,40,42] [(1,Aa h),(Bc z),(7,i6 (Az y8)),(Gy h c),(DN h c),(40,.bool false),(Tc h)] ?_
   refine BV 71 #[.bool false,i6 415,.agg #[(Aa h),i6 (-1)]] (some 43) (.agg (Am.arr (Af false 415 ⟨(h:Int), -1⟩))) (fun w78 hw78=>Bg w78 (hL.ext (hw78.ext rfl)) false 415 (h:Int) (-1)) (fun n79 (hn80:n76≤n79) => ?_)
   refine CZ [1,4,7,8,9,43] [(1,Aa h),(Bc z),(7,i6 (Az y8)),(Gy h c),(DN h c),(Eg h)] ?_
   by_cases h81:(((Ko c (h:Int):Nat):Int):Int)=1
   ·refine Bv 0 3 [] [[o0,oT,o0]] [ET ((Ko c (h:Int):Nat):Int) 1] [(1,Aa h),(Bc z),(7,i6 (Az y8)),(DN h c),(Eg h),(45,.bool true),(46,Aa h)] rfl ⟨et,Ae⟩ ?_
    refine BV 110 #[(Aa h)] (some 47) (.agg #[(Aa h),i6 (-1)]) (fun w82 hw82=>Df w82 (h:Int)) (fun n83 (hn84:n79≤n83) => ?_)
    refine CZ [1,4,7,9,43,45,47] [(1,Aa h),(Bc z),(7,i6 (Az y8)),(DN h c),(Eg h),(45,.bool true),(L6 h)] ?_
    refine BV 71 #[.bool true,i6 416,.agg #[(Aa h),i6 (-1)]] (some 48) (.agg (Am.arr (Af true 416 ⟨(h:Int), -1⟩))) (fun w85 hw85=>Bg w85 (hL.ext (hw85.ext rfl)) true 416 (h:Int) (-1)) (fun n86 (hn87:n83≤n86) => ?_)
    refine Bv 0 2 [] [[o0,o0]] [] [(1,Aa h),(Bc z),(Eg h),(IZ h),(Ls h c),(50,i6 (Az y8))] rfl Ae ?_
    refine BV 72 #[i6 ((BG c (h:Int):Nat):Int),i6 1,i6 (Az y8)] (some 51) (.bool (win ((BG c (h:Int):Nat):Int) 1 (Az y8))) (fun w88 hw88=>BQ w88 ((BG c (h:Int):Nat):Int) 1 (Az y8)) (fun n89 (hn90:n86≤n89) => ?_)
    refine Bv 0 1 [] [[o0]] [] [(Bc z),(Eg h),(IZ h),(GX y8 h c),(52,Aa h)] rfl Ae ?_
    refine BV 110 #[(Aa h)] (some 53) (.agg #[(Aa h),i6 (-1)]) (fun w91 hw91=>Df w91 (h:Int)) (fun n92 (hn93:n89≤n92) => ?_)
    refine CZ [4,43,48,51,53] [(Bc z),(Eg h),(IZ h),(GX y8 h c),(L8 h)] ?_
    refine BV 71 #[.bool (win ((BG c (h:Int):Nat):Int) 1 (Az y8)),i6 417,.agg #[(Aa h),i6 (-1)]] (some 54) (.agg (Am.arr (Af (win ((BG c (h:Int):Nat):Int) 1 (Az y8)) 417 ⟨(h:Int), -1⟩))) (fun w94 hw94=>Bg w94 (hL.ext (hw94.ext rfl)) (win ((BG c (h:Int):Nat):Int) 1 (Az y8)) 417 (h:Int) (-1)) (fun n95 (hn96:n92≤n95) => ?_)
    refine EG 0 1 [] [[o0]] [] [(Bc z),(55,.slice (some ⟨n95,0,none⟩) 3 3)] ⟨w,n95+1,[(Ak w),(EZ c z),(H6 z),(Fb y8 z),(qt5j_11 y8 h c n95)]⟩ rfl Ae ?_
    refine BV 108 #[.slice (some ⟨n95,0,none⟩) 3 3] (some 56) (.agg (Am.arr (Bl [(Af false 415 ⟨(h:Int), -1⟩),(Af true 416 ⟨(h:Int), -1⟩),(Af (win ((BG c (h:Int):Nat):Int) 1 (Az y8)) 417 ⟨(h:Int), -1⟩)]))) (fun w97 hw97=>Dp w97 (hL.ext (hw97.ext rfl)) ⟨some ⟨n95,0,none⟩,3,[(Af false 415 ⟨(h:Int), -1⟩),(Af true 416 ⟨(h:Int), -1⟩),(Af (win ((BG c (h:Int):Nat):Int) 1 (Az y8)) 417 ⟨(h:Int), -1⟩)]⟩ (Ef hw97 (i:=4) [(Af false 415 ⟨(h:Int), -1⟩),(Af true 416 ⟨(h:Int), -1⟩),(Af (win ((BG c (h:Int):Nat):Int) 1 (Az y8)) 417 ⟨(h:Int), -1⟩)]) (show 3≤1000 by decide)) (fun n98 (hn99:n95+1≤n98) => ?_)
    refine EG 3 0 [] [[(an 3 2)]] [Qb (z+1),Qb (z+1),Qb (z+1)] [(Bc z)] ⟨w,n98,[(Ak w),(EZ c z),(X4 y8 h c z),(Fb y8 z),(qt5j_11 y8 h c n95)]⟩ rfl ⟨rfl,rfl,rfl,Ae⟩ ?_
    refine AP [.at 2,.at 2,.at 2] [Qb (z+1),Qb (z+1),Qb (z+1)] (.agg #[i6 ((Bl [(Af false 415 ⟨(h:Int), -1⟩),(Af true 416 ⟨(h:Int), -1⟩),(Af (win ((BG c (h:Int):Nat):Int) 1 (Az y8)) 417 ⟨(h:Int), -1⟩)]).e),i6 ((Bl [(Af false 415 ⟨(h:Int), -1⟩),(Af true 416 ⟨(h:Int), -1⟩),(Af (win ((BG c (h:Int):Nat):Int) 1 (Az y8)) 417 ⟨(h:Int), -1⟩)]).Ag.First),i6 ((Bl [(Af false 415 ⟨(h:Int), -1⟩),(Af true 416 ⟨(h:Int), -1⟩),(Af (win ((BG c (h:Int):Nat):Int) 1 (Az y8)) 417 ⟨(h:Int), -1⟩)]).Ag.Second)]) ⟨rfl,rfl,rfl,Ae⟩ ?_
    intro w100 hw100
    have e0:OJ c h=y8:=hy8.symm
    have eC:Em c h=(Bl [(Af false 415 ⟨(h:Int), -1⟩),(Af true 416 ⟨(h:Int), -1⟩),(Af (win ((BG c (h:Int):Nat):Int) 1 (Az y8)) 417 ⟨(h:Int), -1⟩)]):=by unfold Em;simp only[e0];simp[h22,h27,h81]
    exact⟨congrArg (fun t=>Ending.returned (Value.agg (Am.arr t))) eC.symm,Au hw100⟩
   refine Bv 0 3 [] [[o0,oF,o0]] [EF ((Ko c (h:Int):Nat):Int) 1] [(1,Aa h),(Bc z),(7,i6 (Az y8)),(DN h c),(Eg h),(45,.bool false),(46,Aa h)] rfl ⟨ef,Ae⟩ ?_
   refine BV 110 #[(Aa h)] (some 47) (.agg #[(Aa h),i6 (-1)]) (fun w101 hw101=>Df w101 (h:Int)) (fun n102 (hn103:n79≤n102) => ?_)
   refine CZ [1,4,7,9,43,45,47] [(1,Aa h),(Bc z),(7,i6 (Az y8)),(DN h c),(Eg h),(45,.bool false),(L6 h)] ?_
   refine BV 71 #[.bool false,i6 416,.agg #[(Aa h),i6 (-1)]] (some 48) (.agg (Am.arr (Af false 416 ⟨(h:Int), -1⟩))) (fun w104 hw104=>Bg w104 (hL.ext (hw104.ext rfl)) false 416 (h:Int) (-1)) (fun n105 (hn106:n102≤n105) => ?_)
   refine Bv 0 2 [] [[o0,o0]] [] [(1,Aa h),(Bc z),(Eg h),(Jb h),(Ls h c),(50,i6 (Az y8))] rfl Ae ?_
   refine BV 72 #[i6 ((BG c (h:Int):Nat):Int),i6 1,i6 (Az y8)] (some 51) (.bool (win ((BG c (h:Int):Nat):Int) 1 (Az y8))) (fun w107 hw107=>BQ w107 ((BG c (h:Int):Nat):Int) 1 (Az y8)) (fun n108 (hn109:n105≤n108) => ?_)
   refine Bv 0 1 [] [[o0]] [] [(Bc z),(Eg h),(Jb h),(GX y8 h c),(52,Aa h)] rfl Ae ?_
   refine BV 110 #[(Aa h)] (some 53) (.agg #[(Aa h),i6 (-1)]) (fun w110 hw110=>Df w110 (h:Int)) (fun n111 (hn112:n108≤n111) => ?_)
   refine CZ [4,43,48,51,53] [(Bc z),(Eg h),(Jb h),(GX y8 h c),(L8 h)] ?_
   refine BV 71 #[.bool (win ((BG c (h:Int):Nat):Int) 1 (Az y8)),i6 417,.agg #[(Aa h),i6 (-1)]] (some 54) (.agg (Am.arr (Af (win ((BG c (h:Int):Nat):Int) 1 (Az y8)) 417 ⟨(h:Int), -1⟩))) (fun w113 hw113=>Bg w113 (hL.ext (hw113.ext rfl)) (win ((BG c (h:Int):Nat):Int) 1 (Az y8)) 417 (h:Int) (-1)) (fun n114 (hn115:n111≤n114) => ?_)
   refine EG 0 1 [] [[o0]] [] [(Bc z),(55,.slice (some ⟨n114,0,none⟩) 3 3)] ⟨w,n114+1,[(Ak w),(EZ c z),(H6 z),(Fb y8 z),(qt5j_4 y8 h c n114)]⟩ rfl Ae ?_
   refine BV 108 #[.slice (some ⟨n114,0,none⟩) 3 3] (some 56) (.agg (Am.arr (Bl [(Af false 415 ⟨(h:Int), -1⟩),(Af false 416 ⟨(h:Int), -1⟩),(Af (win ((BG c (h:Int):Nat):Int) 1 (Az y8)) 417 ⟨(h:Int), -1⟩)]))) (fun w116 hw116=>Dp w116 (hL.ext (hw116.ext rfl)) ⟨some ⟨n114,0,none⟩,3,[(Af false 415 ⟨(h:Int), -1⟩),(Af false 416 ⟨(h:Int), -1⟩),(Af (win ((BG c (h:Int):Nat):Int) 1 (Az y8)) 417 ⟨(h:Int), -1⟩)]⟩ (Ef hw116 (i:=4) [(Af false 415 ⟨(h:Int), -1⟩),(Af false 416 ⟨(h:Int), -1⟩),(Af (win ((BG c (h:Int):Nat):Int) 1 (Az y8)) 417 ⟨(h:Int), -1⟩)]) (show 3≤1000 by decide)) (fun n117 (hn118:n114+1≤n117) => ?_)
   refine EG 3 0 [] [[(an 3 2)]] [Qb (z+1),Qb (z+1),Qb (z+1)] [(Bc z)] ⟨w,n117,[(Ak w),(EZ c z),(Xk y8 h c z),(Fb y8 z),(qt5j_4 y8 h c n114)]⟩ rfl ⟨rfl,rfl,rfl,Ae⟩ ?_
   refine AP [.at 2,.at 2,.at 2] [Qb (z+1),Qb (z+1),Qb (z+1)] (.agg #[i6 ((Bl [(Af false 415 ⟨(h:Int), -1⟩),(Af false 416 ⟨(h:Int), -1⟩),(Af (win ((BG c (h:Int):Nat):Int) 1 (Az y8)) 417 ⟨(h:Int), -1⟩)]).e),i6 ((Bl [(Af false 415 ⟨(h:Int), -1⟩),(Af false 416 ⟨(h:Int), -1⟩),(Af (win ((BG c (h:Int):Nat):Int) 1 (Az y8)) 417 ⟨(h:Int), -1⟩)]).Ag.First),i6 ((Bl [(Af false 415 ⟨(h:Int), -1⟩),(Af false 416 ⟨(h:Int), -1⟩),(Af (win ((BG c (h:Int):Nat):Int) 1 (Az y8)) 417 ⟨(h:Int), -1⟩)]).Ag.Second)]) ⟨rfl,rfl,rfl,Ae⟩ ?_
   intro w119 hw119
   have e0:OJ c h=y8:=hy8.symm
   have eC:Em c h=(Bl [(Af false 415 ⟨(h:Int), -1⟩),(Af false 416 ⟨(h:Int), -1⟩),(Af (win ((BG c (h:Int):Nat):Int) 1 (Az y8)) 417 ⟨(h:Int), -1⟩)]):=by unfold Em;simp only[e0];simp[h22,h27,h81]
   exact⟨congrArg (fun t=>Ending.returned (Value.agg (Am.arr t))) eC.symm,Au hw119⟩
  have hd120:=KL h22
  refine Bv 0 9 [] [[(ov (.bool false)),o0,o0,o0,o0]] [Value.bool (win y8.Kind 1 2)=Value.bool false] [(1,Aa h),(Bc z),(7,i6 (Az y8)),(Gy h c),(DN h c),(40,.bool false),(41,Aa h)] rfl ⟨(congrArg Value.bool (Bool.eq_false_iff.2 h22)),Ae⟩ ?_
  refine BV 110 #[(Aa h)] (some 42) (.agg #[(Aa h),i6 (-1)]) (fun w121 hw121=>Df w121 (h:Int)) (fun n122 (hn123:n20≤n122) => ?_)
  refine CZ [1,4,7,8,9,40,42] [(1,Aa h),(Bc z),(7,i6 (Az y8)),(Gy h c),(DN h c),(40,.bool false),(Tc h)] ?_
  refine BV 71 #[.bool false,i6 415,.agg #[(Aa h),i6 (-1)]] (some 43) (.agg (Am.arr (Af false 415 ⟨(h:Int), -1⟩))) (fun w124 hw124=>Bg w124 (hL.ext (hw124.ext rfl)) false 415 (h:Int) (-1)) (fun n125 (hn126:n122≤n125) => ?_)
  refine CZ [1,4,7,8,9,43] [(1,Aa h),(Bc z),(7,i6 (Az y8)),(Gy h c),(DN h c),(Eg h)] ?_
  by_cases h127:(((Ko c (h:Int):Nat):Int):Int)=1
  ·refine Bv 0 3 [] [[o0,oT,o0]] [ET ((Ko c (h:Int):Nat):Int) 1] [(1,Aa h),(Bc z),(7,i6 (Az y8)),(DN h c),(Eg h),(45,.bool true),(46,Aa h)] rfl ⟨et,Ae⟩ ?_
   refine BV 110 #[(Aa h)] (some 47) (.agg #[(Aa h),i6 (-1)]) (fun w128 hw128=>Df w128 (h:Int)) (fun n129 (hn130:n125≤n129) => ?_)
   refine CZ [1,4,7,9,43,45,47] [(1,Aa h),(Bc z),(7,i6 (Az y8)),(DN h c),(Eg h),(45,.bool true),(L6 h)] ?_
   refine BV 71 #[.bool true,i6 416,.agg #[(Aa h),i6 (-1)]] (some 48) (.agg (Am.arr (Af true 416 ⟨(h:Int), -1⟩))) (fun w131 hw131=>Bg w131 (hL.ext (hw131.ext rfl)) true 416 (h:Int) (-1)) (fun n132 (hn133:n129≤n132) => ?_)
   refine Bv 0 2 [] [[o0,o0]] [] [(1,Aa h),(Bc z),(Eg h),(IZ h),(Ls h c),(50,i6 (Az y8))] rfl Ae ?_
   refine BV 72 #[i6 ((BG c (h:Int):Nat):Int),i6 1,i6 (Az y8)] (some 51) (.bool (win ((BG c (h:Int):Nat):Int) 1 (Az y8))) (fun w134 hw134=>BQ w134 ((BG c (h:Int):Nat):Int) 1 (Az y8)) (fun n135 (hn136:n132≤n135) => ?_)
   refine Bv 0 1 [] [[o0]] [] [(Bc z),(Eg h),(IZ h),(GX y8 h c),(52,Aa h)] rfl Ae ?_
   refine BV 110 #[(Aa h)] (some 53) (.agg #[(Aa h),i6 (-1)]) (fun w137 hw137=>Df w137 (h:Int)) (fun n138 (hn139:n135≤n138) => ?_)
   refine CZ [4,43,48,51,53] [(Bc z),(Eg h),(IZ h),(GX y8 h c),(L8 h)] ?_
   refine BV 71 #[.bool (win ((BG c (h:Int):Nat):Int) 1 (Az y8)),i6 417,.agg #[(Aa h),i6 (-1)]] (some 54) (.agg (Am.arr (Af (win ((BG c (h:Int):Nat):Int) 1 (Az y8)) 417 ⟨(h:Int), -1⟩))) (fun w140 hw140=>Bg w140 (hL.ext (hw140.ext rfl)) (win ((BG c (h:Int):Nat):Int) 1 (Az y8)) 417 (h:Int) (-1)) (fun n141 (hn142:n138≤n141) => ?_)
   refine EG 0 1 [] [[o0]] [] [(Bc z),(55,.slice (some ⟨n141,0,none⟩) 3 3)] ⟨w,n141+1,[(Ak w),(EZ c z),(H6 z),(Fb y8 z),(qt5j_8 y8 h c n141)]⟩ rfl Ae ?_
   refine BV 108 #[.slice (some ⟨n141,0,none⟩) 3 3] (some 56) (.agg (Am.arr (Bl [(Af false 415 ⟨(h:Int), -1⟩),(Af true 416 ⟨(h:Int), -1⟩),(Af (win ((BG c (h:Int):Nat):Int) 1 (Az y8)) 417 ⟨(h:Int), -1⟩)]))) (fun w143 hw143=>Dp w143 (hL.ext (hw143.ext rfl)) ⟨some ⟨n141,0,none⟩,3,[(Af false 415 ⟨(h:Int), -1⟩),(Af true 416 ⟨(h:Int), -1⟩),(Af (win ((BG c (h:Int):Nat):Int) 1 (Az y8)) 417 ⟨(h:Int), -1⟩)]⟩ (Ef hw143 (i:=4) [(Af false 415 ⟨(h:Int), -1⟩),(Af true 416 ⟨(h:Int), -1⟩),(Af (win ((BG c (h:Int):Nat):Int) 1 (Az y8)) 417 ⟨(h:Int), -1⟩)]) (show 3≤1000 by decide)) (fun n144 (hn145:n141+1≤n144) => ?_)
   refine EG 3 0 [] [[(an 3 2)]] [Qb (z+1),Qb (z+1),Qb (z+1)] [(Bc z)] ⟨w,n144,[(Ak w),(EZ c z),(X4 y8 h c z),(Fb y8 z),(qt5j_8 y8 h c n141)]⟩ rfl ⟨rfl,rfl,rfl,Ae⟩ ?_
   refine AP [.at 2,.at 2,.at 2] [Qb (z+1),Qb (z+1),Qb (z+1)] (.agg #[i6 ((Bl [(Af false 415 ⟨(h:Int), -1⟩),(Af true 416 ⟨(h:Int), -1⟩),(Af (win ((BG c (h:Int):Nat):Int) 1 (Az y8)) 417 ⟨(h:Int), -1⟩)]).e),i6 ((Bl [(Af false 415 ⟨(h:Int), -1⟩),(Af true 416 ⟨(h:Int), -1⟩),(Af (win ((BG c (h:Int):Nat):Int) 1 (Az y8)) 417 ⟨(h:Int), -1⟩)]).Ag.First),i6 ((Bl [(Af false 415 ⟨(h:Int), -1⟩),(Af true 416 ⟨(h:Int), -1⟩),(Af (win ((BG c (h:Int):Nat):Int) 1 (Az y8)) 417 ⟨(h:Int), -1⟩)]).Ag.Second)]) ⟨rfl,rfl,rfl,Ae⟩ ?_
   intro w146 hw146
   have e0:OJ c h=y8:=hy8.symm
   have eC:Em c h=(Bl [(Af false 415 ⟨(h:Int), -1⟩),(Af true 416 ⟨(h:Int), -1⟩),(Af (win ((BG c (h:Int):Nat):Int) 1 (Az y8)) 417 ⟨(h:Int), -1⟩)]):=by unfold Em;simp only[e0];simp[h22,h127]
   exact⟨congrArg (fun t=>Ending.returned (Value.agg (Am.arr t))) eC.symm,Au hw146⟩
  refine Bv 0 3 [] [[o0,oF,o0]] [EF ((Ko c (h:Int):Nat):Int) 1] [(1,Aa h),(Bc z),(7,i6 (Az y8)),(DN h c),(Eg h),(45,.bool false),(46,Aa h)] rfl ⟨ef,Ae⟩ ?_
  refine BV 110 #[(Aa h)] (some 47) (.agg #[(Aa h),i6 (-1)]) (fun w147 hw147=>Df w147 (h:Int)) (fun n148 (hn149:n125≤n148) => ?_)
  refine CZ [1,4,7,9,43,45,47] [(1,Aa h),(Bc z),(7,i6 (Az y8)),(DN h c),(Eg h),(45,.bool false),(L6 h)] ?_
  refine BV 71 #[.bool false,i6 416,.agg #[(Aa h),i6 (-1)]] (some 48) (.agg (Am.arr (Af false 416 ⟨(h:Int), -1⟩))) (fun w150 hw150=>Bg w150 (hL.ext (hw150.ext rfl)) false 416 (h:Int) (-1)) (fun n151 (hn152:n148≤n151) => ?_)
  refine Bv 0 2 [] [[o0,o0]] [] [(1,Aa h),(Bc z),(Eg h),(Jb h),(Ls h c),(50,i6 (Az y8))] rfl Ae ?_
  refine BV 72 #[i6 ((BG c (h:Int):Nat):Int),i6 1,i6 (Az y8)] (some 51) (.bool (win ((BG c (h:Int):Nat):Int) 1 (Az y8))) (fun w153 hw153=>BQ w153 ((BG c (h:Int):Nat):Int) 1 (Az y8)) (fun n154 (hn155:n151≤n154) => ?_)
  refine Bv 0 1 [] [[o0]] [] [(Bc z),(Eg h),(Jb h),(GX y8 h c),(52,Aa h)] rfl Ae ?_
  refine BV 110 #[(Aa h)] (some 53) (.agg #[(Aa h),i6 (-1)]) (fun w156 hw156=>Df w156 (h:Int)) (fun n157 (hn158:n154≤n157) => ?_)
  refine CZ [4,43,48,51,53] [(Bc z),(Eg h),(Jb h),(GX y8 h c),(L8 h)] ?_
  refine BV 71 #[.bool (win ((BG c (h:Int):Nat):Int) 1 (Az y8)),i6 417,.agg #[(Aa h),i6 (-1)]] (some 54) (.agg (Am.arr (Af (win ((BG c (h:Int):Nat):Int) 1 (Az y8)) 417 ⟨(h:Int), -1⟩))) (fun w159 hw159=>Bg w159 (hL.ext (hw159.ext rfl)) (win ((BG c (h:Int):Nat):Int) 1 (Az y8)) 417 (h:Int) (-1)) (fun n160 (hn161:n157≤n160) => ?_)
  refine EG 0 1 [] [[o0]] [] [(Bc z),(55,.slice (some ⟨n160,0,none⟩) 3 3)] ⟨w,n160+1,[(Ak w),(EZ c z),(H6 z),(Fb y8 z),(qt5j_5 y8 h c n160)]⟩ rfl Ae ?_
  refine BV 108 #[.slice (some ⟨n160,0,none⟩) 3 3] (some 56) (.agg (Am.arr (Bl [(Af false 415 ⟨(h:Int), -1⟩),(Af false 416 ⟨(h:Int), -1⟩),(Af (win ((BG c (h:Int):Nat):Int) 1 (Az y8)) 417 ⟨(h:Int), -1⟩)]))) (fun w162 hw162=>Dp w162 (hL.ext (hw162.ext rfl)) ⟨some ⟨n160,0,none⟩,3,[(Af false 415 ⟨(h:Int), -1⟩),(Af false 416 ⟨(h:Int), -1⟩),(Af (win ((BG c (h:Int):Nat):Int) 1 (Az y8)) 417 ⟨(h:Int), -1⟩)]⟩ (Ef hw162 (i:=4) [(Af false 415 ⟨(h:Int), -1⟩),(Af false 416 ⟨(h:Int), -1⟩),(Af (win ((BG c (h:Int):Nat):Int) 1 (Az y8)) 417 ⟨(h:Int), -1⟩)]) (show 3≤1000 by decide)) (fun n163 (hn164:n160+1≤n163) => ?_)
  refine EG 3 0 [] [[(an 3 2)]] [Qb (z+1),Qb (z+1),Qb (z+1)] [(Bc z)] ⟨w,n163,[(Ak w),(EZ c z),(Xk y8 h c z),(Fb y8 z),(qt5j_5 y8 h c n160)]⟩ rfl ⟨rfl,rfl,rfl,Ae⟩ ?_
  refine AP [.at 2,.at 2,.at 2] [Qb (z+1),Qb (z+1),Qb (z+1)] (.agg #[i6 ((Bl [(Af false 415 ⟨(h:Int), -1⟩),(Af false 416 ⟨(h:Int), -1⟩),(Af (win ((BG c (h:Int):Nat):Int) 1 (Az y8)) 417 ⟨(h:Int), -1⟩)]).e),i6 ((Bl [(Af false 415 ⟨(h:Int), -1⟩),(Af false 416 ⟨(h:Int), -1⟩),(Af (win ((BG c (h:Int):Nat):Int) 1 (Az y8)) 417 ⟨(h:Int), -1⟩)]).Ag.First),i6 ((Bl [(Af false 415 ⟨(h:Int), -1⟩),(Af false 416 ⟨(h:Int), -1⟩),(Af (win ((BG c (h:Int):Nat):Int) 1 (Az y8)) 417 ⟨(h:Int), -1⟩)]).Ag.Second)]) ⟨rfl,rfl,rfl,Ae⟩ ?_
  intro w165 hw165
  have e0:OJ c h=y8:=hy8.symm
  have eC:Em c h=(Bl [(Af false 415 ⟨(h:Int), -1⟩),(Af false 416 ⟨(h:Int), -1⟩),(Af (win ((BG c (h:Int):Nat):Int) 1 (Az y8)) 417 ⟨(h:Int), -1⟩)]):=by unfold Em;simp only[e0];simp[h22,h127]
  exact⟨congrArg (fun t=>Ending.returned (Value.agg (Am.arr t))) eC.symm,Au hw165⟩
 refine A8 3 0 [] [[o0,(a1 3),oF,o0,o0]] [Qb (z+2),EF y8.Dj 0] [(1,Aa h),(2,pt z),(Bc z),(Gt z),(6,.bool false),(7,i6 4)] rfl ⟨rfl,ef,Ae⟩ ?_
 refine VQ (fun a w'=>∃ (n166:Nat),z+3≤n166∧St 57 [(1,Aa h),(2,pt z),(Bc z),(Gt z),(6,.bool (Ez y8)),(7,i6 (Az y8))] [] ⟨w,n166,[(Ak w),(EZ c z),(H6 z),(Fb y8 z)]⟩ a w') ?_ ?_
 ·refine Dl ?_
  by_cases h168:(y8.Kind:Int)=2
  ·refine A8 5 2 [1] [[o0,(a1 3),oT],[o0,(a1 3)]] [Qb (z+2),ET y8.Kind 2,Qb (z+2)] [(1,Aa h),(2,pt z),(Bc z),(Gt z),(22,i6 y8.Dj)] rfl ⟨rfl,et,rfl,Ae⟩ ?_
   refine BV 72 #[i6 y8.Dj,i6 1,i6 8] (some 23) (.bool (win y8.Dj 1 8)) (fun w169 hw169=>BQ w169 y8.Dj 1 8) (fun n170 (hn171:z+3≤n170) => ?_)
   refine Bv 1 0 [] [[o0,o0]] [] [(1,Aa h),(2,pt z),(Bc z),(Gt z),(6,.bool (win y8.Dj 1 8)),(7,i6 1)] rfl Ae ?_
   have e6:Ez y8=win y8.Dj 1 8:=(if_pos h168).trans (by first | rfl | exact decide_eq_true (by assumption) | exact decide_eq_false (by assumption))
   have e7:Az y8=1:=if_pos h168
   refine Cb [1,2,4,5,6,7] [(1,Aa h),(2,pt z),(Bc z),(Gt z),(6,.bool (win y8.Dj 1 8)),(7,i6 1)] ?_
   refine CS (fun a w' hs=>⟨n170,by omega,(by(try dsimp only[H6,Fb,EZ,Bc,Gt]at hs ⊢);rw[e6,e7];exact hs)⟩)
  refine A8 5 0 [0] [[o0,(a1 3),oF]] [Qb (z+2),EF y8.Kind 2] [(1,Aa h),(2,pt z),(Bc z),(Gt z),(6,.bool false),(7,i6 4),(20,.bool false)] rfl ⟨rfl,ef,Ae⟩ ?_
  have e6:Ez y8=false:=(if_neg h168).trans (by first | rfl | exact decide_eq_true (by assumption) | exact decide_eq_false (by assumption))
  have e7:Az y8=4:=if_neg h168
  refine Cb [1,2,4,5,6,7] [(1,Aa h),(2,pt z),(Bc z),(Gt z),(6,.bool false),(7,i6 4)] ?_
  refine CS (fun a w' hs=>⟨(z+3),by omega,(by(try dsimp only[H6,Fb,EZ,Bc,Gt]at hs ⊢);rw[e6,e7];exact hs)⟩)
 rintro a w' ⟨n166,hn167,hs⟩
 refine(?_:G Tryz.prog 57 [(1,Aa h),(2,pt z),(Bc z),(Gt z),(6,.bool (Ez y8)),(7,i6 (Az y8))] [] ⟨w,n166,[(Ak w),(EZ c z),(H6 z),(Fb y8 z)]⟩ _ _ _) a w' hs
 clear hs a w'
 refine A8 2 2 [] [[(an 7 1),o0]] [Qb z,Qb z,Qb z,Qb z,Qb z,Qb z,Qb z] [(1,Aa h),(Bc z),(Gt z),(6,.bool (Ez y8)),(7,i6 (Az y8)),(25,.agg (Ai.arr c)),(26,Aa h)] rfl ⟨rfl,rfl,rfl,rfl,rfl,rfl,rfl,Ae⟩ ?_
 refine BV 113 #[.agg (Ai.arr c),Aa h] (some 27) (.tuple #[i6 ((Ko c (h:Int):Nat):Int),i6 ((BG c (h:Int):Nat):Int)]) (fun w172 hw172=>Qo w172 c (hc.ext (hw172.ext rfl) (fun _ h=>h)) (h:Int) hm hq) (fun n173 (hn174:n166≤n173) => ?_)
 refine Bv 4 2 [] [[o0,o0,o0,o0,o0],[o0,(a1 3)]] [Qb (z+2)] [(1,Aa h),(Bc z),(Gt z),(6,.bool (Ez y8)),(7,i6 (Az y8)),(Gy h c),(DN h c),(31,i6 y8.Kind)] rfl ⟨rfl,Ae⟩ ?_
 refine BV 72 #[i6 y8.Kind,i6 1,i6 2] (some 32) (.bool (win y8.Kind 1 2)) (fun w175 hw175=>BQ w175 y8.Kind 1 2) (fun n176 (hn177:n173≤n176) => ?_)
 refine CZ [1,4,5,6,7,8,9,32] [(1,Aa h),(Bc z),(Gt z),(6,.bool (Ez y8)),(7,i6 (Az y8)),(Gy h c),(DN h c),(32,.bool (win y8.Kind 1 2))] ?_
 by_cases h178:(win y8.Kind 1 2)=true
 ·have hd179:=Iz h178
  refine Bv 0 3 [] [[(ov (.bool true)),o0,(a1 3)]] [Value.bool (win y8.Kind 1 2)=Value.bool true,Qb (z+2)] [(1,Aa h),(Bc z),(6,.bool (Ez y8)),(7,i6 (Az y8)),(Gy h c),(DN h c),(33,.bool true),(35,i6 y8.Words)] rfl ⟨(congrArg Value.bool h178),rfl,Ae⟩ ?_
  refine BV 72 #[i6 y8.Words,i6 1,i6 16] (some 36) (.bool (win y8.Words 1 16)) (fun w180 hw180=>BQ w180 y8.Words 1 16) (fun n181 (hn182:n176≤n181) => ?_)
  refine CZ [1,4,6,7,8,9,33,36] [(1,Aa h),(Bc z),(6,.bool (Ez y8)),(7,i6 (Az y8)),(Gy h c),(DN h c),(33,.bool true),(36,.bool (win y8.Words 1 16))] ?_
  by_cases h183:(win y8.Words 1 16)=true
  ·have hd184:=Iz h183
   refine Bv 0 5 [] [[o0,(ov (.bool true)),o0,o0,o0]] [Value.bool (win y8.Words 1 16)=Value.bool true] [(1,Aa h),(Bc z),(7,i6 (Az y8)),(Gy h c),(DN h c),(40,.bool (Ez y8)),(41,Aa h)] rfl ⟨(congrArg Value.bool h183),Ae⟩ ?_
   refine BV 110 #[(Aa h)] (some 42) (.agg #[(Aa h),i6 (-1)]) (fun w185 hw185=>Df w185 (h:Int)) (fun n186 (hn187:n181≤n186) => ?_)
   refine CZ [1,4,7,8,9,40,42] [(1,Aa h),(Bc z),(7,i6 (Az y8)),(Gy h c),(DN h c),(40,.bool (Ez y8)),(Tc h)] ?_
   refine BV 71 #[.bool (Ez y8),i6 415,.agg #[(Aa h),i6 (-1)]] (some 43) (.agg (Am.arr (Af (Ez y8) 415 ⟨(h:Int), -1⟩))) (fun w188 hw188=>Bg w188 (hL.ext (hw188.ext rfl)) (Ez y8) 415 (h:Int) (-1)) (fun n189 (hn190:n186≤n189) => ?_)
   refine CZ [1,4,7,8,9,43] [(1,Aa h),(Bc z),(7,i6 (Az y8)),(Gy h c),(DN h c),(H7 y8 h)] ?_
   by_cases h191:(((Ko c (h:Int):Nat):Int):Int)=1
   ·refine Bv 0 3 [] [[o0,oT,o0]] [ET ((Ko c (h:Int):Nat):Int) 1] [(1,Aa h),(Bc z),(7,i6 (Az y8)),(DN h c),(H7 y8 h),(45,.bool true),(46,Aa h)] rfl ⟨et,Ae⟩ ?_
    refine BV 110 #[(Aa h)] (some 47) (.agg #[(Aa h),i6 (-1)]) (fun w192 hw192=>Df w192 (h:Int)) (fun n193 (hn194:n189≤n193) => ?_)
    refine CZ [1,4,7,9,43,45,47] [(1,Aa h),(Bc z),(7,i6 (Az y8)),(DN h c),(H7 y8 h),(45,.bool true),(L6 h)] ?_
    refine BV 71 #[.bool true,i6 416,.agg #[(Aa h),i6 (-1)]] (some 48) (.agg (Am.arr (Af true 416 ⟨(h:Int), -1⟩))) (fun w195 hw195=>Bg w195 (hL.ext (hw195.ext rfl)) true 416 (h:Int) (-1)) (fun n196 (hn197:n193≤n196) => ?_)
    refine Bv 0 2 [] [[o0,o0]] [] [(1,Aa h),(Bc z),(H7 y8 h),(IZ h),(Ls h c),(50,i6 (Az y8))] rfl Ae ?_
    refine BV 72 #[i6 ((BG c (h:Int):Nat):Int),i6 1,i6 (Az y8)] (some 51) (.bool (win ((BG c (h:Int):Nat):Int) 1 (Az y8))) (fun w198 hw198=>BQ w198 ((BG c (h:Int):Nat):Int) 1 (Az y8)) (fun n199 (hn200:n196≤n199) => ?_)
    refine Bv 0 1 [] [[o0]] [] [(Bc z),(H7 y8 h),(IZ h),(GX y8 h c),(52,Aa h)] rfl Ae ?_
    refine BV 110 #[(Aa h)] (some 53) (.agg #[(Aa h),i6 (-1)]) (fun w201 hw201=>Df w201 (h:Int)) (fun n202 (hn203:n199≤n202) => ?_)
    refine CZ [4,43,48,51,53] [(Bc z),(H7 y8 h),(IZ h),(GX y8 h c),(L8 h)] ?_
    refine BV 71 #[.bool (win ((BG c (h:Int):Nat):Int) 1 (Az y8)),i6 417,.agg #[(Aa h),i6 (-1)]] (some 54) (.agg (Am.arr (Af (win ((BG c (h:Int):Nat):Int) 1 (Az y8)) 417 ⟨(h:Int), -1⟩))) (fun w204 hw204=>Bg w204 (hL.ext (hw204.ext rfl)) (win ((BG c (h:Int):Nat):Int) 1 (Az y8)) 417 (h:Int) (-1)) (fun n205 (hn206:n202≤n205) => ?_)
    refine EG 0 1 [] [[o0]] [] [(Bc z),(55,.slice (some ⟨n205,0,none⟩) 3 3)] ⟨w,n205+1,[(Ak w),(EZ c z),(H6 z),(Fb y8 z),(qt5j_2 y8 h c n205)]⟩ rfl Ae ?_
    refine BV 108 #[.slice (some ⟨n205,0,none⟩) 3 3] (some 56) (.agg (Am.arr (Bl [(Af (Ez y8) 415 ⟨(h:Int), -1⟩),(Af true 416 ⟨(h:Int), -1⟩),(Af (win ((BG c (h:Int):Nat):Int) 1 (Az y8)) 417 ⟨(h:Int), -1⟩)]))) (fun w207 hw207=>Dp w207 (hL.ext (hw207.ext rfl)) ⟨some ⟨n205,0,none⟩,3,[(Af (Ez y8) 415 ⟨(h:Int), -1⟩),(Af true 416 ⟨(h:Int), -1⟩),(Af (win ((BG c (h:Int):Nat):Int) 1 (Az y8)) 417 ⟨(h:Int), -1⟩)]⟩ (Ef hw207 (i:=4) [(Af (Ez y8) 415 ⟨(h:Int), -1⟩),(Af true 416 ⟨(h:Int), -1⟩),(Af (win ((BG c (h:Int):Nat):Int) 1 (Az y8)) 417 ⟨(h:Int), -1⟩)]) (show 3≤1000 by decide)) (fun n208 (hn209:n205+1≤n208) => ?_)
    refine EG 3 0 [] [[(an 3 2)]] [Qb (z+1),Qb (z+1),Qb (z+1)] [(Bc z)] ⟨w,n208,[(Ak w),(EZ c z),(qt5j_13 y8 h c z),(Fb y8 z),(qt5j_2 y8 h c n205)]⟩ rfl ⟨rfl,rfl,rfl,Ae⟩ ?_
    refine AP [.at 2,.at 2,.at 2] [Qb (z+1),Qb (z+1),Qb (z+1)] (.agg #[i6 ((Bl [(Af (Ez y8) 415 ⟨(h:Int), -1⟩),(Af true 416 ⟨(h:Int), -1⟩),(Af (win ((BG c (h:Int):Nat):Int) 1 (Az y8)) 417 ⟨(h:Int), -1⟩)]).e),i6 ((Bl [(Af (Ez y8) 415 ⟨(h:Int), -1⟩),(Af true 416 ⟨(h:Int), -1⟩),(Af (win ((BG c (h:Int):Nat):Int) 1 (Az y8)) 417 ⟨(h:Int), -1⟩)]).Ag.First),i6 ((Bl [(Af (Ez y8) 415 ⟨(h:Int), -1⟩),(Af true 416 ⟨(h:Int), -1⟩),(Af (win ((BG c (h:Int):Nat):Int) 1 (Az y8)) 417 ⟨(h:Int), -1⟩)]).Ag.Second)]) ⟨rfl,rfl,rfl,Ae⟩ ?_
    intro w210 hw210
    have e0:OJ c h=y8:=hy8.symm
    have eC:Em c h=(Bl [(Af (Ez y8) 415 ⟨(h:Int), -1⟩),(Af true 416 ⟨(h:Int), -1⟩),(Af (win ((BG c (h:Int):Nat):Int) 1 (Az y8)) 417 ⟨(h:Int), -1⟩)]):=by unfold Em;simp only[e0];simp[h178,h183,h191]
    exact⟨congrArg (fun t=>Ending.returned (Value.agg (Am.arr t))) eC.symm,Au hw210⟩
   refine Bv 0 3 [] [[o0,oF,o0]] [EF ((Ko c (h:Int):Nat):Int) 1] [(1,Aa h),(Bc z),(7,i6 (Az y8)),(DN h c),(H7 y8 h),(45,.bool false),(46,Aa h)] rfl ⟨ef,Ae⟩ ?_
   refine BV 110 #[(Aa h)] (some 47) (.agg #[(Aa h),i6 (-1)]) (fun w211 hw211=>Df w211 (h:Int)) (fun n212 (hn213:n189≤n212) => ?_)
   refine CZ [1,4,7,9,43,45,47] [(1,Aa h),(Bc z),(7,i6 (Az y8)),(DN h c),(H7 y8 h),(45,.bool false),(L6 h)] ?_
   refine BV 71 #[.bool false,i6 416,.agg #[(Aa h),i6 (-1)]] (some 48) (.agg (Am.arr (Af false 416 ⟨(h:Int), -1⟩))) (fun w214 hw214=>Bg w214 (hL.ext (hw214.ext rfl)) false 416 (h:Int) (-1)) (fun n215 (hn216:n212≤n215) => ?_)
   refine Bv 0 2 [] [[o0,o0]] [] [(1,Aa h),(Bc z),(H7 y8 h),(Jb h),(Ls h c),(50,i6 (Az y8))] rfl Ae ?_
   refine BV 72 #[i6 ((BG c (h:Int):Nat):Int),i6 1,i6 (Az y8)] (some 51) (.bool (win ((BG c (h:Int):Nat):Int) 1 (Az y8))) (fun w217 hw217=>BQ w217 ((BG c (h:Int):Nat):Int) 1 (Az y8)) (fun n218 (hn219:n215≤n218) => ?_)
   refine Bv 0 1 [] [[o0]] [] [(Bc z),(H7 y8 h),(Jb h),(GX y8 h c),(52,Aa h)] rfl Ae ?_
   refine BV 110 #[(Aa h)] (some 53) (.agg #[(Aa h),i6 (-1)]) (fun w220 hw220=>Df w220 (h:Int)) (fun n221 (hn222:n218≤n221) => ?_)
   refine CZ [4,43,48,51,53] [(Bc z),(H7 y8 h),(Jb h),(GX y8 h c),(L8 h)] ?_
   refine BV 71 #[.bool (win ((BG c (h:Int):Nat):Int) 1 (Az y8)),i6 417,.agg #[(Aa h),i6 (-1)]] (some 54) (.agg (Am.arr (Af (win ((BG c (h:Int):Nat):Int) 1 (Az y8)) 417 ⟨(h:Int), -1⟩))) (fun w223 hw223=>Bg w223 (hL.ext (hw223.ext rfl)) (win ((BG c (h:Int):Nat):Int) 1 (Az y8)) 417 (h:Int) (-1)) (fun n224 (hn225:n221≤n224) => ?_)
   refine EG 0 1 [] [[o0]] [] [(Bc z),(55,.slice (some ⟨n224,0,none⟩) 3 3)] ⟨w,n224+1,[(Ak w),(EZ c z),(H6 z),(Fb y8 z),(qt5j_0 n224 y8 h c)]⟩ rfl Ae ?_
   refine BV 108 #[.slice (some ⟨n224,0,none⟩) 3 3] (some 56) (.agg (Am.arr (Bl [(Af (Ez y8) 415 ⟨(h:Int), -1⟩),(Af false 416 ⟨(h:Int), -1⟩),(Af (win ((BG c (h:Int):Nat):Int) 1 (Az y8)) 417 ⟨(h:Int), -1⟩)]))) (fun w226 hw226=>Dp w226 (hL.ext (hw226.ext rfl)) ⟨some ⟨n224,0,none⟩,3,[(Af (Ez y8) 415 ⟨(h:Int), -1⟩),(Af false 416 ⟨(h:Int), -1⟩),(Af (win ((BG c (h:Int):Nat):Int) 1 (Az y8)) 417 ⟨(h:Int), -1⟩)]⟩ (Ef hw226 (i:=4) [(Af (Ez y8) 415 ⟨(h:Int), -1⟩),(Af false 416 ⟨(h:Int), -1⟩),(Af (win ((BG c (h:Int):Nat):Int) 1 (Az y8)) 417 ⟨(h:Int), -1⟩)]) (show 3≤1000 by decide)) (fun n227 (hn228:n224+1≤n227) => ?_)
   refine EG 3 0 [] [[(an 3 2)]] [Qb (z+1),Qb (z+1),Qb (z+1)] [(Bc z)] ⟨w,n227,[(Ak w),(EZ c z),(qt5j_12 y8 h c z),(Fb y8 z),(qt5j_0 n224 y8 h c)]⟩ rfl ⟨rfl,rfl,rfl,Ae⟩ ?_
   refine AP [.at 2,.at 2,.at 2] [Qb (z+1),Qb (z+1),Qb (z+1)] (.agg #[i6 ((Bl [(Af (Ez y8) 415 ⟨(h:Int), -1⟩),(Af false 416 ⟨(h:Int), -1⟩),(Af (win ((BG c (h:Int):Nat):Int) 1 (Az y8)) 417 ⟨(h:Int), -1⟩)]).e),i6 ((Bl [(Af (Ez y8) 415 ⟨(h:Int), -1⟩),(Af false 416 ⟨(h:Int), -1⟩),(Af (win ((BG c (h:Int):Nat):Int) 1 (Az y8)) 417 ⟨(h:Int), -1⟩)]).Ag.First),i6 ((Bl [(Af (Ez y8) 415 ⟨(h:Int), -1⟩),(Af false 416 ⟨(h:Int), -1⟩),(Af (win ((BG c (h:Int):Nat):Int) 1 (Az y8)) 417 ⟨(h:Int), -1⟩)]).Ag.Second)]) ⟨rfl,rfl,rfl,Ae⟩ ?_
   intro w229 hw229
   have e0:OJ c h=y8:=hy8.symm
   have eC:Em c h=(Bl [(Af (Ez y8) 415 ⟨(h:Int), -1⟩),(Af false 416 ⟨(h:Int), -1⟩),(Af (win ((BG c (h:Int):Nat):Int) 1 (Az y8)) 417 ⟨(h:Int), -1⟩)]):=by unfold Em;simp only[e0];simp[h178,h183,h191]
   exact⟨congrArg (fun t=>Ending.returned (Value.agg (Am.arr t))) eC.symm,Au hw229⟩
  have hd230:=KL h183
  refine Bv 0 5 [] [[o0,(ov (.bool false)),o0,o0]] [Value.bool (win y8.Words 1 16)=Value.bool false] [(1,Aa h),(Bc z),(7,i6 (Az y8)),(Gy h c),(DN h c),(40,.bool false),(41,Aa h)] rfl ⟨(congrArg Value.bool (Bool.eq_false_iff.2 h183)),Ae⟩ ?_
  refine BV 110 #[(Aa h)] (some 42) (.agg #[(Aa h),i6 (-1)]) (fun w231 hw231=>Df w231 (h:Int)) (fun n232 (hn233:n181≤n232) => ?_)
  refine CZ [1,4,7,8,9,40,42] [(1,Aa h),(Bc z),(7,i6 (Az y8)),(Gy h c),(DN h c),(40,.bool false),(Tc h)] ?_
  refine BV 71 #[.bool false,i6 415,.agg #[(Aa h),i6 (-1)]] (some 43) (.agg (Am.arr (Af false 415 ⟨(h:Int), -1⟩))) (fun w234 hw234=>Bg w234 (hL.ext (hw234.ext rfl)) false 415 (h:Int) (-1)) (fun n235 (hn236:n232≤n235) => ?_)
  refine CZ [1,4,7,8,9,43] [(1,Aa h),(Bc z),(7,i6 (Az y8)),(Gy h c),(DN h c),(Eg h)] ?_
  by_cases h237:(((Ko c (h:Int):Nat):Int):Int)=1
  ·refine Bv 0 3 [] [[o0,oT,o0]] [ET ((Ko c (h:Int):Nat):Int) 1] [(1,Aa h),(Bc z),(7,i6 (Az y8)),(DN h c),(Eg h),(45,.bool true),(46,Aa h)] rfl ⟨et,Ae⟩ ?_
   refine BV 110 #[(Aa h)] (some 47) (.agg #[(Aa h),i6 (-1)]) (fun w238 hw238=>Df w238 (h:Int)) (fun n239 (hn240:n235≤n239) => ?_)
   refine CZ [1,4,7,9,43,45,47] [(1,Aa h),(Bc z),(7,i6 (Az y8)),(DN h c),(Eg h),(45,.bool true),(L6 h)] ?_
   refine BV 71 #[.bool true,i6 416,.agg #[(Aa h),i6 (-1)]] (some 48) (.agg (Am.arr (Af true 416 ⟨(h:Int), -1⟩))) (fun w241 hw241=>Bg w241 (hL.ext (hw241.ext rfl)) true 416 (h:Int) (-1)) (fun n242 (hn243:n239≤n242) => ?_)
   refine Bv 0 2 [] [[o0,o0]] [] [(1,Aa h),(Bc z),(Eg h),(IZ h),(Ls h c),(50,i6 (Az y8))] rfl Ae ?_
   refine BV 72 #[i6 ((BG c (h:Int):Nat):Int),i6 1,i6 (Az y8)] (some 51) (.bool (win ((BG c (h:Int):Nat):Int) 1 (Az y8))) (fun w244 hw244=>BQ w244 ((BG c (h:Int):Nat):Int) 1 (Az y8)) (fun n245 (hn246:n242≤n245) => ?_)
   refine Bv 0 1 [] [[o0]] [] [(Bc z),(Eg h),(IZ h),(GX y8 h c),(52,Aa h)] rfl Ae ?_
   refine BV 110 #[(Aa h)] (some 53) (.agg #[(Aa h),i6 (-1)]) (fun w247 hw247=>Df w247 (h:Int)) (fun n248 (hn249:n245≤n248) => ?_)
   refine CZ [4,43,48,51,53] [(Bc z),(Eg h),(IZ h),(GX y8 h c),(L8 h)] ?_
   refine BV 71 #[.bool (win ((BG c (h:Int):Nat):Int) 1 (Az y8)),i6 417,.agg #[(Aa h),i6 (-1)]] (some 54) (.agg (Am.arr (Af (win ((BG c (h:Int):Nat):Int) 1 (Az y8)) 417 ⟨(h:Int), -1⟩))) (fun w250 hw250=>Bg w250 (hL.ext (hw250.ext rfl)) (win ((BG c (h:Int):Nat):Int) 1 (Az y8)) 417 (h:Int) (-1)) (fun n251 (hn252:n248≤n251) => ?_)
   refine EG 0 1 [] [[o0]] [] [(Bc z),(55,.slice (some ⟨n251,0,none⟩) 3 3)] ⟨w,n251+1,[(Ak w),(EZ c z),(H6 z),(Fb y8 z),(qt5j_9 y8 h c n251)]⟩ rfl Ae ?_
   refine BV 108 #[.slice (some ⟨n251,0,none⟩) 3 3] (some 56) (.agg (Am.arr (Bl [(Af false 415 ⟨(h:Int), -1⟩),(Af true 416 ⟨(h:Int), -1⟩),(Af (win ((BG c (h:Int):Nat):Int) 1 (Az y8)) 417 ⟨(h:Int), -1⟩)]))) (fun w253 hw253=>Dp w253 (hL.ext (hw253.ext rfl)) ⟨some ⟨n251,0,none⟩,3,[(Af false 415 ⟨(h:Int), -1⟩),(Af true 416 ⟨(h:Int), -1⟩),(Af (win ((BG c (h:Int):Nat):Int) 1 (Az y8)) 417 ⟨(h:Int), -1⟩)]⟩ (Ef hw253 (i:=4) [(Af false 415 ⟨(h:Int), -1⟩),(Af true 416 ⟨(h:Int), -1⟩),(Af (win ((BG c (h:Int):Nat):Int) 1 (Az y8)) 417 ⟨(h:Int), -1⟩)]) (show 3≤1000 by decide)) (fun n254 (hn255:n251+1≤n254) => ?_)
   refine EG 3 0 [] [[(an 3 2)]] [Qb (z+1),Qb (z+1),Qb (z+1)] [(Bc z)] ⟨w,n254,[(Ak w),(EZ c z),(X4 y8 h c z),(Fb y8 z),(qt5j_9 y8 h c n251)]⟩ rfl ⟨rfl,rfl,rfl,Ae⟩ ?_
   refine AP [.at 2,.at 2,.at 2] [Qb (z+1),Qb (z+1),Qb (z+1)] (.agg #[i6 ((Bl [(Af false 415 ⟨(h:Int), -1⟩),(Af true 416 ⟨(h:Int), -1⟩),(Af (win ((BG c (h:Int):Nat):Int) 1 (Az y8)) 417 ⟨(h:Int), -1⟩)]).e),i6 ((Bl [(Af false 415 ⟨(h:Int), -1⟩),(Af true 416 ⟨(h:Int), -1⟩),(Af (win ((BG c (h:Int):Nat):Int) 1 (Az y8)) 417 ⟨(h:Int), -1⟩)]).Ag.First),i6 ((Bl [(Af false 415 ⟨(h:Int), -1⟩),(Af true 416 ⟨(h:Int), -1⟩),(Af (win ((BG c (h:Int):Nat):Int) 1 (Az y8)) 417 ⟨(h:Int), -1⟩)]).Ag.Second)]) ⟨rfl,rfl,rfl,Ae⟩ ?_
   intro w256 hw256
   have e0:OJ c h=y8:=hy8.symm
   have eC:Em c h=(Bl [(Af false 415 ⟨(h:Int), -1⟩),(Af true 416 ⟨(h:Int), -1⟩),(Af (win ((BG c (h:Int):Nat):Int) 1 (Az y8)) 417 ⟨(h:Int), -1⟩)]):=by unfold Em;simp only[e0];simp[h178,h183,h237]
   exact⟨congrArg (fun t=>Ending.returned (Value.agg (Am.arr t))) eC.symm,Au hw256⟩
  refine Bv 0 3 [] [[o0,oF,o0]] [EF ((Ko c (h:Int):Nat):Int) 1] [(1,Aa h),(Bc z),(7,i6 (Az y8)),(DN h c),(Eg h),(45,.bool false),(46,Aa h)] rfl ⟨ef,Ae⟩ ?_
  refine BV 110 #[(Aa h)] (some 47) (.agg #[(Aa h),i6 (-1)]) (fun w257 hw257=>Df w257 (h:Int)) (fun n258 (hn259:n235≤n258) => ?_)
  refine CZ [1,4,7,9,43,45,47] [(1,Aa h),(Bc z),(7,i6 (Az y8)),(DN h c),(Eg h),(45,.bool false),(L6 h)] ?_
  refine BV 71 #[.bool false,i6 416,.agg #[(Aa h),i6 (-1)]] (some 48) (.agg (Am.arr (Af false 416 ⟨(h:Int), -1⟩))) (fun w260 hw260=>Bg w260 (hL.ext (hw260.ext rfl)) false 416 (h:Int) (-1)) (fun n261 (hn262:n258≤n261) => ?_)
  refine Bv 0 2 [] [[o0,o0]] [] [(1,Aa h),(Bc z),(Eg h),(Jb h),(Ls h c),(50,i6 (Az y8))] rfl Ae ?_
  refine BV 72 #[i6 ((BG c (h:Int):Nat):Int),i6 1,i6 (Az y8)] (some 51) (.bool (win ((BG c (h:Int):Nat):Int) 1 (Az y8))) (fun w263 hw263=>BQ w263 ((BG c (h:Int):Nat):Int) 1 (Az y8)) (fun n264 (hn265:n261≤n264) => ?_)
  refine Bv 0 1 [] [[o0]] [] [(Bc z),(Eg h),(Jb h),(GX y8 h c),(52,Aa h)] rfl Ae ?_
  refine BV 110 #[(Aa h)] (some 53) (.agg #[(Aa h),i6 (-1)]) (fun w266 hw266=>Df w266 (h:Int)) (fun n267 (hn268:n264≤n267) => ?_)
  refine CZ [4,43,48,51,53] [(Bc z),(Eg h),(Jb h),(GX y8 h c),(L8 h)] ?_
  refine BV 71 #[.bool (win ((BG c (h:Int):Nat):Int) 1 (Az y8)),i6 417,.agg #[(Aa h),i6 (-1)]] (some 54) (.agg (Am.arr (Af (win ((BG c (h:Int):Nat):Int) 1 (Az y8)) 417 ⟨(h:Int), -1⟩))) (fun w269 hw269=>Bg w269 (hL.ext (hw269.ext rfl)) (win ((BG c (h:Int):Nat):Int) 1 (Az y8)) 417 (h:Int) (-1)) (fun n270 (hn271:n267≤n270) => ?_)
  refine EG 0 1 [] [[o0]] [] [(Bc z),(55,.slice (some ⟨n270,0,none⟩) 3 3)] ⟨w,n270+1,[(Ak w),(EZ c z),(H6 z),(Fb y8 z),(qt5j_6 y8 h c n270)]⟩ rfl Ae ?_
  refine BV 108 #[.slice (some ⟨n270,0,none⟩) 3 3] (some 56) (.agg (Am.arr (Bl [(Af false 415 ⟨(h:Int), -1⟩),(Af false 416 ⟨(h:Int), -1⟩),(Af (win ((BG c (h:Int):Nat):Int) 1 (Az y8)) 417 ⟨(h:Int), -1⟩)]))) (fun w272 hw272=>Dp w272 (hL.ext (hw272.ext rfl)) ⟨some ⟨n270,0,none⟩,3,[(Af false 415 ⟨(h:Int), -1⟩),(Af false 416 ⟨(h:Int), -1⟩),(Af (win ((BG c (h:Int):Nat):Int) 1 (Az y8)) 417 ⟨(h:Int), -1⟩)]⟩ (Ef hw272 (i:=4) [(Af false 415 ⟨(h:Int), -1⟩),(Af false 416 ⟨(h:Int), -1⟩),(Af (win ((BG c (h:Int):Nat):Int) 1 (Az y8)) 417 ⟨(h:Int), -1⟩)]) (show 3≤1000 by decide)) (fun n273 (hn274:n270+1≤n273) => ?_)
  refine EG 3 0 [] [[(an 3 2)]] [Qb (z+1),Qb (z+1),Qb (z+1)] [(Bc z)] ⟨w,n273,[(Ak w),(EZ c z),(Xk y8 h c z),(Fb y8 z),(qt5j_6 y8 h c n270)]⟩ rfl ⟨rfl,rfl,rfl,Ae⟩ ?_
  refine AP [.at 2,.at 2,.at 2] [Qb (z+1),Qb (z+1),Qb (z+1)] (.agg #[i6 ((Bl [(Af false 415 ⟨(h:Int), -1⟩),(Af false 416 ⟨(h:Int), -1⟩),(Af (win ((BG c (h:Int):Nat):Int) 1 (Az y8)) 417 ⟨(h:Int), -1⟩)]).e),i6 ((Bl [(Af false 415 ⟨(h:Int), -1⟩),(Af false 416 ⟨(h:Int), -1⟩),(Af (win ((BG c (h:Int):Nat):Int) 1 (Az y8)) 417 ⟨(h:Int), -1⟩)]).Ag.First),i6 ((Bl [(Af false 415 ⟨(h:Int), -1⟩),(Af false 416 ⟨(h:Int), -1⟩),(Af (win ((BG c (h:Int):Nat):Int) 1 (Az y8)) 417 ⟨(h:Int), -1⟩)]).Ag.Second)]) ⟨rfl,rfl,rfl,Ae⟩ ?_
  intro w275 hw275
  have e0:OJ c h=y8:=hy8.symm
  have eC:Em c h=(Bl [(Af false 415 ⟨(h:Int), -1⟩),(Af false 416 ⟨(h:Int), -1⟩),(Af (win ((BG c (h:Int):Nat):Int) 1 (Az y8)) 417 ⟨(h:Int), -1⟩)]):=by unfold Em;simp only[e0];simp[h178,h183,h237]
  exact⟨congrArg (fun t=>Ending.returned (Value.agg (Am.arr t))) eC.symm,Au hw275⟩
 have hd276:=KL h178
 refine Bv 0 9 [] [[(ov (.bool false)),o0,o0,o0,o0]] [Value.bool (win y8.Kind 1 2)=Value.bool false] [(1,Aa h),(Bc z),(7,i6 (Az y8)),(Gy h c),(DN h c),(40,.bool false),(41,Aa h)] rfl ⟨(congrArg Value.bool (Bool.eq_false_iff.2 h178)),Ae⟩ ?_
 refine BV 110 #[(Aa h)] (some 42) (.agg #[(Aa h),i6 (-1)]) (fun w277 hw277=>Df w277 (h:Int)) (fun n278 (hn279:n176≤n278) => ?_)
 refine CZ [1,4,7,8,9,40,42] [(1,Aa h),(Bc z),(7,i6 (Az y8)),(Gy h c),(DN h c),(40,.bool false),(Tc h)] ?_
 refine BV 71 #[.bool false,i6 415,.agg #[(Aa h),i6 (-1)]] (some 43) (.agg (Am.arr (Af false 415 ⟨(h:Int), -1⟩))) (fun w280 hw280=>Bg w280 (hL.ext (hw280.ext rfl)) false 415 (h:Int) (-1)) (fun n281 (hn282:n278≤n281) => ?_)
 refine CZ [1,4,7,8,9,43] [(1,Aa h),(Bc z),(7,i6 (Az y8)),(Gy h c),(DN h c),(Eg h)] ?_
 by_cases h283:(((Ko c (h:Int):Nat):Int):Int)=1
 ·refine Bv 0 3 [] [[o0,oT,o0]] [ET ((Ko c (h:Int):Nat):Int) 1] [(1,Aa h),(Bc z),(7,i6 (Az y8)),(DN h c),(Eg h),(45,.bool true),(46,Aa h)] rfl ⟨et,Ae⟩ ?_
  refine BV 110 #[(Aa h)] (some 47) (.agg #[(Aa h),i6 (-1)]) (fun w284 hw284=>Df w284 (h:Int)) (fun n285 (hn286:n281≤n285) => ?_)
  refine CZ [1,4,7,9,43,45,47] [(1,Aa h),(Bc z),(7,i6 (Az y8)),(DN h c),(Eg h),(45,.bool true),(L6 h)] ?_
  refine BV 71 #[.bool true,i6 416,.agg #[(Aa h),i6 (-1)]] (some 48) (.agg (Am.arr (Af true 416 ⟨(h:Int), -1⟩))) (fun w287 hw287=>Bg w287 (hL.ext (hw287.ext rfl)) true 416 (h:Int) (-1)) (fun n288 (hn289:n285≤n288) => ?_)
  refine Bv 0 2 [] [[o0,o0]] [] [(1,Aa h),(Bc z),(Eg h),(IZ h),(Ls h c),(50,i6 (Az y8))] rfl Ae ?_
  refine BV 72 #[i6 ((BG c (h:Int):Nat):Int),i6 1,i6 (Az y8)] (some 51) (.bool (win ((BG c (h:Int):Nat):Int) 1 (Az y8))) (fun w290 hw290=>BQ w290 ((BG c (h:Int):Nat):Int) 1 (Az y8)) (fun n291 (hn292:n288≤n291) => ?_)
  refine Bv 0 1 [] [[o0]] [] [(Bc z),(Eg h),(IZ h),(GX y8 h c),(52,Aa h)] rfl Ae ?_
  refine BV 110 #[(Aa h)] (some 53) (.agg #[(Aa h),i6 (-1)]) (fun w293 hw293=>Df w293 (h:Int)) (fun n294 (hn295:n291≤n294) => ?_)
  refine CZ [4,43,48,51,53] [(Bc z),(Eg h),(IZ h),(GX y8 h c),(L8 h)] ?_
  refine BV 71 #[.bool (win ((BG c (h:Int):Nat):Int) 1 (Az y8)),i6 417,.agg #[(Aa h),i6 (-1)]] (some 54) (.agg (Am.arr (Af (win ((BG c (h:Int):Nat):Int) 1 (Az y8)) 417 ⟨(h:Int), -1⟩))) (fun w296 hw296=>Bg w296 (hL.ext (hw296.ext rfl)) (win ((BG c (h:Int):Nat):Int) 1 (Az y8)) 417 (h:Int) (-1)) (fun n297 (hn298:n294≤n297) => ?_)
  refine EG 0 1 [] [[o0]] [] [(Bc z),(55,.slice (some ⟨n297,0,none⟩) 3 3)] ⟨w,n297+1,[(Ak w),(EZ c z),(H6 z),(Fb y8 z),(qt5j_10 y8 h c n297)]⟩ rfl Ae ?_
  refine BV 108 #[.slice (some ⟨n297,0,none⟩) 3 3] (some 56) (.agg (Am.arr (Bl [(Af false 415 ⟨(h:Int), -1⟩),(Af true 416 ⟨(h:Int), -1⟩),(Af (win ((BG c (h:Int):Nat):Int) 1 (Az y8)) 417 ⟨(h:Int), -1⟩)]))) (fun w299 hw299=>Dp w299 (hL.ext (hw299.ext rfl)) ⟨some ⟨n297,0,none⟩,3,[(Af false 415 ⟨(h:Int), -1⟩),(Af true 416 ⟨(h:Int), -1⟩),(Af (win ((BG c (h:Int):Nat):Int) 1 (Az y8)) 417 ⟨(h:Int), -1⟩)]⟩ (Ef hw299 (i:=4) [(Af false 415 ⟨(h:Int), -1⟩),(Af true 416 ⟨(h:Int), -1⟩),(Af (win ((BG c (h:Int):Nat):Int) 1 (Az y8)) 417 ⟨(h:Int), -1⟩)]) (show 3≤1000 by decide)) (fun n300 (hn301:n297+1≤n300) => ?_)
  refine EG 3 0 [] [[(an 3 2)]] [Qb (z+1),Qb (z+1),Qb (z+1)] [(Bc z)] ⟨w,n300,[(Ak w),(EZ c z),(X4 y8 h c z),(Fb y8 z),(qt5j_10 y8 h c n297)]⟩ rfl ⟨rfl,rfl,rfl,Ae⟩ ?_
  refine AP [.at 2,.at 2,.at 2] [Qb (z+1),Qb (z+1),Qb (z+1)] (.agg #[i6 ((Bl [(Af false 415 ⟨(h:Int), -1⟩),(Af true 416 ⟨(h:Int), -1⟩),(Af (win ((BG c (h:Int):Nat):Int) 1 (Az y8)) 417 ⟨(h:Int), -1⟩)]).e),i6 ((Bl [(Af false 415 ⟨(h:Int), -1⟩),(Af true 416 ⟨(h:Int), -1⟩),(Af (win ((BG c (h:Int):Nat):Int) 1 (Az y8)) 417 ⟨(h:Int), -1⟩)]).Ag.First),i6 ((Bl [(Af false 415 ⟨(h:Int), -1⟩),(Af true 416 ⟨(h:Int), -1⟩),(Af (win ((BG c (h:Int):Nat):Int) 1 (Az y8)) 417 ⟨(h:Int), -1⟩)]).Ag.Second)]) ⟨rfl,rfl,rfl,Ae⟩ ?_
  intro w302 hw302
  have e0:OJ c h=y8:=hy8.symm
  have eC:Em c h=(Bl [(Af false 415 ⟨(h:Int), -1⟩),(Af true 416 ⟨(h:Int), -1⟩),(Af (win ((BG c (h:Int):Nat):Int) 1 (Az y8)) 417 ⟨(h:Int), -1⟩)]):=by unfold Em;simp only[e0];simp[h178,h283]
  exact⟨congrArg (fun t=>Ending.returned (Value.agg (Am.arr t))) eC.symm,Au hw302⟩
 refine Bv 0 3 [] [[o0,oF,o0]] [EF ((Ko c (h:Int):Nat):Int) 1] [(1,Aa h),(Bc z),(7,i6 (Az y8)),(DN h c),(Eg h),(45,.bool false),(46,Aa h)] rfl ⟨ef,Ae⟩ ?_
 refine BV 110 #[(Aa h)] (some 47) (.agg #[(Aa h),i6 (-1)]) (fun w303 hw303=>Df w303 (h:Int)) (fun n304 (hn305:n281≤n304) => ?_)
 refine CZ [1,4,7,9,43,45,47] [(1,Aa h),(Bc z),(7,i6 (Az y8)),(DN h c),(Eg h),(45,.bool false),(L6 h)] ?_
 refine BV 71 #[.bool false,i6 416,.agg #[(Aa h),i6 (-1)]] (some 48) (.agg (Am.arr (Af false 416 ⟨(h:Int), -1⟩))) (fun w306 hw306=>Bg w306 (hL.ext (hw306.ext rfl)) false 416 (h:Int) (-1)) (fun n307 (hn308:n304≤n307) => ?_)
 refine Bv 0 2 [] [[o0,o0]] [] [(1,Aa h),(Bc z),(Eg h),(Jb h),(Ls h c),(50,i6 (Az y8))] rfl Ae ?_
 refine BV 72 #[i6 ((BG c (h:Int):Nat):Int),i6 1,i6 (Az y8)] (some 51) (.bool (win ((BG c (h:Int):Nat):Int) 1 (Az y8))) (fun w309 hw309=>BQ w309 ((BG c (h:Int):Nat):Int) 1 (Az y8)) (fun n310 (hn311:n307≤n310) => ?_)
 refine Bv 0 1 [] [[o0]] [] [(Bc z),(Eg h),(Jb h),(GX y8 h c),(52,Aa h)] rfl Ae ?_
 refine BV 110 #[(Aa h)] (some 53) (.agg #[(Aa h),i6 (-1)]) (fun w312 hw312=>Df w312 (h:Int)) (fun n313 (hn314:n310≤n313) => ?_)
 refine CZ [4,43,48,51,53] [(Bc z),(Eg h),(Jb h),(GX y8 h c),(L8 h)] ?_
 refine BV 71 #[.bool (win ((BG c (h:Int):Nat):Int) 1 (Az y8)),i6 417,.agg #[(Aa h),i6 (-1)]] (some 54) (.agg (Am.arr (Af (win ((BG c (h:Int):Nat):Int) 1 (Az y8)) 417 ⟨(h:Int), -1⟩))) (fun w315 hw315=>Bg w315 (hL.ext (hw315.ext rfl)) (win ((BG c (h:Int):Nat):Int) 1 (Az y8)) 417 (h:Int) (-1)) (fun n316 (hn317:n313≤n316) => ?_)
 refine EG 0 1 [] [[o0]] [] [(Bc z),(55,.slice (some ⟨n316,0,none⟩) 3 3)] ⟨w,n316+1,[(Ak w),(EZ c z),(H6 z),(Fb y8 z),(qt5j_7 y8 h c n316)]⟩ rfl Ae ?_
 refine BV 108 #[.slice (some ⟨n316,0,none⟩) 3 3] (some 56) (.agg (Am.arr (Bl [(Af false 415 ⟨(h:Int), -1⟩),(Af false 416 ⟨(h:Int), -1⟩),(Af (win ((BG c (h:Int):Nat):Int) 1 (Az y8)) 417 ⟨(h:Int), -1⟩)]))) (fun w318 hw318=>Dp w318 (hL.ext (hw318.ext rfl)) ⟨some ⟨n316,0,none⟩,3,[(Af false 415 ⟨(h:Int), -1⟩),(Af false 416 ⟨(h:Int), -1⟩),(Af (win ((BG c (h:Int):Nat):Int) 1 (Az y8)) 417 ⟨(h:Int), -1⟩)]⟩ (Ef hw318 (i:=4) [(Af false 415 ⟨(h:Int), -1⟩),(Af false 416 ⟨(h:Int), -1⟩),(Af (win ((BG c (h:Int):Nat):Int) 1 (Az y8)) 417 ⟨(h:Int), -1⟩)]) (show 3≤1000 by decide)) (fun n319 (hn320:n316+1≤n319) => ?_)
 refine EG 3 0 [] [[(an 3 2)]] [Qb (z+1),Qb (z+1),Qb (z+1)] [(Bc z)] ⟨w,n319,[(Ak w),(EZ c z),(Xk y8 h c z),(Fb y8 z),(qt5j_7 y8 h c n316)]⟩ rfl ⟨rfl,rfl,rfl,Ae⟩ ?_
 refine AP [.at 2,.at 2,.at 2] [Qb (z+1),Qb (z+1),Qb (z+1)] (.agg #[i6 ((Bl [(Af false 415 ⟨(h:Int), -1⟩),(Af false 416 ⟨(h:Int), -1⟩),(Af (win ((BG c (h:Int):Nat):Int) 1 (Az y8)) 417 ⟨(h:Int), -1⟩)]).e),i6 ((Bl [(Af false 415 ⟨(h:Int), -1⟩),(Af false 416 ⟨(h:Int), -1⟩),(Af (win ((BG c (h:Int):Nat):Int) 1 (Az y8)) 417 ⟨(h:Int), -1⟩)]).Ag.First),i6 ((Bl [(Af false 415 ⟨(h:Int), -1⟩),(Af false 416 ⟨(h:Int), -1⟩),(Af (win ((BG c (h:Int):Nat):Int) 1 (Az y8)) 417 ⟨(h:Int), -1⟩)]).Ag.Second)]) ⟨rfl,rfl,rfl,Ae⟩ ?_
 intro w321 hw321
 have e0:OJ c h=y8:=hy8.symm
 have eC:Em c h=(Bl [(Af false 415 ⟨(h:Int), -1⟩),(Af false 416 ⟨(h:Int), -1⟩),(Af (win ((BG c (h:Int):Nat):Int) 1 (Az y8)) 417 ⟨(h:Int), -1⟩)]):=by unfold Em;simp only[e0];simp[h178,h283]
 exact⟨congrArg (fun t=>Ending.returned (Value.agg (Am.arr t))) eC.symm,Au hw321⟩
def VH(c:Ai)(k n:Nat)(x:A7):List Am:=[Af (win x.Partition (-1) ((c.Ac.xs.length:Nat) - 1)&&win x.Bq 1 16384) 419 ⟨(k:Int),(n:Int)⟩,Af (win x.AC 82 16384) 420 ⟨(k:Int),(n:Int)⟩,Af (!Je c k x.Partition) 422 ⟨(k:Int),(n:Int)⟩]
def G8(c:Ai)(k n:Nat):Am:=Bl (VH c k n (gd (FI c k).xs n))
def sumW(xs:List A7)(n:Nat):Int:=(List.range n).foldl (fun s i=>s+((gd xs i).Bq+(gd xs i).AC)) 0
theorem sumW_succ(xs:List A7)(n:Nat):sumW xs (n+1)=sumW xs n+((gd xs n).Bq+(gd xs n).AC):=by unfold sumW;rw[List.range_succ,List.foldl_append];rfl
theorem ZF{l:List Am}(h:Bl l=DF):∀ x∈l,x=DF:=by
 induction l with
 | nil=>intro x hx;cases hx
 | cons a r ih =>
  unfold Bl at h
  by_cases e:a=DF
  ·rw[if_pos e]at h
   intro x hx
   rcases List.mem_cons.1 hx with rfl | hx
   ·exact e
   exact ih h x hx
  rw[if_neg e]at h;exact absurd h e
theorem YM{c:Ai}{k n:Nat}(h:G8 c k n=DF):(1≤(gd (FI c k).xs n).Bq∧(gd (FI c k).xs n).Bq≤16384)∧(82≤(gd (FI c k).xs n).AC∧(gd (FI c k).xs n).AC≤16384):=by
 unfold G8 VH at h
 have h1:=ZF h _ (List.mem_cons_self ..)
 have h2:=ZF h _ (List.mem_cons_of_mem _ (List.mem_cons_self ..))
 rw[V7 (by decide)]at h1 h2
 rw[Bool.and_eq_true]at h1
 exact⟨Iz h1.2,Iz h2⟩
def FU(c:Ai)(k:Nat):Am:=if win ((FI c k).xs.length:Nat) 1 16=false then⟨418,⟨(k:Int), -1⟩⟩else if FB DF (G8 c k) (FI c k).xs.length=DF then Af (decide (sumW (FI c k).xs (FI c k).xs.length=c.DD)) 421 ⟨(k:Int), -1⟩else FB DF (G8 c k) (FI c k).xs.length
theorem Vu{f:Nat→Am}:∀ {n:Nat},(∀ a,a<n→f a=DF)→FB DF f n=DF
 | 0,_=>QC _ _
 | n+1,h=>(Qq (Vu (fun a ha=>h a (by omega)))).trans (h n (by omega))
theorem coreQ_a{c:Ai}{k:Nat}(h:¬ win ((FI c k).xs.length:Nat) 1 16=true):FU c k=⟨418,⟨(k:Int), -1⟩⟩:=if_pos (by simpa using h)
theorem coreQ_b{c:Ai}{k n:Nat}(h:win ((FI c k).xs.length:Nat) 1 16=true)(hf:∀ a,a<n→G8 c k a=DF)(hn:n<(FI c k).xs.length)(hne:G8 c k n≠DF):FU c k=G8 c k n:=by
 have h1:=Qq (Vu hf)
 have h2:=Nu (k:=n+1) (by rw[h1];exact hne) (show n+1≤(FI c k).xs.length by omega)
 rw[h1]at h2
 unfold FU
 rw[if_neg (by rw[h];simp),h2,if_neg hne]
theorem coreQ_c{c:Ai}{k n:Nat}(h:win ((FI c k).xs.length:Nat) 1 16=true)(hf:∀ a,a<n→G8 c k a=DF)(hn:n=(FI c k).xs.length):FU c k=Af (decide (sumW (FI c k).xs n=c.DD)) 421 ⟨(k:Int), -1⟩:=by
 subst hn
 unfold FU
 rw[if_neg (by rw[h];simp),if_pos (Vu hf)]
section
variable (n46:Nat)(y24:A7)(k n:Nat)(b54 n43:Nat)(n85 b93:Nat)(n82 n125:Nat)(b133 n122:Nat)(n163 b171:Nat)(n160 b47:Nat)(b53 b32:Nat)(b86 b92:Nat)(b71 b126:Nat)(b132 b112:Nat)(b164 b170:Nat)(b150 z n15:Nat)(c:Ai)(b17 o18:Nat)(y8:Sl A7)
abbrev Yu:=bk n46 #[i6 ((Af (win y24.Bq 1 16384) 419 ⟨(k:Int),(n:Int)⟩).e),i6 ((Af (win y24.Bq 1 16384) 419 ⟨(k:Int),(n:Int)⟩).Ag.First),i6 ((Af (win y24.Bq 1 16384) 419 ⟨(k:Int),(n:Int)⟩).Ag.Second),i6 ((Af (win y24.AC 82 16384) 420 ⟨(k:Int),(n:Int)⟩).e),i6 ((Af (win y24.AC 82 16384) 420 ⟨(k:Int),(n:Int)⟩).Ag.First),i6 ((Af (win y24.AC 82 16384) 420 ⟨(k:Int),(n:Int)⟩).Ag.Second),i6 ((Af false 422 ⟨(k:Int),(n:Int)⟩).e),i6 ((Af false 422 ⟨(k:Int),(n:Int)⟩).Ag.First),i6 ((Af false 422 ⟨(k:Int),(n:Int)⟩).Ag.Second)] 98
abbrev Yz:=bk b54 #[i6 ((Af (win y24.Bq 1 16384) 419 ⟨(k:Int),(n:Int)⟩).e),i6 ((Af (win y24.Bq 1 16384) 419 ⟨(k:Int),(n:Int)⟩).Ag.First),i6 ((Af (win y24.Bq 1 16384) 419 ⟨(k:Int),(n:Int)⟩).Ag.Second),i6 ((Af (win y24.AC 82 16384) 420 ⟨(k:Int),(n:Int)⟩).e),i6 ((Af (win y24.AC 82 16384) 420 ⟨(k:Int),(n:Int)⟩).Ag.First),i6 ((Af (win y24.AC 82 16384) 420 ⟨(k:Int),(n:Int)⟩).Ag.Second),i6 ((Af false 422 ⟨(k:Int),(n:Int)⟩).e),i6 ((Af false 422 ⟨(k:Int),(n:Int)⟩).Ag.First),i6 ((Af false 422 ⟨(k:Int),(n:Int)⟩).Ag.Second)] 98
abbrev WM:=bk n43 #[i6 ((Af (win y24.Bq 1 16384) 419 ⟨(k:Int),(n:Int)⟩).e),i6 ((Af (win y24.Bq 1 16384) 419 ⟨(k:Int),(n:Int)⟩).Ag.First),i6 ((Af (win y24.Bq 1 16384) 419 ⟨(k:Int),(n:Int)⟩).Ag.Second),i6 ((Af (win y24.AC 82 16384) 420 ⟨(k:Int),(n:Int)⟩).e),i6 ((Af (win y24.AC 82 16384) 420 ⟨(k:Int),(n:Int)⟩).Ag.First),i6 ((Af (win y24.AC 82 16384) 420 ⟨(k:Int),(n:Int)⟩).Ag.Second),i6 ((Af false 422 ⟨(k:Int),(n:Int)⟩).e),i6 ((Af false 422 ⟨(k:Int),(n:Int)⟩).Ag.First),i6 ((Af false 422 ⟨(k:Int),(n:Int)⟩).Ag.Second)] 98
abbrev YO:=bk n85 #[i6 ((Af (win y24.Bq 1 16384) 419 ⟨(k:Int),(n:Int)⟩).e),i6 ((Af (win y24.Bq 1 16384) 419 ⟨(k:Int),(n:Int)⟩).Ag.First),i6 ((Af (win y24.Bq 1 16384) 419 ⟨(k:Int),(n:Int)⟩).Ag.Second),i6 ((Af (win y24.AC 82 16384) 420 ⟨(k:Int),(n:Int)⟩).e),i6 ((Af (win y24.AC 82 16384) 420 ⟨(k:Int),(n:Int)⟩).Ag.First),i6 ((Af (win y24.AC 82 16384) 420 ⟨(k:Int),(n:Int)⟩).Ag.Second),i6 ((Af true 422 ⟨(k:Int),(n:Int)⟩).e),i6 ((Af true 422 ⟨(k:Int),(n:Int)⟩).Ag.First),i6 ((Af true 422 ⟨(k:Int),(n:Int)⟩).Ag.Second)] 98
abbrev YP:=bk b93 #[i6 ((Af (win y24.Bq 1 16384) 419 ⟨(k:Int),(n:Int)⟩).e),i6 ((Af (win y24.Bq 1 16384) 419 ⟨(k:Int),(n:Int)⟩).Ag.First),i6 ((Af (win y24.Bq 1 16384) 419 ⟨(k:Int),(n:Int)⟩).Ag.Second),i6 ((Af (win y24.AC 82 16384) 420 ⟨(k:Int),(n:Int)⟩).e),i6 ((Af (win y24.AC 82 16384) 420 ⟨(k:Int),(n:Int)⟩).Ag.First),i6 ((Af (win y24.AC 82 16384) 420 ⟨(k:Int),(n:Int)⟩).Ag.Second),i6 ((Af true 422 ⟨(k:Int),(n:Int)⟩).e),i6 ((Af true 422 ⟨(k:Int),(n:Int)⟩).Ag.First),i6 ((Af true 422 ⟨(k:Int),(n:Int)⟩).Ag.Second)] 98
abbrev Wu:=bk n82 #[i6 ((Af (win y24.Bq 1 16384) 419 ⟨(k:Int),(n:Int)⟩).e),i6 ((Af (win y24.Bq 1 16384) 419 ⟨(k:Int),(n:Int)⟩).Ag.First),i6 ((Af (win y24.Bq 1 16384) 419 ⟨(k:Int),(n:Int)⟩).Ag.Second),i6 ((Af (win y24.AC 82 16384) 420 ⟨(k:Int),(n:Int)⟩).e),i6 ((Af (win y24.AC 82 16384) 420 ⟨(k:Int),(n:Int)⟩).Ag.First),i6 ((Af (win y24.AC 82 16384) 420 ⟨(k:Int),(n:Int)⟩).Ag.Second),i6 ((Af true 422 ⟨(k:Int),(n:Int)⟩).e),i6 ((Af true 422 ⟨(k:Int),(n:Int)⟩).Ag.First),i6 ((Af true 422 ⟨(k:Int),(n:Int)⟩).Ag.Second)] 98
abbrev YW:=bk n125 #[i6 ((Af false 419 ⟨(k:Int),(n:Int)⟩).e),i6 ((Af false 419 ⟨(k:Int),(n:Int)⟩).Ag.First),i6 ((Af false 419 ⟨(k:Int),(n:Int)⟩).Ag.Second),i6 ((Af (win y24.AC 82 16384) 420 ⟨(k:Int),(n:Int)⟩).e),i6 ((Af (win y24.AC 82 16384) 420 ⟨(k:Int),(n:Int)⟩).Ag.First),i6 ((Af (win y24.AC 82 16384) 420 ⟨(k:Int),(n:Int)⟩).Ag.Second),i6 ((Af false 422 ⟨(k:Int),(n:Int)⟩).e),i6 ((Af false 422 ⟨(k:Int),(n:Int)⟩).Ag.First),i6 ((Af false 422 ⟨(k:Int),(n:Int)⟩).Ag.Second)] 98
abbrev YY:=bk b133 #[i6 ((Af false 419 ⟨(k:Int),(n:Int)⟩).e),i6 ((Af false 419 ⟨(k:Int),(n:Int)⟩).Ag.First),i6 ((Af false 419 ⟨(k:Int),(n:Int)⟩).Ag.Second),i6 ((Af (win y24.AC 82 16384) 420 ⟨(k:Int),(n:Int)⟩).e),i6 ((Af (win y24.AC 82 16384) 420 ⟨(k:Int),(n:Int)⟩).Ag.First),i6 ((Af (win y24.AC 82 16384) 420 ⟨(k:Int),(n:Int)⟩).Ag.Second),i6 ((Af false 422 ⟨(k:Int),(n:Int)⟩).e),i6 ((Af false 422 ⟨(k:Int),(n:Int)⟩).Ag.First),i6 ((Af false 422 ⟨(k:Int),(n:Int)⟩).Ag.Second)] 98
abbrev Wv:=bk n122 #[i6 ((Af false 419 ⟨(k:Int),(n:Int)⟩).e),i6 ((Af false 419 ⟨(k:Int),(n:Int)⟩).Ag.First),i6 ((Af false 419 ⟨(k:Int),(n:Int)⟩).Ag.Second),i6 ((Af (win y24.AC 82 16384) 420 ⟨(k:Int),(n:Int)⟩).e),i6 ((Af (win y24.AC 82 16384) 420 ⟨(k:Int),(n:Int)⟩).Ag.First),i6 ((Af (win y24.AC 82 16384) 420 ⟨(k:Int),(n:Int)⟩).Ag.Second),i6 ((Af false 422 ⟨(k:Int),(n:Int)⟩).e),i6 ((Af false 422 ⟨(k:Int),(n:Int)⟩).Ag.First),i6 ((Af false 422 ⟨(k:Int),(n:Int)⟩).Ag.Second)] 98
abbrev Yq:=bk n163 #[i6 ((Af false 419 ⟨(k:Int),(n:Int)⟩).e),i6 ((Af false 419 ⟨(k:Int),(n:Int)⟩).Ag.First),i6 ((Af false 419 ⟨(k:Int),(n:Int)⟩).Ag.Second),i6 ((Af (win y24.AC 82 16384) 420 ⟨(k:Int),(n:Int)⟩).e),i6 ((Af (win y24.AC 82 16384) 420 ⟨(k:Int),(n:Int)⟩).Ag.First),i6 ((Af (win y24.AC 82 16384) 420 ⟨(k:Int),(n:Int)⟩).Ag.Second),i6 ((Af true 422 ⟨(k:Int),(n:Int)⟩).e),i6 ((Af true 422 ⟨(k:Int),(n:Int)⟩).Ag.First),i6 ((Af true 422 ⟨(k:Int),(n:Int)⟩).Ag.Second)] 98
abbrev XG:=bk b171 #[i6 ((Af false 419 ⟨(k:Int),(n:Int)⟩).e),i6 ((Af false 419 ⟨(k:Int),(n:Int)⟩).Ag.First),i6 ((Af false 419 ⟨(k:Int),(n:Int)⟩).Ag.Second),i6 ((Af (win y24.AC 82 16384) 420 ⟨(k:Int),(n:Int)⟩).e),i6 ((Af (win y24.AC 82 16384) 420 ⟨(k:Int),(n:Int)⟩).Ag.First),i6 ((Af (win y24.AC 82 16384) 420 ⟨(k:Int),(n:Int)⟩).Ag.Second),i6 ((Af true 422 ⟨(k:Int),(n:Int)⟩).e),i6 ((Af true 422 ⟨(k:Int),(n:Int)⟩).Ag.First),i6 ((Af true 422 ⟨(k:Int),(n:Int)⟩).Ag.Second)] 98
abbrev Va:=bk n160 #[i6 ((Af false 419 ⟨(k:Int),(n:Int)⟩).e),i6 ((Af false 419 ⟨(k:Int),(n:Int)⟩).Ag.First),i6 ((Af false 419 ⟨(k:Int),(n:Int)⟩).Ag.Second),i6 ((Af (win y24.AC 82 16384) 420 ⟨(k:Int),(n:Int)⟩).e),i6 ((Af (win y24.AC 82 16384) 420 ⟨(k:Int),(n:Int)⟩).Ag.First),i6 ((Af (win y24.AC 82 16384) 420 ⟨(k:Int),(n:Int)⟩).Ag.Second),i6 ((Af true 422 ⟨(k:Int),(n:Int)⟩).e),i6 ((Af true 422 ⟨(k:Int),(n:Int)⟩).Ag.First),i6 ((Af true 422 ⟨(k:Int),(n:Int)⟩).Ag.Second)] 98
abbrev Zp:Ch:= .blk b47 (.cells (Am.arr (Bl [(Af (win y24.Bq 1 16384) 419 ⟨(k:Int),(n:Int)⟩),(Af (win y24.AC 82 16384) 420 ⟨(k:Int),(n:Int)⟩),(Af false 422 ⟨(k:Int),(n:Int)⟩)])) 98 (0,0)) true
abbrev Zv:Ch:= .blk b53 (.cells (Am.arr (Bl [(Af (win y24.Bq 1 16384) 419 ⟨(k:Int),(n:Int)⟩),(Af (win y24.AC 82 16384) 420 ⟨(k:Int),(n:Int)⟩),(Af false 422 ⟨(k:Int),(n:Int)⟩)])) 98 (0,0)) true
abbrev ZL:Ch:= .blk b32 (.cells (Am.arr (Bl [(Af (win y24.Bq 1 16384) 419 ⟨(k:Int),(n:Int)⟩),(Af (win y24.AC 82 16384) 420 ⟨(k:Int),(n:Int)⟩),(Af false 422 ⟨(k:Int),(n:Int)⟩)])) 98 (0,0)) true
abbrev ZO:Ch:= .blk b86 (.cells (Am.arr (Bl [(Af (win y24.Bq 1 16384) 419 ⟨(k:Int),(n:Int)⟩),(Af (win y24.AC 82 16384) 420 ⟨(k:Int),(n:Int)⟩),(Af true 422 ⟨(k:Int),(n:Int)⟩)])) 98 (0,0)) true
abbrev ZR:Ch:= .blk b92 (.cells (Am.arr (Bl [(Af (win y24.Bq 1 16384) 419 ⟨(k:Int),(n:Int)⟩),(Af (win y24.AC 82 16384) 420 ⟨(k:Int),(n:Int)⟩),(Af true 422 ⟨(k:Int),(n:Int)⟩)])) 98 (0,0)) true
abbrev ZJ:Ch:= .blk b71 (.cells (Am.arr (Bl [(Af (win y24.Bq 1 16384) 419 ⟨(k:Int),(n:Int)⟩),(Af (win y24.AC 82 16384) 420 ⟨(k:Int),(n:Int)⟩),(Af true 422 ⟨(k:Int),(n:Int)⟩)])) 98 (0,0)) true
abbrev ZV:Ch:= .blk b126 (.cells (Am.arr (Bl [(Af false 419 ⟨(k:Int),(n:Int)⟩),(Af (win y24.AC 82 16384) 420 ⟨(k:Int),(n:Int)⟩),(Af false 422 ⟨(k:Int),(n:Int)⟩)])) 98 (0,0)) true
abbrev Zu:Ch:= .blk b132 (.cells (Am.arr (Bl [(Af false 419 ⟨(k:Int),(n:Int)⟩),(Af (win y24.AC 82 16384) 420 ⟨(k:Int),(n:Int)⟩),(Af false 422 ⟨(k:Int),(n:Int)⟩)])) 98 (0,0)) true
abbrev ZE:Ch:= .blk b112 (.cells (Am.arr (Bl [(Af false 419 ⟨(k:Int),(n:Int)⟩),(Af (win y24.AC 82 16384) 420 ⟨(k:Int),(n:Int)⟩),(Af false 422 ⟨(k:Int),(n:Int)⟩)])) 98 (0,0)) true
abbrev Zq:Ch:= .blk b164 (.cells (Am.arr (Bl [(Af false 419 ⟨(k:Int),(n:Int)⟩),(Af (win y24.AC 82 16384) 420 ⟨(k:Int),(n:Int)⟩),(Af true 422 ⟨(k:Int),(n:Int)⟩)])) 98 (0,0)) true
abbrev ZM:Ch:= .blk b170 (.cells (Am.arr (Bl [(Af false 419 ⟨(k:Int),(n:Int)⟩),(Af (win y24.AC 82 16384) 420 ⟨(k:Int),(n:Int)⟩),(Af true 422 ⟨(k:Int),(n:Int)⟩)])) 98 (0,0)) true
abbrev Z4:Ch:= .blk b150 (.cells (Am.arr (Bl [(Af false 419 ⟨(k:Int),(n:Int)⟩),(Af (win y24.AC 82 16384) 420 ⟨(k:Int),(n:Int)⟩),(Af true 422 ⟨(k:Int),(n:Int)⟩)])) 98 (0,0)) true
abbrev BU:=bk (z+1) #[i6 0,i6 0,i6 0] 98
abbrev BX:=bk n15 (A7.arr y24) 52
abbrev BN:=bk z (Ai.arr c) 27
abbrev Qa:Dv:=(65,.agg (Am.arr (Bl [(Af (win y24.Bq 1 16384) 419 ⟨(k:Int),(n:Int)⟩),(Af (win y24.AC 82 16384) 420 ⟨(k:Int),(n:Int)⟩),(Af false 422 ⟨(k:Int),(n:Int)⟩)])))
abbrev PK:Dv:=(65,.agg (Am.arr (Bl [(Af (win y24.Bq 1 16384) 419 ⟨(k:Int),(n:Int)⟩),(Af (win y24.AC 82 16384) 420 ⟨(k:Int),(n:Int)⟩),(Af true 422 ⟨(k:Int),(n:Int)⟩)])))
abbrev PM:Dv:=(65,.agg (Am.arr (Bl [(Af false 419 ⟨(k:Int),(n:Int)⟩),(Af (win y24.AC 82 16384) 420 ⟨(k:Int),(n:Int)⟩),(Af false 422 ⟨(k:Int),(n:Int)⟩)])))
abbrev PP:Dv:=(65,.agg (Am.arr (Bl [(Af false 419 ⟨(k:Int),(n:Int)⟩),(Af (win y24.AC 82 16384) 420 ⟨(k:Int),(n:Int)⟩),(Af true 422 ⟨(k:Int),(n:Int)⟩)])))
abbrev Qg:Dv:=(46,.agg (Am.arr (Af (win y24.Bq 1 16384) 419 ⟨(k:Int),(n:Int)⟩)))
abbrev JD:Dv:=(53,.agg (Am.arr (Af (win y24.AC 82 16384) 420 ⟨(k:Int),(n:Int)⟩)))
abbrev NS:Dv:=(63,.agg (Am.arr (Af false 422 ⟨(k:Int),(n:Int)⟩)))
abbrev Qk:Dv:=(46,.agg (Am.arr (Af false 419 ⟨(k:Int),(n:Int)⟩)))
abbrev PE:Dv:=(63,.agg (Am.arr (Af true 422 ⟨(k:Int),(n:Int)⟩)))
abbrev PH:=(36,i6 ((c.Ac.xs.length:Int) - 1))
abbrev BK:Dv:=(24,.slice (some ⟨b17,o18,none⟩) y8.xs.length y8.cap)
abbrev BC:=(25,Aa y8.xs.length)
abbrev Bh:=(4,pt (z+1))
abbrev KY:Dv:=(24,.slice y8.a y8.xs.length y8.cap)
abbrev BI:=(5,i6 (sumW (FI c k).xs n))
abbrev BL:=(7,pt n15)
end
theorem Vx(w:World)(hL:Gf w)(c:Ai)(hc:Ai.ok Any w c)(k:Nat)(hk:k<c.Ar.xs.length):Calls Tryz.prog 82 #[.agg (Ai.arr c),.int .i64 (k:Int)] w fun e w'=>e = .returned (.agg (Am.arr (FU c k)))∧BH (fun _=>False) w w':=by
 obtain⟨z,hz⟩:∃ z,z=w.heap.size:=⟨_,rfl⟩
 refine BA (args:=[.agg (Ai.arr c),Aa k]) 85 ⟨w,z,[(Ak w)]⟩ Tryz.func82 rfl (by kernel_rfl) (by kernel_rfl) (En hz) ?_
 have hpl:=hc.Ar.1.len;have hpp:=hc.Ac.1.len
 refine Cc [0,1] [(0,.agg (Ai.arr c)),(1,Aa k)] ?_
 refine q_c 6 0 [] [[o0,o0]] [] [(1,Aa k),(2,pt z),(Bh z)] ⟨w,z+2,[(Ak w),(BN z c),(BU z)]⟩ rfl Ae ?_
 obtain⟨b1,o2,ha3,hF5,hc4⟩:=(hc.Ar).1.all (show 0<c.Ar.xs.length by omega)
 replace ha3:c.Ar.a=some ⟨b1,o2,none⟩:=ha3
 have hc6:=hc4 k (show k<c.Ar.xs.length by omega)
 have he7:=(hc.Ar).2 k (show k<c.Ar.xs.length by omega)
 obtain⟨y8,hy8⟩:∃ y_,y_=gd c.Ar.xs k:=⟨_,rfl⟩
 rw[←hy8]at he7 hc6
 have hyly8:=he7.1.len
 refine A8 1 6 [] [[o0,(J3 1 b1 o2 c.Ar),o0,(oi k),(oa [.via 0 (.slice y8.a y8.xs.length y8.cap)]),o0]] [Qb z,IJ b1 o2 c.Ar,Ea k,k<c.Ar.xs.length,Ec,Old w b1 (o2+k) (.slice y8.a y8.xs.length y8.cap)] [(1,Aa k),(2,pt z),(Bh z),(14,Aa y8.xs.length)] rfl ⟨rfl,IK ha3,rfl,(by omega),rfl,Aw (hc6 0 _ rfl),Ae⟩ ?_
 refine BV 72 #[(Aa y8.xs.length),i6 1,i6 16] (some 15) (.bool (win (y8.xs.length:Int) 1 16)) (fun w9 hw9=>BQ w9 (y8.xs.length:Int) 1 16) (fun n10 (hn11:z+2≤n10) => ?_)
 refine CZ [1,2,4,15] [(1,Aa k),(2,pt z),(Bh z),(15,.bool (win (y8.xs.length:Int) 1 16))] ?_
 by_cases h12:(win (y8.xs.length:Int) 1 16)=true
 ·have hd13:=Iz h12
  refine Bv 15 0 [0] [[(ov (.bool false))],[o0],[o0,(J3 1 b1 o2 c.Ar),o0,(oi k),(oa [.via 0 (.slice y8.a y8.xs.length y8.cap)]),o0,o0]] [Value.bool (!(win (y8.xs.length:Int) 1 16))=Value.bool false,Qb z,IJ b1 o2 c.Ar,Ea k,k<c.Ar.xs.length,Ec,Old w b1 (o2+k) (.slice y8.a y8.xs.length y8.cap)] [(1,Aa k),(2,pt z),(Bh z),(5,i6 0),(KY y8),(BC y8),(26,i6 0)] rfl ⟨by simp[h12],rfl,IK ha3,rfl,(by omega),rfl,Aw (hc6 0 _ rfl),Ae⟩ ?_
  refine DI (fun m a w'=>∃ (n15:Nat) (n:Nat),m=y8.xs.length - n∧n10≤n15∧(n≤y8.xs.length)∧(∀ a,a<n→G8 c k a=DF)∧(0≤sumW (FI c k).xs n∧sumW (FI c k).xs n≤n*32768)∧St 85 [(1,Aa k),(2,pt z),(Bh z),(BI k n c),(KY y8),(BC y8),(26,Aa n)] [] ⟨w,n15,[(Ak w),(BN z c),(BU z)]⟩ a w') (y8.xs.length - 0) ?_ ?_
  ·intro a w' hs;exact⟨n10,0,rfl,Nat.le_refl _,Nat.zero_le _,fun i hi=>absurd hi (Nat.not_lt_zero i),by simp[sumW],hs⟩
  rintro m a w' ⟨n15,n,rfl,hn14,hkn,hf,hsu,hs⟩
  refine(?_:G Tryz.prog 85 [(1,Aa k),(2,pt z),(Bh z),(BI k n c),(KY y8),(BC y8),(26,Aa n)] [] ⟨w,n15,[(Ak w),(BN z c),(BU z)]⟩ _ _ _) a w' hs
  clear hs a w'
  refine Dl ?_
  by_cases h16:(n:Int)<(y8.xs.length:Int)
  ·refine A8 10 0 [1] [[oT]] [BT ((n:Int)<(y8.xs.length:Int))] [(1,Aa k),(2,pt z),(Bh z),(BI k n c),(KY y8),(BC y8),(26,Aa n),(27,.bool true)] rfl ⟨bt,Ae⟩ ?_
   obtain⟨b17,o18,ha19,hF21,hc20⟩:=(he7).1.all (show 0<y8.xs.length by omega)
   replace ha19:y8.a=some ⟨b17,o18,none⟩:=ha19
   refine J4 [(1,Aa k),(2,pt z),(Bh z),(BI k n c),(BK b17 o18 y8),(BC y8),(26,Aa n),(27,.bool true)] (by(try dsimp only[BU,BN,BK,BC,Bh,KY,BI]);simp only[ha19]) ?_
   have hc22:=hc20 n (show n<y8.xs.length by omega)
   have he23:=(he7).2 n (show n<y8.xs.length by omega)
   obtain⟨y24,hy24⟩:∃ y_,y_=gd y8.xs n:=⟨_,rfl⟩
   rw[←hy24]at he23 hc22
   refine q_c 3 0 [] [[o0,(oi n),(ol 0 (A7.arr y24)),o0,o0,(an 3 3)]] [Ea n,n<y8.xs.length,Ec,Hu w b17 (o18+n*3) (A7.arr y24),Qb n15,Qb n15,Qb n15] [(1,Aa k),(2,pt z),(Bh z),(BI k n c),(BK b17 o18 y8),(BC y8),(26,Aa n),(BL n15),(6,Aa n)] ⟨w,n15+1,[(Ak w),(BN z c),(BU z),(BX y24 n15)]⟩ rfl ⟨rfl,(by omega),rfl,EE hc22,rfl,rfl,rfl,Ae⟩ ?_
   refine VQ (fun a w'=>∃ (n25:Nat) (b8:Nat),n15+1≤n25∧St 85 [(1,Aa k),(2,pt z),(Bh z),(BI k n c),(BL n15),(8,pt b8),(BK b17 o18 y8),(BC y8),(26,Aa n)] [] ⟨w,n25,[(Ak w),(BN z c),(BU z),(BX y24 n15),(bk b8 (Am.arr (G8 c k n)) 98)]⟩ a w') ?_ ?_
   ·by_cases h27:(win y24.Partition (-1) ((c.Ac.xs.length:Int) - 1))=true
    ·have hd28:=Iz h27
     by_cases h29:(Je c k y24.Partition)=true
     ·refine DK 36 [0,1,2,3] [(Ak w),(BN z c),(BU z),(BX y24 n15)] rfl rfl ?_
      refine CP [(0,o0),(1,(a1 3)),(2,o0),(3,(a1 1)),(4,o0),(5,(ov (i6 ((c.Ac.xs.length:Int) - 1)))),(12,o0),(13,o0),(16,o0),(17,(a1 3)),(19,o0),(20,o0),(23,(an 7 1)),(24,o0),(25,o0),(26,(a1 3)),(29,o0),(30,o0)] [1,2,4,5,24,25,26,7,32,36,43,44,48,50,51,54,55,57,60,61] [Qb n15,Qb z,Wr ((c.Ac.xs.length:Int) - 1) ((c.Ac.xs.length:Int) - 1),Qb n15,Qb z,Qb z,Qb z,Qb z,Qb z,Qb z,Qb z,Qb n15] [true,true,true,true,true,true,false,false,false,false,false,false,true,true,false,false,true,true,false,true,true,false,false,true,true,true,true,false,false,true,true,false,false,false,false,false,false] [(1,Aa k),(2,pt z),(Bh z),(BI k n c),(BK b17 o18 y8),(BC y8),(26,Aa n),(BL n15),(32,i6 y24.Partition),(PH c),(43,Aa k),(44,Aa n),(48,i6 y24.AC),(50,Aa k),(51,Aa n),(54,.agg (Ai.arr c)),(55,Aa k),(57,i6 y24.Partition),(60,Aa k),(61,Aa n)] ⟨rfl,rfl,Dk,rfl,rfl,rfl,rfl,rfl,rfl,rfl,rfl,rfl,Ae⟩ ?_
      refine Pi (fun x:{p:Nat×Nat×Nat // n15+1≤p.1∧n15+1≤p.2.1∧n15+1≤p.2.2}=>([(1,Aa k),(2,pt z),(Bh z),(BI k n c),(BK b17 o18 y8),(BC y8),(26,Aa n),(BL n15),(8,pt x.1.2.2)],⟨w,x.1.1,[(Ak w),(BN z c),(BU z),(BX y24 n15),(.blk x.1.2.1 (.cells #[i6 ((Af (win y24.Bq 1 16384) 419 ⟨(k:Int),(n:Int)⟩).e),i6 ((Af (win y24.Bq 1 16384) 419 ⟨(k:Int),(n:Int)⟩).Ag.First),i6 ((Af (win y24.Bq 1 16384) 419 ⟨(k:Int),(n:Int)⟩).Ag.Second),i6 ((Af (win y24.AC 82 16384) 420 ⟨(k:Int),(n:Int)⟩).e),i6 ((Af (win y24.AC 82 16384) 420 ⟨(k:Int),(n:Int)⟩).Ag.First),i6 ((Af (win y24.AC 82 16384) 420 ⟨(k:Int),(n:Int)⟩).Ag.Second),i6 ((Af false 422 ⟨(k:Int),(n:Int)⟩).e),i6 ((Af false 422 ⟨(k:Int),(n:Int)⟩).Ag.First),i6 ((Af false 422 ⟨(k:Int),(n:Int)⟩).Ag.Second)] 98 (0,0)) true),(.blk x.1.2.2 (.cells (Am.arr (Bl [(Af (win y24.Bq 1 16384) 419 ⟨(k:Int),(n:Int)⟩),(Af (win y24.AC 82 16384) 420 ⟨(k:Int),(n:Int)⟩),(Af false 422 ⟨(k:Int),(n:Int)⟩)])) 98 (0,0)) true)]⟩)) (fun hK => ?_) ?_
      ·refine O4 35 8 [.cl 6 (.bool (win y24.Partition (-1) ((c.Ac.xs.length:Int) - 1))),.tk 7 (ov (.bool true)),.tk 8 o0,.tk 9 (a1 3),.cl 10 (.bool (win y24.Bq 1 16384)),.tk 11 o0,.cl 14 (.agg #[(Aa k),Aa n]),.cl 15 (.agg (Am.arr (Af (win y24.Bq 1 16384) 419 ⟨(k:Int),(n:Int)⟩))),.cl 18 (.bool (win y24.AC 82 16384)),.cl 21 (.agg #[(Aa k),Aa n]),.cl 22 (.agg (Am.arr (Af (win y24.AC 82 16384) 420 ⟨(k:Int),(n:Int)⟩))),.cl 27 (.bool (Je c k y24.Partition)),.tk 28 (ov (.bool false)),.cl 31 (.agg #[(Aa k),Aa n]),.cl 32 (.agg (Am.arr (Af false 422 ⟨(k:Int),(n:Int)⟩)))] [1,2,4,5,24,25,26,7,46,53,63] [(72,#[i6 y24.Partition,i6 (-1),i6 ((c.Ac.xs.length:Int) - 1)],.bool (win y24.Partition (-1) ((c.Ac.xs.length:Int) - 1))),(72,#[i6 y24.Bq,i6 1,i6 16384],.bool (win y24.Bq 1 16384)),(19,#[(Aa k),Aa n],.agg #[(Aa k),Aa n]),(71,#[.bool (win y24.Bq 1 16384),i6 419,.agg #[(Aa k),Aa n]],.agg (Am.arr (Af (win y24.Bq 1 16384) 419 ⟨(k:Int),(n:Int)⟩))),(72,#[i6 y24.AC,i6 82,i6 16384],.bool (win y24.AC 82 16384)),(19,#[(Aa k),Aa n],.agg #[(Aa k),Aa n]),(71,#[.bool (win y24.AC 82 16384),i6 420,.agg #[(Aa k),Aa n]],.agg (Am.arr (Af (win y24.AC 82 16384) 420 ⟨(k:Int),(n:Int)⟩))),(114,#[.agg (Ai.arr c),Aa k,i6 y24.Partition],.bool (Je c k y24.Partition)),(19,#[(Aa k),Aa n],.agg #[(Aa k),Aa n]),(71,#[.bool false,i6 422,.agg #[(Aa k),Aa n]],.agg (Am.arr (Af false 422 ⟨(k:Int),(n:Int)⟩)))] (Dy 33 4) [Value.bool (win y24.Partition (-1) ((c.Ac.xs.length:Int) - 1))=Value.bool true,Qb n15,Value.bool (!(Je c k y24.Partition))=Value.bool false] [(1,Aa k),(2,pt z),(Bh z),(BI k n c),(BK b17 o18 y8),(BC y8),(26,Aa n),(BL n15),(Qg y24 k n),(JD y24 k n),(NS k n)] (.cells #[i6 0,i6 0,i6 0] 98 (0,0)) [0,1,2,3] ⟨(congrArg Value.bool h27),rfl,by simp[h29],Ae⟩ ⟨fun w33 hw33=>BQ w33 y24.Partition (-1) ((c.Ac.xs.length:Int) - 1),fun w34 hw34=>BQ w34 y24.Bq 1 16384,fun w35 hw35=>Fv w35 (k:Int) (n:Int),fun w36 hw36=>Bg w36 (hL.ext (hw36.ext rfl)) (win y24.Bq 1 16384) 419 (k:Int) (n:Int),fun w37 hw37=>BQ w37 y24.AC 82 16384,fun w38 hw38=>Fv w38 (k:Int) (n:Int),fun w39 hw39=>Bg w39 (hL.ext (hw39.ext rfl)) (win y24.AC 82 16384) 420 (k:Int) (n:Int),fun w40 hw40=>Rk w40 c (hc.ext (hw40.ext rfl) (fun _ h=>h)) k hk y24.Partition,fun w41 hw41=>Fv w41 (k:Int) (n:Int),fun w42 hw42=>Bg w42 (hL.ext (hw42.ext rfl)) false 422 (k:Int) (n:Int),Ae⟩ ?_ (fun hv45 n43 hn44 => ?_)
       ·rintro⟨⟨n46,b47⟩,hb48⟩
        simp only at hb48
        refine AV 33 ?_
        refine Bi o0 [8,1,2,4,5,24,25,26,7,64] [] [(8,pt b47),(1,Aa k),(2,pt z),(Bh z),(BI k n c),(BK b17 o18 y8),(BC y8),(26,Aa n),(BL n15),(64,.slice (some ⟨n46,0,none⟩) 3 3)] ⟨w,n46+1,[(Ak w),(BN z c),(BU z),(BX y24 n15),(bk b47 #[i6 0,i6 0,i6 0] 98),(Yu n46 y24 k n)]⟩ [0,1,2,3] Ae (.inr rfl) ?_
        refine AV 34 ?_
        refine Gi 108 #[.slice (some ⟨n46,0,none⟩) 3 3] (some 65) (.agg (Am.arr (Bl [(Af (win y24.Bq 1 16384) 419 ⟨(k:Int),(n:Int)⟩),(Af (win y24.AC 82 16384) 420 ⟨(k:Int),(n:Int)⟩),(Af false 422 ⟨(k:Int),(n:Int)⟩)]))) [8,1,2,4,5,24,25,26,7,65] [(8,pt b47),(1,Aa k),(2,pt z),(Bh z),(BI k n c),(BK b17 o18 y8),(BC y8),(26,Aa n),(BL n15),(Qa y24 k n)] [0,1,2,3] (fun w49 hw49=>Dp w49 (hL.ext (hw49.ext rfl)) ⟨some ⟨n46,0,none⟩,3,[(Af (win y24.Bq 1 16384) 419 ⟨(k:Int),(n:Int)⟩),(Af (win y24.AC 82 16384) 420 ⟨(k:Int),(n:Int)⟩),(Af false 422 ⟨(k:Int),(n:Int)⟩)]⟩ (Ef hw49 (i:=5) [(Af (win y24.Bq 1 16384) 419 ⟨(k:Int),(n:Int)⟩),(Af (win y24.AC 82 16384) 420 ⟨(k:Int),(n:Int)⟩),(Af false 422 ⟨(k:Int),(n:Int)⟩)]) (show 3≤1000 by decide)) (fun n50 hn51 => ?_)
        replace hn51:n46+1≤n50:=hn51
        refine AV 36 ?_
        refine Bi (an 3 4) [8,1,2,4,5,24,25,26,7] [Qb b47,Qb b47,Qb b47] [(8,pt b47),(1,Aa k),(2,pt z),(Bh z),(BI k n c),(BK b17 o18 y8),(BC y8),(26,Aa n),(BL n15)] ⟨w,n50,[(Ak w),(BN z c),(BU z),(BX y24 n15),(Zp y24 k n b47),(Yu n46 y24 k n)]⟩ [] ⟨rfl,rfl,rfl,Ae⟩ (.inl rfl) ?_
        refine D9 37 [0,1,2,3,4,5] [(Ak w),(BN z c),(BU z),(BX y24 n15),(Zp y24 k n b47),(Yu n46 y24 k n)] rfl rfl ?_
        refine CQ ?_
        refine Cb [1,2,4,5,24,25,26,7,8] [(1,Aa k),(2,pt z),(Bh z),(BI k n c),(BK b17 o18 y8),(BC y8),(26,Aa n),(BL n15),(8,pt b47)] ?_
        refine C9 [0,1,2,3,5,4] [(Ak w),(BN z c),(BU z),(BX y24 n15),(Yu n46 y24 k n),(Zp y24 k n b47)] rfl rfl ?_
        exact hK ⟨(n50,n46,b47),by first | omega | (dsimp only;omega)⟩
       replace hn44:n15+1≤n43:=hn44
       refine MH (fun x:{p:Nat×Nat×Nat // n43≤p.1∧n43≤p.2.1∧n43≤p.2.2}=>[(1,Aa k),(2,pt z),(Bh z),(BI k n c),(BK b17 o18 y8),(BC y8),(26,Aa n),(BL n15),(8,pt x.1.2.1),(Qa y24 k n)]) (fun x=>⟨w,x.1.1,[(Ak w),(BN z c),(BU z),(BX y24 n15),(.blk x.1.2.1 (.cells #[i6 0,i6 0,i6 0] 98 (0,0)) true),(.blk x.1.2.2 (.cells #[i6 ((Af (win y24.Bq 1 16384) 419 ⟨(k:Int),(n:Int)⟩).e),i6 ((Af (win y24.Bq 1 16384) 419 ⟨(k:Int),(n:Int)⟩).Ag.First),i6 ((Af (win y24.Bq 1 16384) 419 ⟨(k:Int),(n:Int)⟩).Ag.Second),i6 ((Af (win y24.AC 82 16384) 420 ⟨(k:Int),(n:Int)⟩).e),i6 ((Af (win y24.AC 82 16384) 420 ⟨(k:Int),(n:Int)⟩).Ag.First),i6 ((Af (win y24.AC 82 16384) 420 ⟨(k:Int),(n:Int)⟩).Ag.Second),i6 ((Af false 422 ⟨(k:Int),(n:Int)⟩).e),i6 ((Af false 422 ⟨(k:Int),(n:Int)⟩).Ag.First),i6 ((Af false 422 ⟨(k:Int),(n:Int)⟩).Ag.Second)] 98 (0,0)) true)]⟩) 1 (Dy 36 1) ?_ (fun hv55 => ?_)
       ·rintro⟨⟨n52,b53,b54⟩,hb56⟩
        simp only at hb56
        show Wg _ _ [(1,Aa k),(2,pt z),(Bh z),(BI k n c),(BK b17 o18 y8),(BC y8),(26,Aa n),(BL n15),(8,pt b53),(Qa y24 k n)] _ ⟨w,n52,[(Ak w),(BN z c),(BU z),(BX y24 n15),(bk b53 #[i6 0,i6 0,i6 0] 98),(Yz y24 k n b54)]⟩ _ _ _ _ _ _ _
        refine AV 36 ?_
        refine Bi (an 3 4) [1,2,4,5,24,25,26,7,8] [Qb b53,Qb b53,Qb b53] [(1,Aa k),(2,pt z),(Bh z),(BI k n c),(BK b17 o18 y8),(BC y8),(26,Aa n),(BL n15),(8,pt b53)] ⟨w,n52,[(Ak w),(BN z c),(BU z),(BX y24 n15),(Zv y24 k n b53),(Yz y24 k n b54)]⟩ [] ⟨rfl,rfl,rfl,Ae⟩ (.inl rfl) ?_
        refine D9 37 [0,1,2,3,4,5] [(Ak w),(BN z c),(BU z),(BX y24 n15),(Zv y24 k n b53),(Yz y24 k n b54)] rfl rfl ?_
        refine CQ ?_
        refine Cb [1,2,4,5,24,25,26,7,8] [(1,Aa k),(2,pt z),(Bh z),(BI k n c),(BK b17 o18 y8),(BC y8),(26,Aa n),(BL n15),(8,pt b53)] ?_
        refine C9 [0,1,2,3,5,4] [(Ak w),(BN z c),(BU z),(BX y24 n15),(Yz y24 k n b54),(Zv y24 k n b53)] rfl rfl ?_
        exact hK ⟨(n52,b54,b53),by first | omega | (dsimp only;omega)⟩
       refine MH (fun x:{p:Nat×Nat×Nat // n43≤p.1∧n43≤p.2.1∧n43≤p.2.2}=>[(1,Aa k),(2,pt z),(Bh z),(BI k n c),(BK b17 o18 y8),(BC y8),(26,Aa n),(BL n15),(8,pt x.1.2.1),(64,.slice (some ⟨x.1.2.2,0,none⟩) 3 3)]) (fun x=>⟨w,x.1.1,[(Ak w),(BN z c),(BU z),(BX y24 n15),(.blk x.1.2.1 (.cells #[i6 0,i6 0,i6 0] 98 (0,0)) true),(.blk x.1.2.2 (.cells #[i6 ((Af (win y24.Bq 1 16384) 419 ⟨(k:Int),(n:Int)⟩).e),i6 ((Af (win y24.Bq 1 16384) 419 ⟨(k:Int),(n:Int)⟩).Ag.First),i6 ((Af (win y24.Bq 1 16384) 419 ⟨(k:Int),(n:Int)⟩).Ag.Second),i6 ((Af (win y24.AC 82 16384) 420 ⟨(k:Int),(n:Int)⟩).e),i6 ((Af (win y24.AC 82 16384) 420 ⟨(k:Int),(n:Int)⟩).Ag.First),i6 ((Af (win y24.AC 82 16384) 420 ⟨(k:Int),(n:Int)⟩).Ag.Second),i6 ((Af false 422 ⟨(k:Int),(n:Int)⟩).e),i6 ((Af false 422 ⟨(k:Int),(n:Int)⟩).Ag.First),i6 ((Af false 422 ⟨(k:Int),(n:Int)⟩).Ag.Second)] 98 (0,0)) true)]⟩) 2 [true,true,true,true,true,true,true,true,true,true,true,true,true,true,true,true,true,true,true,true,true,true,true,true,true,true,true,true,true,true,true,true,true,true,false,true,false] ?_ (fun hv60 => ?_)
       ·rintro⟨⟨n57,b58,b59⟩,hb61⟩
        simp only at hb61
        show Wg _ _ [(1,Aa k),(2,pt z),(Bh z),(BI k n c),(BK b17 o18 y8),(BC y8),(26,Aa n),(BL n15),(8,pt b58),(64,.slice (some ⟨b59,0,none⟩) 3 3)] _ ⟨w,n57,[(Ak w),(BN z c),(BU z),(BX y24 n15),(bk b58 #[i6 0,i6 0,i6 0] 98),(bk b59 #[i6 ((Af (win y24.Bq 1 16384) 419 ⟨(k:Int),(n:Int)⟩).e),i6 ((Af (win y24.Bq 1 16384) 419 ⟨(k:Int),(n:Int)⟩).Ag.First),i6 ((Af (win y24.Bq 1 16384) 419 ⟨(k:Int),(n:Int)⟩).Ag.Second),i6 ((Af (win y24.AC 82 16384) 420 ⟨(k:Int),(n:Int)⟩).e),i6 ((Af (win y24.AC 82 16384) 420 ⟨(k:Int),(n:Int)⟩).Ag.First),i6 ((Af (win y24.AC 82 16384) 420 ⟨(k:Int),(n:Int)⟩).Ag.Second),i6 ((Af false 422 ⟨(k:Int),(n:Int)⟩).e),i6 ((Af false 422 ⟨(k:Int),(n:Int)⟩).Ag.First),i6 ((Af false 422 ⟨(k:Int),(n:Int)⟩).Ag.Second)] 98)]⟩ _ _ _ _ _ _ _
        refine AV 34 ?_
        refine Gi 108 #[.slice (some ⟨b59,0,none⟩) 3 3] (some 65) (.agg (Am.arr (Bl [(Af (win y24.Bq 1 16384) 419 ⟨(k:Int),(n:Int)⟩),(Af (win y24.AC 82 16384) 420 ⟨(k:Int),(n:Int)⟩),(Af false 422 ⟨(k:Int),(n:Int)⟩)]))) [1,2,4,5,24,25,26,7,8,65] [(1,Aa k),(2,pt z),(Bh z),(BI k n c),(BK b17 o18 y8),(BC y8),(26,Aa n),(BL n15),(8,pt b58),(Qa y24 k n)] [0,1,2,3] (fun w62 hw62=>Dp w62 (hL.ext (hw62.ext rfl)) ⟨some ⟨b59,0,none⟩,3,[(Af (win y24.Bq 1 16384) 419 ⟨(k:Int),(n:Int)⟩),(Af (win y24.AC 82 16384) 420 ⟨(k:Int),(n:Int)⟩),(Af false 422 ⟨(k:Int),(n:Int)⟩)]⟩ (Ef hw62 (i:=5) [(Af (win y24.Bq 1 16384) 419 ⟨(k:Int),(n:Int)⟩),(Af (win y24.AC 82 16384) 420 ⟨(k:Int),(n:Int)⟩),(Af false 422 ⟨(k:Int),(n:Int)⟩)]) (show 3≤1000 by decide)) (fun n63 hn64 => ?_)
        replace hn64:n57≤n63:=hn64
        refine CB [1,2,4,5,24,25,26,7,8,65] [(1,Aa k),(2,pt z),(Bh z),(BI k n c),(BK b17 o18 y8),(BC y8),(26,Aa n),(BL n15),(8,pt b58),(Qa y24 k n)] ?_
        exact hv55 ⟨(n63,b58,b59),by first | omega | (dsimp only;omega)⟩
       refine IA [33,35] ?_
       refine List.forall_mem_cons.2 ⟨?_,List.forall_mem_cons.2 ⟨?_,fun _ h=>absurd h List.not_mem_nil⟩⟩
       ·refine Bi o0 [1,2,4,5,24,25,26,7,64] [] [(1,Aa k),(2,pt z),(Bh z),(BI k n c),(BK b17 o18 y8),(BC y8),(26,Aa n),(BL n15),(64,.slice (some ⟨n43,0,none⟩) 3 3)] ⟨w,n43+1,[(Ak w),(BN z c),(BU z),(BX y24 n15),(WM y24 k n n43)]⟩ [0,1,2,3] Ae (.inr rfl) ?_
        refine IA [34,35] ?_
        refine List.forall_mem_cons.2 ⟨?_,List.forall_mem_cons.2 ⟨?_,fun _ h=>absurd h List.not_mem_nil⟩⟩
        ·refine Gi 108 #[.slice (some ⟨n43,0,none⟩) 3 3] (some 65) (.agg (Am.arr (Bl [(Af (win y24.Bq 1 16384) 419 ⟨(k:Int),(n:Int)⟩),(Af (win y24.AC 82 16384) 420 ⟨(k:Int),(n:Int)⟩),(Af false 422 ⟨(k:Int),(n:Int)⟩)]))) [1,2,4,5,24,25,26,7,65] [(1,Aa k),(2,pt z),(Bh z),(BI k n c),(BK b17 o18 y8),(BC y8),(26,Aa n),(BL n15),(Qa y24 k n)] [0,1,2,3] (fun w65 hw65=>Dp w65 (hL.ext (hw65.ext rfl)) ⟨some ⟨n43,0,none⟩,3,[(Af (win y24.Bq 1 16384) 419 ⟨(k:Int),(n:Int)⟩),(Af (win y24.AC 82 16384) 420 ⟨(k:Int),(n:Int)⟩),(Af false 422 ⟨(k:Int),(n:Int)⟩)]⟩ (Ef hw65 (i:=4) [(Af (win y24.Bq 1 16384) 419 ⟨(k:Int),(n:Int)⟩),(Af (win y24.AC 82 16384) 420 ⟨(k:Int),(n:Int)⟩),(Af false 422 ⟨(k:Int),(n:Int)⟩)]) (show 3≤1000 by decide)) (fun n66 hn67 => ?_)
         replace hn67:n43+1≤n66:=hn67
         refine AV 35 ?_
         refine Bi o0 [1,2,4,5,24,25,26,7,65,8] [] [(1,Aa k),(2,pt z),(Bh z),(BI k n c),(BK b17 o18 y8),(BC y8),(26,Aa n),(BL n15),(Qa y24 k n),(8,pt n66)] ⟨w,n66+1,[(Ak w),(BN z c),(BU z),(BX y24 n15),(WM y24 k n n43),(bk n66 #[i6 0,i6 0,i6 0] 98)]⟩ [0,1,2,3] Ae (.inr rfl) ?_
         refine KJ [0,1,2,3,5,4] [(Ak w),(BN z c),(BU z),(BX y24 n15),(bk n66 #[i6 0,i6 0,i6 0] 98),(WM y24 k n n43)] rfl rfl ?_
         refine CB [1,2,4,5,24,25,26,7,8,65] [(1,Aa k),(2,pt z),(Bh z),(BI k n c),(BK b17 o18 y8),(BC y8),(26,Aa n),(BL n15),(8,pt n66),(Qa y24 k n)] ?_
         exact hv55 ⟨(n66+1,n66,n43),by first | omega | (dsimp only;omega)⟩
        refine Bi o0 [1,2,4,5,24,25,26,7,64,8] [] [(1,Aa k),(2,pt z),(Bh z),(BI k n c),(BK b17 o18 y8),(BC y8),(26,Aa n),(BL n15),(64,.slice (some ⟨n43,0,none⟩) 3 3),(8,pt (n43+1))] ⟨w,n43+2,[(Ak w),(BN z c),(BU z),(BX y24 n15),(WM y24 k n n43),(bk (n43+1) #[i6 0,i6 0,i6 0] 98)]⟩ [0,1,2,3] Ae (.inr rfl) ?_
        refine KJ [0,1,2,3,5,4] [(Ak w),(BN z c),(BU z),(BX y24 n15),(bk (n43+1) #[i6 0,i6 0,i6 0] 98),(WM y24 k n n43)] rfl rfl ?_
        refine CB [1,2,4,5,24,25,26,7,8,64] [(1,Aa k),(2,pt z),(Bh z),(BI k n c),(BK b17 o18 y8),(BC y8),(26,Aa n),(BL n15),(8,pt (n43+1)),(64,.slice (some ⟨n43,0,none⟩) 3 3)] ?_
        exact hv60 ⟨(n43+2,n43+1,n43),by first | omega | (dsimp only;omega)⟩
       refine Bi o0 [1,2,4,5,24,25,26,7,46,53,63,8] [] [(1,Aa k),(2,pt z),(Bh z),(BI k n c),(BK b17 o18 y8),(BC y8),(26,Aa n),(BL n15),(Qg y24 k n),(JD y24 k n),(NS k n),(8,pt n43)] ⟨w,n43+1,[(Ak w),(BN z c),(BU z),(BX y24 n15),(bk n43 #[i6 0,i6 0,i6 0] 98)]⟩ [0,1,2,3] Ae (.inr rfl) ?_
       refine CB [8,1,2,4,5,24,25,26,7,46,53,63] [(8,pt n43),(1,Aa k),(2,pt z),(Bh z),(BI k n c),(BK b17 o18 y8),(BC y8),(26,Aa n),(BL n15),(Qg y24 k n),(JD y24 k n),(NS k n)] ?_
       exact hv45 ⟨(n43+1,n43),by first | omega | (dsimp only;omega)⟩
      rintro⟨⟨n30,b31,b32⟩,hJ68⟩
      simp only at hJ68
      show E _ _ [(1,Aa k),(2,pt z),(Bh z),(BI k n c),(BK b17 o18 y8),(BC y8),(26,Aa n),(BL n15),(8,pt b32)] _ ⟨w,n30,[(Ak w),(BN z c),(BU z),(BX y24 n15),(bk b31 #[i6 ((Af (win y24.Bq 1 16384) 419 ⟨(k:Int),(n:Int)⟩).e),i6 ((Af (win y24.Bq 1 16384) 419 ⟨(k:Int),(n:Int)⟩).Ag.First),i6 ((Af (win y24.Bq 1 16384) 419 ⟨(k:Int),(n:Int)⟩).Ag.Second),i6 ((Af (win y24.AC 82 16384) 420 ⟨(k:Int),(n:Int)⟩).e),i6 ((Af (win y24.AC 82 16384) 420 ⟨(k:Int),(n:Int)⟩).Ag.First),i6 ((Af (win y24.AC 82 16384) 420 ⟨(k:Int),(n:Int)⟩).Ag.Second),i6 ((Af false 422 ⟨(k:Int),(n:Int)⟩).e),i6 ((Af false 422 ⟨(k:Int),(n:Int)⟩).Ag.First),i6 ((Af false 422 ⟨(k:Int),(n:Int)⟩).Ag.Second)] 98),(ZL y24 k n b32)]⟩ _ _ _
      refine C9 [0,1,2,3,5] [(Ak w),(BN z c),(BU z),(BX y24 n15),(ZL y24 k n b32)] rfl rfl ?_
      have e0:gd (FI c k).xs n=y24:=(by rw[hy24,hy8])
      have eA:G8 c k n=(Bl [(Af (win y24.Bq 1 16384) 419 ⟨(k:Int),(n:Int)⟩),(Af (win y24.AC 82 16384) 420 ⟨(k:Int),(n:Int)⟩),(Af false 422 ⟨(k:Int),(n:Int)⟩)]):=(by unfold G8 VH;simp only[e0];simp[h27,h29])
      refine Cb [1,2,4,5,7,8,24,25,26] [(1,Aa k),(2,pt z),(Bh z),(BI k n c),(BL n15),(8,pt b32),(BK b17 o18 y8),(BC y8),(26,Aa n)] ?_
      refine CS (fun a w' hs=>⟨n30,b32,by omega,(by(try dsimp only[ZL,BU,BX,BN,Qg,JD,NS,PH,BK,BC,Bh,KY,BI,BL]at hs ⊢);rw[eA];exact hs)⟩)
     refine DK 36 [0,1,2,3] [(Ak w),(BN z c),(BU z),(BX y24 n15)] rfl rfl ?_
     refine CP [(0,o0),(1,(a1 3)),(2,o0),(3,(a1 1)),(4,o0),(5,(ov (i6 ((c.Ac.xs.length:Int) - 1)))),(12,o0),(13,o0),(16,o0),(17,(a1 3)),(19,o0),(20,o0),(23,(an 7 1)),(24,o0),(25,o0),(26,(a1 3)),(29,o0),(30,o0)] [1,2,4,5,24,25,26,7,32,36,43,44,48,50,51,54,55,57,60,61] [Qb n15,Qb z,Wr ((c.Ac.xs.length:Int) - 1) ((c.Ac.xs.length:Int) - 1),Qb n15,Qb z,Qb z,Qb z,Qb z,Qb z,Qb z,Qb z,Qb n15] [true,true,true,true,true,true,false,false,false,false,false,false,true,true,false,false,true,true,false,true,true,false,false,true,true,true,true,false,false,true,true,false,false,false,false,false,false] [(1,Aa k),(2,pt z),(Bh z),(BI k n c),(BK b17 o18 y8),(BC y8),(26,Aa n),(BL n15),(32,i6 y24.Partition),(PH c),(43,Aa k),(44,Aa n),(48,i6 y24.AC),(50,Aa k),(51,Aa n),(54,.agg (Ai.arr c)),(55,Aa k),(57,i6 y24.Partition),(60,Aa k),(61,Aa n)] ⟨rfl,rfl,Dk,rfl,rfl,rfl,rfl,rfl,rfl,rfl,rfl,rfl,Ae⟩ ?_
     refine Pi (fun x:{p:Nat×Nat×Nat // n15+1≤p.1∧n15+1≤p.2.1∧n15+1≤p.2.2}=>([(1,Aa k),(2,pt z),(Bh z),(BI k n c),(BK b17 o18 y8),(BC y8),(26,Aa n),(BL n15),(8,pt x.1.2.2)],⟨w,x.1.1,[(Ak w),(BN z c),(BU z),(BX y24 n15),(.blk x.1.2.1 (.cells #[i6 ((Af (win y24.Bq 1 16384) 419 ⟨(k:Int),(n:Int)⟩).e),i6 ((Af (win y24.Bq 1 16384) 419 ⟨(k:Int),(n:Int)⟩).Ag.First),i6 ((Af (win y24.Bq 1 16384) 419 ⟨(k:Int),(n:Int)⟩).Ag.Second),i6 ((Af (win y24.AC 82 16384) 420 ⟨(k:Int),(n:Int)⟩).e),i6 ((Af (win y24.AC 82 16384) 420 ⟨(k:Int),(n:Int)⟩).Ag.First),i6 ((Af (win y24.AC 82 16384) 420 ⟨(k:Int),(n:Int)⟩).Ag.Second),i6 ((Af true 422 ⟨(k:Int),(n:Int)⟩).e),i6 ((Af true 422 ⟨(k:Int),(n:Int)⟩).Ag.First),i6 ((Af true 422 ⟨(k:Int),(n:Int)⟩).Ag.Second)] 98 (0,0)) true),(.blk x.1.2.2 (.cells (Am.arr (Bl [(Af (win y24.Bq 1 16384) 419 ⟨(k:Int),(n:Int)⟩),(Af (win y24.AC 82 16384) 420 ⟨(k:Int),(n:Int)⟩),(Af true 422 ⟨(k:Int),(n:Int)⟩)])) 98 (0,0)) true)]⟩)) (fun hK => ?_) ?_
     ·refine O4 35 8 [.cl 6 (.bool (win y24.Partition (-1) ((c.Ac.xs.length:Int) - 1))),.tk 7 (ov (.bool true)),.tk 8 o0,.tk 9 (a1 3),.cl 10 (.bool (win y24.Bq 1 16384)),.tk 11 o0,.cl 14 (.agg #[(Aa k),Aa n]),.cl 15 (.agg (Am.arr (Af (win y24.Bq 1 16384) 419 ⟨(k:Int),(n:Int)⟩))),.cl 18 (.bool (win y24.AC 82 16384)),.cl 21 (.agg #[(Aa k),Aa n]),.cl 22 (.agg (Am.arr (Af (win y24.AC 82 16384) 420 ⟨(k:Int),(n:Int)⟩))),.cl 27 (.bool (Je c k y24.Partition)),.tk 28 (ov (.bool true)),.cl 31 (.agg #[(Aa k),Aa n]),.cl 32 (.agg (Am.arr (Af true 422 ⟨(k:Int),(n:Int)⟩)))] [1,2,4,5,24,25,26,7,46,53,63] [(72,#[i6 y24.Partition,i6 (-1),i6 ((c.Ac.xs.length:Int) - 1)],.bool (win y24.Partition (-1) ((c.Ac.xs.length:Int) - 1))),(72,#[i6 y24.Bq,i6 1,i6 16384],.bool (win y24.Bq 1 16384)),(19,#[(Aa k),Aa n],.agg #[(Aa k),Aa n]),(71,#[.bool (win y24.Bq 1 16384),i6 419,.agg #[(Aa k),Aa n]],.agg (Am.arr (Af (win y24.Bq 1 16384) 419 ⟨(k:Int),(n:Int)⟩))),(72,#[i6 y24.AC,i6 82,i6 16384],.bool (win y24.AC 82 16384)),(19,#[(Aa k),Aa n],.agg #[(Aa k),Aa n]),(71,#[.bool (win y24.AC 82 16384),i6 420,.agg #[(Aa k),Aa n]],.agg (Am.arr (Af (win y24.AC 82 16384) 420 ⟨(k:Int),(n:Int)⟩))),(114,#[.agg (Ai.arr c),Aa k,i6 y24.Partition],.bool (Je c k y24.Partition)),(19,#[(Aa k),Aa n],.agg #[(Aa k),Aa n]),(71,#[.bool true,i6 422,.agg #[(Aa k),Aa n]],.agg (Am.arr (Af true 422 ⟨(k:Int),(n:Int)⟩)))] (Dy 33 4) [Value.bool (win y24.Partition (-1) ((c.Ac.xs.length:Int) - 1))=Value.bool true,Qb n15,Value.bool (!(Je c k y24.Partition))=Value.bool true] [(1,Aa k),(2,pt z),(Bh z),(BI k n c),(BK b17 o18 y8),(BC y8),(26,Aa n),(BL n15),(Qg y24 k n),(JD y24 k n),(PE k n)] (.cells #[i6 0,i6 0,i6 0] 98 (0,0)) [0,1,2,3] ⟨(congrArg Value.bool h27),rfl,by simp[h29],Ae⟩ ⟨fun w72 hw72=>BQ w72 y24.Partition (-1) ((c.Ac.xs.length:Int) - 1),fun w73 hw73=>BQ w73 y24.Bq 1 16384,fun w74 hw74=>Fv w74 (k:Int) (n:Int),fun w75 hw75=>Bg w75 (hL.ext (hw75.ext rfl)) (win y24.Bq 1 16384) 419 (k:Int) (n:Int),fun w76 hw76=>BQ w76 y24.AC 82 16384,fun w77 hw77=>Fv w77 (k:Int) (n:Int),fun w78 hw78=>Bg w78 (hL.ext (hw78.ext rfl)) (win y24.AC 82 16384) 420 (k:Int) (n:Int),fun w79 hw79=>Rk w79 c (hc.ext (hw79.ext rfl) (fun _ h=>h)) k hk y24.Partition,fun w80 hw80=>Fv w80 (k:Int) (n:Int),fun w81 hw81=>Bg w81 (hL.ext (hw81.ext rfl)) true 422 (k:Int) (n:Int),Ae⟩ ?_ (fun hv84 n82 hn83 => ?_)
      ·rintro⟨⟨n85,b86⟩,hb87⟩
       simp only at hb87
       refine AV 33 ?_
       refine Bi o0 [8,1,2,4,5,24,25,26,7,64] [] [(8,pt b86),(1,Aa k),(2,pt z),(Bh z),(BI k n c),(BK b17 o18 y8),(BC y8),(26,Aa n),(BL n15),(64,.slice (some ⟨n85,0,none⟩) 3 3)] ⟨w,n85+1,[(Ak w),(BN z c),(BU z),(BX y24 n15),(bk b86 #[i6 0,i6 0,i6 0] 98),(YO y24 k n n85)]⟩ [0,1,2,3] Ae (.inr rfl) ?_
       refine AV 34 ?_
       refine Gi 108 #[.slice (some ⟨n85,0,none⟩) 3 3] (some 65) (.agg (Am.arr (Bl [(Af (win y24.Bq 1 16384) 419 ⟨(k:Int),(n:Int)⟩),(Af (win y24.AC 82 16384) 420 ⟨(k:Int),(n:Int)⟩),(Af true 422 ⟨(k:Int),(n:Int)⟩)]))) [8,1,2,4,5,24,25,26,7,65] [(8,pt b86),(1,Aa k),(2,pt z),(Bh z),(BI k n c),(BK b17 o18 y8),(BC y8),(26,Aa n),(BL n15),(PK y24 k n)] [0,1,2,3] (fun w88 hw88=>Dp w88 (hL.ext (hw88.ext rfl)) ⟨some ⟨n85,0,none⟩,3,[(Af (win y24.Bq 1 16384) 419 ⟨(k:Int),(n:Int)⟩),(Af (win y24.AC 82 16384) 420 ⟨(k:Int),(n:Int)⟩),(Af true 422 ⟨(k:Int),(n:Int)⟩)]⟩ (Ef hw88 (i:=5) [(Af (win y24.Bq 1 16384) 419 ⟨(k:Int),(n:Int)⟩),(Af (win y24.AC 82 16384) 420 ⟨(k:Int),(n:Int)⟩),(Af true 422 ⟨(k:Int),(n:Int)⟩)]) (show 3≤1000 by decide)) (fun n89 hn90 => ?_)
       replace hn90:n85+1≤n89:=hn90
       refine AV 36 ?_
       refine Bi (an 3 4) [8,1,2,4,5,24,25,26,7] [Qb b86,Qb b86,Qb b86] [(8,pt b86),(1,Aa k),(2,pt z),(Bh z),(BI k n c),(BK b17 o18 y8),(BC y8),(26,Aa n),(BL n15)] ⟨w,n89,[(Ak w),(BN z c),(BU z),(BX y24 n15),(ZO y24 k n b86),(YO y24 k n n85)]⟩ [] ⟨rfl,rfl,rfl,Ae⟩ (.inl rfl) ?_
       refine D9 37 [0,1,2,3,4,5] [(Ak w),(BN z c),(BU z),(BX y24 n15),(ZO y24 k n b86),(YO y24 k n n85)] rfl rfl ?_
       refine CQ ?_
       refine Cb [1,2,4,5,24,25,26,7,8] [(1,Aa k),(2,pt z),(Bh z),(BI k n c),(BK b17 o18 y8),(BC y8),(26,Aa n),(BL n15),(8,pt b86)] ?_
       refine C9 [0,1,2,3,5,4] [(Ak w),(BN z c),(BU z),(BX y24 n15),(YO y24 k n n85),(ZO y24 k n b86)] rfl rfl ?_
       exact hK ⟨(n89,n85,b86),by first | omega | (dsimp only;omega)⟩
      replace hn83:n15+1≤n82:=hn83
      refine MH (fun x:{p:Nat×Nat×Nat // n82≤p.1∧n82≤p.2.1∧n82≤p.2.2}=>[(1,Aa k),(2,pt z),(Bh z),(BI k n c),(BK b17 o18 y8),(BC y8),(26,Aa n),(BL n15),(8,pt x.1.2.1),(PK y24 k n)]) (fun x=>⟨w,x.1.1,[(Ak w),(BN z c),(BU z),(BX y24 n15),(.blk x.1.2.1 (.cells #[i6 0,i6 0,i6 0] 98 (0,0)) true),(.blk x.1.2.2 (.cells #[i6 ((Af (win y24.Bq 1 16384) 419 ⟨(k:Int),(n:Int)⟩).e),i6 ((Af (win y24.Bq 1 16384) 419 ⟨(k:Int),(n:Int)⟩).Ag.First),i6 ((Af (win y24.Bq 1 16384) 419 ⟨(k:Int),(n:Int)⟩).Ag.Second),i6 ((Af (win y24.AC 82 16384) 420 ⟨(k:Int),(n:Int)⟩).e),i6 ((Af (win y24.AC 82 16384) 420 ⟨(k:Int),(n:Int)⟩).Ag.First),i6 ((Af (win y24.AC 82 16384) 420 ⟨(k:Int),(n:Int)⟩).Ag.Second),i6 ((Af true 422 ⟨(k:Int),(n:Int)⟩).e),i6 ((Af true 422 ⟨(k:Int),(n:Int)⟩).Ag.First),i6 ((Af true 422 ⟨(k:Int),(n:Int)⟩).Ag.Second)] 98 (0,0)) true)]⟩) 1 (Dy 36 1) ?_ (fun hv94 => ?_)
      ·rintro⟨⟨n91,b92,b93⟩,hb95⟩
       simp only at hb95
       show Wg _ _ [(1,Aa k),(2,pt z),(Bh z),(BI k n c),(BK b17 o18 y8),(BC y8),(26,Aa n),(BL n15),(8,pt b92),(PK y24 k n)] _ ⟨w,n91,[(Ak w),(BN z c),(BU z),(BX y24 n15),(bk b92 #[i6 0,i6 0,i6 0] 98),(YP y24 k n b93)]⟩ _ _ _ _ _ _ _
       refine AV 36 ?_
       refine Bi (an 3 4) [1,2,4,5,24,25,26,7,8] [Qb b92,Qb b92,Qb b92] [(1,Aa k),(2,pt z),(Bh z),(BI k n c),(BK b17 o18 y8),(BC y8),(26,Aa n),(BL n15),(8,pt b92)] ⟨w,n91,[(Ak w),(BN z c),(BU z),(BX y24 n15),(ZR y24 k n b92),(YP y24 k n b93)]⟩ [] ⟨rfl,rfl,rfl,Ae⟩ (.inl rfl) ?_
       refine D9 37 [0,1,2,3,4,5] [(Ak w),(BN z c),(BU z),(BX y24 n15),(ZR y24 k n b92),(YP y24 k n b93)] rfl rfl ?_
       refine CQ ?_
       refine Cb [1,2,4,5,24,25,26,7,8] [(1,Aa k),(2,pt z),(Bh z),(BI k n c),(BK b17 o18 y8),(BC y8),(26,Aa n),(BL n15),(8,pt b92)] ?_
       refine C9 [0,1,2,3,5,4] [(Ak w),(BN z c),(BU z),(BX y24 n15),(YP y24 k n b93),(ZR y24 k n b92)] rfl rfl ?_
       exact hK ⟨(n91,b93,b92),by first | omega | (dsimp only;omega)⟩
      refine MH (fun x:{p:Nat×Nat×Nat // n82≤p.1∧n82≤p.2.1∧n82≤p.2.2}=>[(1,Aa k),(2,pt z),(Bh z),(BI k n c),(BK b17 o18 y8),(BC y8),(26,Aa n),(BL n15),(8,pt x.1.2.1),(64,.slice (some ⟨x.1.2.2,0,none⟩) 3 3)]) (fun x=>⟨w,x.1.1,[(Ak w),(BN z c),(BU z),(BX y24 n15),(.blk x.1.2.1 (.cells #[i6 0,i6 0,i6 0] 98 (0,0)) true),(.blk x.1.2.2 (.cells #[i6 ((Af (win y24.Bq 1 16384) 419 ⟨(k:Int),(n:Int)⟩).e),i6 ((Af (win y24.Bq 1 16384) 419 ⟨(k:Int),(n:Int)⟩).Ag.First),i6 ((Af (win y24.Bq 1 16384) 419 ⟨(k:Int),(n:Int)⟩).Ag.Second),i6 ((Af (win y24.AC 82 16384) 420 ⟨(k:Int),(n:Int)⟩).e),i6 ((Af (win y24.AC 82 16384) 420 ⟨(k:Int),(n:Int)⟩).Ag.First),i6 ((Af (win y24.AC 82 16384) 420 ⟨(k:Int),(n:Int)⟩).Ag.Second),i6 ((Af true 422 ⟨(k:Int),(n:Int)⟩).e),i6 ((Af true 422 ⟨(k:Int),(n:Int)⟩).Ag.First),i6 ((Af true 422 ⟨(k:Int),(n:Int)⟩).Ag.Second)] 98 (0,0)) true)]⟩) 2 [true,true,true,true,true,true,true,true,true,true,true,true,true,true,true,true,true,true,true,true,true,true,true,true,true,true,true,true,true,true,true,true,true,true,false,true,false] ?_ (fun hv99 => ?_)
      ·rintro⟨⟨n96,b97,b98⟩,hb100⟩
       simp only at hb100
       show Wg _ _ [(1,Aa k),(2,pt z),(Bh z),(BI k n c),(BK b17 o18 y8),(BC y8),(26,Aa n),(BL n15),(8,pt b97),(64,.slice (some ⟨b98,0,none⟩) 3 3)] _ ⟨w,n96,[(Ak w),(BN z c),(BU z),(BX y24 n15),(bk b97 #[i6 0,i6 0,i6 0] 98),(bk b98 #[i6 ((Af (win y24.Bq 1 16384) 419 ⟨(k:Int),(n:Int)⟩).e),i6 ((Af (win y24.Bq 1 16384) 419 ⟨(k:Int),(n:Int)⟩).Ag.First),i6 ((Af (win y24.Bq 1 16384) 419 ⟨(k:Int),(n:Int)⟩).Ag.Second),i6 ((Af (win y24.AC 82 16384) 420 ⟨(k:Int),(n:Int)⟩).e),i6 ((Af (win y24.AC 82 16384) 420 ⟨(k:Int),(n:Int)⟩).Ag.First),i6 ((Af (win y24.AC 82 16384) 420 ⟨(k:Int),(n:Int)⟩).Ag.Second),i6 ((Af true 422 ⟨(k:Int),(n:Int)⟩).e),i6 ((Af true 422 ⟨(k:Int),(n:Int)⟩).Ag.First),i6 ((Af true 422 ⟨(k:Int),(n:Int)⟩).Ag.Second)] 98)]⟩ _ _ _ _ _ _ _
       refine AV 34 ?_
       refine Gi 108 #[.slice (some ⟨b98,0,none⟩) 3 3] (some 65) (.agg (Am.arr (Bl [(Af (win y24.Bq 1 16384) 419 ⟨(k:Int),(n:Int)⟩),(Af (win y24.AC 82 16384) 420 ⟨(k:Int),(n:Int)⟩),(Af true 422 ⟨(k:Int),(n:Int)⟩)]))) [1,2,4,5,24,25,26,7,8,65] [(1,Aa k),(2,pt z),(Bh z),(BI k n c),(BK b17 o18 y8),(BC y8),(26,Aa n),(BL n15),(8,pt b97),(PK y24 k n)] [0,1,2,3] (fun w101 hw101=>Dp w101 (hL.ext (hw101.ext rfl)) ⟨some ⟨b98,0,none⟩,3,[(Af (win y24.Bq 1 16384) 419 ⟨(k:Int),(n:Int)⟩),(Af (win y24.AC 82 16384) 420 ⟨(k:Int),(n:Int)⟩),(Af true 422 ⟨(k:Int),(n:Int)⟩)]⟩ (Ef hw101 (i:=5) [(Af (win y24.Bq 1 16384) 419 ⟨(k:Int),(n:Int)⟩),(Af (win y24.AC 82 16384) 420 ⟨(k:Int),(n:Int)⟩),(Af true 422 ⟨(k:Int),(n:Int)⟩)]) (show 3≤1000 by decide)) (fun n102 hn103 => ?_)
       replace hn103:n96≤n102:=hn103
       refine CB [1,2,4,5,24,25,26,7,8,65] [(1,Aa k),(2,pt z),(Bh z),(BI k n c),(BK b17 o18 y8),(BC y8),(26,Aa n),(BL n15),(8,pt b97),(PK y24 k n)] ?_
       exact hv94 ⟨(n102,b97,b98),by first | omega | (dsimp only;omega)⟩
      refine IA [33,35] ?_
      refine List.forall_mem_cons.2 ⟨?_,List.forall_mem_cons.2 ⟨?_,fun _ h=>absurd h List.not_mem_nil⟩⟩
      ·refine Bi o0 [1,2,4,5,24,25,26,7,64] [] [(1,Aa k),(2,pt z),(Bh z),(BI k n c),(BK b17 o18 y8),(BC y8),(26,Aa n),(BL n15),(64,.slice (some ⟨n82,0,none⟩) 3 3)] ⟨w,n82+1,[(Ak w),(BN z c),(BU z),(BX y24 n15),(Wu y24 k n n82)]⟩ [0,1,2,3] Ae (.inr rfl) ?_
       refine IA [34,35] ?_
       refine List.forall_mem_cons.2 ⟨?_,List.forall_mem_cons.2 ⟨?_,fun _ h=>absurd h List.not_mem_nil⟩⟩
       ·refine Gi 108 #[.slice (some ⟨n82,0,none⟩) 3 3] (some 65) (.agg (Am.arr (Bl [(Af (win y24.Bq 1 16384) 419 ⟨(k:Int),(n:Int)⟩),(Af (win y24.AC 82 16384) 420 ⟨(k:Int),(n:Int)⟩),(Af true 422 ⟨(k:Int),(n:Int)⟩)]))) [1,2,4,5,24,25,26,7,65] [(1,Aa k),(2,pt z),(Bh z),(BI k n c),(BK b17 o18 y8),(BC y8),(26,Aa n),(BL n15),(PK y24 k n)] [0,1,2,3] (fun w104 hw104=>Dp w104 (hL.ext (hw104.ext rfl)) ⟨some ⟨n82,0,none⟩,3,[(Af (win y24.Bq 1 16384) 419 ⟨(k:Int),(n:Int)⟩),(Af (win y24.AC 82 16384) 420 ⟨(k:Int),(n:Int)⟩),(Af true 422 ⟨(k:Int),(n:Int)⟩)]⟩ (Ef hw104 (i:=4) [(Af (win y24.Bq 1 16384) 419 ⟨(k:Int),(n:Int)⟩),(Af (win y24.AC 82 16384) 420 ⟨(k:Int),(n:Int)⟩),(Af true 422 ⟨(k:Int),(n:Int)⟩)]) (show 3≤1000 by decide)) (fun n105 hn106 => ?_)
        replace hn106:n82+1≤n105:=hn106
        refine AV 35 ?_
        refine Bi o0 [1,2,4,5,24,25,26,7,65,8] [] [(1,Aa k),(2,pt z),(Bh z),(BI k n c),(BK b17 o18 y8),(BC y8),(26,Aa n),(BL n15),(PK y24 k n),(8,pt n105)] ⟨w,n105+1,[(Ak w),(BN z c),(BU z),(BX y24 n15),(Wu y24 k n n82),(bk n105 #[i6 0,i6 0,i6 0] 98)]⟩ [0,1,2,3] Ae (.inr rfl) ?_
        refine KJ [0,1,2,3,5,4] [(Ak w),(BN z c),(BU z),(BX y24 n15),(bk n105 #[i6 0,i6 0,i6 0] 98),(Wu y24 k n n82)] rfl rfl ?_
        refine CB [1,2,4,5,24,25,26,7,8,65] [(1,Aa k),(2,pt z),(Bh z),(BI k n c),(BK b17 o18 y8),(BC y8),(26,Aa n),(BL n15),(8,pt n105),(PK y24 k n)] ?_
        exact hv94 ⟨(n105+1,n105,n82),by first | omega | (dsimp only;omega)⟩
       refine Bi o0 [1,2,4,5,24,25,26,7,64,8] [] [(1,Aa k),(2,pt z),(Bh z),(BI k n c),(BK b17 o18 y8),(BC y8),(26,Aa n),(BL n15),(64,.slice (some ⟨n82,0,none⟩) 3 3),(8,pt (n82+1))] ⟨w,n82+2,[(Ak w),(BN z c),(BU z),(BX y24 n15),(Wu y24 k n n82),(bk (n82+1) #[i6 0,i6 0,i6 0] 98)]⟩ [0,1,2,3] Ae (.inr rfl) ?_
       refine KJ [0,1,2,3,5,4] [(Ak w),(BN z c),(BU z),(BX y24 n15),(bk (n82+1) #[i6 0,i6 0,i6 0] 98),(Wu y24 k n n82)] rfl rfl ?_
       refine CB [1,2,4,5,24,25,26,7,8,64] [(1,Aa k),(2,pt z),(Bh z),(BI k n c),(BK b17 o18 y8),(BC y8),(26,Aa n),(BL n15),(8,pt (n82+1)),(64,.slice (some ⟨n82,0,none⟩) 3 3)] ?_
       exact hv99 ⟨(n82+2,n82+1,n82),by first | omega | (dsimp only;omega)⟩
      refine Bi o0 [1,2,4,5,24,25,26,7,46,53,63,8] [] [(1,Aa k),(2,pt z),(Bh z),(BI k n c),(BK b17 o18 y8),(BC y8),(26,Aa n),(BL n15),(Qg y24 k n),(JD y24 k n),(PE k n),(8,pt n82)] ⟨w,n82+1,[(Ak w),(BN z c),(BU z),(BX y24 n15),(bk n82 #[i6 0,i6 0,i6 0] 98)]⟩ [0,1,2,3] Ae (.inr rfl) ?_
      refine CB [8,1,2,4,5,24,25,26,7,46,53,63] [(8,pt n82),(1,Aa k),(2,pt z),(Bh z),(BI k n c),(BK b17 o18 y8),(BC y8),(26,Aa n),(BL n15),(Qg y24 k n),(JD y24 k n),(PE k n)] ?_
      exact hv84 ⟨(n82+1,n82),by first | omega | (dsimp only;omega)⟩
     rintro⟨⟨n69,b70,b71⟩,hJ107⟩
     simp only at hJ107
     show E _ _ [(1,Aa k),(2,pt z),(Bh z),(BI k n c),(BK b17 o18 y8),(BC y8),(26,Aa n),(BL n15),(8,pt b71)] _ ⟨w,n69,[(Ak w),(BN z c),(BU z),(BX y24 n15),(bk b70 #[i6 ((Af (win y24.Bq 1 16384) 419 ⟨(k:Int),(n:Int)⟩).e),i6 ((Af (win y24.Bq 1 16384) 419 ⟨(k:Int),(n:Int)⟩).Ag.First),i6 ((Af (win y24.Bq 1 16384) 419 ⟨(k:Int),(n:Int)⟩).Ag.Second),i6 ((Af (win y24.AC 82 16384) 420 ⟨(k:Int),(n:Int)⟩).e),i6 ((Af (win y24.AC 82 16384) 420 ⟨(k:Int),(n:Int)⟩).Ag.First),i6 ((Af (win y24.AC 82 16384) 420 ⟨(k:Int),(n:Int)⟩).Ag.Second),i6 ((Af true 422 ⟨(k:Int),(n:Int)⟩).e),i6 ((Af true 422 ⟨(k:Int),(n:Int)⟩).Ag.First),i6 ((Af true 422 ⟨(k:Int),(n:Int)⟩).Ag.Second)] 98),(ZJ y24 k n b71)]⟩ _ _ _
     refine C9 [0,1,2,3,5] [(Ak w),(BN z c),(BU z),(BX y24 n15),(ZJ y24 k n b71)] rfl rfl ?_
     have e0:gd (FI c k).xs n=y24:=(by rw[hy24,hy8])
     have eA:G8 c k n=(Bl [(Af (win y24.Bq 1 16384) 419 ⟨(k:Int),(n:Int)⟩),(Af (win y24.AC 82 16384) 420 ⟨(k:Int),(n:Int)⟩),(Af true 422 ⟨(k:Int),(n:Int)⟩)]):=(by unfold G8 VH;simp only[e0];simp[h27,h29])
     refine Cb [1,2,4,5,7,8,24,25,26] [(1,Aa k),(2,pt z),(Bh z),(BI k n c),(BL n15),(8,pt b71),(BK b17 o18 y8),(BC y8),(26,Aa n)] ?_
     refine CS (fun a w' hs=>⟨n69,b71,by omega,(by(try dsimp only[ZJ,BU,BX,BN,Qg,JD,NS,PE,PH,BK,BC,Bh,KY,BI,BL]at hs ⊢);rw[eA];exact hs)⟩)
    have hd108:=KL h27
    by_cases h109:(Je c k y24.Partition)=true
    ·refine DK 36 [0,1,2,3] [(Ak w),(BN z c),(BU z),(BX y24 n15)] rfl rfl ?_
     refine CP [(0,o0),(1,(a1 3)),(2,o0),(3,(a1 1)),(4,o0),(5,(ov (i6 ((c.Ac.xs.length:Int) - 1)))),(12,o0),(13,o0),(16,o0),(17,(a1 3)),(19,o0),(20,o0),(23,(an 7 1)),(24,o0),(25,o0),(26,(a1 3)),(29,o0),(30,o0)] [1,2,4,5,24,25,26,7,32,36,43,44,48,50,51,54,55,57,60,61] [Qb n15,Qb z,Wr ((c.Ac.xs.length:Int) - 1) ((c.Ac.xs.length:Int) - 1),Qb n15,Qb z,Qb z,Qb z,Qb z,Qb z,Qb z,Qb z,Qb n15] [true,true,true,true,true,true,false,false,false,false,false,false,true,true,false,false,true,true,false,true,true,false,false,true,true,true,true,false,false,true,true,false,false,false,false,false,false] [(1,Aa k),(2,pt z),(Bh z),(BI k n c),(BK b17 o18 y8),(BC y8),(26,Aa n),(BL n15),(32,i6 y24.Partition),(PH c),(43,Aa k),(44,Aa n),(48,i6 y24.AC),(50,Aa k),(51,Aa n),(54,.agg (Ai.arr c)),(55,Aa k),(57,i6 y24.Partition),(60,Aa k),(61,Aa n)] ⟨rfl,rfl,Dk,rfl,rfl,rfl,rfl,rfl,rfl,rfl,rfl,rfl,Ae⟩ ?_
     refine Pi (fun x:{p:Nat×Nat×Nat // n15+1≤p.1∧n15+1≤p.2.1∧n15+1≤p.2.2}=>([(1,Aa k),(2,pt z),(Bh z),(BI k n c),(BK b17 o18 y8),(BC y8),(26,Aa n),(BL n15),(8,pt x.1.2.2)],⟨w,x.1.1,[(Ak w),(BN z c),(BU z),(BX y24 n15),(.blk x.1.2.1 (.cells #[i6 ((Af false 419 ⟨(k:Int),(n:Int)⟩).e),i6 ((Af false 419 ⟨(k:Int),(n:Int)⟩).Ag.First),i6 ((Af false 419 ⟨(k:Int),(n:Int)⟩).Ag.Second),i6 ((Af (win y24.AC 82 16384) 420 ⟨(k:Int),(n:Int)⟩).e),i6 ((Af (win y24.AC 82 16384) 420 ⟨(k:Int),(n:Int)⟩).Ag.First),i6 ((Af (win y24.AC 82 16384) 420 ⟨(k:Int),(n:Int)⟩).Ag.Second),i6 ((Af false 422 ⟨(k:Int),(n:Int)⟩).e),i6 ((Af false 422 ⟨(k:Int),(n:Int)⟩).Ag.First),i6 ((Af false 422 ⟨(k:Int),(n:Int)⟩).Ag.Second)] 98 (0,0)) true),(.blk x.1.2.2 (.cells (Am.arr (Bl [(Af false 419 ⟨(k:Int),(n:Int)⟩),(Af (win y24.AC 82 16384) 420 ⟨(k:Int),(n:Int)⟩),(Af false 422 ⟨(k:Int),(n:Int)⟩)])) 98 (0,0)) true)]⟩)) (fun hK => ?_) ?_
     ·refine O4 35 8 [.cl 6 (.bool (win y24.Partition (-1) ((c.Ac.xs.length:Int) - 1))),.tk 7 (ov (.bool false)),.tk 8 o0,.tk 9 o0,.tk 10 o0,.tk 11 o0,.cl 14 (.agg #[(Aa k),Aa n]),.cl 15 (.agg (Am.arr (Af false 419 ⟨(k:Int),(n:Int)⟩))),.cl 18 (.bool (win y24.AC 82 16384)),.cl 21 (.agg #[(Aa k),Aa n]),.cl 22 (.agg (Am.arr (Af (win y24.AC 82 16384) 420 ⟨(k:Int),(n:Int)⟩))),.cl 27 (.bool (Je c k y24.Partition)),.tk 28 (ov (.bool false)),.cl 31 (.agg #[(Aa k),Aa n]),.cl 32 (.agg (Am.arr (Af false 422 ⟨(k:Int),(n:Int)⟩)))] [1,2,4,5,24,25,26,7,46,53,63] [(72,#[i6 y24.Partition,i6 (-1),i6 ((c.Ac.xs.length:Int) - 1)],.bool (win y24.Partition (-1) ((c.Ac.xs.length:Int) - 1))),(19,#[(Aa k),Aa n],.agg #[(Aa k),Aa n]),(71,#[.bool false,i6 419,.agg #[(Aa k),Aa n]],.agg (Am.arr (Af false 419 ⟨(k:Int),(n:Int)⟩))),(72,#[i6 y24.AC,i6 82,i6 16384],.bool (win y24.AC 82 16384)),(19,#[(Aa k),Aa n],.agg #[(Aa k),Aa n]),(71,#[.bool (win y24.AC 82 16384),i6 420,.agg #[(Aa k),Aa n]],.agg (Am.arr (Af (win y24.AC 82 16384) 420 ⟨(k:Int),(n:Int)⟩))),(114,#[.agg (Ai.arr c),Aa k,i6 y24.Partition],.bool (Je c k y24.Partition)),(19,#[(Aa k),Aa n],.agg #[(Aa k),Aa n]),(71,#[.bool false,i6 422,.agg #[(Aa k),Aa n]],.agg (Am.arr (Af false 422 ⟨(k:Int),(n:Int)⟩)))] (Dy 33 4) [Value.bool (win y24.Partition (-1) ((c.Ac.xs.length:Int) - 1))=Value.bool false,Value.bool (!(Je c k y24.Partition))=Value.bool false] [(1,Aa k),(2,pt z),(Bh z),(BI k n c),(BK b17 o18 y8),(BC y8),(26,Aa n),(BL n15),(Qk k n),(JD y24 k n),(NS k n)] (.cells #[i6 0,i6 0,i6 0] 98 (0,0)) [0,1,2,3] ⟨(congrArg Value.bool (Bool.eq_false_iff.2 h27)),by simp[h109],Ae⟩ ⟨fun w113 hw113=>BQ w113 y24.Partition (-1) ((c.Ac.xs.length:Int) - 1),fun w114 hw114=>Fv w114 (k:Int) (n:Int),fun w115 hw115=>Bg w115 (hL.ext (hw115.ext rfl)) false 419 (k:Int) (n:Int),fun w116 hw116=>BQ w116 y24.AC 82 16384,fun w117 hw117=>Fv w117 (k:Int) (n:Int),fun w118 hw118=>Bg w118 (hL.ext (hw118.ext rfl)) (win y24.AC 82 16384) 420 (k:Int) (n:Int),fun w119 hw119=>Rk w119 c (hc.ext (hw119.ext rfl) (fun _ h=>h)) k hk y24.Partition,fun w120 hw120=>Fv w120 (k:Int) (n:Int),fun w121 hw121=>Bg w121 (hL.ext (hw121.ext rfl)) false 422 (k:Int) (n:Int),Ae⟩ ?_ (fun hv124 n122 hn123 => ?_)
      ·rintro⟨⟨n125,b126⟩,hb127⟩
       simp only at hb127
       refine AV 33 ?_
       refine Bi o0 [8,1,2,4,5,24,25,26,7,64] [] [(8,pt b126),(1,Aa k),(2,pt z),(Bh z),(BI k n c),(BK b17 o18 y8),(BC y8),(26,Aa n),(BL n15),(64,.slice (some ⟨n125,0,none⟩) 3 3)] ⟨w,n125+1,[(Ak w),(BN z c),(BU z),(BX y24 n15),(bk b126 #[i6 0,i6 0,i6 0] 98),(YW y24 k n n125)]⟩ [0,1,2,3] Ae (.inr rfl) ?_
       refine AV 34 ?_
       refine Gi 108 #[.slice (some ⟨n125,0,none⟩) 3 3] (some 65) (.agg (Am.arr (Bl [(Af false 419 ⟨(k:Int),(n:Int)⟩),(Af (win y24.AC 82 16384) 420 ⟨(k:Int),(n:Int)⟩),(Af false 422 ⟨(k:Int),(n:Int)⟩)]))) [8,1,2,4,5,24,25,26,7,65] [(8,pt b126),(1,Aa k),(2,pt z),(Bh z),(BI k n c),(BK b17 o18 y8),(BC y8),(26,Aa n),(BL n15),(PM y24 k n)] [0,1,2,3] (fun w128 hw128=>Dp w128 (hL.ext (hw128.ext rfl)) ⟨some ⟨n125,0,none⟩,3,[(Af false 419 ⟨(k:Int),(n:Int)⟩),(Af (win y24.AC 82 16384) 420 ⟨(k:Int),(n:Int)⟩),(Af false 422 ⟨(k:Int),(n:Int)⟩)]⟩ (Ef hw128 (i:=5) [(Af false 419 ⟨(k:Int),(n:Int)⟩),(Af (win y24.AC 82 16384) 420 ⟨(k:Int),(n:Int)⟩),(Af false 422 ⟨(k:Int),(n:Int)⟩)]) (show 3≤1000 by decide)) (fun n129 hn130 => ?_)
       replace hn130:n125+1≤n129:=hn130
       refine AV 36 ?_
       refine Bi (an 3 4) [8,1,2,4,5,24,25,26,7] [Qb b126,Qb b126,Qb b126] [(8,pt b126),(1,Aa k),(2,pt z),(Bh z),(BI k n c),(BK b17 o18 y8),(BC y8),(26,Aa n),(BL n15)] ⟨w,n129,[(Ak w),(BN z c),(BU z),(BX y24 n15),(ZV y24 k n b126),(YW y24 k n n125)]⟩ [] ⟨rfl,rfl,rfl,Ae⟩ (.inl rfl) ?_
       refine D9 37 [0,1,2,3,4,5] [(Ak w),(BN z c),(BU z),(BX y24 n15),(ZV y24 k n b126),(YW y24 k n n125)] rfl rfl ?_
       refine CQ ?_
       refine Cb [1,2,4,5,24,25,26,7,8] [(1,Aa k),(2,pt z),(Bh z),(BI k n c),(BK b17 o18 y8),(BC y8),(26,Aa n),(BL n15),(8,pt b126)] ?_
       refine C9 [0,1,2,3,5,4] [(Ak w),(BN z c),(BU z),(BX y24 n15),(YW y24 k n n125),(ZV y24 k n b126)] rfl rfl ?_
       exact hK ⟨(n129,n125,b126),by first | omega | (dsimp only;omega)⟩
      replace hn123:n15+1≤n122:=hn123
      refine MH (fun x:{p:Nat×Nat×Nat // n122≤p.1∧n122≤p.2.1∧n122≤p.2.2}=>[(1,Aa k),(2,pt z),(Bh z),(BI k n c),(BK b17 o18 y8),(BC y8),(26,Aa n),(BL n15),(8,pt x.1.2.1),(PM y24 k n)]) (fun x=>⟨w,x.1.1,[(Ak w),(BN z c),(BU z),(BX y24 n15),(.blk x.1.2.1 (.cells #[i6 0,i6 0,i6 0] 98 (0,0)) true),(.blk x.1.2.2 (.cells #[i6 ((Af false 419 ⟨(k:Int),(n:Int)⟩).e),i6 ((Af false 419 ⟨(k:Int),(n:Int)⟩).Ag.First),i6 ((Af false 419 ⟨(k:Int),(n:Int)⟩).Ag.Second),i6 ((Af (win y24.AC 82 16384) 420 ⟨(k:Int),(n:Int)⟩).e),i6 ((Af (win y24.AC 82 16384) 420 ⟨(k:Int),(n:Int)⟩).Ag.First),i6 ((Af (win y24.AC 82 16384) 420 ⟨(k:Int),(n:Int)⟩).Ag.Second),i6 ((Af false 422 ⟨(k:Int),(n:Int)⟩).e),i6 ((Af false 422 ⟨(k:Int),(n:Int)⟩).Ag.First),i6 ((Af false 422 ⟨(k:Int),(n:Int)⟩).Ag.Second)] 98 (0,0)) true)]⟩) 1 (Dy 36 1) ?_ (fun hv134 => ?_)
      ·rintro⟨⟨n131,b132,b133⟩,hb135⟩
       simp only at hb135
       show Wg _ _ [(1,Aa k),(2,pt z),(Bh z),(BI k n c),(BK b17 o18 y8),(BC y8),(26,Aa n),(BL n15),(8,pt b132),(PM y24 k n)] _ ⟨w,n131,[(Ak w),(BN z c),(BU z),(BX y24 n15),(bk b132 #[i6 0,i6 0,i6 0] 98),(YY y24 k n b133)]⟩ _ _ _ _ _ _ _
       refine AV 36 ?_
       refine Bi (an 3 4) [1,2,4,5,24,25,26,7,8] [Qb b132,Qb b132,Qb b132] [(1,Aa k),(2,pt z),(Bh z),(BI k n c),(BK b17 o18 y8),(BC y8),(26,Aa n),(BL n15),(8,pt b132)] ⟨w,n131,[(Ak w),(BN z c),(BU z),(BX y24 n15),(Zu y24 k n b132),(YY y24 k n b133)]⟩ [] ⟨rfl,rfl,rfl,Ae⟩ (.inl rfl) ?_
       refine D9 37 [0,1,2,3,4,5] [(Ak w),(BN z c),(BU z),(BX y24 n15),(Zu y24 k n b132),(YY y24 k n b133)] rfl rfl ?_
       refine CQ ?_
       refine Cb [1,2,4,5,24,25,26,7,8] [(1,Aa k),(2,pt z),(Bh z),(BI k n c),(BK b17 o18 y8),(BC y8),(26,Aa n),(BL n15),(8,pt b132)] ?_
       refine C9 [0,1,2,3,5,4] [(Ak w),(BN z c),(BU z),(BX y24 n15),(YY y24 k n b133),(Zu y24 k n b132)] rfl rfl ?_
       exact hK ⟨(n131,b133,b132),by first | omega | (dsimp only;omega)⟩
      refine MH (fun x:{p:Nat×Nat×Nat // n122≤p.1∧n122≤p.2.1∧n122≤p.2.2}=>[(1,Aa k),(2,pt z),(Bh z),(BI k n c),(BK b17 o18 y8),(BC y8),(26,Aa n),(BL n15),(8,pt x.1.2.1),(64,.slice (some ⟨x.1.2.2,0,none⟩) 3 3)]) (fun x=>⟨w,x.1.1,[(Ak w),(BN z c),(BU z),(BX y24 n15),(.blk x.1.2.1 (.cells #[i6 0,i6 0,i6 0] 98 (0,0)) true),(.blk x.1.2.2 (.cells #[i6 ((Af false 419 ⟨(k:Int),(n:Int)⟩).e),i6 ((Af false 419 ⟨(k:Int),(n:Int)⟩).Ag.First),i6 ((Af false 419 ⟨(k:Int),(n:Int)⟩).Ag.Second),i6 ((Af (win y24.AC 82 16384) 420 ⟨(k:Int),(n:Int)⟩).e),i6 ((Af (win y24.AC 82 16384) 420 ⟨(k:Int),(n:Int)⟩).Ag.First),i6 ((Af (win y24.AC 82 16384) 420 ⟨(k:Int),(n:Int)⟩).Ag.Second),i6 ((Af false 422 ⟨(k:Int),(n:Int)⟩).e),i6 ((Af false 422 ⟨(k:Int),(n:Int)⟩).Ag.First),i6 ((Af false 422 ⟨(k:Int),(n:Int)⟩).Ag.Second)] 98 (0,0)) true)]⟩) 2 [true,true,true,true,true,true,true,true,true,true,true,true,true,true,true,true,true,true,true,true,true,true,true,true,true,true,true,true,true,true,true,true,true,true,false,true,false] ?_ (fun hv139 => ?_)
      ·rintro⟨⟨n136,b137,b138⟩,hb140⟩
       simp only at hb140
       show Wg _ _ [(1,Aa k),(2,pt z),(Bh z),(BI k n c),(BK b17 o18 y8),(BC y8),(26,Aa n),(BL n15),(8,pt b137),(64,.slice (some ⟨b138,0,none⟩) 3 3)] _ ⟨w,n136,[(Ak w),(BN z c),(BU z),(BX y24 n15),(bk b137 #[i6 0,i6 0,i6 0] 98),(bk b138 #[i6 ((Af false 419 ⟨(k:Int),(n:Int)⟩).e),i6 ((Af false 419 ⟨(k:Int),(n:Int)⟩).Ag.First),i6 ((Af false 419 ⟨(k:Int),(n:Int)⟩).Ag.Second),i6 ((Af (win y24.AC 82 16384) 420 ⟨(k:Int),(n:Int)⟩).e),i6 ((Af (win y24.AC 82 16384) 420 ⟨(k:Int),(n:Int)⟩).Ag.First),i6 ((Af (win y24.AC 82 16384) 420 ⟨(k:Int),(n:Int)⟩).Ag.Second),i6 ((Af false 422 ⟨(k:Int),(n:Int)⟩).e),i6 ((Af false 422 ⟨(k:Int),(n:Int)⟩).Ag.First),i6 ((Af false 422 ⟨(k:Int),(n:Int)⟩).Ag.Second)] 98)]⟩ _ _ _ _ _ _ _
       refine AV 34 ?_
       refine Gi 108 #[.slice (some ⟨b138,0,none⟩) 3 3] (some 65) (.agg (Am.arr (Bl [(Af false 419 ⟨(k:Int),(n:Int)⟩),(Af (win y24.AC 82 16384) 420 ⟨(k:Int),(n:Int)⟩),(Af false 422 ⟨(k:Int),(n:Int)⟩)]))) [1,2,4,5,24,25,26,7,8,65] [(1,Aa k),(2,pt z),(Bh z),(BI k n c),(BK b17 o18 y8),(BC y8),(26,Aa n),(BL n15),(8,pt b137),(PM y24 k n)] [0,1,2,3] (fun w141 hw141=>Dp w141 (hL.ext (hw141.ext rfl)) ⟨some ⟨b138,0,none⟩,3,[(Af false 419 ⟨(k:Int),(n:Int)⟩),(Af (win y24.AC 82 16384) 420 ⟨(k:Int),(n:Int)⟩),(Af false 422 ⟨(k:Int),(n:Int)⟩)]⟩ (Ef hw141 (i:=5) [(Af false 419 ⟨(k:Int),(n:Int)⟩),(Af (win y24.AC 82 16384) 420 ⟨(k:Int),(n:Int)⟩),(Af false 422 ⟨(k:Int),(n:Int)⟩)]) (show 3≤1000 by decide)) (fun n142 hn143 => ?_)
       replace hn143:n136≤n142:=hn143
       refine CB [1,2,4,5,24,25,26,7,8,65] [(1,Aa k),(2,pt z),(Bh z),(BI k n c),(BK b17 o18 y8),(BC y8),(26,Aa n),(BL n15),(8,pt b137),(PM y24 k n)] ?_
       exact hv134 ⟨(n142,b137,b138),by first | omega | (dsimp only;omega)⟩
      refine IA [33,35] ?_
      refine List.forall_mem_cons.2 ⟨?_,List.forall_mem_cons.2 ⟨?_,fun _ h=>absurd h List.not_mem_nil⟩⟩
      ·refine Bi o0 [1,2,4,5,24,25,26,7,64] [] [(1,Aa k),(2,pt z),(Bh z),(BI k n c),(BK b17 o18 y8),(BC y8),(26,Aa n),(BL n15),(64,.slice (some ⟨n122,0,none⟩) 3 3)] ⟨w,n122+1,[(Ak w),(BN z c),(BU z),(BX y24 n15),(Wv y24 k n n122)]⟩ [0,1,2,3] Ae (.inr rfl) ?_
       refine IA [34,35] ?_
       refine List.forall_mem_cons.2 ⟨?_,List.forall_mem_cons.2 ⟨?_,fun _ h=>absurd h List.not_mem_nil⟩⟩
       ·refine Gi 108 #[.slice (some ⟨n122,0,none⟩) 3 3] (some 65) (.agg (Am.arr (Bl [(Af false 419 ⟨(k:Int),(n:Int)⟩),(Af (win y24.AC 82 16384) 420 ⟨(k:Int),(n:Int)⟩),(Af false 422 ⟨(k:Int),(n:Int)⟩)]))) [1,2,4,5,24,25,26,7,65] [(1,Aa k),(2,pt z),(Bh z),(BI k n c),(BK b17 o18 y8),(BC y8),(26,Aa n),(BL n15),(PM y24 k n)] [0,1,2,3] (fun w144 hw144=>Dp w144 (hL.ext (hw144.ext rfl)) ⟨some ⟨n122,0,none⟩,3,[(Af false 419 ⟨(k:Int),(n:Int)⟩),(Af (win y24.AC 82 16384) 420 ⟨(k:Int),(n:Int)⟩),(Af false 422 ⟨(k:Int),(n:Int)⟩)]⟩ (Ef hw144 (i:=4) [(Af false 419 ⟨(k:Int),(n:Int)⟩),(Af (win y24.AC 82 16384) 420 ⟨(k:Int),(n:Int)⟩),(Af false 422 ⟨(k:Int),(n:Int)⟩)]) (show 3≤1000 by decide)) (fun n145 hn146 => ?_)
        replace hn146:n122+1≤n145:=hn146
        refine AV 35 ?_
        refine Bi o0 [1,2,4,5,24,25,26,7,65,8] [] [(1,Aa k),(2,pt z),(Bh z),(BI k n c),(BK b17 o18 y8),(BC y8),(26,Aa n),(BL n15),(PM y24 k n),(8,pt n145)] ⟨w,n145+1,[(Ak w),(BN z c),(BU z),(BX y24 n15),(Wv y24 k n n122),(bk n145 #[i6 0,i6 0,i6 0] 98)]⟩ [0,1,2,3] Ae (.inr rfl) ?_
        refine KJ [0,1,2,3,5,4] [(Ak w),(BN z c),(BU z),(BX y24 n15),(bk n145 #[i6 0,i6 0,i6 0] 98),(Wv y24 k n n122)] rfl rfl ?_
        refine CB [1,2,4,5,24,25,26,7,8,65] [(1,Aa k),(2,pt z),(Bh z),(BI k n c),(BK b17 o18 y8),(BC y8),(26,Aa n),(BL n15),(8,pt n145),(PM y24 k n)] ?_
        exact hv134 ⟨(n145+1,n145,n122),by first | omega | (dsimp only;omega)⟩
       refine Bi o0 [1,2,4,5,24,25,26,7,64,8] [] [(1,Aa k),(2,pt z),(Bh z),(BI k n c),(BK b17 o18 y8),(BC y8),(26,Aa n),(BL n15),(64,.slice (some ⟨n122,0,none⟩) 3 3),(8,pt (n122+1))] ⟨w,n122+2,[(Ak w),(BN z c),(BU z),(BX y24 n15),(Wv y24 k n n122),(bk (n122+1) #[i6 0,i6 0,i6 0] 98)]⟩ [0,1,2,3] Ae (.inr rfl) ?_
       refine KJ [0,1,2,3,5,4] [(Ak w),(BN z c),(BU z),(BX y24 n15),(bk (n122+1) #[i6 0,i6 0,i6 0] 98),(Wv y24 k n n122)] rfl rfl ?_
       refine CB [1,2,4,5,24,25,26,7,8,64] [(1,Aa k),(2,pt z),(Bh z),(BI k n c),(BK b17 o18 y8),(BC y8),(26,Aa n),(BL n15),(8,pt (n122+1)),(64,.slice (some ⟨n122,0,none⟩) 3 3)] ?_
       exact hv139 ⟨(n122+2,n122+1,n122),by first | omega | (dsimp only;omega)⟩
      refine Bi o0 [1,2,4,5,24,25,26,7,46,53,63,8] [] [(1,Aa k),(2,pt z),(Bh z),(BI k n c),(BK b17 o18 y8),(BC y8),(26,Aa n),(BL n15),(Qk k n),(JD y24 k n),(NS k n),(8,pt n122)] ⟨w,n122+1,[(Ak w),(BN z c),(BU z),(BX y24 n15),(bk n122 #[i6 0,i6 0,i6 0] 98)]⟩ [0,1,2,3] Ae (.inr rfl) ?_
      refine CB [8,1,2,4,5,24,25,26,7,46,53,63] [(8,pt n122),(1,Aa k),(2,pt z),(Bh z),(BI k n c),(BK b17 o18 y8),(BC y8),(26,Aa n),(BL n15),(Qk k n),(JD y24 k n),(NS k n)] ?_
      exact hv124 ⟨(n122+1,n122),by first | omega | (dsimp only;omega)⟩
     rintro⟨⟨n110,b111,b112⟩,hJ147⟩
     simp only at hJ147
     show E _ _ [(1,Aa k),(2,pt z),(Bh z),(BI k n c),(BK b17 o18 y8),(BC y8),(26,Aa n),(BL n15),(8,pt b112)] _ ⟨w,n110,[(Ak w),(BN z c),(BU z),(BX y24 n15),(bk b111 #[i6 ((Af false 419 ⟨(k:Int),(n:Int)⟩).e),i6 ((Af false 419 ⟨(k:Int),(n:Int)⟩).Ag.First),i6 ((Af false 419 ⟨(k:Int),(n:Int)⟩).Ag.Second),i6 ((Af (win y24.AC 82 16384) 420 ⟨(k:Int),(n:Int)⟩).e),i6 ((Af (win y24.AC 82 16384) 420 ⟨(k:Int),(n:Int)⟩).Ag.First),i6 ((Af (win y24.AC 82 16384) 420 ⟨(k:Int),(n:Int)⟩).Ag.Second),i6 ((Af false 422 ⟨(k:Int),(n:Int)⟩).e),i6 ((Af false 422 ⟨(k:Int),(n:Int)⟩).Ag.First),i6 ((Af false 422 ⟨(k:Int),(n:Int)⟩).Ag.Second)] 98),(ZE y24 k n b112)]⟩ _ _ _
     refine C9 [0,1,2,3,5] [(Ak w),(BN z c),(BU z),(BX y24 n15),(ZE y24 k n b112)] rfl rfl ?_
     have e0:gd (FI c k).xs n=y24:=(by rw[hy24,hy8])
     have eA:G8 c k n=(Bl [(Af false 419 ⟨(k:Int),(n:Int)⟩),(Af (win y24.AC 82 16384) 420 ⟨(k:Int),(n:Int)⟩),(Af false 422 ⟨(k:Int),(n:Int)⟩)]):=(by unfold G8 VH;simp only[e0];simp[h27,h109])
     refine Cb [1,2,4,5,7,8,24,25,26] [(1,Aa k),(2,pt z),(Bh z),(BI k n c),(BL n15),(8,pt b112),(BK b17 o18 y8),(BC y8),(26,Aa n)] ?_
     refine CS (fun a w' hs=>⟨n110,b112,by omega,(by(try dsimp only[ZE,BU,BX,BN,JD,NS,Qk,PH,BK,BC,Bh,KY,BI,BL]at hs ⊢);rw[eA];exact hs)⟩)
    refine DK 36 [0,1,2,3] [(Ak w),(BN z c),(BU z),(BX y24 n15)] rfl rfl ?_
    refine CP [(0,o0),(1,(a1 3)),(2,o0),(3,(a1 1)),(4,o0),(5,(ov (i6 ((c.Ac.xs.length:Int) - 1)))),(12,o0),(13,o0),(16,o0),(17,(a1 3)),(19,o0),(20,o0),(23,(an 7 1)),(24,o0),(25,o0),(26,(a1 3)),(29,o0),(30,o0)] [1,2,4,5,24,25,26,7,32,36,43,44,48,50,51,54,55,57,60,61] [Qb n15,Qb z,Wr ((c.Ac.xs.length:Int) - 1) ((c.Ac.xs.length:Int) - 1),Qb n15,Qb z,Qb z,Qb z,Qb z,Qb z,Qb z,Qb z,Qb n15] [true,true,true,true,true,true,false,false,false,false,false,false,true,true,false,false,true,true,false,true,true,false,false,true,true,true,true,false,false,true,true,false,false,false,false,false,false] [(1,Aa k),(2,pt z),(Bh z),(BI k n c),(BK b17 o18 y8),(BC y8),(26,Aa n),(BL n15),(32,i6 y24.Partition),(PH c),(43,Aa k),(44,Aa n),(48,i6 y24.AC),(50,Aa k),(51,Aa n),(54,.agg (Ai.arr c)),(55,Aa k),(57,i6 y24.Partition),(60,Aa k),(61,Aa n)] ⟨rfl,rfl,Dk,rfl,rfl,rfl,rfl,rfl,rfl,rfl,rfl,rfl,Ae⟩ ?_
    refine Pi (fun x:{p:Nat×Nat×Nat // n15+1≤p.1∧n15+1≤p.2.1∧n15+1≤p.2.2}=>([(1,Aa k),(2,pt z),(Bh z),(BI k n c),(BK b17 o18 y8),(BC y8),(26,Aa n),(BL n15),(8,pt x.1.2.2)],⟨w,x.1.1,[(Ak w),(BN z c),(BU z),(BX y24 n15),(.blk x.1.2.1 (.cells #[i6 ((Af false 419 ⟨(k:Int),(n:Int)⟩).e),i6 ((Af false 419 ⟨(k:Int),(n:Int)⟩).Ag.First),i6 ((Af false 419 ⟨(k:Int),(n:Int)⟩).Ag.Second),i6 ((Af (win y24.AC 82 16384) 420 ⟨(k:Int),(n:Int)⟩).e),i6 ((Af (win y24.AC 82 16384) 420 ⟨(k:Int),(n:Int)⟩).Ag.First),i6 ((Af (win y24.AC 82 16384) 420 ⟨(k:Int),(n:Int)⟩).Ag.Second),i6 ((Af true 422 ⟨(k:Int),(n:Int)⟩).e),i6 ((Af true 422 ⟨(k:Int),(n:Int)⟩).Ag.First),i6 ((Af true 422 ⟨(k:Int),(n:Int)⟩).Ag.Second)] 98 (0,0)) true),(.blk x.1.2.2 (.cells (Am.arr (Bl [(Af false 419 ⟨(k:Int),(n:Int)⟩),(Af (win y24.AC 82 16384) 420 ⟨(k:Int),(n:Int)⟩),(Af true 422 ⟨(k:Int),(n:Int)⟩)])) 98 (0,0)) true)]⟩)) (fun hK => ?_) ?_
    ·refine O4 35 8 [.cl 6 (.bool (win y24.Partition (-1) ((c.Ac.xs.length:Int) - 1))),.tk 7 (ov (.bool false)),.tk 8 o0,.tk 9 o0,.tk 10 o0,.tk 11 o0,.cl 14 (.agg #[(Aa k),Aa n]),.cl 15 (.agg (Am.arr (Af false 419 ⟨(k:Int),(n:Int)⟩))),.cl 18 (.bool (win y24.AC 82 16384)),.cl 21 (.agg #[(Aa k),Aa n]),.cl 22 (.agg (Am.arr (Af (win y24.AC 82 16384) 420 ⟨(k:Int),(n:Int)⟩))),.cl 27 (.bool (Je c k y24.Partition)),.tk 28 (ov (.bool true)),.cl 31 (.agg #[(Aa k),Aa n]),.cl 32 (.agg (Am.arr (Af true 422 ⟨(k:Int),(n:Int)⟩)))] [1,2,4,5,24,25,26,7,46,53,63] [(72,#[i6 y24.Partition,i6 (-1),i6 ((c.Ac.xs.length:Int) - 1)],.bool (win y24.Partition (-1) ((c.Ac.xs.length:Int) - 1))),(19,#[(Aa k),Aa n],.agg #[(Aa k),Aa n]),(71,#[.bool false,i6 419,.agg #[(Aa k),Aa n]],.agg (Am.arr (Af false 419 ⟨(k:Int),(n:Int)⟩))),(72,#[i6 y24.AC,i6 82,i6 16384],.bool (win y24.AC 82 16384)),(19,#[(Aa k),Aa n],.agg #[(Aa k),Aa n]),(71,#[.bool (win y24.AC 82 16384),i6 420,.agg #[(Aa k),Aa n]],.agg (Am.arr (Af (win y24.AC 82 16384) 420 ⟨(k:Int),(n:Int)⟩))),(114,#[.agg (Ai.arr c),Aa k,i6 y24.Partition],.bool (Je c k y24.Partition)),(19,#[(Aa k),Aa n],.agg #[(Aa k),Aa n]),(71,#[.bool true,i6 422,.agg #[(Aa k),Aa n]],.agg (Am.arr (Af true 422 ⟨(k:Int),(n:Int)⟩)))] (Dy 33 4) [Value.bool (win y24.Partition (-1) ((c.Ac.xs.length:Int) - 1))=Value.bool false,Value.bool (!(Je c k y24.Partition))=Value.bool true] [(1,Aa k),(2,pt z),(Bh z),(BI k n c),(BK b17 o18 y8),(BC y8),(26,Aa n),(BL n15),(Qk k n),(JD y24 k n),(PE k n)] (.cells #[i6 0,i6 0,i6 0] 98 (0,0)) [0,1,2,3] ⟨(congrArg Value.bool (Bool.eq_false_iff.2 h27)),by simp[h109],Ae⟩ ⟨fun w151 hw151=>BQ w151 y24.Partition (-1) ((c.Ac.xs.length:Int) - 1),fun w152 hw152=>Fv w152 (k:Int) (n:Int),fun w153 hw153=>Bg w153 (hL.ext (hw153.ext rfl)) false 419 (k:Int) (n:Int),fun w154 hw154=>BQ w154 y24.AC 82 16384,fun w155 hw155=>Fv w155 (k:Int) (n:Int),fun w156 hw156=>Bg w156 (hL.ext (hw156.ext rfl)) (win y24.AC 82 16384) 420 (k:Int) (n:Int),fun w157 hw157=>Rk w157 c (hc.ext (hw157.ext rfl) (fun _ h=>h)) k hk y24.Partition,fun w158 hw158=>Fv w158 (k:Int) (n:Int),fun w159 hw159=>Bg w159 (hL.ext (hw159.ext rfl)) true 422 (k:Int) (n:Int),Ae⟩ ?_ (fun hv162 n160 hn161 => ?_)
     ·rintro⟨⟨n163,b164⟩,hb165⟩
      simp only at hb165
      refine AV 33 ?_
      refine Bi o0 [8,1,2,4,5,24,25,26,7,64] [] [(8,pt b164),(1,Aa k),(2,pt z),(Bh z),(BI k n c),(BK b17 o18 y8),(BC y8),(26,Aa n),(BL n15),(64,.slice (some ⟨n163,0,none⟩) 3 3)] ⟨w,n163+1,[(Ak w),(BN z c),(BU z),(BX y24 n15),(bk b164 #[i6 0,i6 0,i6 0] 98),(Yq y24 k n n163)]⟩ [0,1,2,3] Ae (.inr rfl) ?_
      refine AV 34 ?_
      refine Gi 108 #[.slice (some ⟨n163,0,none⟩) 3 3] (some 65) (.agg (Am.arr (Bl [(Af false 419 ⟨(k:Int),(n:Int)⟩),(Af (win y24.AC 82 16384) 420 ⟨(k:Int),(n:Int)⟩),(Af true 422 ⟨(k:Int),(n:Int)⟩)]))) [8,1,2,4,5,24,25,26,7,65] [(8,pt b164),(1,Aa k),(2,pt z),(Bh z),(BI k n c),(BK b17 o18 y8),(BC y8),(26,Aa n),(BL n15),(PP y24 k n)] [0,1,2,3] (fun w166 hw166=>Dp w166 (hL.ext (hw166.ext rfl)) ⟨some ⟨n163,0,none⟩,3,[(Af false 419 ⟨(k:Int),(n:Int)⟩),(Af (win y24.AC 82 16384) 420 ⟨(k:Int),(n:Int)⟩),(Af true 422 ⟨(k:Int),(n:Int)⟩)]⟩ (Ef hw166 (i:=5) [(Af false 419 ⟨(k:Int),(n:Int)⟩),(Af (win y24.AC 82 16384) 420 ⟨(k:Int),(n:Int)⟩),(Af true 422 ⟨(k:Int),(n:Int)⟩)]) (show 3≤1000 by decide)) (fun n167 hn168 => ?_)
      replace hn168:n163+1≤n167:=hn168
      refine AV 36 ?_
      refine Bi (an 3 4) [8,1,2,4,5,24,25,26,7] [Qb b164,Qb b164,Qb b164] [(8,pt b164),(1,Aa k),(2,pt z),(Bh z),(BI k n c),(BK b17 o18 y8),(BC y8),(26,Aa n),(BL n15)] ⟨w,n167,[(Ak w),(BN z c),(BU z),(BX y24 n15),(Zq y24 k n b164),(Yq y24 k n n163)]⟩ [] ⟨rfl,rfl,rfl,Ae⟩ (.inl rfl) ?_
      refine D9 37 [0,1,2,3,4,5] [(Ak w),(BN z c),(BU z),(BX y24 n15),(Zq y24 k n b164),(Yq y24 k n n163)] rfl rfl ?_
      refine CQ ?_
      refine Cb [1,2,4,5,24,25,26,7,8] [(1,Aa k),(2,pt z),(Bh z),(BI k n c),(BK b17 o18 y8),(BC y8),(26,Aa n),(BL n15),(8,pt b164)] ?_
      refine C9 [0,1,2,3,5,4] [(Ak w),(BN z c),(BU z),(BX y24 n15),(Yq y24 k n n163),(Zq y24 k n b164)] rfl rfl ?_
      exact hK ⟨(n167,n163,b164),by first | omega | (dsimp only;omega)⟩
     replace hn161:n15+1≤n160:=hn161
     refine MH (fun x:{p:Nat×Nat×Nat // n160≤p.1∧n160≤p.2.1∧n160≤p.2.2}=>[(1,Aa k),(2,pt z),(Bh z),(BI k n c),(BK b17 o18 y8),(BC y8),(26,Aa n),(BL n15),(8,pt x.1.2.1),(PP y24 k n)]) (fun x=>⟨w,x.1.1,[(Ak w),(BN z c),(BU z),(BX y24 n15),(.blk x.1.2.1 (.cells #[i6 0,i6 0,i6 0] 98 (0,0)) true),(.blk x.1.2.2 (.cells #[i6 ((Af false 419 ⟨(k:Int),(n:Int)⟩).e),i6 ((Af false 419 ⟨(k:Int),(n:Int)⟩).Ag.First),i6 ((Af false 419 ⟨(k:Int),(n:Int)⟩).Ag.Second),i6 ((Af (win y24.AC 82 16384) 420 ⟨(k:Int),(n:Int)⟩).e),i6 ((Af (win y24.AC 82 16384) 420 ⟨(k:Int),(n:Int)⟩).Ag.First),i6 ((Af (win y24.AC 82 16384) 420 ⟨(k:Int),(n:Int)⟩).Ag.Second),i6 ((Af true 422 ⟨(k:Int),(n:Int)⟩).e),i6 ((Af true 422 ⟨(k:Int),(n:Int)⟩).Ag.First),i6 ((Af true 422 ⟨(k:Int),(n:Int)⟩).Ag.Second)] 98 (0,0)) true)]⟩) 1 (Dy 36 1) ?_ (fun hv172 => ?_)
     ·rintro⟨⟨n169,b170,b171⟩,hb173⟩
      simp only at hb173
      show Wg _ _ [(1,Aa k),(2,pt z),(Bh z),(BI k n c),(BK b17 o18 y8),(BC y8),(26,Aa n),(BL n15),(8,pt b170),(PP y24 k n)] _ ⟨w,n169,[(Ak w),(BN z c),(BU z),(BX y24 n15),(bk b170 #[i6 0,i6 0,i6 0] 98),(XG y24 k n b171)]⟩ _ _ _ _ _ _ _
      refine AV 36 ?_
      refine Bi (an 3 4) [1,2,4,5,24,25,26,7,8] [Qb b170,Qb b170,Qb b170] [(1,Aa k),(2,pt z),(Bh z),(BI k n c),(BK b17 o18 y8),(BC y8),(26,Aa n),(BL n15),(8,pt b170)] ⟨w,n169,[(Ak w),(BN z c),(BU z),(BX y24 n15),(ZM y24 k n b170),(XG y24 k n b171)]⟩ [] ⟨rfl,rfl,rfl,Ae⟩ (.inl rfl) ?_
      refine D9 37 [0,1,2,3,4,5] [(Ak w),(BN z c),(BU z),(BX y24 n15),(ZM y24 k n b170),(XG y24 k n b171)] rfl rfl ?_
      refine CQ ?_
      refine Cb [1,2,4,5,24,25,26,7,8] [(1,Aa k),(2,pt z),(Bh z),(BI k n c),(BK b17 o18 y8),(BC y8),(26,Aa n),(BL n15),(8,pt b170)] ?_
      refine C9 [0,1,2,3,5,4] [(Ak w),(BN z c),(BU z),(BX y24 n15),(XG y24 k n b171),(ZM y24 k n b170)] rfl rfl ?_
      exact hK ⟨(n169,b171,b170),by first | omega | (dsimp only;omega)⟩
     refine MH (fun x:{p:Nat×Nat×Nat // n160≤p.1∧n160≤p.2.1∧n160≤p.2.2}=>[(1,Aa k),(2,pt z),(Bh z),(BI k n c),(BK b17 o18 y8),(BC y8),(26,Aa n),(BL n15),(8,pt x.1.2.1),(64,.slice (some ⟨x.1.2.2,0,none⟩) 3 3)]) (fun x=>⟨w,x.1.1,[(Ak w),(BN z c),(BU z),(BX y24 n15),(.blk x.1.2.1 (.cells #[i6 0,i6 0,i6 0] 98 (0,0)) true),(.blk x.1.2.2 (.cells #[i6 ((Af false 419 ⟨(k:Int),(n:Int)⟩).e),i6 ((Af false 419 ⟨(k:Int),(n:Int)⟩).Ag.First),i6 ((Af false 419 ⟨(k:Int),(n:Int)⟩).Ag.Second),i6 ((Af (win y24.AC 82 16384) 420 ⟨(k:Int),(n:Int)⟩).e),i6 ((Af (win y24.AC 82 16384) 420 ⟨(k:Int),(n:Int)⟩).Ag.First),i6 ((Af (win y24.AC 82 16384) 420 ⟨(k:Int),(n:Int)⟩).Ag.Second),i6 ((Af true 422 ⟨(k:Int),(n:Int)⟩).e),i6 ((Af true 422 ⟨(k:Int),(n:Int)⟩).Ag.First),i6 ((Af true 422 ⟨(k:Int),(n:Int)⟩).Ag.Second)] 98 (0,0)) true)]⟩) 2 [true,true,true,true,true,true,true,true,true,true,true,true,true,true,true,true,true,true,true,true,true,true,true,true,true,true,true,true,true,true,true,true,true,true,false,true,false] ?_ (fun hv177 => ?_)
     ·rintro⟨⟨n174,b175,b176⟩,hb178⟩
      simp only at hb178
      show Wg _ _ [(1,Aa k),(2,pt z),(Bh z),(BI k n c),(BK b17 o18 y8),(BC y8),(26,Aa n),(BL n15),(8,pt b175),(64,.slice (some ⟨b176,0,none⟩) 3 3)] _ ⟨w,n174,[(Ak w),(BN z c),(BU z),(BX y24 n15),(bk b175 #[i6 0,i6 0,i6 0] 98),(bk b176 #[i6 ((Af false 419 ⟨(k:Int),(n:Int)⟩).e),i6 ((Af false 419 ⟨(k:Int),(n:Int)⟩).Ag.First),i6 ((Af false 419 ⟨(k:Int),(n:Int)⟩).Ag.Second),i6 ((Af (win y24.AC 82 16384) 420 ⟨(k:Int),(n:Int)⟩).e),i6 ((Af (win y24.AC 82 16384) 420 ⟨(k:Int),(n:Int)⟩).Ag.First),i6 ((Af (win y24.AC 82 16384) 420 ⟨(k:Int),(n:Int)⟩).Ag.Second),i6 ((Af true 422 ⟨(k:Int),(n:Int)⟩).e),i6 ((Af true 422 ⟨(k:Int),(n:Int)⟩).Ag.First),i6 ((Af true 422 ⟨(k:Int),(n:Int)⟩).Ag.Second)] 98)]⟩ _ _ _ _ _ _ _
      refine AV 34 ?_
      refine Gi 108 #[.slice (some ⟨b176,0,none⟩) 3 3] (some 65) (.agg (Am.arr (Bl [(Af false 419 ⟨(k:Int),(n:Int)⟩),(Af (win y24.AC 82 16384) 420 ⟨(k:Int),(n:Int)⟩),(Af true 422 ⟨(k:Int),(n:Int)⟩)]))) [1,2,4,5,24,25,26,7,8,65] [(1,Aa k),(2,pt z),(Bh z),(BI k n c),(BK b17 o18 y8),(BC y8),(26,Aa n),(BL n15),(8,pt b175),(PP y24 k n)] [0,1,2,3] (fun w179 hw179=>Dp w179 (hL.ext (hw179.ext rfl)) ⟨some ⟨b176,0,none⟩,3,[(Af false 419 ⟨(k:Int),(n:Int)⟩),(Af (win y24.AC 82 16384) 420 ⟨(k:Int),(n:Int)⟩),(Af true 422 ⟨(k:Int),(n:Int)⟩)]⟩ (Ef hw179 (i:=5) [(Af false 419 ⟨(k:Int),(n:Int)⟩),(Af (win y24.AC 82 16384) 420 ⟨(k:Int),(n:Int)⟩),(Af true 422 ⟨(k:Int),(n:Int)⟩)]) (show 3≤1000 by decide)) (fun n180 hn181 => ?_)
      replace hn181:n174≤n180:=hn181
      refine CB [1,2,4,5,24,25,26,7,8,65] [(1,Aa k),(2,pt z),(Bh z),(BI k n c),(BK b17 o18 y8),(BC y8),(26,Aa n),(BL n15),(8,pt b175),(PP y24 k n)] ?_
      exact hv172 ⟨(n180,b175,b176),by first | omega | (dsimp only;omega)⟩
     refine IA [33,35] ?_
     refine List.forall_mem_cons.2 ⟨?_,List.forall_mem_cons.2 ⟨?_,fun _ h=>absurd h List.not_mem_nil⟩⟩
     ·refine Bi o0 [1,2,4,5,24,25,26,7,64] [] [(1,Aa k),(2,pt z),(Bh z),(BI k n c),(BK b17 o18 y8),(BC y8),(26,Aa n),(BL n15),(64,.slice (some ⟨n160,0,none⟩) 3 3)] ⟨w,n160+1,[(Ak w),(BN z c),(BU z),(BX y24 n15),(Va y24 k n n160)]⟩ [0,1,2,3] Ae (.inr rfl) ?_
      refine IA [34,35] ?_
      refine List.forall_mem_cons.2 ⟨?_,List.forall_mem_cons.2 ⟨?_,fun _ h=>absurd h List.not_mem_nil⟩⟩
      ·refine Gi 108 #[.slice (some ⟨n160,0,none⟩) 3 3] (some 65) (.agg (Am.arr (Bl [(Af false 419 ⟨(k:Int),(n:Int)⟩),(Af (win y24.AC 82 16384) 420 ⟨(k:Int),(n:Int)⟩),(Af true 422 ⟨(k:Int),(n:Int)⟩)]))) [1,2,4,5,24,25,26,7,65] [(1,Aa k),(2,pt z),(Bh z),(BI k n c),(BK b17 o18 y8),(BC y8),(26,Aa n),(BL n15),(PP y24 k n)] [0,1,2,3] (fun w182 hw182=>Dp w182 (hL.ext (hw182.ext rfl)) ⟨some ⟨n160,0,none⟩,3,[(Af false 419 ⟨(k:Int),(n:Int)⟩),(Af (win y24.AC 82 16384) 420 ⟨(k:Int),(n:Int)⟩),(Af true 422 ⟨(k:Int),(n:Int)⟩)]⟩ (Ef hw182 (i:=4) [(Af false 419 ⟨(k:Int),(n:Int)⟩),(Af (win y24.AC 82 16384) 420 ⟨(k:Int),(n:Int)⟩),(Af true 422 ⟨(k:Int),(n:Int)⟩)]) (show 3≤1000 by decide)) (fun n183 hn184 => ?_)
       replace hn184:n160+1≤n183:=hn184
       refine AV 35 ?_
       refine Bi o0 [1,2,4,5,24,25,26,7,65,8] [] [(1,Aa k),(2,pt z),(Bh z),(BI k n c),(BK b17 o18 y8),(BC y8),(26,Aa n),(BL n15),(PP y24 k n),(8,pt n183)] ⟨w,n183+1,[(Ak w),(BN z c),(BU z),(BX y24 n15),(Va y24 k n n160),(bk n183 #[i6 0,i6 0,i6 0] 98)]⟩ [0,1,2,3] Ae (.inr rfl) ?_
       refine KJ [0,1,2,3,5,4] [(Ak w),(BN z c),(BU z),(BX y24 n15),(bk n183 #[i6 0,i6 0,i6 0] 98),(Va y24 k n n160)] rfl rfl ?_
       refine CB [1,2,4,5,24,25,26,7,8,65] [(1,Aa k),(2,pt z),(Bh z),(BI k n c),(BK b17 o18 y8),(BC y8),(26,Aa n),(BL n15),(8,pt n183),(PP y24 k n)] ?_
       exact hv172 ⟨(n183+1,n183,n160),by first | omega | (dsimp only;omega)⟩
      refine Bi o0 [1,2,4,5,24,25,26,7,64,8] [] [(1,Aa k),(2,pt z),(Bh z),(BI k n c),(BK b17 o18 y8),(BC y8),(26,Aa n),(BL n15),(64,.slice (some ⟨n160,0,none⟩) 3 3),(8,pt (n160+1))] ⟨w,n160+2,[(Ak w),(BN z c),(BU z),(BX y24 n15),(Va y24 k n n160),(bk (n160+1) #[i6 0,i6 0,i6 0] 98)]⟩ [0,1,2,3] Ae (.inr rfl) ?_
      refine KJ [0,1,2,3,5,4] [(Ak w),(BN z c),(BU z),(BX y24 n15),(bk (n160+1) #[i6 0,i6 0,i6 0] 98),(Va y24 k n n160)] rfl rfl ?_
      refine CB [1,2,4,5,24,25,26,7,8,64] [(1,Aa k),(2,pt z),(Bh z),(BI k n c),(BK b17 o18 y8),(BC y8),(26,Aa n),(BL n15),(8,pt (n160+1)),(64,.slice (some ⟨n160,0,none⟩) 3 3)] ?_
      exact hv177 ⟨(n160+2,n160+1,n160),by first | omega | (dsimp only;omega)⟩
     refine Bi o0 [1,2,4,5,24,25,26,7,46,53,63,8] [] [(1,Aa k),(2,pt z),(Bh z),(BI k n c),(BK b17 o18 y8),(BC y8),(26,Aa n),(BL n15),(Qk k n),(JD y24 k n),(PE k n),(8,pt n160)] ⟨w,n160+1,[(Ak w),(BN z c),(BU z),(BX y24 n15),(bk n160 #[i6 0,i6 0,i6 0] 98)]⟩ [0,1,2,3] Ae (.inr rfl) ?_
     refine CB [8,1,2,4,5,24,25,26,7,46,53,63] [(8,pt n160),(1,Aa k),(2,pt z),(Bh z),(BI k n c),(BK b17 o18 y8),(BC y8),(26,Aa n),(BL n15),(Qk k n),(JD y24 k n),(PE k n)] ?_
     exact hv162 ⟨(n160+1,n160),by first | omega | (dsimp only;omega)⟩
    rintro⟨⟨n148,b149,b150⟩,hJ185⟩
    simp only at hJ185
    show E _ _ [(1,Aa k),(2,pt z),(Bh z),(BI k n c),(BK b17 o18 y8),(BC y8),(26,Aa n),(BL n15),(8,pt b150)] _ ⟨w,n148,[(Ak w),(BN z c),(BU z),(BX y24 n15),(bk b149 #[i6 ((Af false 419 ⟨(k:Int),(n:Int)⟩).e),i6 ((Af false 419 ⟨(k:Int),(n:Int)⟩).Ag.First),i6 ((Af false 419 ⟨(k:Int),(n:Int)⟩).Ag.Second),i6 ((Af (win y24.AC 82 16384) 420 ⟨(k:Int),(n:Int)⟩).e),i6 ((Af (win y24.AC 82 16384) 420 ⟨(k:Int),(n:Int)⟩).Ag.First),i6 ((Af (win y24.AC 82 16384) 420 ⟨(k:Int),(n:Int)⟩).Ag.Second),i6 ((Af true 422 ⟨(k:Int),(n:Int)⟩).e),i6 ((Af true 422 ⟨(k:Int),(n:Int)⟩).Ag.First),i6 ((Af true 422 ⟨(k:Int),(n:Int)⟩).Ag.Second)] 98),(Z4 y24 k n b150)]⟩ _ _ _
    refine C9 [0,1,2,3,5] [(Ak w),(BN z c),(BU z),(BX y24 n15),(Z4 y24 k n b150)] rfl rfl ?_
    have e0:gd (FI c k).xs n=y24:=(by rw[hy24,hy8])
    have eA:G8 c k n=(Bl [(Af false 419 ⟨(k:Int),(n:Int)⟩),(Af (win y24.AC 82 16384) 420 ⟨(k:Int),(n:Int)⟩),(Af true 422 ⟨(k:Int),(n:Int)⟩)]):=(by unfold G8 VH;simp only[e0];simp[h27,h109])
    refine Cb [1,2,4,5,7,8,24,25,26] [(1,Aa k),(2,pt z),(Bh z),(BI k n c),(BL n15),(8,pt b150),(BK b17 o18 y8),(BC y8),(26,Aa n)] ?_
    refine CS (fun a w' hs=>⟨n148,b150,by omega,(by(try dsimp only[Z4,BU,BX,BN,JD,NS,Qk,PE,PH,BK,BC,Bh,KY,BI,BL]at hs ⊢);rw[eA];exact hs)⟩)
   rintro a w' ⟨n25,b8,hn26,hs⟩
   refine(?_:G Tryz.prog 85 [(1,Aa k),(2,pt z),(Bh z),(BI k n c),(BL n15),(8,pt b8),(BK b17 o18 y8),(BC y8),(26,Aa n)] [] ⟨w,n25,[(Ak w),(BN z c),(BU z),(BX y24 n15),(bk b8 (Am.arr (G8 c k n)) 98)]⟩ _ _ _) a w' hs
   clear hs a w'
   refine Dl <| Dl ?_
   by_cases h186:(((G8 c k n).e:Int)==(0:Int)&&((((G8 c k n).Ag.First:Int)==(0:Int)&&(((G8 c k n).Ag.Second:Int)==(0:Int)&&true))&&true))=true
   ·have hbd0:=YM (FP.1 h186);rw[show gd (FI c k).xs n=y24 from(by rw[hy24,hy8])]at hbd0
    refine A8 12 0 [0] [[(an 3 4),(oa [.via 0 (i6 0),.via 0 (i6 0),.via 0 (i6 0)]),⟨.seq true,none⟩],[o0,o0,(a1 3),o0,(a1 3),(ov (i6 (y24.Bq+y24.AC))),(ov (i6 ((sumW (FI c k).xs n)+(y24.Bq+y24.AC)))),o0],[(ov (i6 ((n+1:Nat):Int))),o0]] [Qb b8,Qb b8,Qb b8,Old w 0 0 (i6 0),Old w 0 1 (i6 0),Old w 0 2 (i6 0),(((G8 c k n).e:Int)==(0:Int)&&((((G8 c k n).Ag.First:Int)==(0:Int)&&(((G8 c k n).Ag.Second:Int)==(0:Int)&&true))&&true))=true,Qb n15,Qb n15,Wr ((y24.Bq:Int)+y24.AC) (y24.Bq+y24.AC),Wr ((sumW (FI c k).xs n:Int)+(y24.Bq+y24.AC)) ((sumW (FI c k).xs n)+(y24.Bq+y24.AC)),Wr ((n:Int)+1) (((n+1:Nat):Int))] [(1,Aa k),(2,pt z),(Bh z),(5,i6 ((sumW (FI c k).xs n)+(y24.Bq+y24.AC))),(BK b17 o18 y8),(BC y8),(26,i6 ((n+1:Nat):Int))] rfl ⟨rfl,rfl,rfl,Aw (hL.2 0 _ rfl),Aw (hL.2 1 _ rfl),Aw (hL.2 2 _ rfl),h186,rfl,rfl,Dk,Dk,Dk,Ae⟩ ?_
    refine C9 [0,1,2] [(Ak w),(BN z c),(BU z)] rfl rfl ?_
    have e0:gd (FI c k).xs n=y24:=(by rw[hy24,hy8])
    have hnn:=FP.1 h186
    have hbd:=YM hnn
    have eS:=sumW_succ (FI c k).xs n
    rw[e0]at hbd eS
    have hss:0≤sumW (FI c k).xs (n+1)∧sumW (FI c k).xs (n+1)≤((n+1:Nat):Int)*32768:=(by rw[eS];omega)
    refine Gw [1,2,4,5,24,25,26] [(1,Aa k),(2,pt z),(Bh z),(5,i6 ((sumW (FI c k).xs n)+(y24.Bq+y24.AC))),(KY y8),(BC y8),(26,i6 ((n+1:Nat):Int))] (by(try dsimp only[BU,BX,BN,BK,BC,Bh,KY,BI,BL]);simp only[ha19];rfl) ?_
    refine CS (fun a w' hs=>⟨y8.xs.length - (n+1),by omega,n25,(n+1),rfl,by omega,by omega,Ia hf hnn,hss,(by(try dsimp only[BU,BX,BN,BK,BC,Bh,KY,BI,BL]at hs ⊢);rw[eS];exact hs)⟩)
   refine q_c 9 0 [1] [[(an 3 4),(oa [.via 0 (i6 0),.via 0 (i6 0),.via 0 (i6 0)]),⟨.seq false,none⟩],[(an 3 4),(an 3 2)]] [Qb b8,Qb b8,Qb b8,Old w 0 0 (i6 0),Old w 0 1 (i6 0),Old w 0 2 (i6 0),(((G8 c k n).e:Int)==(0:Int)&&((((G8 c k n).Ag.First:Int)==(0:Int)&&(((G8 c k n).Ag.Second:Int)==(0:Int)&&true))&&true))=false,Qb b8,Qb b8,Qb b8,Qb (z+1),Qb (z+1),Qb (z+1)] [(Bh z)] ⟨w,n25,[(Ak w),(BN z c),(bk (z+1) (Am.arr (G8 c k n)) 98),(BX y24 n15),(bk b8 (Am.arr (G8 c k n)) 98)]⟩ rfl ⟨rfl,rfl,rfl,Aw (hL.2 0 _ rfl),Aw (hL.2 1 _ rfl),Aw (hL.2 2 _ rfl),(Bool.eq_false_iff.2 h186),rfl,rfl,rfl,rfl,rfl,rfl,Ae⟩ ?_
   refine AP [.at 2,.at 2,.at 2] [Qb (z+1),Qb (z+1),Qb (z+1)] (.agg #[i6 ((G8 c k n).e),i6 ((G8 c k n).Ag.First),i6 ((G8 c k n).Ag.Second)]) ⟨rfl,rfl,rfl,Ae⟩ ?_
   intro w187 hw187
   exact⟨congrArg (fun t=>Ending.returned (Value.agg (Am.arr t))) (coreQ_b (by have e1:FI c k=y8:=hy8.symm;rw[e1];exact h12) hf (by have e1:FI c k=y8:=hy8.symm;rw[e1];omega) (fun e=>h186 (FP.2 e))).symm,Au hw187⟩
  refine A8 11 0 [0] [[oF]] [BF ((n:Int)<(y8.xs.length:Int))] [(1,Aa k),(2,pt z),(Bh z),(BI k n c),(KY y8),(BC y8),(26,Aa n),(27,.bool false)] rfl ⟨bf,Ae⟩ ?_
  by_cases h188:(sumW (FI c k).xs n:Int)=c.DD
  ·refine DK 7 [0,1,2] [(Ak w),(BN z c),(BU z)] rfl rfl ?_
   refine JP [.tk 0 o0,.tk 1 o0,.tk 2 (a1 1),.tk 3 oT,.tk 4 o0,.cl 5 (.agg #[(Aa k),i6 (-1)]),.cl 6 (.agg (Am.arr (Af true 421 ⟨(k:Int), -1⟩)))] [4,84] [(110,#[(Aa k)],.agg #[(Aa k),i6 (-1)]),(71,#[.bool true,i6 421,.agg #[(Aa k),i6 (-1)]],.agg (Am.arr (Af true 421 ⟨(k:Int), -1⟩)))] (Dy 7 1) [Qb z,ET (sumW (FI c k).xs n) c.DD] [(Bh z),(84,.agg (Am.arr (Af true 421 ⟨(k:Int), -1⟩)))] [0,1,2] ⟨rfl,et,Ae⟩ ⟨fun w189 hw189=>Df w189 (k:Int),fun w190 hw190=>Bg w190 (hL.ext (hw190.ext rfl)) true 421 (k:Int) (-1),Ae⟩ (fun n191 hn192 => ?_)
   replace hn192:n15≤n191:=hn192
   refine AV 7 ?_
   refine Bi (an 3 2) [4] [Qb (z+1),Qb (z+1),Qb (z+1)] [(Bh z)] ⟨w,n191,[(Ak w),(BN z c),(.blk (z+1) (.cells (Am.arr (Af true 421 ⟨(k:Int), -1⟩)) 98 (0,0)) true)]⟩ [] ⟨rfl,rfl,rfl,Ae⟩ (.inl rfl) ?_
   refine D9 8 [0,1,2] [(Ak w),(BN z c),(.blk (z+1) (.cells (Am.arr (Af true 421 ⟨(k:Int), -1⟩)) 98 (0,0)) true)] rfl rfl ?_
   refine CQ ?_
   refine Cb [4] [(Bh z)] ?_
   refine FX <| Jh <| AP [.at 2,.at 2,.at 2] [Qb (z+1),Qb (z+1),Qb (z+1)] (.agg #[i6 ((Af true 421 ⟨(k:Int), -1⟩).e),i6 ((Af true 421 ⟨(k:Int), -1⟩).Ag.First),i6 ((Af true 421 ⟨(k:Int), -1⟩).Ag.Second)]) ⟨rfl,rfl,rfl,Ae⟩ ?_
   intro w193 hw193
   exact⟨congrArg (fun t=>Ending.returned (Value.agg (Am.arr t))) ((coreQ_c (by have e1:FI c k=y8:=hy8.symm;rw[e1];exact h12) hf (by have e1:FI c k=y8:=hy8.symm;rw[e1];omega)).trans (by first | rw[decide_eq_true (by assumption)] | rw[decide_eq_false (by assumption)])).symm,Au hw193⟩
  refine DK 7 [0,1,2] [(Ak w),(BN z c),(BU z)] rfl rfl ?_
  refine JP [.tk 0 o0,.tk 1 o0,.tk 2 (a1 1),.tk 3 oF,.tk 4 o0,.cl 5 (.agg #[(Aa k),i6 (-1)]),.cl 6 (.agg (Am.arr (Af false 421 ⟨(k:Int), -1⟩)))] [4,84] [(110,#[(Aa k)],.agg #[(Aa k),i6 (-1)]),(71,#[.bool false,i6 421,.agg #[(Aa k),i6 (-1)]],.agg (Am.arr (Af false 421 ⟨(k:Int), -1⟩)))] (Dy 7 1) [Qb z,EF (sumW (FI c k).xs n) c.DD] [(Bh z),(84,.agg (Am.arr (Af false 421 ⟨(k:Int), -1⟩)))] [0,1,2] ⟨rfl,ef,Ae⟩ ⟨fun w194 hw194=>Df w194 (k:Int),fun w195 hw195=>Bg w195 (hL.ext (hw195.ext rfl)) false 421 (k:Int) (-1),Ae⟩ (fun n196 hn197 => ?_)
  replace hn197:n15≤n196:=hn197
  refine AV 7 ?_
  refine Bi (an 3 2) [4] [Qb (z+1),Qb (z+1),Qb (z+1)] [(Bh z)] ⟨w,n196,[(Ak w),(BN z c),(.blk (z+1) (.cells (Am.arr (Af false 421 ⟨(k:Int), -1⟩)) 98 (0,0)) true)]⟩ [] ⟨rfl,rfl,rfl,Ae⟩ (.inl rfl) ?_
  refine D9 8 [0,1,2] [(Ak w),(BN z c),(.blk (z+1) (.cells (Am.arr (Af false 421 ⟨(k:Int), -1⟩)) 98 (0,0)) true)] rfl rfl ?_
  refine CQ ?_
  refine Cb [4] [(Bh z)] ?_
  refine FX <| Jh <| AP [.at 2,.at 2,.at 2] [Qb (z+1),Qb (z+1),Qb (z+1)] (.agg #[i6 ((Af false 421 ⟨(k:Int), -1⟩).e),i6 ((Af false 421 ⟨(k:Int), -1⟩).Ag.First),i6 ((Af false 421 ⟨(k:Int), -1⟩).Ag.Second)]) ⟨rfl,rfl,rfl,Ae⟩ ?_
  intro w198 hw198
  exact⟨congrArg (fun t=>Ending.returned (Value.agg (Am.arr t))) ((coreQ_c (by have e1:FI c k=y8:=hy8.symm;rw[e1];exact h12) hf (by have e1:FI c k=y8:=hy8.symm;rw[e1];omega)).trans (by first | rw[decide_eq_true (by assumption)] | rw[decide_eq_false (by assumption)])).symm,Au hw198⟩
 have hd199:=KL h12
 refine Bv 5 1 [1] [[(ov (.bool true))],[o0]] [Value.bool (!(win (y8.xs.length:Int) 1 16))=Value.bool true] [(Bh z),(17,Aa k)] rfl ⟨by simp[h12],Ae⟩ ?_
 refine BV 110 #[(Aa k)] (some 18) (.agg #[(Aa k),i6 (-1)]) (fun w200 hw200=>Df w200 (k:Int)) (fun n201 (hn202:n10≤n201) => ?_)
 refine EG 3 0 [] [[o0,(an 3 2)]] [Qb (z+1),Qb (z+1),Qb (z+1)] [(Bh z)] ⟨w,n201,[(Ak w),(BN z c),(bk (z+1) #[i6 418,Aa k,i6 (-1)] 98)]⟩ rfl ⟨rfl,rfl,rfl,Ae⟩ ?_
 refine AP [.at 2,.at 2,.at 2] [Qb (z+1),Qb (z+1),Qb (z+1)] (.agg #[i6 418,Aa k,i6 (-1)]) ⟨rfl,rfl,rfl,Ae⟩ ?_
 intro w203 hw203
 exact⟨congrArg (fun t=>Ending.returned (Value.agg (Am.arr t))) (coreQ_a (by have e1:FI c k=y8:=hy8.symm;rw[e1];exact h12)).symm,Au hw203⟩
end Go.Proofs.YtekjfiegdpoajaaGreatDoor.Ad
namespace Go.Proofs.YtekjfiegdpoajaaGreatDoor.Ly
open Go Go.Proofs.YtekjfiegdpoajaaGreatDoor.Eng Go.Proofs.YtekjfiegdpoajaaGreatDoor.Mem
set_option linter.unusedSimpArgs false
set_option linter.unusedVariables false
set_option maxRecDepth 100000
def Qz(g:AX):Bool:=decide (0≤g.CO∧g.CO≤256∧1≤g.BO∧g.BO≤256 - g.CO)
def Wi(n:Nat)(q:BR):Bool:=decide (0≤q.Channel∧q.Channel<n)
def FN(n:Nat)(x:Ap):Bool:=decide (x.Ah.xs.length≤8)&&decide (x.Aq.xs.length≤8)&&x.Ah.xs.all Qz&&x.Aq.xs.all (Wi n)
theorem Ov{α:Type}[Inhabited α]{p:α→Bool}{xs:List α}{k:Nat}(hk:k<xs.length)(h:p (gd xs k)=false):xs.all p=false:=by
 rw[List.all_eq_false]
 refine⟨xs[k],List.getElem_mem hk, ?_⟩
 rw[E5 hk]at h
 simpa using h
theorem PV{α:Type}[Inhabited α]{p:α→Bool}{xs:List α}(h:∀ i,i<xs.length→p (gd xs i)=true):xs.all p=true:=by
 rw[List.all_eq_true]
 intro y hy
 obtain⟨i,hi,rfl⟩:=List.getElem_of_mem hy
 have:=h i hi
 rwa [E5 hi]at this
theorem upto{p:Nat→Prop}{k:Nat}(h:∀ i,i<k→p i)(hk:p k):∀ i,i<k+1→p i:=fun i hi=>by
 by_cases e:i=k
 ·subst e;exact hk
 exact h i (by omega)
section
variable (z:Nat)(x:Ap)(c:Ai)(b8 o9:Nat)
abbrev Hy:=bk (z+1) (Ap.arr x) 57
abbrev GZ:=bk z (Ai.arr c) 27
abbrev NH:Dv:=(20,.slice (some ⟨b8,o9,none⟩) x.Ah.xs.length x.Ah.cap)
abbrev LW:Dv:=(20,.slice x.Ah.a x.Ah.xs.length x.Ah.cap)
abbrev ND:Dv:=(49,.slice x.Aq.a x.Aq.xs.length x.Aq.cap)
abbrev JK:=(21,Aa x.Ah.xs.length)
abbrev Lj:=(50,Aa x.Aq.xs.length)
abbrev JH:=(3,pt (z+1))
end
theorem LM(w:World)(c:Ai)(x:Ap)(hc:Ai.ok Any w c)(hx:Ap.ok Any w x):Calls Tryz.prog 156 #[.agg (Ai.arr c),.agg (Ap.arr x)] w fun e w'=>e = .returned (.bool (FN c.Aj.xs.length x))∧BH (fun _=>False) w w':=by
 obtain⟨z,hz⟩:∃ z,z=w.heap.size:=⟨_,rfl⟩
 refine BA (args:=[.agg (Ai.arr c),.agg (Ap.arr x)]) 67 ⟨w,z,[(Ak w)]⟩ Tryz.func156 rfl (by kernel_rfl) (by kernel_rfl) (En hz) ?_
 refine Cc [0,1] [(0,.agg (Ai.arr c)),(1,.agg (Ap.arr x))] ?_
 refine q_c 6 0 [] [[o0,o0,o0]] [] [(2,pt z),(JH z)] ⟨w,z+2,[(Ak w),(GZ z c),(Hy z x)]⟩ rfl Ae ?_
 by_cases h1:(8:Int)<(x.Ah.xs.length:Int)
 ·refine A8 9 0 [1] [[o0,(a1 2),o0,oT,o0,o0],[o0]] [Qb (z+1),BT ((x.Ah.xs.length:Int) > 8)] [(4,.bool false)] rfl ⟨rfl,bt,Ae⟩ ?_
  refine AP [] [] (.bool false) Ae ?_
  intro w2 hw2
  refine⟨congrArg (fun b=>Ending.returned (Value.bool b)) (Eq.symm (?_:FN c.Aj.xs.length x=false)),Au hw2⟩
  unfold FN
  first
   | (have e1:decide (x.Ah.xs.length≤8)=false:=decide_eq_false (by omega));simp[e1]
   | (have e1:decide (x.Aq.xs.length≤8)=false:=decide_eq_false (by omega));simp[e1]
 by_cases h3:(8:Int)<(x.Aq.xs.length:Int)
 ·refine A8 9 0 [1] [[o0,(a1 2),o0,oF,o0,o0,(a1 2),o0,oT,o0],[o0]] [Qb (z+1),BF ((x.Ah.xs.length:Int) > 8),Qb (z+1),BT ((x.Aq.xs.length:Int) > 8)] [(4,.bool false)] rfl ⟨rfl,bf,rfl,bt,Ae⟩ ?_
  refine AP [] [] (.bool false) Ae ?_
  intro w4 hw4
  refine⟨congrArg (fun b=>Ending.returned (Value.bool b)) (Eq.symm (?_:FN c.Aj.xs.length x=false)),Au hw4⟩
  unfold FN
  first
   | (have e1:decide (x.Ah.xs.length≤8)=false:=decide_eq_false (by omega));simp[e1]
   | (have e1:decide (x.Aq.xs.length≤8)=false:=decide_eq_false (by omega));simp[e1]
 refine A8 12 0 [0] [[o0,(a1 2),o0,oF,o0,o0,(a1 2),o0,oF,o0],[o0,(a1 2),o0,o0]] [Qb (z+1),BF ((x.Ah.xs.length:Int) > 8),Qb (z+1),BF ((x.Aq.xs.length:Int) > 8),Qb (z+1)] [(2,pt z),(JH z),(LW x),(JK x),(22,i6 0)] rfl ⟨rfl,bf,rfl,bf,rfl,Ae⟩ ?_
 refine DI (fun m a w'=>∃ (n6:Nat) (k:Nat),m=x.Ah.xs.length - k∧z+2≤n6∧(k≤x.Ah.xs.length)∧(∀ i,i<k→Qz (gd x.Ah.xs i)=true)∧St 67 [(2,pt z),(JH z),(LW x),(JK x),(22,Aa k)] [] ⟨w,n6,[(Ak w),(GZ z c),(Hy z x)]⟩ a w') (x.Ah.xs.length - 0) ?_ ?_
 ·intro a w' hs;exact⟨(z+2),0,rfl,Nat.le_refl _,Nat.zero_le _,fun i hi=>absurd hi (Nat.not_lt_zero i),hs⟩
 rintro m a w' ⟨n6,k,rfl,hn5,hkk,hr,hs⟩
 refine(?_:G Tryz.prog 67 [(2,pt z),(JH z),(LW x),(JK x),(22,Aa k)] [] ⟨w,n6,[(Ak w),(GZ z c),(Hy z x)]⟩ _ _ _) a w' hs
 clear hs a w'
 refine Dl ?_
 by_cases h7:(k:Int)<(x.Ah.xs.length:Int)
 ·refine A8 10 0 [1] [[oT]] [BT ((k:Int)<(x.Ah.xs.length:Int))] [(2,pt z),(JH z),(LW x),(JK x),(22,Aa k),(23,.bool true)] rfl ⟨bt,Ae⟩ ?_
  obtain⟨b8,o9,ha10,hF12,hc11⟩:=(hx.Ah).1.all (show 0<x.Ah.xs.length by omega)
  replace ha10:x.Ah.a=some ⟨b8,o9,none⟩:=ha10
  refine J4 [(2,pt z),(JH z),(NH x b8 o9),(JK x),(22,Aa k),(23,.bool true)] (by(try dsimp only[Hy,GZ,NH,LW,JK,JH]);simp only[ha10]) ?_
  have hc13:=hc11 k (show k<x.Ah.xs.length by omega)
  have he14:=(hx.Ah).2 k (show k<x.Ah.xs.length by omega)
  obtain⟨y15,hy15⟩:∃ y_,y_=gd x.Ah.xs k:=⟨_,rfl⟩
  rw[←hy15]at he14 hc13
  refine q_c 4 0 [] [[(oi k),(ol 0 (AX.arr y15)),o0,(an 4 3)]] [Ea k,k<x.Ah.xs.length,Ec,Hu w b8 (o9+k*4) (AX.arr y15),Qb n6,Qb n6,Qb n6,Qb n6] [(2,pt z),(JH z),(NH x b8 o9),(JK x),(22,Aa k),(6,pt n6)] ⟨w,n6+1,[(Ak w),(GZ z c),(Hy z x),(bk n6 (AX.arr y15) 64)]⟩ rfl ⟨rfl,(by omega),rfl,EE hc13,rfl,rfl,rfl,rfl,Ae⟩ ?_
  by_cases h16:(y15.CO:Int)<0
  ·refine A8 9 0 [1] [[o0,(a1 3),oT,o0,o0,o0,o0,o0,o0],[o0]] [Qb n6,BT ((y15.CO:Int)<0)] [(4,.bool false)] rfl ⟨rfl,bt,Ae⟩ ?_
   refine AP [] [] (.bool false) Ae ?_
   intro w17 hw17
   refine⟨congrArg (fun b=>Ending.returned (Value.bool b)) (Eq.symm (?_:FN c.Aj.xs.length x=false)),Au hw17⟩
   unfold FN
   have e1:x.Ah.xs.all Qz=false:=Ov (k:=k) (by omega) (by rw[←hy15];exact decide_eq_false (by omega))
   simp[e1]
  by_cases h18:(256:Int)<y15.CO
  ·refine A8 9 0 [1] [[o0,(a1 3),oF,o0,o0,(a1 3),oT,o0,o0,o0,o0,o0],[o0]] [Qb n6,BF ((y15.CO:Int)<0),Qb n6,BT ((y15.CO:Int) > 256)] [(4,.bool false)] rfl ⟨rfl,bf,rfl,bt,Ae⟩ ?_
   refine AP [] [] (.bool false) Ae ?_
   intro w19 hw19
   refine⟨congrArg (fun b=>Ending.returned (Value.bool b)) (Eq.symm (?_:FN c.Aj.xs.length x=false)),Au hw19⟩
   unfold FN
   have e1:x.Ah.xs.all Qz=false:=Ov (k:=k) (by omega) (by rw[←hy15];exact decide_eq_false (by omega))
   simp[e1]
  by_cases h20:(y15.BO:Int)<1
  ·refine A8 9 0 [1] [[o0,(a1 3),oF,o0,o0,(a1 3),oF,o0,o0,o0,(a1 3),oT,o0,o0,o0],[o0]] [Qb n6,BF ((y15.CO:Int)<0),Qb n6,BF ((y15.CO:Int) > 256),Qb n6,BT ((y15.BO:Int)<1)] [(4,.bool false)] rfl ⟨rfl,bf,rfl,bf,rfl,bt,Ae⟩ ?_
   refine AP [] [] (.bool false) Ae ?_
   intro w21 hw21
   refine⟨congrArg (fun b=>Ending.returned (Value.bool b)) (Eq.symm (?_:FN c.Aj.xs.length x=false)),Au hw21⟩
   unfold FN
   have e1:x.Ah.xs.all Qz=false:=Ov (k:=k) (by omega) (by rw[←hy15];exact decide_eq_false (by omega))
   simp[e1]
  by_cases h22:(256 - y15.CO:Int)<y15.BO
  ·refine A8 9 0 [1] [[o0,(a1 3),oF,o0,o0,(a1 3),oF,o0,o0,o0,(a1 3),oF,o0,o0,o0,(a1 3),o0,(a1 3),(ov (i6 (256 - y15.CO))),oT,o0],[o0]] [Qb n6,BF ((y15.CO:Int)<0),Qb n6,BF ((y15.CO:Int) > 256),Qb n6,BF ((y15.BO:Int)<1),Qb n6,Qb n6,Wr ((256:Int) - y15.CO) (256 - y15.CO),BT ((y15.BO:Int) > (256 - y15.CO))] [(4,.bool false)] rfl ⟨rfl,bf,rfl,bf,rfl,bf,rfl,rfl,Dk,bt,Ae⟩ ?_
   refine AP [] [] (.bool false) Ae ?_
   intro w23 hw23
   refine⟨congrArg (fun b=>Ending.returned (Value.bool b)) (Eq.symm (?_:FN c.Aj.xs.length x=false)),Au hw23⟩
   unfold FN
   have e1:x.Ah.xs.all Qz=false:=Ov (k:=k) (by omega) (by rw[←hy15];exact decide_eq_false (by omega))
   simp[e1]
  refine A8 9 0 [0] [[o0,(a1 3),oF,o0,o0,(a1 3),oF,o0,o0,o0,(a1 3),oF,o0,o0,o0,(a1 3),o0,(a1 3),(ov (i6 (256 - y15.CO))),oF,o0],[(ov (i6 ((k+1:Nat):Int))),o0]] [Qb n6,BF ((y15.CO:Int)<0),Qb n6,BF ((y15.CO:Int) > 256),Qb n6,BF ((y15.BO:Int)<1),Qb n6,Qb n6,Wr ((256:Int) - y15.CO) (256 - y15.CO),BF ((y15.BO:Int) > (256 - y15.CO)),Wr ((k:Int)+1) (((k+1:Nat):Int))] [(2,pt z),(JH z),(NH x b8 o9),(JK x),(22,i6 ((k+1:Nat):Int))] rfl ⟨rfl,bf,rfl,bf,rfl,bf,rfl,rfl,Dk,bf,Dk,Ae⟩ ?_
  refine C9 [0,1,2] [(Ak w),(GZ z c),(Hy z x)] rfl rfl ?_
  refine Gw [2,3,20,21,22] [(2,pt z),(JH z),(LW x),(JK x),(22,i6 ((k+1:Nat):Int))] (by(try dsimp only[Hy,GZ,NH,LW,JK,JH]);simp only[ha10];rfl) ?_
  refine CS (fun a w' hs=>⟨x.Ah.xs.length - (k+1),by omega,(n6+1),(k+1),rfl,by omega,by omega,upto hr (by rw[←hy15];exact decide_eq_true (by omega)),hs⟩)
 refine A8 16 0 [0] [[oF],[o0,(a1 2),o0,o0]] [BF ((k:Int)<(x.Ah.xs.length:Int)),Qb (z+1)] [(2,pt z),(ND x),(Lj x),(51,i6 0)] rfl ⟨bf,rfl,Ae⟩ ?_
 refine DI (fun m a w'=>∃ (n25:Nat) (j:Nat),m=x.Aq.xs.length - j∧n6≤n25∧(j≤x.Aq.xs.length)∧(∀ i,i<j→Wi c.Aj.xs.length (gd x.Aq.xs i)=true)∧St 67 [(2,pt z),(ND x),(Lj x),(51,Aa j)] [] ⟨w,n25,[(Ak w),(GZ z c),(Hy z x)]⟩ a w') (x.Aq.xs.length - 0) ?_ ?_
 ·intro a w' hs;exact⟨n6,0,rfl,Nat.le_refl _,Nat.zero_le _,fun i hi=>absurd hi (Nat.not_lt_zero i),hs⟩
 rintro m a w' ⟨n25,j,rfl,hn24,hkj,hp,hs⟩
 refine(?_:G Tryz.prog 67 [(2,pt z),(ND x),(Lj x),(51,Aa j)] [] ⟨w,n25,[(Ak w),(GZ z c),(Hy z x)]⟩ _ _ _) a w' hs
 clear hs a w'
 refine Dl ?_
 by_cases h26:(j:Int)<(x.Aq.xs.length:Int)
 ·refine A8 10 0 [1] [[oT]] [BT ((j:Int)<(x.Aq.xs.length:Int))] [(2,pt z),(ND x),(Lj x),(51,Aa j),(52,.bool true)] rfl ⟨bt,Ae⟩ ?_
  obtain⟨b27,o28,ha29,hF31,hc30⟩:=(hx.Aq).1.all (show 0<x.Aq.xs.length by omega)
  replace ha29:x.Aq.a=some ⟨b27,o28,none⟩:=ha29
  refine J4 [(2,pt z),(49,.slice (some ⟨b27,o28,none⟩) x.Aq.xs.length x.Aq.cap),(Lj x),(51,Aa j),(52,.bool true)] (by(try dsimp only[Hy,GZ,NH,LW,ND,JK,Lj,JH]);simp only[ha29]) ?_
  have hc32:=hc30 j (show j<x.Aq.xs.length by omega)
  have he33:=(hx.Aq).2 j (show j<x.Aq.xs.length by omega)
  obtain⟨y34,hy34⟩:∃ y_,y_=gd x.Aq.xs j:=⟨_,rfl⟩
  rw[←hy34]at he33 hc32
  refine q_c 4 0 [] [[(oi j),(ol 0 (BR.arr y34)),o0,(an 2 3)]] [Ea j,j<x.Aq.xs.length,Ec,Hu w b27 (o28+j*2) (BR.arr y34),Qb n25,Qb n25] [(2,pt z),(49,.slice (some ⟨b27,o28,none⟩) x.Aq.xs.length x.Aq.cap),(Lj x),(51,Aa j),(8,pt n25)] ⟨w,n25+1,[(Ak w),(GZ z c),(Hy z x),(bk n25 (BR.arr y34) 67)]⟩ rfl ⟨rfl,(by omega),rfl,EE hc32,rfl,rfl,Ae⟩ ?_
  by_cases h35:(y34.Channel:Int)<0
  ·refine A8 9 0 [1] [[o0,(a1 3),oT,o0,o0],[o0]] [Qb n25,BT ((y34.Channel:Int)<0)] [(4,.bool false)] rfl ⟨rfl,bt,Ae⟩ ?_
   refine AP [] [] (.bool false) Ae ?_
   intro w36 hw36
   refine⟨congrArg (fun b=>Ending.returned (Value.bool b)) (Eq.symm (?_:FN c.Aj.xs.length x=false)),Au hw36⟩
   unfold FN
   have e1:x.Aq.xs.all (Wi c.Aj.xs.length)=false:=Ov (k:=j) (by omega) (by rw[←hy34];exact decide_eq_false (by omega))
   simp[e1]
  by_cases h37:(y34.Channel:Int)<(c.Aj.xs.length:Int)
  ·refine A8 9 0 [0] [[o0,(a1 3),oF,o0,o0,(a1 3),o0,(a1 1),o0,oF,o0],[(ov (i6 ((j+1:Nat):Int))),o0]] [Qb n25,BF ((y34.Channel:Int)<0),Qb n25,Qb z,BF ((y34.Channel:Int)≥(c.Aj.xs.length:Int)),Wr ((j:Int)+1) (((j+1:Nat):Int))] [(2,pt z),(49,.slice (some ⟨b27,o28,none⟩) x.Aq.xs.length x.Aq.cap),(Lj x),(51,i6 ((j+1:Nat):Int))] rfl ⟨rfl,bf,rfl,rfl,bf,Dk,Ae⟩ ?_
   refine C9 [0,1,2] [(Ak w),(GZ z c),(Hy z x)] rfl rfl ?_
   refine Gw [2,49,50,51] [(2,pt z),(ND x),(Lj x),(51,i6 ((j+1:Nat):Int))] (by(try dsimp only[Hy,GZ,LW,ND,JK,Lj,JH]);simp only[ha29];rfl) ?_
   refine CS (fun a w' hs=>⟨x.Aq.xs.length - (j+1),by omega,(n25+1),(j+1),rfl,by omega,by omega,upto hp (by rw[←hy34];exact decide_eq_true (by omega)),hs⟩)
  refine A8 9 0 [1] [[o0,(a1 3),oF,o0,o0,(a1 3),o0,(a1 1),o0,oT,o0],[o0]] [Qb n25,BF ((y34.Channel:Int)<0),Qb n25,Qb z,BT ((y34.Channel:Int)≥(c.Aj.xs.length:Int))] [(4,.bool false)] rfl ⟨rfl,bf,rfl,rfl,bt,Ae⟩ ?_
  refine AP [] [] (.bool false) Ae ?_
  intro w38 hw38
  refine⟨congrArg (fun b=>Ending.returned (Value.bool b)) (Eq.symm (?_:FN c.Aj.xs.length x=false)),Au hw38⟩
  unfold FN
  have e1:x.Aq.xs.all (Wi c.Aj.xs.length)=false:=Ov (k:=j) (by omega) (by rw[←hy34];exact decide_eq_false (by omega))
  simp[e1]
 refine A8 15 0 [0] [[oF],[o0]] [BF ((j:Int)<(x.Aq.xs.length:Int))] [(4,.bool true)] rfl ⟨bf,Ae⟩ ?_
 refine AP [] [] (.bool true) Ae ?_
 intro w39 hw39
 refine⟨congrArg (fun b=>Ending.returned (Value.bool b)) (Eq.symm (?_:FN c.Aj.xs.length x=true)),Au hw39⟩
 have e1:x.Ah.xs.all Qz=true:=PV (fun i hi=>hr i (by omega))
 have e2:x.Aq.xs.all (Wi c.Aj.xs.length)=true:=PV (fun i hi=>hp i (by omega))
 simp only[FN,e1,e2,Bool.and_true,Bool.and_eq_true,decide_eq_true_eq]
 omega
end Go.Proofs.YtekjfiegdpoajaaGreatDoor.Ly
