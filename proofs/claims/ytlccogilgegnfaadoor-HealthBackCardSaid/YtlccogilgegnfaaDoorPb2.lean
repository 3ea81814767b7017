/- Packed: Ac, Ad, Ae, Af. No conditions. -/
import Derived.Test.YtlccogilgegnfaaDoorPb1
set_option maxHeartbeats 4000000
namespace Go.Proofs.YtlccogilgegnfaaDoor.Ad
open Go Go.Proofs.YtlccogilgegnfaaDoor.Eng Go.Proofs.YtlccogilgegnfaaDoor.Mem Go.Proofs.YtlccogilgegnfaaDoor.Ly
set_option linter.unusedSimpArgs false
set_option linter.unusedVariables false
set_option maxRecDepth 100000
abbrev Zk(c:Ai)(p k:Nat):EE:=gd (gd c.Aa.xs p).Ap.xs k
def Fz(h:Int)(q:EE):Bool:=decide (q.Channel=h)&&q.Source
def F5(h:Int)(q:EE):Bool:=decide (q.Channel=h) && !q.Source
def JS(f:EE→Bool)(xs:List Aq)(n:Nat):Nat:=(List.range n).foldl (fun s p=>s+(gd xs p).Ap.xs.countP f) 0
def N8(f:EE→Bool)(ys:List EE)(n:Nat):Nat:=(ys.take n).countP f
theorem UT(f:EE→Bool)(xs:List Aq)(n:Nat):JS f xs (n+1)=JS f xs n+(gd xs n).Ap.xs.countP f:=by
 unfold JS;rw[List.range_succ,List.foldl_append];rfl
theorem LY(f:EE→Bool)(ys:List EE){n:Nat}(h:n<ys.length):N8 f ys (n+1)=N8 f ys n+if f (gd ys n)=true then 1 else 0:=by
 unfold N8
 rw[List.take_add_one,List.getElem?_eq_getElem h,List.countP_append,EW h]
 simp[List.countP_cons]
theorem Yg(f:EE→Bool)(ys:List EE){n:Nat}(h:n=ys.length):N8 f ys n=ys.countP f:=by unfold N8;rw[h,List.take_length]
theorem ZX(f:EE→Bool)(ys:List EE)(n:Nat):N8 f ys n≤n:=by
 unfold N8;exact Nat.le_trans List.countP_le_length (by rw[List.length_take];exact Nat.min_le_left _ _)
theorem WQ{f:EE→Bool}{xs:List Aq}{m:Nat}:∀ {n:Nat},(∀ p,p<n→(gd xs p).Ap.xs.length≤m)→JS f xs n≤n*m
 | 0,_=>by simp[JS]
 | n+1,h=>by
  have ih:=WQ (f:=f) (n:=n) (fun p hp=>h p (by omega))
  have h1:=h n (by omega)
  have h2:(gd xs n).Ap.xs.countP f≤(gd xs n).Ap.xs.length:=List.countP_le_length
  rw[UT,Nat.succ_mul];omega
def IP(c:Ai)(h:Int):Nat:=JS (Fz h) c.Aa.xs c.Aa.xs.length
def Bz(c:Ai)(h:Int):Nat:=JS (F5 h) c.Aa.xs c.Aa.xs.length
section
variable (z:Nat)(c:Ai)(b4 o5:Nat)(k0 b15 o16:Nat)(y11:Sl Fq)
abbrev Oh:=bk z (Ai.arr c) 26
abbrev LP:D7:=(14,.slice (some ⟨b4,o5,none⟩) (k0 - 0) (c.Bc.cap - 0))
abbrev Ti:D7:=(20,.slice (some ⟨b15,o16,none⟩) y11.xs.length y11.cap)
abbrev Qm:D7:=(14,.slice c.Bc.a (k0 - 0) (c.Bc.cap - 0))
abbrev NR:=(21,Ac y11.xs.length)
abbrev Qg:D7:=(20,.slice y11.a y11.xs.length y11.cap)
abbrev J9:=(15,i6 ((k0 - 0:Nat):Int))
end
theorem SL(w:World)(c:Ai)(hc:Ai.ok Any w c)(k0:Nat)(hk0:k0<c.Bc.xs.length)(p:Int):Calls Tryd.prog 94 #[.agg (Ai.arr c),.int .i64 (k0:Int),.int .i64 p] w fun e w'=>e = .returned (.bool (Ip c k0 p))∧Ce (fun _=>False) w w':=by
 obtain⟨z,hz⟩:∃ z,z=w.heap.size:=⟨_,rfl⟩
 refine Bf (args:=[.agg (Ai.arr c),Ac k0,i6 p]) 36 ⟨w,z,[(Ak w)]⟩ Tryd.func94 rfl (by kernel_rfl) (by kernel_rfl) (Ed hz) ?_
 have hpl:=hc.Bc.1.len;have hpc:=hc.Bc.1.le
 refine Di [0,1,2] [(0,.agg (Ai.arr c)),(1,Ac k0),(2,i6 p)] ?_
 refine q_c 10 0 [] [[o0,o0],[o0,(a1 1),o0,⟨.slc 0 k0 false,none⟩,o0,o0]] [Qb z,(0:Int)=((0:Nat):Int),Dc k0,0≤k0,k0≤c.Bc.cap,c.Bc.cap=0∨(0:Nat)=0] [(2,i6 p),(Qm c k0),(J9 k0),(16,i6 0)] ⟨w,z+1,[(Ak w),(Oh z c)]⟩ rfl ⟨rfl,rfl,rfl,(by omega),(by omega),.inr rfl,Ae⟩ ?_
 refine D8 (fun m a w'=>∃ (n2:Nat) (k:Nat),m=k0 - k∧z+1≤n2∧(k≤k0)∧(∀ i,i<k→Zd c p i=false)∧St 36 [(2,i6 p),(Qm c k0),(J9 k0),(16,Ac k)] [] ⟨w,n2,[(Ak w),(Oh z c)]⟩ a w') (k0 - 0) ?_ ?_
 ·intro a w' hs;exact⟨(z+1),0,rfl,Nat.le_refl _,Nat.zero_le _,fun i hi=>absurd hi (Nat.not_lt_zero i),hs⟩
 rintro m a w' ⟨n2,k,rfl,hn1,hkk,hf,hs⟩
 refine(?_:G Tryd.prog 36 [(2,i6 p),(Qm c k0),(J9 k0),(16,Ac k)] [] ⟨w,n2,[(Ak w),(Oh z c)]⟩ _ _ _) a w' hs
 clear hs a w'
 refine CW ?_
 by_cases h3:(k:Int)<((k0 - 0:Nat):Int)
 ·refine Au 10 0 [1] [[oT]] [BT ((k:Int)<((k0 - 0:Nat):Int))] [(2,i6 p),(Qm c k0),(J9 k0),(16,Ac k),(17,.bool true)] rfl ⟨bt,Ae⟩ ?_
  obtain⟨b4,o5,ha6,hF8,hc7⟩:=(hc.Bc).1.all (show 0<c.Bc.xs.length by omega)
  replace ha6:c.Bc.a=some ⟨b4,o5,none⟩:=ha6
  refine Lj [(2,i6 p),(LP c b4 o5 k0),(J9 k0),(16,Ac k),(17,.bool true)] (by(try dsimp only[Oh,LP,Qm,J9]);simp only[ha6]) ?_
  have hc9:=hc7 k (show k<c.Bc.xs.length by omega)
  have he10:=(hc.Bc).2 k (show k<c.Bc.xs.length by omega)
  obtain⟨y11,hy11⟩:∃ y_,y_=gd c.Bc.xs k:=⟨_,rfl⟩
  rw[←hy11]at he10 hc9
  refine Au 8 0 [] [[(oi k),(oa [.via 0 (.slice y11.a y11.xs.length y11.cap)]),o0],[o0,o0,o0]] [Dc k,k<k0 - 0,BM,Old w b4 (o5+k) (.slice y11.a y11.xs.length y11.cap)] [(2,i6 p),(LP c b4 o5 k0),(J9 k0),(16,Ac k),(Qg y11),(NR y11),(22,i6 0)] rfl ⟨rfl,(by omega),rfl,Aw (hc9 0 _ rfl),Ae⟩ ?_
  refine D8 (fun m a w'=>∃ (n13:Nat) (j:Nat),m=y11.xs.length - j∧n2≤n13∧(j≤y11.xs.length)∧(∀ i,i<j→(decide (0≤p)&&decide ((gd (DU c k).xs i).Partition=p))=false)∧St 36 [(2,i6 p),(LP c b4 o5 k0),(J9 k0),(16,Ac k),(Qg y11),(NR y11),(22,Ac j)] [] ⟨w,n13,[(Ak w),(Oh z c)]⟩ a w') (y11.xs.length - 0) ?_ ?_
  ·intro a w' hs;exact⟨n2,0,rfl,Nat.le_refl _,Nat.zero_le _,fun i hi=>absurd hi (Nat.not_lt_zero i),hs⟩
  rintro m a w' ⟨n13,j,rfl,hn12,hkj,hg,hs⟩
  refine(?_:G Tryd.prog 36 [(2,i6 p),(LP c b4 o5 k0),(J9 k0),(16,Ac k),(Qg y11),(NR y11),(22,Ac j)] [] ⟨w,n13,[(Ak w),(Oh z c)]⟩ _ _ _) a w' hs
  clear hs a w'
  have hyl:=he10.1.len
  refine CW ?_
  by_cases h14:(j:Int)<(y11.xs.length:Int)
  ·refine Au 10 0 [1] [[oT]] [BT ((j:Int)<(y11.xs.length:Int))] [(2,i6 p),(LP c b4 o5 k0),(J9 k0),(16,Ac k),(Qg y11),(NR y11),(22,Ac j),(23,.bool true)] rfl ⟨bt,Ae⟩ ?_
   obtain⟨b15,o16,ha17,hF19,hc18⟩:=(he10).1.all (show 0<y11.xs.length by omega)
   replace ha17:y11.a=some ⟨b15,o16,none⟩:=ha17
   refine Lj [(2,i6 p),(LP c b4 o5 k0),(J9 k0),(16,Ac k),(Ti b15 o16 y11),(NR y11),(22,Ac j),(23,.bool true)] (by(try dsimp only[Oh,LP,Ti,Qm,NR,Qg,J9]);simp only[ha17]) ?_
   have hc20:=hc18 j (show j<y11.xs.length by omega)
   have he21:=(he10).2 j (show j<y11.xs.length by omega)
   obtain⟨y22,hy22⟩:∃ y_,y_=gd y11.xs j:=⟨_,rfl⟩
   rw[←hy22]at he21 hc20
   refine q_c 4 0 [] [[(oi j),(ol 0 (Fq.arr y22)),o0,(an 3 2)]] [Dc j,j<y11.xs.length,BM,GN w b15 (o16+j*3) (Fq.arr y22),Qb n13,Qb n13,Qb n13] [(2,i6 p),(LP c b4 o5 k0),(J9 k0),(16,Ac k),(Ti b15 o16 y11),(NR y11),(22,Ac j),(10,pt n13)] ⟨w,n13+1,[(Ak w),(Oh z c),(bk n13 (Fq.arr y22) 158)]⟩ rfl ⟨rfl,(by omega),rfl,Em hc20,rfl,rfl,rfl,Ae⟩ ?_
   by_cases h23:(p:Int)<0
   ·refine Au 9 0 [0] [[o0,oF,o0,o0],[(ov (i6 ((j+1:Nat):Int))),o0]] [BF ((p:Int)≥0),Wr ((j:Int)+1) (((j+1:Nat):Int))] [(2,i6 p),(LP c b4 o5 k0),(J9 k0),(16,Ac k),(Ti b15 o16 y11),(NR y11),(22,i6 ((j+1:Nat):Int))] rfl ⟨bf,BP,Ae⟩ ?_
    refine Cc [0,1] [(Ak w),(Oh z c)] rfl rfl ?_
    refine GH [2,14,15,16,20,21,22] [(2,i6 p),(LP c b4 o5 k0),(J9 k0),(16,Ac k),(Qg y11),(NR y11),(22,i6 ((j+1:Nat):Int))] (by(try dsimp only[Oh,LP,Ti,Qm,NR,Qg,J9]);simp only[ha17];rfl) ?_
    refine BR (fun a w' hs=>⟨y11.xs.length - (j+1),by omega,(n13+1),(j+1),rfl,by omega,by omega,EP hg (by have e:gd (DU c k).xs j=y22:=(by rw[hy22,hy11]);simp only[e];simp;omega),hs⟩)
   by_cases h24:(y22.Partition:Int)=p
   ·refine Au 9 0 [1] [[o0,oT,o0,o0,(a1 2),o0,oT,o0],[o0]] [BT ((p:Int)≥0),Qb n13,ET y22.Partition p] [(6,.bool true)] rfl ⟨bt,rfl,et,Ae⟩ ?_
    refine Az [] [] (.bool true) Ae ?_
    intro w25 hw25
    refine⟨congrArg (fun b=>Ending.returned (Value.bool b)) (?_:true=Ip c k0 p),AB hw25⟩
    refine Eq.symm (range_any (k:=k) (by omega) (range_any (k:=j) (by dsimp only[DU];rw[←hy11];omega) ?_))
    have e:gd (DU c k).xs j=y22:=(by rw[hy22,hy11]);simp only[e];simp;omega
   refine Au 9 0 [0] [[o0,oT,o0,o0,(a1 2),o0,oF,o0],[(ov (i6 ((j+1:Nat):Int))),o0]] [BT ((p:Int)≥0),Qb n13,EF y22.Partition p,Wr ((j:Int)+1) (((j+1:Nat):Int))] [(2,i6 p),(LP c b4 o5 k0),(J9 k0),(16,Ac k),(Ti b15 o16 y11),(NR y11),(22,i6 ((j+1:Nat):Int))] rfl ⟨bt,rfl,ef,BP,Ae⟩ ?_
   refine Cc [0,1] [(Ak w),(Oh z c)] rfl rfl ?_
   refine GH [2,14,15,16,20,21,22] [(2,i6 p),(LP c b4 o5 k0),(J9 k0),(16,Ac k),(Qg y11),(NR y11),(22,i6 ((j+1:Nat):Int))] (by(try dsimp only[Oh,LP,Ti,Qm,NR,Qg,J9]);simp only[ha17];rfl) ?_
   refine BR (fun a w' hs=>⟨y11.xs.length - (j+1),by omega,(n13+1),(j+1),rfl,by omega,by omega,EP hg (by have e:gd (DU c k).xs j=y22:=(by rw[hy22,hy11]);simp only[e];simp;omega),hs⟩)
  refine Au 13 0 [0] [[oF],[(ov (i6 ((k+1:Nat):Int))),o0]] [BF ((j:Int)<(y11.xs.length:Int)),Wr ((k:Int)+1) (((k+1:Nat):Int))] [(2,i6 p),(LP c b4 o5 k0),(J9 k0),(16,i6 ((k+1:Nat):Int))] rfl ⟨bf,BP,Ae⟩ ?_
  refine GH [2,14,15,16] [(2,i6 p),(Qm c k0),(J9 k0),(16,i6 ((k+1:Nat):Int))] (by(try dsimp only[Oh,LP,Ti,Qm,NR,Qg,J9]);simp only[ha6];rfl) ?_
  refine BR (fun a w' hs=>⟨k0 - (k+1),by omega,n13,(k+1),rfl,by omega,by omega,EP hf (Gv (fun i hi=>hg i (by dsimp only[DU]at hi;rw[←hy11]at hi;omega))),hs⟩)
 refine Au 15 0 [0] [[oF],[o0]] [BF ((k:Int)<((k0 - 0:Nat):Int))] [(6,.bool false)] rfl ⟨bf,Ae⟩ ?_
 refine Az [] [] (.bool false) Ae ?_
 intro w26 hw26
 refine⟨congrArg (fun b=>Ending.returned (Value.bool b)) (?_:false=Ip c k0 p),AB hw26⟩
 exact(Gv (fun i hi=>hf i (by omega))).symm
section
variable (n2:Nat)(y11:Aq)(z:Nat)(c:Ai)(h:Int)(i j:Nat)(b4 o5:Nat)(b15 o16:Nat)
abbrev G6:=bk n2 (Aq.arr y11) 35
abbrev EX:=bk z (Ai.arr c) 26
abbrev FB:=(4,i6 ((JS (Fz h) c.Aa.xs i+N8 (Fz h) y11.Ap.xs j:Nat):Int))
abbrev FD:=(5,i6 ((JS (F5 h) c.Aa.xs i+N8 (F5 h) y11.Ap.xs j:Nat):Int))
abbrev FH:D7:=(11,.slice (some ⟨b4,o5,none⟩) c.Aa.xs.length c.Aa.cap)
abbrev Hy:D7:=(18,.slice (some ⟨b15,o16,none⟩) y11.Ap.xs.length y11.Ap.cap)
abbrev FQ:D7:=(11,.slice c.Aa.a c.Aa.xs.length c.Aa.cap)
abbrev FK:=(4,i6 ((JS (Fz h) c.Aa.xs i:Nat):Int))
abbrev Fa:=(5,i6 ((JS (F5 h) c.Aa.xs i:Nat):Int))
abbrev GL:D7:=(18,.slice y11.Ap.a y11.Ap.xs.length y11.Ap.cap)
abbrev Ey:=(12,Ac c.Aa.xs.length)
abbrev ER:=(19,Ac y11.Ap.xs.length)
abbrev Ew:=(20,i6 ((j+1:Nat):Int))
end
theorem RQ(w:World)(c:Ai)(hc:Ai.ok Any w c)(h:Int)(hm:c.Aa.xs.length≤1024)(hq:∀ p,p<c.Aa.xs.length→(gd c.Aa.xs p).Ap.xs.length≤1024):Calls Tryd.prog 93 #[.agg (Ai.arr c),.int .i64 h] w fun e w'=>e = .returned (.tuple #[.int .i64 (IP c h:Nat),.int .i64 (Bz c h:Nat)])∧Ce (fun _=>False) w w':=by
 obtain⟨z,hz⟩:∃ z,z=w.heap.size:=⟨_,rfl⟩
 refine Bf (args:=[.agg (Ai.arr c),i6 h]) 40 ⟨w,z,[(Ak w)]⟩ Tryd.func93 rfl (by kernel_rfl) (by kernel_rfl) (Ed hz) ?_
 have hpl:=hc.Aa.1.len
 refine Di [0,1] [(0,.agg (Ai.arr c)),(1,i6 h)] ?_
 refine q_c 10 0 [] [[o0,o0,o0],[o0,(a1 1),o0,o0]] [Qb z] [(1,i6 h),(4,i6 0),(5,i6 0),(FQ c),(Ey c),(13,i6 0)] ⟨w,z+1,[(Ak w),(EX z c)]⟩ rfl ⟨rfl,Ae⟩ ?_
 refine D8 (fun m a w'=>∃ (n2:Nat) (i:Nat),m=c.Aa.xs.length - i∧z+1≤n2∧(i≤c.Aa.xs.length)∧St 40 [(1,i6 h),(FK c h i),(Fa c h i),(FQ c),(Ey c),(13,Ac i)] [] ⟨w,n2,[(Ak w),(EX z c)]⟩ a w') (c.Aa.xs.length - 0) ?_ ?_
 ·intro a w' hs;exact⟨(z+1),0,rfl,Nat.le_refl _,Nat.zero_le _,hs⟩
 rintro m a w' ⟨n2,i,rfl,hn1,hki,hs⟩
 refine(?_:G Tryd.prog 40 [(1,i6 h),(FK c h i),(Fa c h i),(FQ c),(Ey c),(13,Ac i)] [] ⟨w,n2,[(Ak w),(EX z c)]⟩ _ _ _) a w' hs
 clear hs a w'
 have bb4:=WQ (f:=Fz h) (n:=i) (m:=1024) (fun p hp=>hq p (by omega))
 have bb5:=WQ (f:=F5 h) (n:=i) (m:=1024) (fun p hp=>hq p (by omega))
 refine CW ?_
 by_cases h3:(i:Int)<(c.Aa.xs.length:Int)
 ·refine Au 10 0 [1] [[oT]] [BT ((i:Int)<(c.Aa.xs.length:Int))] [(1,i6 h),(FK c h i),(Fa c h i),(FQ c),(Ey c),(13,Ac i),(14,.bool true)] rfl ⟨bt,Ae⟩ ?_
  obtain⟨b4,o5,ha6,hF8,hc7⟩:=(hc.Aa).1.all (show 0<c.Aa.xs.length by omega)
  replace ha6:c.Aa.a=some ⟨b4,o5,none⟩:=ha6
  refine Lj [(1,i6 h),(FK c h i),(Fa c h i),(FH c b4 o5),(Ey c),(13,Ac i),(14,.bool true)] (by(try dsimp only[EX,FH,FQ,FK,Fa,Ey]);simp only[ha6]) ?_
  have hc9:=hc7 i (show i<c.Aa.xs.length by omega)
  have he10:=(hc.Aa).2 i (show i<c.Aa.xs.length by omega)
  obtain⟨y11,hy11⟩:∃ y_,y_=gd c.Aa.xs i:=⟨_,rfl⟩
  rw[←hy11]at he10 hc9
  refine q_c 8 0 [] [[(oi i),(ol 0 (Aq.arr y11)),o0,(an 8 2)],[o0,(a1 2),o0,o0]] [Dc i,i<c.Aa.xs.length,BM,GN w b4 (o5+i*8) (Aq.arr y11),Qb n2,Qb n2,Qb n2,Qb n2,Qb n2,Qb n2,Qb n2,Qb n2,Qb n2] [(1,i6 h),(FK c h i),(Fa c h i),(FH c b4 o5),(Ey c),(13,Ac i),(GL y11),(ER y11),(20,i6 0)] ⟨w,n2+1,[(Ak w),(EX z c),(G6 n2 y11)]⟩ rfl ⟨rfl,(by omega),rfl,Em hc9,rfl,rfl,rfl,rfl,rfl,rfl,rfl,rfl,rfl,Ae⟩ ?_
  refine D8 (fun m a w'=>∃ (n13:Nat) (j:Nat),m=y11.Ap.xs.length - j∧n2+1≤n13∧(j≤y11.Ap.xs.length)∧St 40 [(1,i6 h),(FB y11 c h i j),(FD y11 c h i j),(FH c b4 o5),(Ey c),(13,Ac i),(GL y11),(ER y11),(20,Ac j)] [] ⟨w,n13,[(Ak w),(EX z c),(G6 n2 y11)]⟩ a w') (y11.Ap.xs.length - 0) ?_ ?_
  ·intro a w' hs;exact⟨(n2+1),0,rfl,Nat.le_refl _,Nat.zero_le _,hs⟩
  rintro m a w' ⟨n13,j,rfl,hn12,hkj,hs⟩
  refine(?_:G Tryd.prog 40 [(1,i6 h),(FB y11 c h i j),(FD y11 c h i j),(FH c b4 o5),(Ey c),(13,Ac i),(GL y11),(ER y11),(20,Ac j)] [] ⟨w,n13,[(Ak w),(EX z c),(G6 n2 y11)]⟩ _ _ _) a w' hs
  clear hs a w'
  have c4:=ZX (Fz h) y11.Ap.xs j
  have c5:=ZX (F5 h) y11.Ap.xs j
  have hyl:=hq i (by omega);rw[←hy11]at hyl
  refine CW ?_
  by_cases h14:(j:Int)<(y11.Ap.xs.length:Int)
  ·refine Au 10 0 [1] [[oT]] [BT ((j:Int)<(y11.Ap.xs.length:Int))] [(1,i6 h),(FB y11 c h i j),(FD y11 c h i j),(FH c b4 o5),(Ey c),(13,Ac i),(GL y11),(ER y11),(20,Ac j),(21,.bool true)] rfl ⟨bt,Ae⟩ ?_
   obtain⟨b15,o16,ha17,hF19,hc18⟩:=(he10.Ap).1.all (show 0<y11.Ap.xs.length by omega)
   replace ha17:y11.Ap.a=some ⟨b15,o16,none⟩:=ha17
   refine Lj [(1,i6 h),(FB y11 c h i j),(FD y11 c h i j),(FH c b4 o5),(Ey c),(13,Ac i),(Hy y11 b15 o16),(ER y11),(20,Ac j),(21,.bool true)] (by(try dsimp only[G6,EX,FB,FD,FH,Hy,FQ,FK,Fa,GL,Ey,ER]);simp only[ha17]) ?_
   have hc20:=hc18 j (show j<y11.Ap.xs.length by omega)
   have he21:=(he10.Ap).2 j (show j<y11.Ap.xs.length by omega)
   obtain⟨y22,hy22⟩:∃ y_,y_=gd y11.Ap.xs j:=⟨_,rfl⟩
   rw[←hy22]at he21 hc20
   refine q_c 5 0 [] [[(oi j),(ol 0 (EE.arr y22)),o0,(an 2 3)]] [Dc j,j<y11.Ap.xs.length,BM,GN w b15 (o16+j*2) (EE.arr y22),Qb n13,Qb n13] [(1,i6 h),(FB y11 c h i j),(FD y11 c h i j),(FH c b4 o5),(Ey c),(13,Ac i),(Hy y11 b15 o16),(ER y11),(20,Ac j),(9,pt n13)] ⟨w,n13+1,[(Ak w),(EX z c),(G6 n2 y11),(bk n13 (EE.arr y22) 127)]⟩ rfl ⟨rfl,(by omega),rfl,Em hc20,rfl,rfl,Ae⟩ ?_
   by_cases h23:(y22.Channel:Int)=h
   ·refine Au 8 0 [0] [[o0,(a1 3),o0,oF,o0],[o0,(a1 3),o0]] [Qb n13,NF y22.Channel h,Qb n13] [(1,i6 h),(FB y11 c h i j),(FD y11 c h i j),(FH c b4 o5),(Ey c),(13,Ac i),(Hy y11 b15 o16),(ER y11),(20,Ac j),(31,.bool y22.Source)] rfl ⟨rfl,nf,rfl,Ae⟩ ?_
    by_cases h24:y22.Source=true
    ·refine Au 8 0 [3] [[o0,(ov (i6 (((JS (Fz h) c.Aa.xs i+N8 (Fz h) y11.Ap.xs j)+1:Nat):Int))),o0],[(ov (i6 ((j+1:Nat):Int))),o0]] [Value.bool y22.Source=Value.bool true,Wr ((((JS (Fz h) c.Aa.xs i+N8 (Fz h) y11.Ap.xs j:Nat):Int):Int)+1) ((((JS (Fz h) c.Aa.xs i+N8 (Fz h) y11.Ap.xs j)+1:Nat):Int)),Wr ((j:Int)+1) (((j+1:Nat):Int))] [(1,i6 h),(4,i6 (((JS (Fz h) c.Aa.xs i+N8 (Fz h) y11.Ap.xs j)+1:Nat):Int)),(FD y11 c h i j),(FH c b4 o5),(Ey c),(13,Ac i),(Hy y11 b15 o16),(ER y11),(Ew j)] rfl ⟨(congrArg Value.bool h24),BP,BP,Ae⟩ ?_
     refine Cc [0,1,2] [(Ak w),(EX z c),(G6 n2 y11)] rfl rfl ?_
     have e4:=LY (Fz h) y11.Ap.xs (n:=j) (by omega);rw[←hy22]at e4
     have e5:=LY (F5 h) y11.Ap.xs (n:=j) (by omega);rw[←hy22]at e5
     simp[Fz,h23,h24]at e4
     simp[F5,h23,h24]at e5
     refine GH [1,4,5,11,12,13,18,19,20] [(1,i6 h),(4,i6 (((JS (Fz h) c.Aa.xs i+N8 (Fz h) y11.Ap.xs j)+1:Nat):Int)),(FD y11 c h i j),(FH c b4 o5),(Ey c),(13,Ac i),(GL y11),(ER y11),(Ew j)] (by(try dsimp only[G6,EX,FB,FD,FH,Hy,FQ,FK,Fa,GL,Ey,ER,Ew]);simp only[ha17];rfl) ?_
     refine BR (fun a w' hs=>⟨y11.Ap.xs.length - (j+1),by omega,(n13+1),(j+1),rfl,by omega,by omega,(by(try dsimp only[G6,EX,FB,FD,FH,Hy,FQ,FK,Fa,GL,Ey,ER,Ew]at hs ⊢);rw[e4,e5];exact hs)⟩)
    refine Au 8 0 [2] [[o0,(ov (i6 (((JS (F5 h) c.Aa.xs i+N8 (F5 h) y11.Ap.xs j)+1:Nat):Int))),o0],[(ov (i6 ((j+1:Nat):Int))),o0]] [Value.bool y22.Source=Value.bool false,Wr ((((JS (F5 h) c.Aa.xs i+N8 (F5 h) y11.Ap.xs j:Nat):Int):Int)+1) ((((JS (F5 h) c.Aa.xs i+N8 (F5 h) y11.Ap.xs j)+1:Nat):Int)),Wr ((j:Int)+1) (((j+1:Nat):Int))] [(1,i6 h),(FB y11 c h i j),(5,i6 (((JS (F5 h) c.Aa.xs i+N8 (F5 h) y11.Ap.xs j)+1:Nat):Int)),(FH c b4 o5),(Ey c),(13,Ac i),(Hy y11 b15 o16),(ER y11),(Ew j)] rfl ⟨(congrArg Value.bool (Bool.eq_false_iff.2 h24)),BP,BP,Ae⟩ ?_
    refine Cc [0,1,2] [(Ak w),(EX z c),(G6 n2 y11)] rfl rfl ?_
    have e4:=LY (Fz h) y11.Ap.xs (n:=j) (by omega);rw[←hy22]at e4
    have e5:=LY (F5 h) y11.Ap.xs (n:=j) (by omega);rw[←hy22]at e5
    simp[Fz,h23,h24]at e4
    simp[F5,h23,h24]at e5
    refine GH [1,4,5,11,12,13,18,19,20] [(1,i6 h),(FB y11 c h i j),(5,i6 (((JS (F5 h) c.Aa.xs i+N8 (F5 h) y11.Ap.xs j)+1:Nat):Int)),(FH c b4 o5),(Ey c),(13,Ac i),(GL y11),(ER y11),(Ew j)] (by(try dsimp only[G6,EX,FB,FD,FH,Hy,FQ,FK,Fa,GL,Ey,ER,Ew]);simp only[ha17];rfl) ?_
    refine BR (fun a w' hs=>⟨y11.Ap.xs.length - (j+1),by omega,(n13+1),(j+1),rfl,by omega,by omega,(by(try dsimp only[G6,EX,FB,FD,FH,Hy,FQ,FK,Fa,GL,Ey,ER,Ew]at hs ⊢);rw[e4,e5];exact hs)⟩)
   refine Au 10 0 [1] [[o0,(a1 3),o0,oT,o0],[(ov (i6 ((j+1:Nat):Int))),o0]] [Qb n13,NT y22.Channel h,Wr ((j:Int)+1) (((j+1:Nat):Int))] [(1,i6 h),(FB y11 c h i j),(FD y11 c h i j),(FH c b4 o5),(Ey c),(13,Ac i),(Hy y11 b15 o16),(ER y11),(Ew j)] rfl ⟨rfl,nt,BP,Ae⟩ ?_
   refine Cc [0,1,2] [(Ak w),(EX z c),(G6 n2 y11)] rfl rfl ?_
   have e4:=LY (Fz h) y11.Ap.xs (n:=j) (by omega);rw[←hy22]at e4
   have e5:=LY (F5 h) y11.Ap.xs (n:=j) (by omega);rw[←hy22]at e5
   simp[Fz,h23]at e4
   simp[F5,h23]at e5
   refine GH [1,4,5,11,12,13,18,19,20] [(1,i6 h),(FB y11 c h i j),(FD y11 c h i j),(FH c b4 o5),(Ey c),(13,Ac i),(GL y11),(ER y11),(Ew j)] (by(try dsimp only[G6,EX,FB,FD,FH,Hy,FQ,FK,Fa,GL,Ey,ER,Ew]);simp only[ha17];rfl) ?_
   refine BR (fun a w' hs=>⟨y11.Ap.xs.length - (j+1),by omega,(n13+1),(j+1),rfl,by omega,by omega,(by(try dsimp only[G6,EX,FB,FD,FH,Hy,FQ,FK,Fa,GL,Ey,ER,Ew]at hs ⊢);rw[e4,e5];exact hs)⟩)
  refine Au 13 0 [0] [[oF],[(ov (i6 ((i+1:Nat):Int))),o0]] [BF ((j:Int)<(y11.Ap.xs.length:Int)),Wr ((i:Int)+1) (((i+1:Nat):Int))] [(1,i6 h),(FB y11 c h i j),(FD y11 c h i j),(FH c b4 o5),(Ey c),(13,i6 ((i+1:Nat):Int))] rfl ⟨bf,BP,Ae⟩ ?_
  refine Cc [0,1] [(Ak w),(EX z c)] rfl rfl ?_
  have e4:=UT (Fz h) c.Aa.xs i;rw[←hy11]at e4
  have e5:=UT (F5 h) c.Aa.xs i;rw[←hy11]at e5
  refine GH [1,4,5,11,12,13] [(1,i6 h),(FB y11 c h i j),(FD y11 c h i j),(FQ c),(Ey c),(13,i6 ((i+1:Nat):Int))] (by(try dsimp only[G6,EX,FB,FD,FH,Hy,FQ,FK,Fa,GL,Ey,ER,Ew]);simp only[ha6];rfl) ?_
  refine BR (fun a w' hs=>⟨c.Aa.xs.length - (i+1),by omega,n13,(i+1),rfl,by omega,by omega,(by(try dsimp only[G6,EX,FB,FD,FH,Hy,FQ,FK,Fa,GL,Ey,ER,Ew]at hs ⊢);rw[Yg (Fz h) y11.Ap.xs (n:=j) (by omega),Yg (F5 h) y11.Ap.xs (n:=j) (by omega),←e4,←e5]at hs;exact hs)⟩)
 refine Au 15 0 [0] [[oF],[o0,o0,o0,o0]] [BF ((i:Int)<(c.Aa.xs.length:Int))] [(FK c h i),(Fa c h i)] rfl ⟨bf,Ae⟩ ?_
 refine Az [] [] (.tuple #[i6 ((JS (Fz h) c.Aa.xs i:Nat):Int),i6 ((JS (F5 h) c.Aa.xs i:Nat):Int)]) Ae ?_
 intro w25 hw25
 exact⟨by rw[show i=c.Aa.xs.length from by omega];rfl,AB hw25⟩
def Bd(g:CS):Prop:=(0≤g.Bl∧g.Bl≤255)∧(1≤g.AO∧g.AO≤256)∧(0≤g.Frame∧g.Frame≤1024)
def J3(c:Ai)(g:CS):Bool:=win g.Bl 0 255&&win g.AO 1 (256 - g.Bl)&&decide (0≤g.Frame)&&decide (g.AO≤c.Frames - g.Frame)&&win g.Io 1 7
def Qv(c:Ai)(p k i:Nat):Bool:=meet (DV c p k).Bl (DV c p k).AO (DV c p i).Bl (DV c p i).AO
def Qw(c:Ai)(p k q n:Nat):Bool:=(decide (q<p)||decide (n<k))&&meet (DV c p k).Frame (DV c p k).AO (DV c q n).Frame (DV c q n).AO
def Zf(c:Ai)(p k q:Nat):Bool:=(List.range (Es c q).Ah.xs.length).any (Qw c p k q)
def EK(c:Ai)(p k:Nat):Am:=if J3 c (DV c p k)=false then⟨409,⟨p,k⟩⟩else if(List.range k).any (Qv c p k)=true then⟨410,⟨p,k⟩⟩else if(List.range (p+1)).any (Zf c p k)=true then⟨411,⟨p,k⟩⟩else AQ
theorem UL{c:Ai}{p k:Nat}(h:J3 c (DV c p k)=false):EK c p k=⟨409,⟨p,k⟩⟩:=by unfold EK;rw[if_pos h]
theorem regQ_b{c:Ai}{p k:Nat}(h:J3 c (DV c p k)=true)(h2:(List.range k).any (Qv c p k)=true):EK c p k=⟨410,⟨p,k⟩⟩:=by unfold EK;rw[if_neg (by simp[h]),if_pos h2]
theorem WP{c:Ai}{p k:Nat}(h:J3 c (DV c p k)=true)(h2:(List.range k).any (Qv c p k)=false)(h3:(List.range (p+1)).any (Zf c p k)=true):EK c p k=⟨411,⟨p,k⟩⟩:=by unfold EK;rw[if_neg (by simp[h]),if_neg (by simp[h2]),if_pos h3]
theorem regQ_d{c:Ai}{p k:Nat}(h:J3 c (DV c p k)=true)(h2:(List.range k).any (Qv c p k)=false)(h3:(List.range (p+1)).any (Zf c p k)=false):EK c p k=AQ:=by unfold EK;rw[if_neg (by simp[h]),if_neg (by simp[h2]),if_neg (by simp[h3])]
theorem Yx{c:Ai}{g:CS}(hF:c.Frames≤1024)(h:J3 c g=true):Bd g:=by
 unfold J3 win at h;simp at h;unfold Bd;omega
theorem UX{c:Ai}{p k:Nat}(h:EK c p k=AQ):J3 c (DV c p k)=true:=by
 by_cases hb:J3 c (DV c p k)=false
 ·rw[UL hb]at h;exact absurd (congrArg Am.e h) (by decide:¬ (409:Int)=0)
 simpa using hb
section
variable (z p k:Nat)(y16:CS)(n58:Nat)(y62:Aq)(c:Ai)(b66 o67:Nat)(b1 o2:Nat)(b9 o10:Nat)(y8:Aq)(n:Nat)(w:World)
abbrev X0:=bk (z+1) #[i6 409,Ac p,Ac k] 132
abbrev MW:=bk (z+1) #[i6 0,i6 0,i6 0] 132
abbrev JD:=bk (z+2) (CS.arr y16) 147
abbrev Tn:=bk n58 (Aq.arr y62) 35
abbrev Jt:=bk z (Ai.arr c) 26
abbrev Ot:D7:=(100,.slice (some ⟨b66,o67,none⟩) y62.Ah.xs.length y62.Ah.cap)
abbrev IC:D7:=(92,.slice (some ⟨b1,o2,none⟩) (p+1 - 0) (c.Aa.cap - 0))
abbrev Py:D7:=(100,.slice y62.Ah.a y62.Ah.xs.length y62.Ah.cap)
abbrev OG:D7:=(68,.slice (some ⟨b9,o10,none⟩) (k - 0) (y8.Ah.cap - 0))
abbrev Kw:=(101,Ac y62.Ah.xs.length)
abbrev Ht:=(93,i6 ((p+1 - 0:Nat):Int))
abbrev PV:=(102,i6 ((n+1:Nat):Int))
abbrev DR:=(6,pt (z+1))
abbrev EQ:=(7,pt (z+2))
abbrev Nr:=(69,i6 ((k - 0:Nat):Int))
abbrev OZ:=[(Ak w),(Jt z c),(MW z),(JD z y16),(Tn n58 y62)]
end
theorem region_calls(w:World)(hL:Js w)(c:Ai)(hc:Ai.ok Any w c)(p k:Nat)(hp:p<c.Aa.xs.length)(hk:k<(gd c.Aa.xs p).Ah.xs.length)(hFr:1≤c.Frames∧c.Frames≤1024)(hb:∀ q n,q≤p→n<(gd c.Aa.xs q).Ah.xs.length→(q<p∨n<k)→Bd (DV c q n)):Calls Tryd.prog 90 #[.agg (Ai.arr c),.int .i64 (p:Int),.int .i64 (k:Int)] w fun e w'=>e = .returned (.agg (Am.arr (EK c p k)))∧Ce (fun _=>False) w w':=by
 obtain⟨z,hz⟩:∃ z,z=w.heap.size:=⟨_,rfl⟩
 refine Bf (args:=[.agg (Ai.arr c),Ac p,Ac k]) 133 ⟨w,z,[(Ak w)]⟩ Tryd.func90 rfl (by kernel_rfl) (by kernel_rfl) (Ed hz) ?_
 have hpl:=hc.Aa.1.len;have hpc:=hc.Aa.1.le;have hrl:=(hc.Aa.2 p hp).Ah.1.len;have hrc:=(hc.Aa.2 p hp).Ah.1.le
 refine Di [0,1,2] [(0,.agg (Ai.arr c)),(1,Ac p),(2,Ac k)] ?_
 refine q_c 5 0 [] [[o0,o0]] [] [(1,Ac p),(2,Ac k),(3,pt z),(DR z)] ⟨w,z+2,[(Ak w),(Jt z c),(MW z)]⟩ rfl Ae ?_
 obtain⟨b1,o2,ha3,hF5,hc4⟩:=(hc.Aa).1.all (show 0<c.Aa.xs.length by omega)
 replace ha3:c.Aa.a=some ⟨b1,o2,none⟩:=ha3
 have hc6:=hc4 p (show p<c.Aa.xs.length by omega)
 have he7:=(hc.Aa).2 p (show p<c.Aa.xs.length by omega)
 obtain⟨y8,hy8⟩:∃ y_,y_=gd c.Aa.xs p:=⟨_,rfl⟩
 rw[←hy8]at he7 hc6
 (try rw[←hy8]at hk hrl hrc)
 obtain⟨b9,o10,ha11,hF13,hc12⟩:=(he7.Ah).1.all (show 0<y8.Ah.xs.length by omega)
 replace ha11:y8.Ah.a=some ⟨b9,o10,none⟩:=ha11
 have hc14:=hc12 k (show k<y8.Ah.xs.length by omega)
 have he15:=(he7.Ah).2 k (show k<y8.Ah.xs.length by omega)
 obtain⟨y16,hy16⟩:∃ y_,y_=gd y8.Ah.xs k:=⟨_,rfl⟩
 rw[←hy16]at he15 hc14
 have hfy16:(-9223372036854775808:Int)≤y16.Frame∧y16.Frame≤9223372036854775807:=he15.Frame
 refine q_c 6 2 [] [[o0,(EM 1 b1 o2 c.Aa),o0,(oi p),o0,⟨.auto [.via 0 (.slice y8.Ah.a y8.Ah.xs.length y8.Ah.cap)],some (.slice (some ⟨b9,o10,none⟩) y8.Ah.xs.length y8.Ah.cap)⟩,o0,(oi k),(ol 0 (CS.arr y16)),o0,(an 4 3)],[o0,(a1 3)]] [Qb z,Ej b1 o2 c.Aa,Dc p,p<c.Aa.xs.length,BM,Old w b1 (o2+p*8+6) (.slice y8.Ah.a y8.Ah.xs.length y8.Ah.cap),Ej b9 o10 y8.Ah,Dc k,k<y8.Ah.xs.length,BM,GN w b9 (o10+k*4) (CS.arr y16),Qb (z+2),Qb (z+2),Qb (z+2),Qb (z+2),Qb (z+2)] [(1,Ac p),(2,Ac k),(3,pt z),(DR z),(EQ z),(24,i6 y16.Bl)] ⟨w,z+3,[(Ak w),(Jt z c),(MW z),(JD z y16)]⟩ rfl ⟨rfl,Eg ha3,rfl,(by omega),rfl,Aw (hc6 6 _ rfl),Eg ha11,rfl,(by omega),rfl,Em hc14,rfl,rfl,rfl,rfl,rfl,Ae⟩ ?_
 refine Ba 64 #[i6 y16.Bl,i6 0,i6 255] (some 25) (.bool (win y16.Bl 0 255)) (fun w17 hw17=>BZ w17 y16.Bl 0 255) (fun n18 (hn19:z+3≤n18) => ?_)
 refine Dh [1,2,3,6,7,25] [(1,Ac p),(2,Ac k),(3,pt z),(DR z),(EQ z),(25,.bool (win y16.Bl 0 255))] ?_
 by_cases h20:(win y16.Bl 0 255)=true
 ·have hd21:=Dz h20
  refine AZ 0 7 [] [[(ov (.bool false)),o0,o0,(a1 3),o0,(a1 3),(ov (i6 (256 - y16.Bl)))]] [Value.bool (!(win y16.Bl 0 255))=Value.bool false,Qb (z+2),Qb (z+2),Wr ((256:Int) - y16.Bl) (256 - y16.Bl)] [(1,Ac p),(2,Ac k),(3,pt z),(DR z),(EQ z),(27,.bool false),(29,i6 y16.AO),(32,i6 (256 - y16.Bl))] rfl ⟨by simp[h20],rfl,rfl,BP,Ae⟩ ?_
  refine Ba 64 #[i6 y16.AO,i6 1,i6 (256 - y16.Bl)] (some 33) (.bool (win y16.AO 1 (256 - y16.Bl))) (fun w22 hw22=>BZ w22 y16.AO 1 (256 - y16.Bl)) (fun n23 (hn24:n18≤n23) => ?_)
  refine Dh [1,2,3,6,7,27,33] [(1,Ac p),(2,Ac k),(3,pt z),(DR z),(EQ z),(27,.bool false),(33,.bool (win y16.AO 1 (256 - y16.Bl)))] ?_
  by_cases h25:(win y16.AO 1 (256 - y16.Bl))=true
  ·have hd26:=Dz h25
   by_cases h27:(y16.Frame:Int)<0
   ·refine AZ 5 2 [1] [[(ov (.bool false)),o0,o0,o0,(a1 3),oT,o0,o0,o0,o0,o0],[o0,o0]] [Value.bool (!(win y16.AO 1 (256 - y16.Bl)))=Value.bool false,Qb (z+2),BT ((y16.Frame:Int)<0)] [(DR z),(57,Ac p),(58,Ac k)] rfl ⟨by simp[h25],rfl,bt,Ae⟩ ?_
    refine Ba 92 #[(Ac p),Ac k] (some 59) (.agg #[(Ac p),Ac k]) (fun w28 hw28=>G7 w28 (p:Int) (k:Int)) (fun n29 (hn30:n23≤n29) => ?_)
    refine EI 3 0 [] [[o0,(an 3 2)]] [Qb (z+1),Qb (z+1),Qb (z+1)] [(DR z)] ⟨w,n29,[(Ak w),(Jt z c),(X0 z p k),(JD z y16)]⟩ rfl ⟨rfl,rfl,rfl,Ae⟩ ?_
    refine Az [.at 2,.at 2,.at 2] [Qb (z+1),Qb (z+1),Qb (z+1)] (.agg #[i6 409,Ac p,Ac k]) ⟨rfl,rfl,rfl,Ae⟩ ?_
    intro w31 hw31
    refine⟨congrArg Ending.returned (?_:Value.agg #[i6 409,Ac p,Ac k] = .agg (Am.arr (EK c p k))),AB hw31⟩
    have hq:EK c p k=_:=UL (by have ek:DV c p k=y16:=(by dsimp only[DV];rw[←hy8,←hy16]);rw[ek];unfold J3 win;simp;omega)
    exact(congrArg (fun t=>Value.agg (Am.arr t)) hq).symm
   by_cases h32:(c.Frames - y16.Frame:Int)<y16.AO
   ·refine AZ 5 2 [1] [[(ov (.bool false)),o0,o0,o0,(a1 3),oF,o0,o0,o0,(a1 3),o0,(a1 1),o0,(a1 3),(ov (i6 (c.Frames - y16.Frame))),oT,o0,o0,o0],[o0,o0]] [Value.bool (!(win y16.AO 1 (256 - y16.Bl)))=Value.bool false,Qb (z+2),BF ((y16.Frame:Int)<0),Qb (z+2),Qb z,Qb (z+2),Wr ((c.Frames:Int) - y16.Frame) (c.Frames - y16.Frame),BT ((y16.AO:Int) > (c.Frames - y16.Frame))] [(DR z),(57,Ac p),(58,Ac k)] rfl ⟨by simp[h25],rfl,bf,rfl,rfl,rfl,BP,bt,Ae⟩ ?_
    refine Ba 92 #[(Ac p),Ac k] (some 59) (.agg #[(Ac p),Ac k]) (fun w33 hw33=>G7 w33 (p:Int) (k:Int)) (fun n34 (hn35:n23≤n34) => ?_)
    refine EI 3 0 [] [[o0,(an 3 2)]] [Qb (z+1),Qb (z+1),Qb (z+1)] [(DR z)] ⟨w,n34,[(Ak w),(Jt z c),(X0 z p k),(JD z y16)]⟩ rfl ⟨rfl,rfl,rfl,Ae⟩ ?_
    refine Az [.at 2,.at 2,.at 2] [Qb (z+1),Qb (z+1),Qb (z+1)] (.agg #[i6 409,Ac p,Ac k]) ⟨rfl,rfl,rfl,Ae⟩ ?_
    intro w36 hw36
    refine⟨congrArg Ending.returned (?_:Value.agg #[i6 409,Ac p,Ac k] = .agg (Am.arr (EK c p k))),AB hw36⟩
    have hq:EK c p k=_:=UL (by have ek:DV c p k=y16:=(by dsimp only[DV];rw[←hy8,←hy16]);rw[ek];unfold J3 win;simp;omega)
    exact(congrArg (fun t=>Value.agg (Am.arr t)) hq).symm
   refine AZ 0 20 [] [[(ov (.bool false)),o0,o0,o0,(a1 3),oF,o0,o0,o0,(a1 3),o0,(a1 1),o0,(a1 3),(ov (i6 (c.Frames - y16.Frame))),oF,o0,o0,o0,(a1 3)]] [Value.bool (!(win y16.AO 1 (256 - y16.Bl)))=Value.bool false,Qb (z+2),BF ((y16.Frame:Int)<0),Qb (z+2),Qb z,Qb (z+2),Wr ((c.Frames:Int) - y16.Frame) (c.Frames - y16.Frame),BF ((y16.AO:Int) > (c.Frames - y16.Frame)),Qb (z+2)] [(1,Ac p),(2,Ac k),(3,pt z),(DR z),(EQ z),(51,.bool false),(53,i6 y16.Io)] rfl ⟨by simp[h25],rfl,bf,rfl,rfl,rfl,BP,bf,rfl,Ae⟩ ?_
   refine Ba 64 #[i6 y16.Io,i6 1,i6 7] (some 54) (.bool (win y16.Io 1 7)) (fun w37 hw37=>BZ w37 y16.Io 1 7) (fun n38 (hn39:n23≤n38) => ?_)
   refine Dh [1,2,3,6,7,51,54] [(1,Ac p),(2,Ac k),(3,pt z),(DR z),(EQ z),(51,.bool false),(54,.bool (win y16.Io 1 7))] ?_
   by_cases h40:(win y16.Io 1 7)=true
   ·have hd41:=Dz h40
    refine AZ 11 0 [0] [[(ov (.bool false)),o0],[o0,(EM 1 b1 o2 c.Aa),o0,(oi p),o0,⟨.auto [.via 0 (.slice y8.Ah.a y8.Ah.xs.length y8.Ah.cap)],some (.slice (some ⟨b9,o10,none⟩) y8.Ah.xs.length y8.Ah.cap)⟩,o0,⟨.slc 0 k false,none⟩,o0,o0]] [Value.bool (!(win y16.Io 1 7))=Value.bool false,Qb z,Ej b1 o2 c.Aa,Dc p,p<c.Aa.xs.length,BM,Old w b1 (o2+p*8+6) (.slice y8.Ah.a y8.Ah.xs.length y8.Ah.cap),Ej b9 o10 y8.Ah,(0:Int)=((0:Nat):Int),Dc k,0≤k,k≤y8.Ah.cap,y8.Ah.cap=0∨(0:Nat)=0] [(1,Ac p),(2,Ac k),(3,pt z),(DR z),(EQ z),(OG k b9 o10 y8),(Nr k),(70,i6 0)] rfl ⟨by simp[h40],rfl,Eg ha3,rfl,(by omega),rfl,Aw (hc6 6 _ rfl),Eg ha11,rfl,rfl,(by omega),(by omega),.inr rfl,Ae⟩ ?_
    refine D8 (fun m a w'=>∃ (n43:Nat) (i:Nat),m=k - i∧n38≤n43∧(i≤k)∧(∀ a,a<i→Qv c p k a=false)∧St 133 [(1,Ac p),(2,Ac k),(3,pt z),(DR z),(EQ z),(OG k b9 o10 y8),(Nr k),(70,Ac i)] [] ⟨w,n43,[(Ak w),(Jt z c),(MW z),(JD z y16)]⟩ a w') (k - 0) ?_ ?_
    ·intro a w' hs;exact⟨n38,0,rfl,Nat.le_refl _,Nat.zero_le _,fun i hi=>absurd hi (Nat.not_lt_zero i),hs⟩
    rintro m a w' ⟨n43,i,rfl,hn42,hki,hf,hs⟩
    refine(?_:G Tryd.prog 133 [(1,Ac p),(2,Ac k),(3,pt z),(DR z),(EQ z),(OG k b9 o10 y8),(Nr k),(70,Ac i)] [] ⟨w,n43,[(Ak w),(Jt z c),(MW z),(JD z y16)]⟩ _ _ _) a w' hs
    clear hs a w'
    have hbb:J3 c (DV c p k)=true:=(by have ek:DV c p k=y16:=(by dsimp only[DV];rw[←hy8,←hy16]);rw[ek];unfold J3 win;simp;omega)
    refine CW ?_
    by_cases h44:(i:Int)<((k - 0:Nat):Int)
    ·refine Au 10 0 [1] [[oT]] [BT ((i:Int)<((k - 0:Nat):Int))] [(1,Ac p),(2,Ac k),(3,pt z),(DR z),(EQ z),(OG k b9 o10 y8),(Nr k),(70,Ac i),(71,.bool true)] rfl ⟨bt,Ae⟩ ?_
     have hc45:=hc12 i (show i<y8.Ah.xs.length by omega)
     have he46:=(he7.Ah).2 i (show i<y8.Ah.xs.length by omega)
     obtain⟨y47,hy47⟩:∃ y_,y_=gd y8.Ah.xs i:=⟨_,rfl⟩
     rw[←hy47]at he46 hc45
     have hfy47:(-9223372036854775808:Int)≤y47.Frame∧y47.Frame≤9223372036854775807:=he46.Frame
     refine q_c 5 8 [] [[(oi i),(ol 0 (CS.arr y47)),o0,(an 4 4)],[o0,(a1 3),o0,(a1 3),o0,(a1 4),o0,(a1 4)]] [Dc i,i<k - 0,BM,GN w b9 (o10+i*4) (CS.arr y47),Qb n43,Qb n43,Qb n43,Qb n43,Qb (z+2),Qb (z+2),Qb n43,Qb n43] [(1,Ac p),(2,Ac k),(3,pt z),(DR z),(EQ z),(OG k b9 o10 y8),(Nr k),(70,Ac i),(75,i6 y16.Bl),(77,i6 y16.AO),(79,i6 y47.Bl),(81,i6 y47.AO)] ⟨w,n43+1,[(Ak w),(Jt z c),(MW z),(JD z y16),(bk n43 (CS.arr y47) 147)]⟩ rfl ⟨rfl,(by omega),rfl,Em hc45,rfl,rfl,rfl,rfl,rfl,rfl,rfl,rfl,Ae⟩ ?_
     have hm49:=hb p i (by omega) (by rw[←hy8];omega) (by omega);dsimp only[DV]at hm49;rw[←hy8,←hy47]at hm49;unfold Bd at hm49
     refine Ba 95 #[i6 y16.Bl,i6 y16.AO,i6 y47.Bl,i6 y47.AO] (some 82) (.bool (meet y16.Bl y16.AO y47.Bl y47.AO)) (fun w48 hw48=>TM w48 y16.Bl y16.AO y47.Bl y47.AO (by omega) (by omega) (by omega) (by omega)) (fun n50 (hn51:n43+1≤n50) => ?_)
     refine Dh [1,2,3,6,7,68,69,70,82] [(1,Ac p),(2,Ac k),(3,pt z),(DR z),(EQ z),(OG k b9 o10 y8),(Nr k),(70,Ac i),(82,.bool (meet y16.Bl y16.AO y47.Bl y47.AO))] ?_
     refine Ve (by kernel_rfl) ?_
     refine Gy ?_
     by_cases h52:(meet y16.Bl y16.AO y47.Bl y47.AO)=true
     ·refine Au 3 2 [3] [[o0,o0]] [Value.bool (meet y16.Bl y16.AO y47.Bl y47.AO)=Value.bool true] [(DR z),(83,Ac p),(84,Ac k)] rfl ⟨(congrArg Value.bool h52),Ae⟩ ?_
      refine Ba 92 #[(Ac p),Ac k] (some 85) (.agg #[(Ac p),Ac k]) (fun w53 hw53=>G7 w53 (p:Int) (k:Int)) (fun n54 (hn55:n50≤n54) => ?_)
      refine EI 3 0 [] [[o0,(an 3 2)]] [Qb (z+1),Qb (z+1),Qb (z+1)] [(DR z)] ⟨w,n54,[(Ak w),(Jt z c),(bk (z+1) #[i6 410,Ac p,Ac k] 132),(JD z y16),(bk n43 (CS.arr y47) 147)]⟩ rfl ⟨rfl,rfl,rfl,Ae⟩ ?_
      refine Az [.at 2,.at 2,.at 2] [Qb (z+1),Qb (z+1),Qb (z+1)] (.agg #[i6 410,Ac p,Ac k]) ⟨rfl,rfl,rfl,Ae⟩ ?_
      intro w56 hw56
      refine⟨congrArg Ending.returned (?_:Value.agg #[i6 410,Ac p,Ac k] = .agg (Am.arr (EK c p k))),AB hw56⟩
      have hq:EK c p k=_:=regQ_b hbb (range_any (k:=i) (by omega) (by have ek:DV c p k=y16:=(by dsimp only[DV];rw[←hy8,←hy16]);have ei:DV c p i=y47:=(by dsimp only[DV];rw[←hy8,←hy47]);unfold Qv;rw[ek,ei];exact h52))
      exact(congrArg (fun t=>Value.agg (Am.arr t)) hq).symm
     refine Au 6 0 [2] [[(ov (i6 ((i+1:Nat):Int))),o0]] [Value.bool (meet y16.Bl y16.AO y47.Bl y47.AO)=Value.bool false,Wr ((i:Int)+1) (((i+1:Nat):Int))] [(1,Ac p),(2,Ac k),(3,pt z),(DR z),(EQ z),(OG k b9 o10 y8),(Nr k),(70,i6 ((i+1:Nat):Int))] rfl ⟨(congrArg Value.bool (Bool.eq_false_iff.2 h52)),BP,Ae⟩ ?_
     refine Cc [0,1,2,3] [(Ak w),(Jt z c),(MW z),(JD z y16)] rfl rfl ?_
     refine BI [1,2,3,6,7,68,69,70] [(1,Ac p),(2,Ac k),(3,pt z),(DR z),(EQ z),(OG k b9 o10 y8),(Nr k),(70,i6 ((i+1:Nat):Int))] ?_
     refine BR (fun a w' hs=>⟨k - (i+1),by omega,n50,(i+1),rfl,by omega,by omega,EP hf (by have ek:DV c p k=y16:=(by dsimp only[DV];rw[←hy8,←hy16]);have ei:DV c p i=y47:=(by dsimp only[DV];rw[←hy8,←hy47]);unfold Qv;rw[ek,ei];simpa using h52),hs⟩)
    refine Au 16 0 [0] [[oF],[o0,(EM 1 b1 o2 c.Aa),o0,(ov (i6 ((p+1:Nat):Int))),⟨.slc 0 (p+1) false,none⟩,o0,o0]] [BF ((i:Int)<((k - 0:Nat):Int)),Qb z,Ej b1 o2 c.Aa,Wr ((p:Int)+1) (((p+1:Nat):Int)),(0:Int)=((0:Nat):Int),(((p+1:Nat):Int):Int)=((p+1:Nat):Int),0≤p+1,p+1≤c.Aa.cap,c.Aa.cap=0∨(0:Nat)=0] [(1,Ac p),(2,Ac k),(DR z),(EQ z),(IC p c b1 o2),(Ht p),(94,i6 0)] rfl ⟨bf,rfl,Eg ha3,BP,rfl,rfl,(by omega),(by omega),.inr rfl,Ae⟩ ?_
    refine D8 (fun m a w'=>∃ (n58:Nat) (q:Nat),m=p+1 - q∧n43≤n58∧(q≤p+1)∧(∀ a,a<q→Zf c p k a=false)∧St 133 [(1,Ac p),(2,Ac k),(DR z),(EQ z),(IC p c b1 o2),(Ht p),(94,Ac q)] [] ⟨w,n58,[(Ak w),(Jt z c),(MW z),(JD z y16)]⟩ a w') (p+1 - 0) ?_ ?_
    ·intro a w' hs;exact⟨n43,0,rfl,Nat.le_refl _,Nat.zero_le _,fun i hi=>absurd hi (Nat.not_lt_zero i),hs⟩
    rintro m a w' ⟨n58,q,rfl,hn57,hkq,hg,hs⟩
    refine(?_:G Tryd.prog 133 [(1,Ac p),(2,Ac k),(DR z),(EQ z),(IC p c b1 o2),(Ht p),(94,Ac q)] [] ⟨w,n58,[(Ak w),(Jt z c),(MW z),(JD z y16)]⟩ _ _ _) a w' hs
    clear hs a w'
    have hf0:(List.range k).any (Qv c p k)=false:=Gv (fun a ha=>hf a (by omega))
    refine CW ?_
    by_cases h59:(q:Int)<((p+1 - 0:Nat):Int)
    ·refine Au 10 0 [1] [[oT]] [BT ((q:Int)<((p+1 - 0:Nat):Int))] [(1,Ac p),(2,Ac k),(DR z),(EQ z),(IC p c b1 o2),(Ht p),(94,Ac q),(95,.bool true)] rfl ⟨bt,Ae⟩ ?_
     have hc60:=hc4 q (show q<c.Aa.xs.length by omega)
     have he61:=(hc.Aa).2 q (show q<c.Aa.xs.length by omega)
     obtain⟨y62,hy62⟩:∃ y_,y_=gd c.Aa.xs q:=⟨_,rfl⟩
     rw[←hy62]at he61 hc60
     (try rw[←hy62]at hk hrl hrc)
     refine q_c 8 0 [] [[o0,(oi q),(ol 0 (Aq.arr y62)),o0,o0,(an 8 4)],[o0,(a1 4),o0,o0]] [Dc q,q<p+1 - 0,BM,GN w b1 (o2+q*8) (Aq.arr y62),Qb n58,Qb n58,Qb n58,Qb n58,Qb n58,Qb n58,Qb n58,Qb n58,Qb n58] [(1,Ac p),(2,Ac k),(DR z),(EQ z),(10,Ac q),(IC p c b1 o2),(Ht p),(94,Ac q),(Py y62),(Kw y62),(102,i6 0)] ⟨w,n58+1,(OZ z y16 n58 y62 c w)⟩ rfl ⟨rfl,(by omega),rfl,Em hc60,rfl,rfl,rfl,rfl,rfl,rfl,rfl,rfl,rfl,Ae⟩ ?_
     refine D8 (fun m a w'=>∃ (n64:Nat) (n:Nat),m=y62.Ah.xs.length - n∧n58+1≤n64∧(n≤y62.Ah.xs.length)∧(∀ a,a<n→Qw c p k q a=false)∧St 133 [(1,Ac p),(2,Ac k),(DR z),(EQ z),(10,Ac q),(IC p c b1 o2),(Ht p),(94,Ac q),(Py y62),(Kw y62),(102,Ac n)] [] ⟨w,n64,(OZ z y16 n58 y62 c w)⟩ a w') (y62.Ah.xs.length - 0) ?_ ?_
     ·intro a w' hs;exact⟨(n58+1),0,rfl,Nat.le_refl _,Nat.zero_le _,fun i hi=>absurd hi (Nat.not_lt_zero i),hs⟩
     rintro m a w' ⟨n64,n,rfl,hn63,hkn,hh,hs⟩
     refine(?_:G Tryd.prog 133 [(1,Ac p),(2,Ac k),(DR z),(EQ z),(10,Ac q),(IC p c b1 o2),(Ht p),(94,Ac q),(Py y62),(Kw y62),(102,Ac n)] [] ⟨w,n64,(OZ z y16 n58 y62 c w)⟩ _ _ _) a w' hs
     clear hs a w'
     have hyl:=he61.Ah.1.len
     refine CW ?_
     by_cases h65:(n:Int)<(y62.Ah.xs.length:Int)
     ·refine Au 10 0 [1] [[oT]] [BT ((n:Int)<(y62.Ah.xs.length:Int))] [(1,Ac p),(2,Ac k),(DR z),(EQ z),(10,Ac q),(IC p c b1 o2),(Ht p),(94,Ac q),(Py y62),(Kw y62),(102,Ac n),(103,.bool true)] rfl ⟨bt,Ae⟩ ?_
      obtain⟨b66,o67,ha68,hF70,hc69⟩:=(he61.Ah).1.all (show 0<y62.Ah.xs.length by omega)
      replace ha68:y62.Ah.a=some ⟨b66,o67,none⟩:=ha68
      refine Lj [(1,Ac p),(2,Ac k),(DR z),(EQ z),(10,Ac q),(IC p c b1 o2),(Ht p),(94,Ac q),(Ot y62 b66 o67),(Kw y62),(102,Ac n),(103,.bool true)] (by(try dsimp only[MW,JD,Tn,Jt,Ot,IC,Py,OG,Kw,Ht,DR,EQ,Nr,OZ]);simp only[ha68]) ?_
      have hc71:=hc69 n (show n<y62.Ah.xs.length by omega)
      have he72:=(he61.Ah).2 n (show n<y62.Ah.xs.length by omega)
      obtain⟨y73,hy73⟩:∃ y_,y_=gd y62.Ah.xs n:=⟨_,rfl⟩
      rw[←hy73]at he72 hc71
      have hfy73:(-9223372036854775808:Int)≤y73.Frame∧y73.Frame≤9223372036854775807:=he72.Frame
      refine q_c 4 0 [] [[o0,(oi n),(ol 0 (CS.arr y73)),o0,o0,(an 4 5)]] [Dc n,n<y62.Ah.xs.length,BM,GN w b66 (o67+n*4) (CS.arr y73),Qb n64,Qb n64,Qb n64,Qb n64] [(1,Ac p),(2,Ac k),(DR z),(EQ z),(10,Ac q),(IC p c b1 o2),(Ht p),(94,Ac q),(Ot y62 b66 o67),(Kw y62),(102,Ac n),(13,pt n64),(12,Ac n)] ⟨w,n64+1,[(Ak w),(Jt z c),(MW z),(JD z y16),(Tn n58 y62),(bk n64 (CS.arr y73) 147)]⟩ rfl ⟨rfl,(by omega),rfl,Em hc71,rfl,rfl,rfl,rfl,Ae⟩ ?_
      by_cases h74:(q:Int)<(p:Int)
      ·refine Au 1 17 [] [[o0,o0,oT,o0,o0,o0,o0,(a1 3),o0,(a1 3),o0,(a1 5),o0,(a1 5)]] [BT ((q:Int)<(p:Int)),Qb (z+2),Qb (z+2),Qb n64,Qb n64] [(1,Ac p),(2,Ac k),(DR z),(EQ z),(10,Ac q),(IC p c b1 o2),(Ht p),(94,Ac q),(Ot y62 b66 o67),(Kw y62),(102,Ac n),(115,.bool true),(117,i6 y16.Frame),(119,i6 y16.AO),(121,i6 y73.Frame),(123,i6 y73.AO)] rfl ⟨bt,rfl,rfl,rfl,rfl,Ae⟩ ?_
       have hm76:=hb q n (by omega) (by rw[←hy62];omega) (by omega);dsimp only[DV]at hm76;rw[←hy62,←hy73]at hm76;unfold Bd at hm76
       refine Ba 95 #[i6 y16.Frame,i6 y16.AO,i6 y73.Frame,i6 y73.AO] (some 124) (.bool (meet y16.Frame y16.AO y73.Frame y73.AO)) (fun w75 hw75=>TM w75 y16.Frame y16.AO y73.Frame y73.AO (by omega) (by omega) (by omega) (by omega)) (fun n77 (hn78:n64+1≤n77) => ?_)
       refine AZ 2 0 [] [[o0]] [] [(1,Ac p),(2,Ac k),(DR z),(EQ z),(10,Ac q),(IC p c b1 o2),(Ht p),(94,Ac q),(Ot y62 b66 o67),(Kw y62),(102,Ac n),(125,.bool (meet y16.Frame y16.AO y73.Frame y73.AO))] rfl Ae ?_
       by_cases h79:(meet y16.Frame y16.AO y73.Frame y73.AO)=true
       ·refine Au 3 2 [3] [[o0,o0]] [Value.bool (meet y16.Frame y16.AO y73.Frame y73.AO)=Value.bool true] [(DR z),(126,Ac p),(127,Ac k)] rfl ⟨(congrArg Value.bool h79),Ae⟩ ?_
        refine Ba 92 #[(Ac p),Ac k] (some 128) (.agg #[(Ac p),Ac k]) (fun w80 hw80=>G7 w80 (p:Int) (k:Int)) (fun n81 (hn82:n77≤n81) => ?_)
        refine EI 3 0 [] [[o0,(an 3 2)]] [Qb (z+1),Qb (z+1),Qb (z+1)] [(DR z)] ⟨w,n81,[(Ak w),(Jt z c),(bk (z+1) #[i6 411,Ac p,Ac k] 132),(JD z y16),(Tn n58 y62),(bk n64 (CS.arr y73) 147)]⟩ rfl ⟨rfl,rfl,rfl,Ae⟩ ?_
        refine Az [.at 2,.at 2,.at 2] [Qb (z+1),Qb (z+1),Qb (z+1)] (.agg #[i6 411,Ac p,Ac k]) ⟨rfl,rfl,rfl,Ae⟩ ?_
        intro w83 hw83
        refine⟨congrArg Ending.returned (?_:Value.agg #[i6 411,Ac p,Ac k] = .agg (Am.arr (EK c p k))),AB hw83⟩
        have hq:EK c p k=_:=WP hbb hf0 (range_any (k:=q) (by omega) (range_any (k:=n) (by dsimp only[Es];rw[←hy62];omega) (by have ek:DV c p k=y16:=(by dsimp only[DV];rw[←hy8,←hy16]);have en:DV c q n=y73:=(by dsimp only[DV];rw[←hy62,←hy73]);unfold Qw;rw[ek,en,h79];simp;omega)))
        exact(congrArg (fun t=>Value.agg (Am.arr t)) hq).symm
       refine Au 6 0 [2] [[(ov (i6 ((n+1:Nat):Int))),o0]] [Value.bool (meet y16.Frame y16.AO y73.Frame y73.AO)=Value.bool false,Wr ((n:Int)+1) (((n+1:Nat):Int))] [(1,Ac p),(2,Ac k),(DR z),(EQ z),(10,Ac q),(IC p c b1 o2),(Ht p),(94,Ac q),(Ot y62 b66 o67),(Kw y62),(PV n)] rfl ⟨(congrArg Value.bool (Bool.eq_false_iff.2 h79)),BP,Ae⟩ ?_
       refine Cc [0,1,2,3,4] (OZ z y16 n58 y62 c w) rfl rfl ?_
       refine GH [1,2,6,7,10,92,93,94,100,101,102] [(1,Ac p),(2,Ac k),(DR z),(EQ z),(10,Ac q),(IC p c b1 o2),(Ht p),(94,Ac q),(Py y62),(Kw y62),(PV n)] (by(try dsimp only[MW,JD,Tn,Jt,Ot,IC,Py,OG,Kw,Ht,PV,DR,EQ,Nr,OZ]);simp only[ha68];rfl) ?_
       refine BR (fun a w' hs=>⟨y62.Ah.xs.length - (n+1),by omega,n77,(n+1),rfl,by omega,by omega,EP hh (by have ek:DV c p k=y16:=(by dsimp only[DV];rw[←hy8,←hy16]);have en:DV c q n=y73:=(by dsimp only[DV];rw[←hy62,←hy73]);unfold Qw;rw[ek,en];simp[h79] <;> omega),hs⟩)
      by_cases h84:(n:Int)<(k:Int)
      ·refine Au 1 17 [] [[o0,o0,oF,o0,o0,o0,oT,o0,o0,o0,(a1 3),o0,(a1 3),o0,(a1 5),o0,(a1 5)]] [BF ((q:Int)<(p:Int)),BT ((n:Int)<(k:Int)),Qb (z+2),Qb (z+2),Qb n64,Qb n64] [(1,Ac p),(2,Ac k),(DR z),(EQ z),(10,Ac q),(IC p c b1 o2),(Ht p),(94,Ac q),(Ot y62 b66 o67),(Kw y62),(102,Ac n),(115,.bool true),(117,i6 y16.Frame),(119,i6 y16.AO),(121,i6 y73.Frame),(123,i6 y73.AO)] rfl ⟨bf,bt,rfl,rfl,rfl,rfl,Ae⟩ ?_
       have hm86:=hb q n (by omega) (by rw[←hy62];omega) (by omega);dsimp only[DV]at hm86;rw[←hy62,←hy73]at hm86;unfold Bd at hm86
       refine Ba 95 #[i6 y16.Frame,i6 y16.AO,i6 y73.Frame,i6 y73.AO] (some 124) (.bool (meet y16.Frame y16.AO y73.Frame y73.AO)) (fun w85 hw85=>TM w85 y16.Frame y16.AO y73.Frame y73.AO (by omega) (by omega) (by omega) (by omega)) (fun n87 (hn88:n64+1≤n87) => ?_)
       refine AZ 2 0 [] [[o0]] [] [(1,Ac p),(2,Ac k),(DR z),(EQ z),(10,Ac q),(IC p c b1 o2),(Ht p),(94,Ac q),(Ot y62 b66 o67),(Kw y62),(102,Ac n),(125,.bool (meet y16.Frame y16.AO y73.Frame y73.AO))] rfl Ae ?_
       by_cases h89:(meet y16.Frame y16.AO y73.Frame y73.AO)=true
       ·refine Au 3 2 [3] [[o0,o0]] [Value.bool (meet y16.Frame y16.AO y73.Frame y73.AO)=Value.bool true] [(DR z),(126,Ac p),(127,Ac k)] rfl ⟨(congrArg Value.bool h89),Ae⟩ ?_
        refine Ba 92 #[(Ac p),Ac k] (some 128) (.agg #[(Ac p),Ac k]) (fun w90 hw90=>G7 w90 (p:Int) (k:Int)) (fun n91 (hn92:n87≤n91) => ?_)
        refine EI 3 0 [] [[o0,(an 3 2)]] [Qb (z+1),Qb (z+1),Qb (z+1)] [(DR z)] ⟨w,n91,[(Ak w),(Jt z c),(bk (z+1) #[i6 411,Ac p,Ac k] 132),(JD z y16),(Tn n58 y62),(bk n64 (CS.arr y73) 147)]⟩ rfl ⟨rfl,rfl,rfl,Ae⟩ ?_
        refine Az [.at 2,.at 2,.at 2] [Qb (z+1),Qb (z+1),Qb (z+1)] (.agg #[i6 411,Ac p,Ac k]) ⟨rfl,rfl,rfl,Ae⟩ ?_
        intro w93 hw93
        refine⟨congrArg Ending.returned (?_:Value.agg #[i6 411,Ac p,Ac k] = .agg (Am.arr (EK c p k))),AB hw93⟩
        have hq:EK c p k=_:=WP hbb hf0 (range_any (k:=q) (by omega) (range_any (k:=n) (by dsimp only[Es];rw[←hy62];omega) (by have ek:DV c p k=y16:=(by dsimp only[DV];rw[←hy8,←hy16]);have en:DV c q n=y73:=(by dsimp only[DV];rw[←hy62,←hy73]);unfold Qw;rw[ek,en,h89];simp;omega)))
        exact(congrArg (fun t=>Value.agg (Am.arr t)) hq).symm
       refine Au 6 0 [2] [[(ov (i6 ((n+1:Nat):Int))),o0]] [Value.bool (meet y16.Frame y16.AO y73.Frame y73.AO)=Value.bool false,Wr ((n:Int)+1) (((n+1:Nat):Int))] [(1,Ac p),(2,Ac k),(DR z),(EQ z),(10,Ac q),(IC p c b1 o2),(Ht p),(94,Ac q),(Ot y62 b66 o67),(Kw y62),(PV n)] rfl ⟨(congrArg Value.bool (Bool.eq_false_iff.2 h89)),BP,Ae⟩ ?_
       refine Cc [0,1,2,3,4] (OZ z y16 n58 y62 c w) rfl rfl ?_
       refine GH [1,2,6,7,10,92,93,94,100,101,102] [(1,Ac p),(2,Ac k),(DR z),(EQ z),(10,Ac q),(IC p c b1 o2),(Ht p),(94,Ac q),(Py y62),(Kw y62),(PV n)] (by(try dsimp only[MW,JD,Tn,Jt,Ot,IC,Py,OG,Kw,Ht,PV,DR,EQ,Nr,OZ]);simp only[ha68];rfl) ?_
       refine BR (fun a w' hs=>⟨y62.Ah.xs.length - (n+1),by omega,n87,(n+1),rfl,by omega,by omega,EP hh (by have ek:DV c p k=y16:=(by dsimp only[DV];rw[←hy8,←hy16]);have en:DV c q n=y73:=(by dsimp only[DV];rw[←hy62,←hy73]);unfold Qw;rw[ek,en];simp[h89] <;> omega),hs⟩)
      refine Au 9 0 [0] [[o0,o0,oF,o0,o0,o0,oF,o0,o0,o0],[(ov (i6 ((n+1:Nat):Int))),o0]] [BF ((q:Int)<(p:Int)),BF ((n:Int)<(k:Int)),Wr ((n:Int)+1) (((n+1:Nat):Int))] [(1,Ac p),(2,Ac k),(DR z),(EQ z),(10,Ac q),(IC p c b1 o2),(Ht p),(94,Ac q),(Ot y62 b66 o67),(Kw y62),(PV n)] rfl ⟨bf,bf,BP,Ae⟩ ?_
      refine Cc [0,1,2,3,4] (OZ z y16 n58 y62 c w) rfl rfl ?_
      refine GH [1,2,6,7,10,92,93,94,100,101,102] [(1,Ac p),(2,Ac k),(DR z),(EQ z),(10,Ac q),(IC p c b1 o2),(Ht p),(94,Ac q),(Py y62),(Kw y62),(PV n)] (by(try dsimp only[MW,JD,Tn,Jt,Ot,IC,Py,OG,Kw,Ht,PV,DR,EQ,Nr,OZ]);simp only[ha68];rfl) ?_
      refine BR (fun a w' hs=>⟨y62.Ah.xs.length - (n+1),by omega,(n64+1),(n+1),rfl,by omega,by omega,EP hh (by have ek:DV c p k=y16:=(by dsimp only[DV];rw[←hy8,←hy16]);have en:DV c q n=y73:=(by dsimp only[DV];rw[←hy62,←hy73]);unfold Qw;rw[ek,en];simp <;> omega),hs⟩)
     refine Au 13 0 [0] [[oF],[(ov (i6 ((q+1:Nat):Int))),o0]] [BF ((n:Int)<(y62.Ah.xs.length:Int)),Wr ((q:Int)+1) (((q+1:Nat):Int))] [(1,Ac p),(2,Ac k),(DR z),(EQ z),(IC p c b1 o2),(Ht p),(94,i6 ((q+1:Nat):Int))] rfl ⟨bf,BP,Ae⟩ ?_
     refine Cc [0,1,2,3] [(Ak w),(Jt z c),(MW z),(JD z y16)] rfl rfl ?_
     refine BI [1,2,6,7,92,93,94] [(1,Ac p),(2,Ac k),(DR z),(EQ z),(IC p c b1 o2),(Ht p),(94,i6 ((q+1:Nat):Int))] ?_
     refine BR (fun a w' hs=>⟨p+1 - (q+1),by omega,n64,(q+1),rfl,by omega,by omega,EP hg (Gv (fun i hi=>hh i (by dsimp only[Es]at hi;rw[←hy62]at hi;omega))),hs⟩)
    refine Au 15 0 [0] [[oF],[(oa [.via 0 (i6 0),.via 0 (i6 0),.via 0 (i6 0)]),(an 3 2)]] [BF ((q:Int)<((p+1 - 0:Nat):Int)),Old w 0 0 (i6 0),Old w 0 1 (i6 0),Old w 0 2 (i6 0),Qb (z+1),Qb (z+1),Qb (z+1)] [(DR z)] rfl ⟨bf,Aw (hL.2 0 _ rfl),Aw (hL.2 1 _ rfl),Aw (hL.2 2 _ rfl),rfl,rfl,rfl,Ae⟩ ?_
    refine Az [.at 2,.at 2,.at 2] [Qb (z+1),Qb (z+1),Qb (z+1)] (.agg #[i6 0,i6 0,i6 0]) ⟨rfl,rfl,rfl,Ae⟩ ?_
    intro w94 hw94
    refine⟨congrArg Ending.returned (?_:Value.agg #[i6 0,i6 0,i6 0] = .agg (Am.arr (EK c p k))),AB hw94⟩
    have hq:EK c p k=_:=regQ_d hbb hf0 (Gv (fun i hi=>hg i (by omega)))
    exact(congrArg (fun t=>Value.agg (Am.arr t)) hq).symm
   have hd95:=FI h40
   refine AZ 5 2 [1] [[(ov (.bool true)),o0],[o0,o0]] [Value.bool (!(win y16.Io 1 7))=Value.bool true] [(DR z),(57,Ac p),(58,Ac k)] rfl ⟨by simp[h40],Ae⟩ ?_
   refine Ba 92 #[(Ac p),Ac k] (some 59) (.agg #[(Ac p),Ac k]) (fun w96 hw96=>G7 w96 (p:Int) (k:Int)) (fun n97 (hn98:n38≤n97) => ?_)
   refine EI 3 0 [] [[o0,(an 3 2)]] [Qb (z+1),Qb (z+1),Qb (z+1)] [(DR z)] ⟨w,n97,[(Ak w),(Jt z c),(X0 z p k),(JD z y16)]⟩ rfl ⟨rfl,rfl,rfl,Ae⟩ ?_
   refine Az [.at 2,.at 2,.at 2] [Qb (z+1),Qb (z+1),Qb (z+1)] (.agg #[i6 409,Ac p,Ac k]) ⟨rfl,rfl,rfl,Ae⟩ ?_
   intro w99 hw99
   refine⟨congrArg Ending.returned (?_:Value.agg #[i6 409,Ac p,Ac k] = .agg (Am.arr (EK c p k))),AB hw99⟩
   have hq:EK c p k=_:=UL (by have ek:DV c p k=y16:=(by dsimp only[DV];rw[←hy8,←hy16]);rw[ek];unfold J3 win;simp;omega)
   exact(congrArg (fun t=>Value.agg (Am.arr t)) hq).symm
  have hd100:=FI h25
  refine AZ 5 2 [1] [[(ov (.bool true)),o0,o0,o0,o0,o0,o0,o0],[o0,o0]] [Value.bool (!(win y16.AO 1 (256 - y16.Bl)))=Value.bool true] [(DR z),(57,Ac p),(58,Ac k)] rfl ⟨by simp[h25],Ae⟩ ?_
  refine Ba 92 #[(Ac p),Ac k] (some 59) (.agg #[(Ac p),Ac k]) (fun w101 hw101=>G7 w101 (p:Int) (k:Int)) (fun n102 (hn103:n23≤n102) => ?_)
  refine EI 3 0 [] [[o0,(an 3 2)]] [Qb (z+1),Qb (z+1),Qb (z+1)] [(DR z)] ⟨w,n102,[(Ak w),(Jt z c),(X0 z p k),(JD z y16)]⟩ rfl ⟨rfl,rfl,rfl,Ae⟩ ?_
  refine Az [.at 2,.at 2,.at 2] [Qb (z+1),Qb (z+1),Qb (z+1)] (.agg #[i6 409,Ac p,Ac k]) ⟨rfl,rfl,rfl,Ae⟩ ?_
  intro w104 hw104
  refine⟨congrArg Ending.returned (?_:Value.agg #[i6 409,Ac p,Ac k] = .agg (Am.arr (EK c p k))),AB hw104⟩
  have hq:EK c p k=_:=UL (by have ek:DV c p k=y16:=(by dsimp only[DV];rw[←hy8,←hy16]);rw[ek];unfold J3 win;simp;omega)
  exact(congrArg (fun t=>Value.agg (Am.arr t)) hq).symm
 have hd105:=FI h20
 refine AZ 5 2 [1] [[(ov (.bool true)),o0,o0,o0,o0,o0,o0,o0,o0],[o0,o0]] [Value.bool (!(win y16.Bl 0 255))=Value.bool true] [(DR z),(57,Ac p),(58,Ac k)] rfl ⟨by simp[h20],Ae⟩ ?_
 refine Ba 92 #[(Ac p),Ac k] (some 59) (.agg #[(Ac p),Ac k]) (fun w106 hw106=>G7 w106 (p:Int) (k:Int)) (fun n107 (hn108:n18≤n107) => ?_)
 refine EI 3 0 [] [[o0,(an 3 2)]] [Qb (z+1),Qb (z+1),Qb (z+1)] [(DR z)] ⟨w,n107,[(Ak w),(Jt z c),(X0 z p k),(JD z y16)]⟩ rfl ⟨rfl,rfl,rfl,Ae⟩ ?_
 refine Az [.at 2,.at 2,.at 2] [Qb (z+1),Qb (z+1),Qb (z+1)] (.agg #[i6 409,Ac p,Ac k]) ⟨rfl,rfl,rfl,Ae⟩ ?_
 intro w109 hw109
 refine⟨congrArg Ending.returned (?_:Value.agg #[i6 409,Ac p,Ac k] = .agg (Am.arr (EK c p k))),AB hw109⟩
 have hq:EK c p k=_:=UL (by have ek:DV c p k=y16:=(by dsimp only[DV];rw[←hy8,←hy16]);rw[ek];unfold J3 win;simp;omega)
 exact(congrArg (fun t=>Value.agg (Am.arr t)) hq).symm
def Fv(o:Am)(f:Nat→Am)(n:Nat):Am:=AY (o :: (List.range n).map f)
theorem Zas{a b:List Am}:AY (a++b)=if AY a=AQ then AY b else AY a:=by
 induction a with
 | nil=>rw[List.nil_append,if_pos (show AY []=AQ from rfl)]
 | cons x r ih =>
  show(if x=AQ then AY (r++b)else x)=if(if x=AQ then AY r else x)=AQ then AY b else(if x=AQ then AY r else x)
  by_cases h:x=AQ
  ·rw[if_pos h,if_pos h];exact ih
  rw[if_neg h,if_neg h,if_neg h]
theorem fst_one(x:Am):AY [x]=x:=by
 unfold AY
 by_cases h:x=AQ
 ·rw[if_pos h,h];rfl
 rw[if_neg h]
theorem MH(o:Am)(f:Nat→Am):Fv o f 0=o:=fst_one o
theorem PS{o:Am}{f:Nat→Am}{n:Nat}(h:Fv o f n=AQ):Fv o f (n+1)=f n:=by
 unfold Fv at h ⊢
 rw[List.range_succ,List.map_append,←List.cons_append,Zas,if_pos h]
 exact fst_one _
theorem Lr{o:Am}{f:Nat→Am}{k:Nat}(h:Fv o f k≠AQ):∀ {n:Nat},k≤n→Fv o f n=Fv o f k
 | 0,hn=>by rw[Nat.le_zero.1 hn]
 | n+1,hn=>by
  by_cases e:k=n+1
  ·rw[e]
  have ih:=Lr h (n:=n) (by omega)
  have h2:Fv o f n≠AQ:=by rw[ih];exact h
  unfold Fv at h2 ih ⊢
  rw[List.range_succ,List.map_append,←List.cons_append,Zas,if_neg h2]
  exact ih
theorem MJ{o:Am}{f:Nat→Am}{n:Nat}(h:Fv o f n=AQ):o=AQ∧∀ i,i<n→f i=AQ:=by
 constructor
 ·by_cases e:o=AQ
  ·exact e
  have h1:=Lr (f:=f) (k:=0) (by rw[MH];exact e) (Nat.zero_le n)
  rw[MH,h]at h1;exact h1.symm
 intro i hi
 by_cases e1:Fv o f i=AQ
 ·by_cases e2:f i=AQ
  ·exact e2
  have h3:=PS e1
  have h4:=Lr (k:=i+1) (by rw[h3];exact e2) (show i+1≤n by omega)
  rw[h,h3]at h4;exact h4.symm
 have h4:=Lr e1 (show i≤n by omega)
 rw[h]at h4;exact absurd h4.symm e1
def Gw(c:Ai)(p:Nat):List Am:=[Af (AP c p) 405 ⟨(p:Int), -1⟩,Af (win (Es c p).Dx 0 2&&win (Es c p).A7 0 15) 406 ⟨(p:Int), -1⟩,Af (win (Es c p).F7 0 16&&win (Es c p).AV 0 16) 407 ⟨(p:Int), -1⟩,Af (win ((Es c p).Ah.xs.length:Nat) 1 8) 408 ⟨(p:Int), -1⟩]
def Jd(c:Ai)(p:Nat):Am:=Fv (AY (Gw c p)) (EK c p) (Es c p).Ah.xs.length
def H8(c:Ai)(p:Nat):List Am:=[Af (win (Es c p).Entry 0 4095&&Gh (Es c p)) 412 ⟨(p:Int), -1⟩,Af (decide ((Es c p).Ap.xs.length≤8)) 413 ⟨(p:Int), -1⟩]
def JH(c:Ai)(p k:Nat):Am:=Af (win (Zk c p k).Channel 0 ((c.Aj.xs.length:Nat) - 1)) 414 ⟨(p:Int),(k:Int)⟩
def CP(c:Ai)(p:Nat):Am:=if Jd c p=AQ then Fv (AY (H8 c p)) (JH c p) (Es c p).Ap.xs.length else Jd c p
theorem Ho{b:Bool}{e:Int}{w:L8}(he:e≠0):Af b e w=AQ↔b=true:=by
 unfold Af AQ
 cases b
 ·simp[he]
 simp
theorem O9{c:Ai}{p:Nat}(h:CP c p=AQ):Jd c p=AQ:=by
 unfold CP at h
 by_cases hb:Jd c p=AQ
 ·exact hb
 rw[if_neg hb]at h;exact absurd h hb
theorem Uy{c:Ai}{p:Nat}(hF:c.Frames≤1024)(h:Jd c p=AQ):∀ n,n<(Es c p).Ah.xs.length→Bd (DV c p n):=fun n hn=>Yx hF (UX ((MJ h).2 n hn))
theorem bd_all{c:Ai}{p k:Nat}(hF:1≤c.Frames∧c.Frames≤1024)(hpf:∀ q,q<p→CP c q=AQ)(hk:∀ i,i<k→EK c p i=AQ):∀ q n,q≤p→n<(gd c.Aa.xs q).Ah.xs.length→(q<p∨n<k)→Bd (DV c q n):=fun q n hq hn h=>by
 by_cases e:q<p
 ·exact Uy hF.2 (O9 (hpf q e)) n hn
 have e2:q=p:=by omega
 subst e2
 exact Yx hF.2 (UX (hk n (by omega)))
section
variable (n35:Nat)(c:Ai)(p:Nat)(y8:Aq)(b43 n32:Nat)(n78 b86:Nat)(n75 n123:Nat)(b131 n120:Nat)(n165 b173:Nat)(n162 n209:Nat)(n220 n232:Nat)(n242 b36:Nat)(b42 b17:Nat)(b79 b85:Nat)(b61 b124:Nat)(b130 b106:Nat)(b166 b172:Nat)(b149 b6:Nat)(k z:Nat)(w:World)(y260:EE)
abbrev KZ:=bk n35 #[i6 ((Af (AP c p) 405 ⟨(p:Int), -1⟩).e),i6 ((Af (AP c p) 405 ⟨(p:Int), -1⟩).Ag.First),i6 ((Af (AP c p) 405 ⟨(p:Int), -1⟩).Ag.Second),i6 ((Af (win y8.A7 0 15) 406 ⟨(p:Int), -1⟩).e),i6 ((Af (win y8.A7 0 15) 406 ⟨(p:Int), -1⟩).Ag.First),i6 ((Af (win y8.A7 0 15) 406 ⟨(p:Int), -1⟩).Ag.Second),i6 ((Af (win y8.AV 0 16) 407 ⟨(p:Int), -1⟩).e),i6 ((Af (win y8.AV 0 16) 407 ⟨(p:Int), -1⟩).Ag.First),i6 ((Af (win y8.AV 0 16) 407 ⟨(p:Int), -1⟩).Ag.Second),i6 ((Af (win (y8.Ah.xs.length:Int) 1 8) 408 ⟨(p:Int), -1⟩).e),i6 ((Af (win (y8.Ah.xs.length:Int) 1 8) 408 ⟨(p:Int), -1⟩).Ag.First),i6 ((Af (win (y8.Ah.xs.length:Int) 1 8) 408 ⟨(p:Int), -1⟩).Ag.Second)] 132
abbrev KX:=bk b43 #[i6 ((Af (AP c p) 405 ⟨(p:Int), -1⟩).e),i6 ((Af (AP c p) 405 ⟨(p:Int), -1⟩).Ag.First),i6 ((Af (AP c p) 405 ⟨(p:Int), -1⟩).Ag.Second),i6 ((Af (win y8.A7 0 15) 406 ⟨(p:Int), -1⟩).e),i6 ((Af (win y8.A7 0 15) 406 ⟨(p:Int), -1⟩).Ag.First),i6 ((Af (win y8.A7 0 15) 406 ⟨(p:Int), -1⟩).Ag.Second),i6 ((Af (win y8.AV 0 16) 407 ⟨(p:Int), -1⟩).e),i6 ((Af (win y8.AV 0 16) 407 ⟨(p:Int), -1⟩).Ag.First),i6 ((Af (win y8.AV 0 16) 407 ⟨(p:Int), -1⟩).Ag.Second),i6 ((Af (win (y8.Ah.xs.length:Int) 1 8) 408 ⟨(p:Int), -1⟩).e),i6 ((Af (win (y8.Ah.xs.length:Int) 1 8) 408 ⟨(p:Int), -1⟩).Ag.First),i6 ((Af (win (y8.Ah.xs.length:Int) 1 8) 408 ⟨(p:Int), -1⟩).Ag.Second)] 132
abbrev OL:=bk n32 #[i6 ((Af (AP c p) 405 ⟨(p:Int), -1⟩).e),i6 ((Af (AP c p) 405 ⟨(p:Int), -1⟩).Ag.First),i6 ((Af (AP c p) 405 ⟨(p:Int), -1⟩).Ag.Second),i6 ((Af (win y8.A7 0 15) 406 ⟨(p:Int), -1⟩).e),i6 ((Af (win y8.A7 0 15) 406 ⟨(p:Int), -1⟩).Ag.First),i6 ((Af (win y8.A7 0 15) 406 ⟨(p:Int), -1⟩).Ag.Second),i6 ((Af (win y8.AV 0 16) 407 ⟨(p:Int), -1⟩).e),i6 ((Af (win y8.AV 0 16) 407 ⟨(p:Int), -1⟩).Ag.First),i6 ((Af (win y8.AV 0 16) 407 ⟨(p:Int), -1⟩).Ag.Second),i6 ((Af (win (y8.Ah.xs.length:Int) 1 8) 408 ⟨(p:Int), -1⟩).e),i6 ((Af (win (y8.Ah.xs.length:Int) 1 8) 408 ⟨(p:Int), -1⟩).Ag.First),i6 ((Af (win (y8.Ah.xs.length:Int) 1 8) 408 ⟨(p:Int), -1⟩).Ag.Second)] 132
abbrev ND:=bk n78 #[i6 ((Af (AP c p) 405 ⟨(p:Int), -1⟩).e),i6 ((Af (AP c p) 405 ⟨(p:Int), -1⟩).Ag.First),i6 ((Af (AP c p) 405 ⟨(p:Int), -1⟩).Ag.Second),i6 ((Af (win y8.A7 0 15) 406 ⟨(p:Int), -1⟩).e),i6 ((Af (win y8.A7 0 15) 406 ⟨(p:Int), -1⟩).Ag.First),i6 ((Af (win y8.A7 0 15) 406 ⟨(p:Int), -1⟩).Ag.Second),i6 ((Af false 407 ⟨(p:Int), -1⟩).e),i6 ((Af false 407 ⟨(p:Int), -1⟩).Ag.First),i6 ((Af false 407 ⟨(p:Int), -1⟩).Ag.Second),i6 ((Af (win (y8.Ah.xs.length:Int) 1 8) 408 ⟨(p:Int), -1⟩).e),i6 ((Af (win (y8.Ah.xs.length:Int) 1 8) 408 ⟨(p:Int), -1⟩).Ag.First),i6 ((Af (win (y8.Ah.xs.length:Int) 1 8) 408 ⟨(p:Int), -1⟩).Ag.Second)] 132
abbrev OH:=bk b86 #[i6 ((Af (AP c p) 405 ⟨(p:Int), -1⟩).e),i6 ((Af (AP c p) 405 ⟨(p:Int), -1⟩).Ag.First),i6 ((Af (AP c p) 405 ⟨(p:Int), -1⟩).Ag.Second),i6 ((Af (win y8.A7 0 15) 406 ⟨(p:Int), -1⟩).e),i6 ((Af (win y8.A7 0 15) 406 ⟨(p:Int), -1⟩).Ag.First),i6 ((Af (win y8.A7 0 15) 406 ⟨(p:Int), -1⟩).Ag.Second),i6 ((Af false 407 ⟨(p:Int), -1⟩).e),i6 ((Af false 407 ⟨(p:Int), -1⟩).Ag.First),i6 ((Af false 407 ⟨(p:Int), -1⟩).Ag.Second),i6 ((Af (win (y8.Ah.xs.length:Int) 1 8) 408 ⟨(p:Int), -1⟩).e),i6 ((Af (win (y8.Ah.xs.length:Int) 1 8) 408 ⟨(p:Int), -1⟩).Ag.First),i6 ((Af (win (y8.Ah.xs.length:Int) 1 8) 408 ⟨(p:Int), -1⟩).Ag.Second)] 132
abbrev KW:=bk n75 #[i6 ((Af (AP c p) 405 ⟨(p:Int), -1⟩).e),i6 ((Af (AP c p) 405 ⟨(p:Int), -1⟩).Ag.First),i6 ((Af (AP c p) 405 ⟨(p:Int), -1⟩).Ag.Second),i6 ((Af (win y8.A7 0 15) 406 ⟨(p:Int), -1⟩).e),i6 ((Af (win y8.A7 0 15) 406 ⟨(p:Int), -1⟩).Ag.First),i6 ((Af (win y8.A7 0 15) 406 ⟨(p:Int), -1⟩).Ag.Second),i6 ((Af false 407 ⟨(p:Int), -1⟩).e),i6 ((Af false 407 ⟨(p:Int), -1⟩).Ag.First),i6 ((Af false 407 ⟨(p:Int), -1⟩).Ag.Second),i6 ((Af (win (y8.Ah.xs.length:Int) 1 8) 408 ⟨(p:Int), -1⟩).e),i6 ((Af (win (y8.Ah.xs.length:Int) 1 8) 408 ⟨(p:Int), -1⟩).Ag.First),i6 ((Af (win (y8.Ah.xs.length:Int) 1 8) 408 ⟨(p:Int), -1⟩).Ag.Second)] 132
abbrev MS:=bk n123 #[i6 ((Af (AP c p) 405 ⟨(p:Int), -1⟩).e),i6 ((Af (AP c p) 405 ⟨(p:Int), -1⟩).Ag.First),i6 ((Af (AP c p) 405 ⟨(p:Int), -1⟩).Ag.Second),i6 ((Af false 406 ⟨(p:Int), -1⟩).e),i6 ((Af false 406 ⟨(p:Int), -1⟩).Ag.First),i6 ((Af false 406 ⟨(p:Int), -1⟩).Ag.Second),i6 ((Af (win y8.AV 0 16) 407 ⟨(p:Int), -1⟩).e),i6 ((Af (win y8.AV 0 16) 407 ⟨(p:Int), -1⟩).Ag.First),i6 ((Af (win y8.AV 0 16) 407 ⟨(p:Int), -1⟩).Ag.Second),i6 ((Af (win (y8.Ah.xs.length:Int) 1 8) 408 ⟨(p:Int), -1⟩).e),i6 ((Af (win (y8.Ah.xs.length:Int) 1 8) 408 ⟨(p:Int), -1⟩).Ag.First),i6 ((Af (win (y8.Ah.xs.length:Int) 1 8) 408 ⟨(p:Int), -1⟩).Ag.Second)] 132
abbrev KY:=bk b131 #[i6 ((Af (AP c p) 405 ⟨(p:Int), -1⟩).e),i6 ((Af (AP c p) 405 ⟨(p:Int), -1⟩).Ag.First),i6 ((Af (AP c p) 405 ⟨(p:Int), -1⟩).Ag.Second),i6 ((Af false 406 ⟨(p:Int), -1⟩).e),i6 ((Af false 406 ⟨(p:Int), -1⟩).Ag.First),i6 ((Af false 406 ⟨(p:Int), -1⟩).Ag.Second),i6 ((Af (win y8.AV 0 16) 407 ⟨(p:Int), -1⟩).e),i6 ((Af (win y8.AV 0 16) 407 ⟨(p:Int), -1⟩).Ag.First),i6 ((Af (win y8.AV 0 16) 407 ⟨(p:Int), -1⟩).Ag.Second),i6 ((Af (win (y8.Ah.xs.length:Int) 1 8) 408 ⟨(p:Int), -1⟩).e),i6 ((Af (win (y8.Ah.xs.length:Int) 1 8) 408 ⟨(p:Int), -1⟩).Ag.First),i6 ((Af (win (y8.Ah.xs.length:Int) 1 8) 408 ⟨(p:Int), -1⟩).Ag.Second)] 132
abbrev Xx:=bk n120 #[i6 ((Af (AP c p) 405 ⟨(p:Int), -1⟩).e),i6 ((Af (AP c p) 405 ⟨(p:Int), -1⟩).Ag.First),i6 ((Af (AP c p) 405 ⟨(p:Int), -1⟩).Ag.Second),i6 ((Af false 406 ⟨(p:Int), -1⟩).e),i6 ((Af false 406 ⟨(p:Int), -1⟩).Ag.First),i6 ((Af false 406 ⟨(p:Int), -1⟩).Ag.Second),i6 ((Af (win y8.AV 0 16) 407 ⟨(p:Int), -1⟩).e),i6 ((Af (win y8.AV 0 16) 407 ⟨(p:Int), -1⟩).Ag.First),i6 ((Af (win y8.AV 0 16) 407 ⟨(p:Int), -1⟩).Ag.Second),i6 ((Af (win (y8.Ah.xs.length:Int) 1 8) 408 ⟨(p:Int), -1⟩).e),i6 ((Af (win (y8.Ah.xs.length:Int) 1 8) 408 ⟨(p:Int), -1⟩).Ag.First),i6 ((Af (win (y8.Ah.xs.length:Int) 1 8) 408 ⟨(p:Int), -1⟩).Ag.Second)] 132
abbrev ZW:=bk n165 #[i6 ((Af (AP c p) 405 ⟨(p:Int), -1⟩).e),i6 ((Af (AP c p) 405 ⟨(p:Int), -1⟩).Ag.First),i6 ((Af (AP c p) 405 ⟨(p:Int), -1⟩).Ag.Second),i6 ((Af false 406 ⟨(p:Int), -1⟩).e),i6 ((Af false 406 ⟨(p:Int), -1⟩).Ag.First),i6 ((Af false 406 ⟨(p:Int), -1⟩).Ag.Second),i6 ((Af false 407 ⟨(p:Int), -1⟩).e),i6 ((Af false 407 ⟨(p:Int), -1⟩).Ag.First),i6 ((Af false 407 ⟨(p:Int), -1⟩).Ag.Second),i6 ((Af (win (y8.Ah.xs.length:Int) 1 8) 408 ⟨(p:Int), -1⟩).e),i6 ((Af (win (y8.Ah.xs.length:Int) 1 8) 408 ⟨(p:Int), -1⟩).Ag.First),i6 ((Af (win (y8.Ah.xs.length:Int) 1 8) 408 ⟨(p:Int), -1⟩).Ag.Second)] 132
abbrev Yu:=bk b173 #[i6 ((Af (AP c p) 405 ⟨(p:Int), -1⟩).e),i6 ((Af (AP c p) 405 ⟨(p:Int), -1⟩).Ag.First),i6 ((Af (AP c p) 405 ⟨(p:Int), -1⟩).Ag.Second),i6 ((Af false 406 ⟨(p:Int), -1⟩).e),i6 ((Af false 406 ⟨(p:Int), -1⟩).Ag.First),i6 ((Af false 406 ⟨(p:Int), -1⟩).Ag.Second),i6 ((Af false 407 ⟨(p:Int), -1⟩).e),i6 ((Af false 407 ⟨(p:Int), -1⟩).Ag.First),i6 ((Af false 407 ⟨(p:Int), -1⟩).Ag.Second),i6 ((Af (win (y8.Ah.xs.length:Int) 1 8) 408 ⟨(p:Int), -1⟩).e),i6 ((Af (win (y8.Ah.xs.length:Int) 1 8) 408 ⟨(p:Int), -1⟩).Ag.First),i6 ((Af (win (y8.Ah.xs.length:Int) 1 8) 408 ⟨(p:Int), -1⟩).Ag.Second)] 132
abbrev VP:=bk n162 #[i6 ((Af (AP c p) 405 ⟨(p:Int), -1⟩).e),i6 ((Af (AP c p) 405 ⟨(p:Int), -1⟩).Ag.First),i6 ((Af (AP c p) 405 ⟨(p:Int), -1⟩).Ag.Second),i6 ((Af false 406 ⟨(p:Int), -1⟩).e),i6 ((Af false 406 ⟨(p:Int), -1⟩).Ag.First),i6 ((Af false 406 ⟨(p:Int), -1⟩).Ag.Second),i6 ((Af false 407 ⟨(p:Int), -1⟩).e),i6 ((Af false 407 ⟨(p:Int), -1⟩).Ag.First),i6 ((Af false 407 ⟨(p:Int), -1⟩).Ag.Second),i6 ((Af (win (y8.Ah.xs.length:Int) 1 8) 408 ⟨(p:Int), -1⟩).e),i6 ((Af (win (y8.Ah.xs.length:Int) 1 8) 408 ⟨(p:Int), -1⟩).Ag.First),i6 ((Af (win (y8.Ah.xs.length:Int) 1 8) 408 ⟨(p:Int), -1⟩).Ag.Second)] 132
abbrev XR:=bk n209 #[i6 ((Af (Gh y8) 412 ⟨(p:Int), -1⟩).e),i6 ((Af (Gh y8) 412 ⟨(p:Int), -1⟩).Ag.First),i6 ((Af (Gh y8) 412 ⟨(p:Int), -1⟩).Ag.Second),i6 ((Af false 413 ⟨(p:Int), -1⟩).e),i6 ((Af false 413 ⟨(p:Int), -1⟩).Ag.First),i6 ((Af false 413 ⟨(p:Int), -1⟩).Ag.Second)] 132
abbrev XZ:=bk n220 #[i6 ((Af (Gh y8) 412 ⟨(p:Int), -1⟩).e),i6 ((Af (Gh y8) 412 ⟨(p:Int), -1⟩).Ag.First),i6 ((Af (Gh y8) 412 ⟨(p:Int), -1⟩).Ag.Second),i6 ((Af true 413 ⟨(p:Int), -1⟩).e),i6 ((Af true 413 ⟨(p:Int), -1⟩).Ag.First),i6 ((Af true 413 ⟨(p:Int), -1⟩).Ag.Second)] 132
abbrev Ye:=bk n232 #[i6 ((Af false 412 ⟨(p:Int), -1⟩).e),i6 ((Af false 412 ⟨(p:Int), -1⟩).Ag.First),i6 ((Af false 412 ⟨(p:Int), -1⟩).Ag.Second),i6 ((Af false 413 ⟨(p:Int), -1⟩).e),i6 ((Af false 413 ⟨(p:Int), -1⟩).Ag.First),i6 ((Af false 413 ⟨(p:Int), -1⟩).Ag.Second)] 132
abbrev Y2:=bk n242 #[i6 ((Af false 412 ⟨(p:Int), -1⟩).e),i6 ((Af false 412 ⟨(p:Int), -1⟩).Ag.First),i6 ((Af false 412 ⟨(p:Int), -1⟩).Ag.Second),i6 ((Af true 413 ⟨(p:Int), -1⟩).e),i6 ((Af true 413 ⟨(p:Int), -1⟩).Ag.First),i6 ((Af true 413 ⟨(p:Int), -1⟩).Ag.Second)] 132
abbrev ZaC:Ch:= .blk b36 (.cells (Am.arr (AY [(Af (AP c p) 405 ⟨(p:Int), -1⟩),(Af (win y8.A7 0 15) 406 ⟨(p:Int), -1⟩),(Af (win y8.AV 0 16) 407 ⟨(p:Int), -1⟩),(Af (win (y8.Ah.xs.length:Int) 1 8) 408 ⟨(p:Int), -1⟩)])) 132 (0,0)) true
abbrev ZaP:Ch:= .blk b42 (.cells (Am.arr (AY [(Af (AP c p) 405 ⟨(p:Int), -1⟩),(Af (win y8.A7 0 15) 406 ⟨(p:Int), -1⟩),(Af (win y8.AV 0 16) 407 ⟨(p:Int), -1⟩),(Af (win (y8.Ah.xs.length:Int) 1 8) 408 ⟨(p:Int), -1⟩)])) 132 (0,0)) true
abbrev Yf:Ch:= .blk b17 (.cells (Am.arr (AY [(Af (AP c p) 405 ⟨(p:Int), -1⟩),(Af (win y8.A7 0 15) 406 ⟨(p:Int), -1⟩),(Af (win y8.AV 0 16) 407 ⟨(p:Int), -1⟩),(Af (win (y8.Ah.xs.length:Int) 1 8) 408 ⟨(p:Int), -1⟩)])) 132 (0,0)) true
abbrev Za5:Ch:= .blk b79 (.cells (Am.arr (AY [(Af (AP c p) 405 ⟨(p:Int), -1⟩),(Af (win y8.A7 0 15) 406 ⟨(p:Int), -1⟩),(Af false 407 ⟨(p:Int), -1⟩),(Af (win (y8.Ah.xs.length:Int) 1 8) 408 ⟨(p:Int), -1⟩)])) 132 (0,0)) true
abbrev ZaF:Ch:= .blk b85 (.cells (Am.arr (AY [(Af (AP c p) 405 ⟨(p:Int), -1⟩),(Af (win y8.A7 0 15) 406 ⟨(p:Int), -1⟩),(Af false 407 ⟨(p:Int), -1⟩),(Af (win (y8.Ah.xs.length:Int) 1 8) 408 ⟨(p:Int), -1⟩)])) 132 (0,0)) true
abbrev Zal:Ch:= .blk b61 (.cells (Am.arr (AY [(Af (AP c p) 405 ⟨(p:Int), -1⟩),(Af (win y8.A7 0 15) 406 ⟨(p:Int), -1⟩),(Af false 407 ⟨(p:Int), -1⟩),(Af (win (y8.Ah.xs.length:Int) 1 8) 408 ⟨(p:Int), -1⟩)])) 132 (0,0)) true
abbrev Zaw:Ch:= .blk b124 (.cells (Am.arr (AY [(Af (AP c p) 405 ⟨(p:Int), -1⟩),(Af false 406 ⟨(p:Int), -1⟩),(Af (win y8.AV 0 16) 407 ⟨(p:Int), -1⟩),(Af (win (y8.Ah.xs.length:Int) 1 8) 408 ⟨(p:Int), -1⟩)])) 132 (0,0)) true
abbrev Za7:Ch:= .blk b130 (.cells (Am.arr (AY [(Af (AP c p) 405 ⟨(p:Int), -1⟩),(Af false 406 ⟨(p:Int), -1⟩),(Af (win y8.AV 0 16) 407 ⟨(p:Int), -1⟩),(Af (win (y8.Ah.xs.length:Int) 1 8) 408 ⟨(p:Int), -1⟩)])) 132 (0,0)) true
abbrev Y7:Ch:= .blk b106 (.cells (Am.arr (AY [(Af (AP c p) 405 ⟨(p:Int), -1⟩),(Af false 406 ⟨(p:Int), -1⟩),(Af (win y8.AV 0 16) 407 ⟨(p:Int), -1⟩),(Af (win (y8.Ah.xs.length:Int) 1 8) 408 ⟨(p:Int), -1⟩)])) 132 (0,0)) true
abbrev ZaV:Ch:= .blk b166 (.cells (Am.arr (AY [(Af (AP c p) 405 ⟨(p:Int), -1⟩),(Af false 406 ⟨(p:Int), -1⟩),(Af false 407 ⟨(p:Int), -1⟩),(Af (win (y8.Ah.xs.length:Int) 1 8) 408 ⟨(p:Int), -1⟩)])) 132 (0,0)) true
abbrev Za0:Ch:= .blk b172 (.cells (Am.arr (AY [(Af (AP c p) 405 ⟨(p:Int), -1⟩),(Af false 406 ⟨(p:Int), -1⟩),(Af false 407 ⟨(p:Int), -1⟩),(Af (win (y8.Ah.xs.length:Int) 1 8) 408 ⟨(p:Int), -1⟩)])) 132 (0,0)) true
abbrev ZaS:Ch:= .blk b149 (.cells (Am.arr (AY [(Af (AP c p) 405 ⟨(p:Int), -1⟩),(Af false 406 ⟨(p:Int), -1⟩),(Af false 407 ⟨(p:Int), -1⟩),(Af (win (y8.Ah.xs.length:Int) 1 8) 408 ⟨(p:Int), -1⟩)])) 132 (0,0)) true
abbrev YD:Ch:= .blk b6 (.cells (Am.arr (AY [(Af (Gh y8) 412 ⟨(p:Int), -1⟩),(Af false 413 ⟨(p:Int), -1⟩)])) 132 (0,0)) true
abbrev Yi:Ch:= .blk b6 (.cells (Am.arr (AY [(Af (Gh y8) 412 ⟨(p:Int), -1⟩),(Af true 413 ⟨(p:Int), -1⟩)])) 132 (0,0)) true
abbrev Yv:Ch:= .blk b6 (.cells (Am.arr (AY [(Af false 412 ⟨(p:Int), -1⟩),(Af false 413 ⟨(p:Int), -1⟩)])) 132 (0,0)) true
abbrev Yw:Ch:= .blk b6 (.cells (Am.arr (AY [(Af false 412 ⟨(p:Int), -1⟩),(Af true 413 ⟨(p:Int), -1⟩)])) 132 (0,0)) true
abbrev Su:Ch:= .blk b6 (.cells (Am.arr (Fv (AY (H8 c p)) (JH c p) k)) 132 (0,0)) true
abbrev Bj:=bk (z+1) #[i6 0,i6 0,i6 0] 132
abbrev JK:=bk b6 (Am.arr (Jd c p)) 132
abbrev Bi:=bk (z+2) (Aq.arr y8) 35
abbrev Bh:=bk z (Ai.arr c) 26
abbrev Q9:D7:=(50,.agg (Am.arr (AY [(Af (AP c p) 405 ⟨(p:Int), -1⟩),(Af (win y8.A7 0 15) 406 ⟨(p:Int), -1⟩),(Af (win y8.AV 0 16) 407 ⟨(p:Int), -1⟩),(Af (win (y8.Ah.xs.length:Int) 1 8) 408 ⟨(p:Int), -1⟩)])))
abbrev QV:D7:=(50,.agg (Am.arr (AY [(Af (AP c p) 405 ⟨(p:Int), -1⟩),(Af (win y8.A7 0 15) 406 ⟨(p:Int), -1⟩),(Af false 407 ⟨(p:Int), -1⟩),(Af (win (y8.Ah.xs.length:Int) 1 8) 408 ⟨(p:Int), -1⟩)])))
abbrev QP:D7:=(50,.agg (Am.arr (AY [(Af (AP c p) 405 ⟨(p:Int), -1⟩),(Af false 406 ⟨(p:Int), -1⟩),(Af (win y8.AV 0 16) 407 ⟨(p:Int), -1⟩),(Af (win (y8.Ah.xs.length:Int) 1 8) 408 ⟨(p:Int), -1⟩)])))
abbrev Qy:D7:=(50,.agg (Am.arr (AY [(Af (AP c p) 405 ⟨(p:Int), -1⟩),(Af false 406 ⟨(p:Int), -1⟩),(Af false 407 ⟨(p:Int), -1⟩),(Af (win (y8.Ah.xs.length:Int) 1 8) 408 ⟨(p:Int), -1⟩)])))
abbrev KQ:D7:=(48,.agg (Am.arr (Af (win (y8.Ah.xs.length:Int) 1 8) 408 ⟨(p:Int), -1⟩)))
abbrev Q4:D7:=(30,.agg (Am.arr (Af (win y8.A7 0 15) 406 ⟨(p:Int), -1⟩)))
abbrev Pg:D7:=(41,.agg (Am.arr (Af (win y8.AV 0 16) 407 ⟨(p:Int), -1⟩)))
abbrev KP:D7:=(19,.agg (Am.arr (Af (AP c p) 405 ⟨(p:Int), -1⟩)))
abbrev QC:D7:=(41,.agg (Am.arr (Af false 407 ⟨(p:Int), -1⟩)))
abbrev QO:D7:=(30,.agg (Am.arr (Af false 406 ⟨(p:Int), -1⟩)))
abbrev QT:=(44,Ac y8.Ah.xs.length)
abbrev AL:=(4,pt (z+1))
abbrev AU:=(5,pt (z+2))
abbrev Dv:=(6,pt b6)
abbrev Yh:=[(Ak w),(Bh c z),(Bj z),(Bi y8 z),(.blk b6 (.cells (Am.arr (Af (win y260.Channel 0 ((c.Aj.xs.length:Int) - 1)) 414 ⟨(p:Int),(k:Int)⟩)) 132 (0,0)) true)]
abbrev JI:=[(Ak w),(Bh c z),(Bj z),(Bi y8 z),(JK c p b6)]
end
theorem Rf(w:World)(hL:Js w)(c:Ai)(hc:Ai.ok Any w c)(p:Nat)(hp:p<c.Aa.xs.length)(hFr:1≤c.Frames∧c.Frames≤1024)(hpf:∀ q,q<p→CP c q=AQ):Calls Tryd.prog 70 #[.agg (Ai.arr c),.int .i64 (p:Int)] w fun e w'=>e = .returned (.agg (Am.arr (CP c p)))∧Ce (fun _=>False) w w':=by
 obtain⟨z,hz⟩:∃ z,z=w.heap.size:=⟨_,rfl⟩
 refine Bf (args:=[.agg (Ai.arr c),Ac p]) 118 ⟨w,z,[(Ak w)]⟩ Tryd.func70 rfl (by kernel_rfl) (by kernel_rfl) (Ed hz) ?_
 have hpl:=hc.Aa.1.len;have hpc:=hc.Aa.1.le;have hrl:=(hc.Aa.2 p hp).Ah.1.len;have hrc:=(hc.Aa.2 p hp).Ah.1.le;have hpp:=(hc.Aa.2 p hp).Ap.1.len;have hcl:=hc.Aj.1.len
 refine Di [0,1] [(0,.agg (Ai.arr c)),(1,Ac p)] ?_
 refine q_c 5 0 [] [[o0,o0]] [] [(1,Ac p),(2,pt z),(AL z)] ⟨w,z+2,[(Ak w),(Bh c z),(Bj z)]⟩ rfl Ae ?_
 obtain⟨b1,o2,ha3,hF5,hc4⟩:=(hc.Aa).1.all (show 0<c.Aa.xs.length by omega)
 replace ha3:c.Aa.a=some ⟨b1,o2,none⟩:=ha3
 have hc6:=hc4 p (show p<c.Aa.xs.length by omega)
 have he7:=(hc.Aa).2 p (show p<c.Aa.xs.length by omega)
 obtain⟨y8,hy8⟩:∃ y_,y_=gd c.Aa.xs p:=⟨_,rfl⟩
 rw[←hy8]at he7 hc6
 (try rw[←hy8]at hrl hrc hpp)
 refine q_c 3 0 [] [[o0,(EM 1 b1 o2 c.Aa),o0,(oi p),(ol 0 (Aq.arr y8)),o0,(an 8 3)]] [Qb z,Ej b1 o2 c.Aa,Dc p,p<c.Aa.xs.length,BM,GN w b1 (o2+p*8) (Aq.arr y8),Qb (z+2),Qb (z+2),Qb (z+2),Qb (z+2),Qb (z+2),Qb (z+2),Qb (z+2),Qb (z+2)] [(1,Ac p),(2,pt z),(AL z),(AU z)] ⟨w,z+3,[(Ak w),(Bh c z),(Bj z),(Bi y8 z)]⟩ rfl ⟨rfl,Eg ha3,rfl,(by omega),rfl,Em hc6,rfl,rfl,rfl,rfl,rfl,rfl,rfl,rfl,Ae⟩ ?_
 refine UU (fun a w'=>∃ (n9:Nat) (b6:Nat),z+3≤n9∧St 118 [(1,Ac p),(2,pt z),(AL z),(AU z),(Dv b6)] [] ⟨w,n9,[(Ak w),(Bh c z),(Bj z),(Bi y8 z),(.blk b6 (.cells (Am.arr (AY (Gw c p))) 132 (0,0)) true)]⟩ a w') ?_ ?_
 ·by_cases h11:(win y8.Dx 0 2)=true
  ·have hd12:=Dz h11
   by_cases h13:(win y8.F7 0 16)=true
   ·have hd14:=Dz h13
    refine DZ 38 [0,1,2,3] [(Ak w),(Bh c z),(Bj z),(Bi y8 z)] rfl rfl ?_
    refine Ci [(0,(an 7 1)),(1,o0),(3,o0),(6,o0),(7,(a1 3)),(14,o0),(17,o0),(18,(a1 3)),(25,o0),(28,o0),(29,(a1 3)),(30,o0),(32,o0)] [1,2,4,5,14,15,17,21,28,32,39,44,46] [Qb z,Qb z,Qb z,Qb z,Qb z,Qb z,Qb z,Qb (z+2),Qb (z+2),Qb (z+2)] [true,true,false,true,false,false,true,true,false,false,false,false,false,false,true,false,false,true,true,false,false,false,false,false,false,true,false,false,true,true,true,false,true,false,false,false,false,false,false] [(1,Ac p),(2,pt z),(AL z),(AU z),(14,.agg (Ai.arr c)),(15,Ac p),(17,Ac p),(21,i6 y8.Dx),(28,Ac p),(32,i6 y8.F7),(39,Ac p),(QT y8),(46,Ac p)] ⟨rfl,rfl,rfl,rfl,rfl,rfl,rfl,rfl,rfl,rfl,Ae⟩ ?_
    refine Qo (fun x:{p:Nat×Nat×Nat // z+3≤p.1∧z+3≤p.2.1∧z+3≤p.2.2}=>([(1,Ac p),(2,pt z),(AL z),(AU z),(6,pt x.1.2.2)],⟨w,x.1.1,[(Ak w),(Bh c z),(Bj z),(Bi y8 z),(.blk x.1.2.1 (.cells #[i6 ((Af (AP c p) 405 ⟨(p:Int), -1⟩).e),i6 ((Af (AP c p) 405 ⟨(p:Int), -1⟩).Ag.First),i6 ((Af (AP c p) 405 ⟨(p:Int), -1⟩).Ag.Second),i6 ((Af (win y8.A7 0 15) 406 ⟨(p:Int), -1⟩).e),i6 ((Af (win y8.A7 0 15) 406 ⟨(p:Int), -1⟩).Ag.First),i6 ((Af (win y8.A7 0 15) 406 ⟨(p:Int), -1⟩).Ag.Second),i6 ((Af (win y8.AV 0 16) 407 ⟨(p:Int), -1⟩).e),i6 ((Af (win y8.AV 0 16) 407 ⟨(p:Int), -1⟩).Ag.First),i6 ((Af (win y8.AV 0 16) 407 ⟨(p:Int), -1⟩).Ag.Second),i6 ((Af (win (y8.Ah.xs.length:Int) 1 8) 408 ⟨(p:Int), -1⟩).e),i6 ((Af (win (y8.Ah.xs.length:Int) 1 8) 408 ⟨(p:Int), -1⟩).Ag.First),i6 ((Af (win (y8.Ah.xs.length:Int) 1 8) 408 ⟨(p:Int), -1⟩).Ag.Second)] 132 (0,0)) true),(.blk x.1.2.2 (.cells (Am.arr (AY [(Af (AP c p) 405 ⟨(p:Int), -1⟩),(Af (win y8.A7 0 15) 406 ⟨(p:Int), -1⟩),(Af (win y8.AV 0 16) 407 ⟨(p:Int), -1⟩),(Af (win (y8.Ah.xs.length:Int) 1 8) 408 ⟨(p:Int), -1⟩)])) 132 (0,0)) true)]⟩)) (fun hK => ?_) ?_
    ·refine P6 37 6 [.cl 2 (.bool (AP c p)),.cl 4 (.agg #[(Ac p),i6 (-1)]),.cl 5 (.agg (Am.arr (Af (AP c p) 405 ⟨(p:Int), -1⟩))),.cl 8 (.bool (win y8.Dx 0 2)),.tk 9 (ov (.bool true)),.tk 10 o0,.tk 11 (a1 3),.cl 12 (.bool (win y8.A7 0 15)),.tk 13 o0,.cl 15 (.agg #[(Ac p),i6 (-1)]),.cl 16 (.agg (Am.arr (Af (win y8.A7 0 15) 406 ⟨(p:Int), -1⟩))),.cl 19 (.bool (win y8.F7 0 16)),.tk 20 (ov (.bool true)),.tk 21 o0,.tk 22 (a1 3),.cl 23 (.bool (win y8.AV 0 16)),.tk 24 o0,.cl 26 (.agg #[(Ac p),i6 (-1)]),.cl 27 (.agg (Am.arr (Af (win y8.AV 0 16) 407 ⟨(p:Int), -1⟩))),.cl 31 (.bool (win (y8.Ah.xs.length:Int) 1 8)),.cl 33 (.agg #[(Ac p),i6 (-1)]),.cl 34 (.agg (Am.arr (Af (win (y8.Ah.xs.length:Int) 1 8) 408 ⟨(p:Int), -1⟩)))] [1,2,4,5,19,30,41,48] [(88,#[.agg (Ai.arr c),Ac p],.bool (AP c p)),(89,#[(Ac p)],.agg #[(Ac p),i6 (-1)]),(63,#[.bool (AP c p),i6 405,.agg #[(Ac p),i6 (-1)]],.agg (Am.arr (Af (AP c p) 405 ⟨(p:Int), -1⟩))),(64,#[i6 y8.Dx,i6 0,i6 2],.bool (win y8.Dx 0 2)),(64,#[i6 y8.A7,i6 0,i6 15],.bool (win y8.A7 0 15)),(89,#[(Ac p)],.agg #[(Ac p),i6 (-1)]),(63,#[.bool (win y8.A7 0 15),i6 406,.agg #[(Ac p),i6 (-1)]],.agg (Am.arr (Af (win y8.A7 0 15) 406 ⟨(p:Int), -1⟩))),(64,#[i6 y8.F7,i6 0,i6 16],.bool (win y8.F7 0 16)),(64,#[i6 y8.AV,i6 0,i6 16],.bool (win y8.AV 0 16)),(89,#[(Ac p)],.agg #[(Ac p),i6 (-1)]),(63,#[.bool (win y8.AV 0 16),i6 407,.agg #[(Ac p),i6 (-1)]],.agg (Am.arr (Af (win y8.AV 0 16) 407 ⟨(p:Int), -1⟩))),(64,#[(Ac y8.Ah.xs.length),i6 1,i6 8],.bool (win (y8.Ah.xs.length:Int) 1 8)),(89,#[(Ac p)],.agg #[(Ac p),i6 (-1)]),(63,#[.bool (win (y8.Ah.xs.length:Int) 1 8),i6 408,.agg #[(Ac p),i6 (-1)]],.agg (Am.arr (Af (win (y8.Ah.xs.length:Int) 1 8) 408 ⟨(p:Int), -1⟩)))] (Dw 35 4) [Value.bool (win y8.Dx 0 2)=Value.bool true,Qb (z+2),Value.bool (win y8.F7 0 16)=Value.bool true,Qb (z+2)] [(1,Ac p),(2,pt z),(AL z),(AU z),(KP c p),(Q4 p y8),(Pg p y8),(KQ p y8)] (.cells #[i6 0,i6 0,i6 0] 132 (0,0)) [0,1,2,3] ⟨(congrArg Value.bool h11),rfl,(congrArg Value.bool h13),rfl,Ae⟩ ⟨fun w18 hw18=>SV w18 c (hc.ext (hw18.ext rfl) (fun _ h=>h)) p hp,fun w19 hw19=>D6 w19 (p:Int),fun w20 hw20=>Bo w20 (hL.ext (hw20.ext rfl)) (AP c p) 405 (p:Int) (-1),fun w21 hw21=>BZ w21 y8.Dx 0 2,fun w22 hw22=>BZ w22 y8.A7 0 15,fun w23 hw23=>D6 w23 (p:Int),fun w24 hw24=>Bo w24 (hL.ext (hw24.ext rfl)) (win y8.A7 0 15) 406 (p:Int) (-1),fun w25 hw25=>BZ w25 y8.F7 0 16,fun w26 hw26=>BZ w26 y8.AV 0 16,fun w27 hw27=>D6 w27 (p:Int),fun w28 hw28=>Bo w28 (hL.ext (hw28.ext rfl)) (win y8.AV 0 16) 407 (p:Int) (-1),fun w29 hw29=>BZ w29 (y8.Ah.xs.length:Int) 1 8,fun w30 hw30=>D6 w30 (p:Int),fun w31 hw31=>Bo w31 (hL.ext (hw31.ext rfl)) (win (y8.Ah.xs.length:Int) 1 8) 408 (p:Int) (-1),Ae⟩ ?_ (fun hv34 n32 hn33 => ?_)
     ·rintro⟨⟨n35,b36⟩,hb37⟩
      simp only at hb37
      refine Bq 35 ?_
      refine BC o0 [6,1,2,4,5,49] [] [(6,pt b36),(1,Ac p),(2,pt z),(AL z),(AU z),(49,.slice (some ⟨n35,0,none⟩) 4 4)] ⟨w,n35+1,[(Ak w),(Bh c z),(Bj z),(Bi y8 z),(bk b36 #[i6 0,i6 0,i6 0] 132),(KZ n35 c p y8)]⟩ [0,1,2,3] Ae (.inr rfl) ?_
      refine Bq 36 ?_
      refine GZ 87 #[.slice (some ⟨n35,0,none⟩) 4 4] (some 50) (.agg (Am.arr (AY [(Af (AP c p) 405 ⟨(p:Int), -1⟩),(Af (win y8.A7 0 15) 406 ⟨(p:Int), -1⟩),(Af (win y8.AV 0 16) 407 ⟨(p:Int), -1⟩),(Af (win (y8.Ah.xs.length:Int) 1 8) 408 ⟨(p:Int), -1⟩)]))) [6,1,2,4,5,50] [(6,pt b36),(1,Ac p),(2,pt z),(AL z),(AU z),(Q9 c p y8)] [0,1,2,3] (fun w38 hw38=>DD w38 (hL.ext (hw38.ext rfl)) ⟨some ⟨n35,0,none⟩,4,[(Af (AP c p) 405 ⟨(p:Int), -1⟩),(Af (win y8.A7 0 15) 406 ⟨(p:Int), -1⟩),(Af (win y8.AV 0 16) 407 ⟨(p:Int), -1⟩),(Af (win (y8.Ah.xs.length:Int) 1 8) 408 ⟨(p:Int), -1⟩)]⟩ (E8 hw38 (i:=5) [(Af (AP c p) 405 ⟨(p:Int), -1⟩),(Af (win y8.A7 0 15) 406 ⟨(p:Int), -1⟩),(Af (win y8.AV 0 16) 407 ⟨(p:Int), -1⟩),(Af (win (y8.Ah.xs.length:Int) 1 8) 408 ⟨(p:Int), -1⟩)]) (show 4≤1000 by decide)) (fun n39 hn40 => ?_)
      replace hn40:n35+1≤n39:=hn40
      refine Bq 38 ?_
      refine BC (an 3 4) [6,1,2,4,5] [Qb b36,Qb b36,Qb b36] [(6,pt b36),(1,Ac p),(2,pt z),(AL z),(AU z)] ⟨w,n39,[(Ak w),(Bh c z),(Bj z),(Bi y8 z),(ZaC c p y8 b36),(KZ n35 c p y8)]⟩ [] ⟨rfl,rfl,rfl,Ae⟩ (.inl rfl) ?_
      refine DX 39 [0,1,2,3,4,5] [(Ak w),(Bh c z),(Bj z),(Bi y8 z),(ZaC c p y8 b36),(KZ n35 c p y8)] rfl rfl ?_
      refine CE ?_
      refine BI [1,2,4,5,6] [(1,Ac p),(2,pt z),(AL z),(AU z),(6,pt b36)] ?_
      refine Cc [0,1,2,3,5,4] [(Ak w),(Bh c z),(Bj z),(Bi y8 z),(KZ n35 c p y8),(ZaC c p y8 b36)] rfl rfl ?_
      exact hK ⟨(n39,n35,b36),by first | omega | (dsimp only;omega)⟩
     replace hn33:z+3≤n32:=hn33
     refine Oe (fun x:{p:Nat×Nat×Nat // n32≤p.1∧n32≤p.2.1∧n32≤p.2.2}=>[(1,Ac p),(2,pt z),(AL z),(AU z),(6,pt x.1.2.1),(Q9 c p y8)]) (fun x=>⟨w,x.1.1,[(Ak w),(Bh c z),(Bj z),(Bi y8 z),(.blk x.1.2.1 (.cells #[i6 0,i6 0,i6 0] 132 (0,0)) true),(.blk x.1.2.2 (.cells #[i6 ((Af (AP c p) 405 ⟨(p:Int), -1⟩).e),i6 ((Af (AP c p) 405 ⟨(p:Int), -1⟩).Ag.First),i6 ((Af (AP c p) 405 ⟨(p:Int), -1⟩).Ag.Second),i6 ((Af (win y8.A7 0 15) 406 ⟨(p:Int), -1⟩).e),i6 ((Af (win y8.A7 0 15) 406 ⟨(p:Int), -1⟩).Ag.First),i6 ((Af (win y8.A7 0 15) 406 ⟨(p:Int), -1⟩).Ag.Second),i6 ((Af (win y8.AV 0 16) 407 ⟨(p:Int), -1⟩).e),i6 ((Af (win y8.AV 0 16) 407 ⟨(p:Int), -1⟩).Ag.First),i6 ((Af (win y8.AV 0 16) 407 ⟨(p:Int), -1⟩).Ag.Second),i6 ((Af (win (y8.Ah.xs.length:Int) 1 8) 408 ⟨(p:Int), -1⟩).e),i6 ((Af (win (y8.Ah.xs.length:Int) 1 8) 408 ⟨(p:Int), -1⟩).Ag.First),i6 ((Af (win (y8.Ah.xs.length:Int) 1 8) 408 ⟨(p:Int), -1⟩).Ag.Second)] 132 (0,0)) true)]⟩) 1 (Dw 38 1) ?_ (fun hv44 => ?_)
     ·rintro⟨⟨n41,b42,b43⟩,hb45⟩
      simp only at hb45
      show Wg _ _ [(1,Ac p),(2,pt z),(AL z),(AU z),(6,pt b42),(Q9 c p y8)] _ ⟨w,n41,[(Ak w),(Bh c z),(Bj z),(Bi y8 z),(bk b42 #[i6 0,i6 0,i6 0] 132),(KX c p y8 b43)]⟩ _ _ _ _ _ _ _
      refine Bq 38 ?_
      refine BC (an 3 4) [1,2,4,5,6] [Qb b42,Qb b42,Qb b42] [(1,Ac p),(2,pt z),(AL z),(AU z),(6,pt b42)] ⟨w,n41,[(Ak w),(Bh c z),(Bj z),(Bi y8 z),(ZaP c p y8 b42),(KX c p y8 b43)]⟩ [] ⟨rfl,rfl,rfl,Ae⟩ (.inl rfl) ?_
      refine DX 39 [0,1,2,3,4,5] [(Ak w),(Bh c z),(Bj z),(Bi y8 z),(ZaP c p y8 b42),(KX c p y8 b43)] rfl rfl ?_
      refine CE ?_
      refine BI [1,2,4,5,6] [(1,Ac p),(2,pt z),(AL z),(AU z),(6,pt b42)] ?_
      refine Cc [0,1,2,3,5,4] [(Ak w),(Bh c z),(Bj z),(Bi y8 z),(KX c p y8 b43),(ZaP c p y8 b42)] rfl rfl ?_
      exact hK ⟨(n41,b43,b42),by first | omega | (dsimp only;omega)⟩
     refine Oe (fun x:{p:Nat×Nat×Nat // n32≤p.1∧n32≤p.2.1∧n32≤p.2.2}=>[(1,Ac p),(2,pt z),(AL z),(AU z),(6,pt x.1.2.1),(49,.slice (some ⟨x.1.2.2,0,none⟩) 4 4)]) (fun x=>⟨w,x.1.1,[(Ak w),(Bh c z),(Bj z),(Bi y8 z),(.blk x.1.2.1 (.cells #[i6 0,i6 0,i6 0] 132 (0,0)) true),(.blk x.1.2.2 (.cells #[i6 ((Af (AP c p) 405 ⟨(p:Int), -1⟩).e),i6 ((Af (AP c p) 405 ⟨(p:Int), -1⟩).Ag.First),i6 ((Af (AP c p) 405 ⟨(p:Int), -1⟩).Ag.Second),i6 ((Af (win y8.A7 0 15) 406 ⟨(p:Int), -1⟩).e),i6 ((Af (win y8.A7 0 15) 406 ⟨(p:Int), -1⟩).Ag.First),i6 ((Af (win y8.A7 0 15) 406 ⟨(p:Int), -1⟩).Ag.Second),i6 ((Af (win y8.AV 0 16) 407 ⟨(p:Int), -1⟩).e),i6 ((Af (win y8.AV 0 16) 407 ⟨(p:Int), -1⟩).Ag.First),i6 ((Af (win y8.AV 0 16) 407 ⟨(p:Int), -1⟩).Ag.Second),i6 ((Af (win (y8.Ah.xs.length:Int) 1 8) 408 ⟨(p:Int), -1⟩).e),i6 ((Af (win (y8.Ah.xs.length:Int) 1 8) 408 ⟨(p:Int), -1⟩).Ag.First),i6 ((Af (win (y8.Ah.xs.length:Int) 1 8) 408 ⟨(p:Int), -1⟩).Ag.Second)] 132 (0,0)) true)]⟩) 2 [true,true,true,true,true,true,true,true,true,true,true,true,true,true,true,true,true,true,true,true,true,true,true,true,true,true,true,true,true,true,true,true,true,true,true,true,false,true,false] ?_ (fun hv49 => ?_)
     ·rintro⟨⟨n46,b47,b48⟩,hb50⟩
      simp only at hb50
      show Wg _ _ [(1,Ac p),(2,pt z),(AL z),(AU z),(6,pt b47),(49,.slice (some ⟨b48,0,none⟩) 4 4)] _ ⟨w,n46,[(Ak w),(Bh c z),(Bj z),(Bi y8 z),(bk b47 #[i6 0,i6 0,i6 0] 132),(bk b48 #[i6 ((Af (AP c p) 405 ⟨(p:Int), -1⟩).e),i6 ((Af (AP c p) 405 ⟨(p:Int), -1⟩).Ag.First),i6 ((Af (AP c p) 405 ⟨(p:Int), -1⟩).Ag.Second),i6 ((Af (win y8.A7 0 15) 406 ⟨(p:Int), -1⟩).e),i6 ((Af (win y8.A7 0 15) 406 ⟨(p:Int), -1⟩).Ag.First),i6 ((Af (win y8.A7 0 15) 406 ⟨(p:Int), -1⟩).Ag.Second),i6 ((Af (win y8.AV 0 16) 407 ⟨(p:Int), -1⟩).e),i6 ((Af (win y8.AV 0 16) 407 ⟨(p:Int), -1⟩).Ag.First),i6 ((Af (win y8.AV 0 16) 407 ⟨(p:Int), -1⟩).Ag.Second),i6 ((Af (win (y8.Ah.xs.length:Int) 1 8) 408 ⟨(p:Int), -1⟩).e),i6 ((Af (win (y8.Ah.xs.length:Int) 1 8) 408 ⟨(p:Int), -1⟩).Ag.First),i6 ((Af (win (y8.Ah.xs.length:Int) 1 8) 408 ⟨(p:Int), -1⟩).Ag.Second)] 132)]⟩ _ _ _ _ _ _ _
      refine Bq 36 ?_
      refine GZ 87 #[.slice (some ⟨b48,0,none⟩) 4 4] (some 50) (.agg (Am.arr (AY [(Af (AP c p) 405 ⟨(p:Int), -1⟩),(Af (win y8.A7 0 15) 406 ⟨(p:Int), -1⟩),(Af (win y8.AV 0 16) 407 ⟨(p:Int), -1⟩),(Af (win (y8.Ah.xs.length:Int) 1 8) 408 ⟨(p:Int), -1⟩)]))) [1,2,4,5,6,50] [(1,Ac p),(2,pt z),(AL z),(AU z),(6,pt b47),(Q9 c p y8)] [0,1,2,3] (fun w51 hw51=>DD w51 (hL.ext (hw51.ext rfl)) ⟨some ⟨b48,0,none⟩,4,[(Af (AP c p) 405 ⟨(p:Int), -1⟩),(Af (win y8.A7 0 15) 406 ⟨(p:Int), -1⟩),(Af (win y8.AV 0 16) 407 ⟨(p:Int), -1⟩),(Af (win (y8.Ah.xs.length:Int) 1 8) 408 ⟨(p:Int), -1⟩)]⟩ (E8 hw51 (i:=5) [(Af (AP c p) 405 ⟨(p:Int), -1⟩),(Af (win y8.A7 0 15) 406 ⟨(p:Int), -1⟩),(Af (win y8.AV 0 16) 407 ⟨(p:Int), -1⟩),(Af (win (y8.Ah.xs.length:Int) 1 8) 408 ⟨(p:Int), -1⟩)]) (show 4≤1000 by decide)) (fun n52 hn53 => ?_)
      replace hn53:n46≤n52:=hn53
      refine CY [1,2,4,5,6,50] [(1,Ac p),(2,pt z),(AL z),(AU z),(6,pt b47),(Q9 c p y8)] ?_
      exact hv44 ⟨(n52,b47,b48),by first | omega | (dsimp only;omega)⟩
     refine Jr [35,37] ?_
     refine List.forall_mem_cons.2 ⟨?_,List.forall_mem_cons.2 ⟨?_,fun _ h=>absurd h List.not_mem_nil⟩⟩
     ·refine BC o0 [1,2,4,5,49] [] [(1,Ac p),(2,pt z),(AL z),(AU z),(49,.slice (some ⟨n32,0,none⟩) 4 4)] ⟨w,n32+1,[(Ak w),(Bh c z),(Bj z),(Bi y8 z),(OL c p y8 n32)]⟩ [0,1,2,3] Ae (.inr rfl) ?_
      refine Jr [36,37] ?_
      refine List.forall_mem_cons.2 ⟨?_,List.forall_mem_cons.2 ⟨?_,fun _ h=>absurd h List.not_mem_nil⟩⟩
      ·refine GZ 87 #[.slice (some ⟨n32,0,none⟩) 4 4] (some 50) (.agg (Am.arr (AY [(Af (AP c p) 405 ⟨(p:Int), -1⟩),(Af (win y8.A7 0 15) 406 ⟨(p:Int), -1⟩),(Af (win y8.AV 0 16) 407 ⟨(p:Int), -1⟩),(Af (win (y8.Ah.xs.length:Int) 1 8) 408 ⟨(p:Int), -1⟩)]))) [1,2,4,5,50] [(1,Ac p),(2,pt z),(AL z),(AU z),(Q9 c p y8)] [0,1,2,3] (fun w54 hw54=>DD w54 (hL.ext (hw54.ext rfl)) ⟨some ⟨n32,0,none⟩,4,[(Af (AP c p) 405 ⟨(p:Int), -1⟩),(Af (win y8.A7 0 15) 406 ⟨(p:Int), -1⟩),(Af (win y8.AV 0 16) 407 ⟨(p:Int), -1⟩),(Af (win (y8.Ah.xs.length:Int) 1 8) 408 ⟨(p:Int), -1⟩)]⟩ (E8 hw54 (i:=4) [(Af (AP c p) 405 ⟨(p:Int), -1⟩),(Af (win y8.A7 0 15) 406 ⟨(p:Int), -1⟩),(Af (win y8.AV 0 16) 407 ⟨(p:Int), -1⟩),(Af (win (y8.Ah.xs.length:Int) 1 8) 408 ⟨(p:Int), -1⟩)]) (show 4≤1000 by decide)) (fun n55 hn56 => ?_)
       replace hn56:n32+1≤n55:=hn56
       refine Bq 37 ?_
       refine BC o0 [1,2,4,5,50,6] [] [(1,Ac p),(2,pt z),(AL z),(AU z),(Q9 c p y8),(6,pt n55)] ⟨w,n55+1,[(Ak w),(Bh c z),(Bj z),(Bi y8 z),(OL c p y8 n32),(bk n55 #[i6 0,i6 0,i6 0] 132)]⟩ [0,1,2,3] Ae (.inr rfl) ?_
       refine MF [0,1,2,3,5,4] [(Ak w),(Bh c z),(Bj z),(Bi y8 z),(bk n55 #[i6 0,i6 0,i6 0] 132),(OL c p y8 n32)] rfl rfl ?_
       refine CY [1,2,4,5,6,50] [(1,Ac p),(2,pt z),(AL z),(AU z),(6,pt n55),(Q9 c p y8)] ?_
       exact hv44 ⟨(n55+1,n55,n32),by first | omega | (dsimp only;omega)⟩
      refine BC o0 [1,2,4,5,49,6] [] [(1,Ac p),(2,pt z),(AL z),(AU z),(49,.slice (some ⟨n32,0,none⟩) 4 4),(6,pt (n32+1))] ⟨w,n32+2,[(Ak w),(Bh c z),(Bj z),(Bi y8 z),(OL c p y8 n32),(bk (n32+1) #[i6 0,i6 0,i6 0] 132)]⟩ [0,1,2,3] Ae (.inr rfl) ?_
      refine MF [0,1,2,3,5,4] [(Ak w),(Bh c z),(Bj z),(Bi y8 z),(bk (n32+1) #[i6 0,i6 0,i6 0] 132),(OL c p y8 n32)] rfl rfl ?_
      refine CY [1,2,4,5,6,49] [(1,Ac p),(2,pt z),(AL z),(AU z),(6,pt (n32+1)),(49,.slice (some ⟨n32,0,none⟩) 4 4)] ?_
      exact hv49 ⟨(n32+2,n32+1,n32),by first | omega | (dsimp only;omega)⟩
     refine BC o0 [1,2,4,5,19,30,41,48,6] [] [(1,Ac p),(2,pt z),(AL z),(AU z),(KP c p),(Q4 p y8),(Pg p y8),(KQ p y8),(6,pt n32)] ⟨w,n32+1,[(Ak w),(Bh c z),(Bj z),(Bi y8 z),(bk n32 #[i6 0,i6 0,i6 0] 132)]⟩ [0,1,2,3] Ae (.inr rfl) ?_
     refine CY [6,1,2,4,5,19,30,41,48] [(6,pt n32),(1,Ac p),(2,pt z),(AL z),(AU z),(KP c p),(Q4 p y8),(Pg p y8),(KQ p y8)] ?_
     exact hv34 ⟨(n32+1,n32),by first | omega | (dsimp only;omega)⟩
    rintro⟨⟨n15,b16,b17⟩,hJ57⟩
    simp only at hJ57
    show E _ _ [(1,Ac p),(2,pt z),(AL z),(AU z),(6,pt b17)] _ ⟨w,n15,[(Ak w),(Bh c z),(Bj z),(Bi y8 z),(bk b16 #[i6 ((Af (AP c p) 405 ⟨(p:Int), -1⟩).e),i6 ((Af (AP c p) 405 ⟨(p:Int), -1⟩).Ag.First),i6 ((Af (AP c p) 405 ⟨(p:Int), -1⟩).Ag.Second),i6 ((Af (win y8.A7 0 15) 406 ⟨(p:Int), -1⟩).e),i6 ((Af (win y8.A7 0 15) 406 ⟨(p:Int), -1⟩).Ag.First),i6 ((Af (win y8.A7 0 15) 406 ⟨(p:Int), -1⟩).Ag.Second),i6 ((Af (win y8.AV 0 16) 407 ⟨(p:Int), -1⟩).e),i6 ((Af (win y8.AV 0 16) 407 ⟨(p:Int), -1⟩).Ag.First),i6 ((Af (win y8.AV 0 16) 407 ⟨(p:Int), -1⟩).Ag.Second),i6 ((Af (win (y8.Ah.xs.length:Int) 1 8) 408 ⟨(p:Int), -1⟩).e),i6 ((Af (win (y8.Ah.xs.length:Int) 1 8) 408 ⟨(p:Int), -1⟩).Ag.First),i6 ((Af (win (y8.Ah.xs.length:Int) 1 8) 408 ⟨(p:Int), -1⟩).Ag.Second)] 132),(Yf c p y8 b17)]⟩ _ _ _
    refine Cc [0,1,2,3,5] [(Ak w),(Bh c z),(Bj z),(Bi y8 z),(Yf c p y8 b17)] rfl rfl ?_
    have eA:AY (Gw c p)=(AY [(Af (AP c p) 405 ⟨(p:Int), -1⟩),(Af (win y8.A7 0 15) 406 ⟨(p:Int), -1⟩),(Af (win y8.AV 0 16) 407 ⟨(p:Int), -1⟩),(Af (win (y8.Ah.xs.length:Int) 1 8) 408 ⟨(p:Int), -1⟩)]):=by have e0:Es c p=y8:=hy8.symm;unfold Gw;simp only[e0];simp[h11,h13]
    refine BI [1,2,4,5,6] [(1,Ac p),(2,pt z),(AL z),(AU z),(6,pt b17)] ?_
    refine BR (fun a w' hs=>⟨n15,b17,by omega,(by(try dsimp only[Yf,Bj,Bi,Bh,KQ,Q4,Pg,KP,QT,AL,AU,Dv]at hs ⊢);rw[eA];exact hs)⟩)
   have hd58:=FI h13
   refine DZ 38 [0,1,2,3] [(Ak w),(Bh c z),(Bj z),(Bi y8 z)] rfl rfl ?_
   refine Ci [(0,(an 7 1)),(1,o0),(3,o0),(6,o0),(7,(a1 3)),(14,o0),(17,o0),(18,(a1 3)),(25,o0),(28,o0),(29,(a1 3)),(30,o0),(32,o0)] [1,2,4,5,14,15,17,21,28,32,39,44,46] [Qb z,Qb z,Qb z,Qb z,Qb z,Qb z,Qb z,Qb (z+2),Qb (z+2),Qb (z+2)] [true,true,false,true,false,false,true,true,false,false,false,false,false,false,true,false,false,true,true,false,false,false,false,false,false,true,false,false,true,true,true,false,true,false,false,false,false,false,false] [(1,Ac p),(2,pt z),(AL z),(AU z),(14,.agg (Ai.arr c)),(15,Ac p),(17,Ac p),(21,i6 y8.Dx),(28,Ac p),(32,i6 y8.F7),(39,Ac p),(QT y8),(46,Ac p)] ⟨rfl,rfl,rfl,rfl,rfl,rfl,rfl,rfl,rfl,rfl,Ae⟩ ?_
   refine Qo (fun x:{p:Nat×Nat×Nat // z+3≤p.1∧z+3≤p.2.1∧z+3≤p.2.2}=>([(1,Ac p),(2,pt z),(AL z),(AU z),(6,pt x.1.2.2)],⟨w,x.1.1,[(Ak w),(Bh c z),(Bj z),(Bi y8 z),(.blk x.1.2.1 (.cells #[i6 ((Af (AP c p) 405 ⟨(p:Int), -1⟩).e),i6 ((Af (AP c p) 405 ⟨(p:Int), -1⟩).Ag.First),i6 ((Af (AP c p) 405 ⟨(p:Int), -1⟩).Ag.Second),i6 ((Af (win y8.A7 0 15) 406 ⟨(p:Int), -1⟩).e),i6 ((Af (win y8.A7 0 15) 406 ⟨(p:Int), -1⟩).Ag.First),i6 ((Af (win y8.A7 0 15) 406 ⟨(p:Int), -1⟩).Ag.Second),i6 ((Af false 407 ⟨(p:Int), -1⟩).e),i6 ((Af false 407 ⟨(p:Int), -1⟩).Ag.First),i6 ((Af false 407 ⟨(p:Int), -1⟩).Ag.Second),i6 ((Af (win (y8.Ah.xs.length:Int) 1 8) 408 ⟨(p:Int), -1⟩).e),i6 ((Af (win (y8.Ah.xs.length:Int) 1 8) 408 ⟨(p:Int), -1⟩).Ag.First),i6 ((Af (win (y8.Ah.xs.length:Int) 1 8) 408 ⟨(p:Int), -1⟩).Ag.Second)] 132 (0,0)) true),(.blk x.1.2.2 (.cells (Am.arr (AY [(Af (AP c p) 405 ⟨(p:Int), -1⟩),(Af (win y8.A7 0 15) 406 ⟨(p:Int), -1⟩),(Af false 407 ⟨(p:Int), -1⟩),(Af (win (y8.Ah.xs.length:Int) 1 8) 408 ⟨(p:Int), -1⟩)])) 132 (0,0)) true)]⟩)) (fun hK => ?_) ?_
   ·refine P6 37 6 [.cl 2 (.bool (AP c p)),.cl 4 (.agg #[(Ac p),i6 (-1)]),.cl 5 (.agg (Am.arr (Af (AP c p) 405 ⟨(p:Int), -1⟩))),.cl 8 (.bool (win y8.Dx 0 2)),.tk 9 (ov (.bool true)),.tk 10 o0,.tk 11 (a1 3),.cl 12 (.bool (win y8.A7 0 15)),.tk 13 o0,.cl 15 (.agg #[(Ac p),i6 (-1)]),.cl 16 (.agg (Am.arr (Af (win y8.A7 0 15) 406 ⟨(p:Int), -1⟩))),.cl 19 (.bool (win y8.F7 0 16)),.tk 20 (ov (.bool false)),.tk 21 o0,.tk 22 o0,.tk 23 o0,.tk 24 o0,.cl 26 (.agg #[(Ac p),i6 (-1)]),.cl 27 (.agg (Am.arr (Af false 407 ⟨(p:Int), -1⟩))),.cl 31 (.bool (win (y8.Ah.xs.length:Int) 1 8)),.cl 33 (.agg #[(Ac p),i6 (-1)]),.cl 34 (.agg (Am.arr (Af (win (y8.Ah.xs.length:Int) 1 8) 408 ⟨(p:Int), -1⟩)))] [1,2,4,5,19,30,41,48] [(88,#[.agg (Ai.arr c),Ac p],.bool (AP c p)),(89,#[(Ac p)],.agg #[(Ac p),i6 (-1)]),(63,#[.bool (AP c p),i6 405,.agg #[(Ac p),i6 (-1)]],.agg (Am.arr (Af (AP c p) 405 ⟨(p:Int), -1⟩))),(64,#[i6 y8.Dx,i6 0,i6 2],.bool (win y8.Dx 0 2)),(64,#[i6 y8.A7,i6 0,i6 15],.bool (win y8.A7 0 15)),(89,#[(Ac p)],.agg #[(Ac p),i6 (-1)]),(63,#[.bool (win y8.A7 0 15),i6 406,.agg #[(Ac p),i6 (-1)]],.agg (Am.arr (Af (win y8.A7 0 15) 406 ⟨(p:Int), -1⟩))),(64,#[i6 y8.F7,i6 0,i6 16],.bool (win y8.F7 0 16)),(89,#[(Ac p)],.agg #[(Ac p),i6 (-1)]),(63,#[.bool false,i6 407,.agg #[(Ac p),i6 (-1)]],.agg (Am.arr (Af false 407 ⟨(p:Int), -1⟩))),(64,#[(Ac y8.Ah.xs.length),i6 1,i6 8],.bool (win (y8.Ah.xs.length:Int) 1 8)),(89,#[(Ac p)],.agg #[(Ac p),i6 (-1)]),(63,#[.bool (win (y8.Ah.xs.length:Int) 1 8),i6 408,.agg #[(Ac p),i6 (-1)]],.agg (Am.arr (Af (win (y8.Ah.xs.length:Int) 1 8) 408 ⟨(p:Int), -1⟩)))] (Dw 35 4) [Value.bool (win y8.Dx 0 2)=Value.bool true,Qb (z+2),Value.bool (win y8.F7 0 16)=Value.bool false] [(1,Ac p),(2,pt z),(AL z),(AU z),(KP c p),(Q4 p y8),(QC p),(KQ p y8)] (.cells #[i6 0,i6 0,i6 0] 132 (0,0)) [0,1,2,3] ⟨(congrArg Value.bool h11),rfl,(congrArg Value.bool (Bool.eq_false_iff.2 h13)),Ae⟩ ⟨fun w62 hw62=>SV w62 c (hc.ext (hw62.ext rfl) (fun _ h=>h)) p hp,fun w63 hw63=>D6 w63 (p:Int),fun w64 hw64=>Bo w64 (hL.ext (hw64.ext rfl)) (AP c p) 405 (p:Int) (-1),fun w65 hw65=>BZ w65 y8.Dx 0 2,fun w66 hw66=>BZ w66 y8.A7 0 15,fun w67 hw67=>D6 w67 (p:Int),fun w68 hw68=>Bo w68 (hL.ext (hw68.ext rfl)) (win y8.A7 0 15) 406 (p:Int) (-1),fun w69 hw69=>BZ w69 y8.F7 0 16,fun w70 hw70=>D6 w70 (p:Int),fun w71 hw71=>Bo w71 (hL.ext (hw71.ext rfl)) false 407 (p:Int) (-1),fun w72 hw72=>BZ w72 (y8.Ah.xs.length:Int) 1 8,fun w73 hw73=>D6 w73 (p:Int),fun w74 hw74=>Bo w74 (hL.ext (hw74.ext rfl)) (win (y8.Ah.xs.length:Int) 1 8) 408 (p:Int) (-1),Ae⟩ ?_ (fun hv77 n75 hn76 => ?_)
    ·rintro⟨⟨n78,b79⟩,hb80⟩
     simp only at hb80
     refine Bq 35 ?_
     refine BC o0 [6,1,2,4,5,49] [] [(6,pt b79),(1,Ac p),(2,pt z),(AL z),(AU z),(49,.slice (some ⟨n78,0,none⟩) 4 4)] ⟨w,n78+1,[(Ak w),(Bh c z),(Bj z),(Bi y8 z),(bk b79 #[i6 0,i6 0,i6 0] 132),(ND c p y8 n78)]⟩ [0,1,2,3] Ae (.inr rfl) ?_
     refine Bq 36 ?_
     refine GZ 87 #[.slice (some ⟨n78,0,none⟩) 4 4] (some 50) (.agg (Am.arr (AY [(Af (AP c p) 405 ⟨(p:Int), -1⟩),(Af (win y8.A7 0 15) 406 ⟨(p:Int), -1⟩),(Af false 407 ⟨(p:Int), -1⟩),(Af (win (y8.Ah.xs.length:Int) 1 8) 408 ⟨(p:Int), -1⟩)]))) [6,1,2,4,5,50] [(6,pt b79),(1,Ac p),(2,pt z),(AL z),(AU z),(QV c p y8)] [0,1,2,3] (fun w81 hw81=>DD w81 (hL.ext (hw81.ext rfl)) ⟨some ⟨n78,0,none⟩,4,[(Af (AP c p) 405 ⟨(p:Int), -1⟩),(Af (win y8.A7 0 15) 406 ⟨(p:Int), -1⟩),(Af false 407 ⟨(p:Int), -1⟩),(Af (win (y8.Ah.xs.length:Int) 1 8) 408 ⟨(p:Int), -1⟩)]⟩ (E8 hw81 (i:=5) [(Af (AP c p) 405 ⟨(p:Int), -1⟩),(Af (win y8.A7 0 15) 406 ⟨(p:Int), -1⟩),(Af false 407 ⟨(p:Int), -1⟩),(Af (win (y8.Ah.xs.length:Int) 1 8) 408 ⟨(p:Int), -1⟩)]) (show 4≤1000 by decide)) (fun n82 hn83 => ?_)
     replace hn83:n78+1≤n82:=hn83
     refine Bq 38 ?_
     refine BC (an 3 4) [6,1,2,4,5] [Qb b79,Qb b79,Qb b79] [(6,pt b79),(1,Ac p),(2,pt z),(AL z),(AU z)] ⟨w,n82,[(Ak w),(Bh c z),(Bj z),(Bi y8 z),(Za5 c p y8 b79),(ND c p y8 n78)]⟩ [] ⟨rfl,rfl,rfl,Ae⟩ (.inl rfl) ?_
     refine DX 39 [0,1,2,3,4,5] [(Ak w),(Bh c z),(Bj z),(Bi y8 z),(Za5 c p y8 b79),(ND c p y8 n78)] rfl rfl ?_
     refine CE ?_
     refine BI [1,2,4,5,6] [(1,Ac p),(2,pt z),(AL z),(AU z),(6,pt b79)] ?_
     refine Cc [0,1,2,3,5,4] [(Ak w),(Bh c z),(Bj z),(Bi y8 z),(ND c p y8 n78),(Za5 c p y8 b79)] rfl rfl ?_
     exact hK ⟨(n82,n78,b79),by first | omega | (dsimp only;omega)⟩
    replace hn76:z+3≤n75:=hn76
    refine Oe (fun x:{p:Nat×Nat×Nat // n75≤p.1∧n75≤p.2.1∧n75≤p.2.2}=>[(1,Ac p),(2,pt z),(AL z),(AU z),(6,pt x.1.2.1),(QV c p y8)]) (fun x=>⟨w,x.1.1,[(Ak w),(Bh c z),(Bj z),(Bi y8 z),(.blk x.1.2.1 (.cells #[i6 0,i6 0,i6 0] 132 (0,0)) true),(.blk x.1.2.2 (.cells #[i6 ((Af (AP c p) 405 ⟨(p:Int), -1⟩).e),i6 ((Af (AP c p) 405 ⟨(p:Int), -1⟩).Ag.First),i6 ((Af (AP c p) 405 ⟨(p:Int), -1⟩).Ag.Second),i6 ((Af (win y8.A7 0 15) 406 ⟨(p:Int), -1⟩).e),i6 ((Af (win y8.A7 0 15) 406 ⟨(p:Int), -1⟩).Ag.First),i6 ((Af (win y8.A7 0 15) 406 ⟨(p:Int), -1⟩).Ag.Second),i6 ((Af false 407 ⟨(p:Int), -1⟩).e),i6 ((Af false 407 ⟨(p:Int), -1⟩).Ag.First),i6 ((Af false 407 ⟨(p:Int), -1⟩).Ag.Second),i6 ((Af (win (y8.Ah.xs.length:Int) 1 8) 408 ⟨(p:Int), -1⟩).e),i6 ((Af (win (y8.Ah.xs.length:Int) 1 8) 408 ⟨(p:Int), -1⟩).Ag.First),i6 ((Af (win (y8.Ah.xs.length:Int) 1 8) 408 ⟨(p:Int), -1⟩).Ag.Second)] 132 (0,0)) true)]⟩) 1 (Dw 38 1) ?_ (fun hv87 => ?_)
    ·rintro⟨⟨n84,b85,b86⟩,hb88⟩
     simp only at hb88
     show Wg _ _ [(1,Ac p),(2,pt z),(AL z),(AU z),(6,pt b85),(QV c p y8)] _ ⟨w,n84,[(Ak w),(Bh c z),(Bj z),(Bi y8 z),(bk b85 #[i6 0,i6 0,i6 0] 132),(OH c p y8 b86)]⟩ _ _ _ _ _ _ _
     refine Bq 38 ?_
     refine BC (an 3 4) [1,2,4,5,6] [Qb b85,Qb b85,Qb b85] [(1,Ac p),(2,pt z),(AL z),(AU z),(6,pt b85)] ⟨w,n84,[(Ak w),(Bh c z),(Bj z),(Bi y8 z),(ZaF c p y8 b85),(OH c p y8 b86)]⟩ [] ⟨rfl,rfl,rfl,Ae⟩ (.inl rfl) ?_
     refine DX 39 [0,1,2,3,4,5] [(Ak w),(Bh c z),(Bj z),(Bi y8 z),(ZaF c p y8 b85),(OH c p y8 b86)] rfl rfl ?_
     refine CE ?_
     refine BI [1,2,4,5,6] [(1,Ac p),(2,pt z),(AL z),(AU z),(6,pt b85)] ?_
     refine Cc [0,1,2,3,5,4] [(Ak w),(Bh c z),(Bj z),(Bi y8 z),(OH c p y8 b86),(ZaF c p y8 b85)] rfl rfl ?_
     exact hK ⟨(n84,b86,b85),by first | omega | (dsimp only;omega)⟩
    refine Oe (fun x:{p:Nat×Nat×Nat // n75≤p.1∧n75≤p.2.1∧n75≤p.2.2}=>[(1,Ac p),(2,pt z),(AL z),(AU z),(6,pt x.1.2.1),(49,.slice (some ⟨x.1.2.2,0,none⟩) 4 4)]) (fun x=>⟨w,x.1.1,[(Ak w),(Bh c z),(Bj z),(Bi y8 z),(.blk x.1.2.1 (.cells #[i6 0,i6 0,i6 0] 132 (0,0)) true),(.blk x.1.2.2 (.cells #[i6 ((Af (AP c p) 405 ⟨(p:Int), -1⟩).e),i6 ((Af (AP c p) 405 ⟨(p:Int), -1⟩).Ag.First),i6 ((Af (AP c p) 405 ⟨(p:Int), -1⟩).Ag.Second),i6 ((Af (win y8.A7 0 15) 406 ⟨(p:Int), -1⟩).e),i6 ((Af (win y8.A7 0 15) 406 ⟨(p:Int), -1⟩).Ag.First),i6 ((Af (win y8.A7 0 15) 406 ⟨(p:Int), -1⟩).Ag.Second),i6 ((Af false 407 ⟨(p:Int), -1⟩).e),i6 ((Af false 407 ⟨(p:Int), -1⟩).Ag.First),i6 ((Af false 407 ⟨(p:Int), -1⟩).Ag.Second),i6 ((Af (win (y8.Ah.xs.length:Int) 1 8) 408 ⟨(p:Int), -1⟩).e),i6 ((Af (win (y8.Ah.xs.length:Int) 1 8) 408 ⟨(p:Int), -1⟩).Ag.First),i6 ((Af (win (y8.Ah.xs.length:Int) 1 8) 408 ⟨(p:Int), -1⟩).Ag.Second)] 132 (0,0)) true)]⟩) 2 [true,true,true,true,true,true,true,true,true,true,true,true,true,true,true,true,true,true,true,true,true,true,true,true,true,true,true,true,true,true,true,true,true,true,true,true,false,true,false] ?_ (fun hv92 => ?_)
    ·rintro⟨⟨n89,b90,b91⟩,hb93⟩
     simp only at hb93
     show Wg _ _ [(1,Ac p),(2,pt z),(AL z),(AU z),(6,pt b90),(49,.slice (some ⟨b91,0,none⟩) 4 4)] _ ⟨w,n89,[(Ak w),(Bh c z),(Bj z),(Bi y8 z),(bk b90 #[i6 0,i6 0,i6 0] 132),(bk b91 #[i6 ((Af (AP c p) 405 ⟨(p:Int), -1⟩).e),i6 ((Af (AP c p) 405 ⟨(p:Int), -1⟩).Ag.First),i6 ((Af (AP c p) 405 ⟨(p:Int), -1⟩).Ag.Second),i6 ((Af (win y8.A7 0 15) 406 ⟨(p:Int), -1⟩).e),i6 ((Af (win y8.A7 0 15) 406 ⟨(p:Int), -1⟩).Ag.First),i6 ((Af (win y8.A7 0 15) 406 ⟨(p:Int), -1⟩).Ag.Second),i6 ((Af false 407 ⟨(p:Int), -1⟩).e),i6 ((Af false 407 ⟨(p:Int), -1⟩).Ag.First),i6 ((Af false 407 ⟨(p:Int), -1⟩).Ag.Second),i6 ((Af (win (y8.Ah.xs.length:Int) 1 8) 408 ⟨(p:Int), -1⟩).e),i6 ((Af (win (y8.Ah.xs.length:Int) 1 8) 408 ⟨(p:Int), -1⟩).Ag.First),i6 ((Af (win (y8.Ah.xs.length:Int) 1 8) 408 ⟨(p:Int), -1⟩).Ag.Second)] 132)]⟩ _ _ _ _ _ _ _
     refine Bq 36 ?_
     refine GZ 87 #[.slice (some ⟨b91,0,none⟩) 4 4] (some 50) (.agg (Am.arr (AY [(Af (AP c p) 405 ⟨(p:Int), -1⟩),(Af (win y8.A7 0 15) 406 ⟨(p:Int), -1⟩),(Af false 407 ⟨(p:Int), -1⟩),(Af (win (y8.Ah.xs.length:Int) 1 8) 408 ⟨(p:Int), -1⟩)]))) [1,2,4,5,6,50] [(1,Ac p),(2,pt z),(AL z),(AU z),(6,pt b90),(QV c p y8)] [0,1,2,3] (fun w94 hw94=>DD w94 (hL.ext (hw94.ext rfl)) ⟨some ⟨b91,0,none⟩,4,[(Af (AP c p) 405 ⟨(p:Int), -1⟩),(Af (win y8.A7 0 15) 406 ⟨(p:Int), -1⟩),(Af false 407 ⟨(p:Int), -1⟩),(Af (win (y8.Ah.xs.length:Int) 1 8) 408 ⟨(p:Int), -1⟩)]⟩ (E8 hw94 (i:=5) [(Af (AP c p) 405 ⟨(p:Int), -1⟩),(Af (win y8.A7 0 15) 406 ⟨(p:Int), -1⟩),(Af false 407 ⟨(p:Int), -1⟩),(Af (win (y8.Ah.xs.length:Int) 1 8) 408 ⟨(p:Int), -1⟩)]) (show 4≤1000 by decide)) (fun n95 hn96 => ?_)
     replace hn96:n89≤n95:=hn96
     refine CY [1,2,4,5,6,50] [(1,Ac p),(2,pt z),(AL z),(AU z),(6,pt b90),(QV c p y8)] ?_
     exact hv87 ⟨(n95,b90,b91),by first | omega | (dsimp only;omega)⟩
    refine Jr [35,37] ?_
    refine List.forall_mem_cons.2 ⟨?_,List.forall_mem_cons.2 ⟨?_,fun _ h=>absurd h List.not_mem_nil⟩⟩
    ·refine BC o0 [1,2,4,5,49] [] [(1,Ac p),(2,pt z),(AL z),(AU z),(49,.slice (some ⟨n75,0,none⟩) 4 4)] ⟨w,n75+1,[(Ak w),(Bh c z),(Bj z),(Bi y8 z),(KW c p y8 n75)]⟩ [0,1,2,3] Ae (.inr rfl) ?_
     refine Jr [36,37] ?_
     refine List.forall_mem_cons.2 ⟨?_,List.forall_mem_cons.2 ⟨?_,fun _ h=>absurd h List.not_mem_nil⟩⟩
     ·refine GZ 87 #[.slice (some ⟨n75,0,none⟩) 4 4] (some 50) (.agg (Am.arr (AY [(Af (AP c p) 405 ⟨(p:Int), -1⟩),(Af (win y8.A7 0 15) 406 ⟨(p:Int), -1⟩),(Af false 407 ⟨(p:Int), -1⟩),(Af (win (y8.Ah.xs.length:Int) 1 8) 408 ⟨(p:Int), -1⟩)]))) [1,2,4,5,50] [(1,Ac p),(2,pt z),(AL z),(AU z),(QV c p y8)] [0,1,2,3] (fun w97 hw97=>DD w97 (hL.ext (hw97.ext rfl)) ⟨some ⟨n75,0,none⟩,4,[(Af (AP c p) 405 ⟨(p:Int), -1⟩),(Af (win y8.A7 0 15) 406 ⟨(p:Int), -1⟩),(Af false 407 ⟨(p:Int), -1⟩),(Af (win (y8.Ah.xs.length:Int) 1 8) 408 ⟨(p:Int), -1⟩)]⟩ (E8 hw97 (i:=4) [(Af (AP c p) 405 ⟨(p:Int), -1⟩),(Af (win y8.A7 0 15) 406 ⟨(p:Int), -1⟩),(Af false 407 ⟨(p:Int), -1⟩),(Af (win (y8.Ah.xs.length:Int) 1 8) 408 ⟨(p:Int), -1⟩)]) (show 4≤1000 by decide)) (fun n98 hn99 => ?_)
      replace hn99:n75+1≤n98:=hn99
      refine Bq 37 ?_
      refine BC o0 [1,2,4,5,50,6] [] [(1,Ac p),(2,pt z),(AL z),(AU z),(QV c p y8),(6,pt n98)] ⟨w,n98+1,[(Ak w),(Bh c z),(Bj z),(Bi y8 z),(KW c p y8 n75),(bk n98 #[i6 0,i6 0,i6 0] 132)]⟩ [0,1,2,3] Ae (.inr rfl) ?_
      refine MF [0,1,2,3,5,4] [(Ak w),(Bh c z),(Bj z),(Bi y8 z),(bk n98 #[i6 0,i6 0,i6 0] 132),(KW c p y8 n75)] rfl rfl ?_
      refine CY [1,2,4,5,6,50] [(1,Ac p),(2,pt z),(AL z),(AU z),(6,pt n98),(QV c p y8)] ?_
      exact hv87 ⟨(n98+1,n98,n75),by first | omega | (dsimp only;omega)⟩
     refine BC o0 [1,2,4,5,49,6] [] [(1,Ac p),(2,pt z),(AL z),(AU z),(49,.slice (some ⟨n75,0,none⟩) 4 4),(6,pt (n75+1))] ⟨w,n75+2,[(Ak w),(Bh c z),(Bj z),(Bi y8 z),(KW c p y8 n75),(bk (n75+1) #[i6 0,i6 0,i6 0] 132)]⟩ [0,1,2,3] Ae (.inr rfl) ?_
     refine MF [0,1,2,3,5,4] [(Ak w),(Bh c z),(Bj z),(Bi y8 z),(bk (n75+1) #[i6 0,i6 0,i6 0] 132),(KW c p y8 n75)] rfl rfl ?_
     refine CY [1,2,4,5,6,49] [(1,Ac p),(2,pt z),(AL z),(AU z),(6,pt (n75+1)),(49,.slice (some ⟨n75,0,none⟩) 4 4)] ?_
     exact hv92 ⟨(n75+2,n75+1,n75),by first | omega | (dsimp only;omega)⟩
    refine BC o0 [1,2,4,5,19,30,41,48,6] [] [(1,Ac p),(2,pt z),(AL z),(AU z),(KP c p),(Q4 p y8),(QC p),(KQ p y8),(6,pt n75)] ⟨w,n75+1,[(Ak w),(Bh c z),(Bj z),(Bi y8 z),(bk n75 #[i6 0,i6 0,i6 0] 132)]⟩ [0,1,2,3] Ae (.inr rfl) ?_
    refine CY [6,1,2,4,5,19,30,41,48] [(6,pt n75),(1,Ac p),(2,pt z),(AL z),(AU z),(KP c p),(Q4 p y8),(QC p),(KQ p y8)] ?_
    exact hv77 ⟨(n75+1,n75),by first | omega | (dsimp only;omega)⟩
   rintro⟨⟨n59,b60,b61⟩,hJ100⟩
   simp only at hJ100
   show E _ _ [(1,Ac p),(2,pt z),(AL z),(AU z),(6,pt b61)] _ ⟨w,n59,[(Ak w),(Bh c z),(Bj z),(Bi y8 z),(bk b60 #[i6 ((Af (AP c p) 405 ⟨(p:Int), -1⟩).e),i6 ((Af (AP c p) 405 ⟨(p:Int), -1⟩).Ag.First),i6 ((Af (AP c p) 405 ⟨(p:Int), -1⟩).Ag.Second),i6 ((Af (win y8.A7 0 15) 406 ⟨(p:Int), -1⟩).e),i6 ((Af (win y8.A7 0 15) 406 ⟨(p:Int), -1⟩).Ag.First),i6 ((Af (win y8.A7 0 15) 406 ⟨(p:Int), -1⟩).Ag.Second),i6 ((Af false 407 ⟨(p:Int), -1⟩).e),i6 ((Af false 407 ⟨(p:Int), -1⟩).Ag.First),i6 ((Af false 407 ⟨(p:Int), -1⟩).Ag.Second),i6 ((Af (win (y8.Ah.xs.length:Int) 1 8) 408 ⟨(p:Int), -1⟩).e),i6 ((Af (win (y8.Ah.xs.length:Int) 1 8) 408 ⟨(p:Int), -1⟩).Ag.First),i6 ((Af (win (y8.Ah.xs.length:Int) 1 8) 408 ⟨(p:Int), -1⟩).Ag.Second)] 132),(Zal c p y8 b61)]⟩ _ _ _
   refine Cc [0,1,2,3,5] [(Ak w),(Bh c z),(Bj z),(Bi y8 z),(Zal c p y8 b61)] rfl rfl ?_
   have eA:AY (Gw c p)=(AY [(Af (AP c p) 405 ⟨(p:Int), -1⟩),(Af (win y8.A7 0 15) 406 ⟨(p:Int), -1⟩),(Af false 407 ⟨(p:Int), -1⟩),(Af (win (y8.Ah.xs.length:Int) 1 8) 408 ⟨(p:Int), -1⟩)]):=by have e0:Es c p=y8:=hy8.symm;unfold Gw;simp only[e0];simp[h11,h13]
   refine BI [1,2,4,5,6] [(1,Ac p),(2,pt z),(AL z),(AU z),(6,pt b61)] ?_
   refine BR (fun a w' hs=>⟨n59,b61,by omega,(by(try dsimp only[Yf,Zal,Bj,Bi,Bh,KQ,Q4,Pg,KP,QC,QT,AL,AU,Dv]at hs ⊢);rw[eA];exact hs)⟩)
  have hd101:=FI h11
  by_cases h102:(win y8.F7 0 16)=true
  ·have hd103:=Dz h102
   refine DZ 38 [0,1,2,3] [(Ak w),(Bh c z),(Bj z),(Bi y8 z)] rfl rfl ?_
   refine Ci [(0,(an 7 1)),(1,o0),(3,o0),(6,o0),(7,(a1 3)),(14,o0),(17,o0),(18,(a1 3)),(25,o0),(28,o0),(29,(a1 3)),(30,o0),(32,o0)] [1,2,4,5,14,15,17,21,28,32,39,44,46] [Qb z,Qb z,Qb z,Qb z,Qb z,Qb z,Qb z,Qb (z+2),Qb (z+2),Qb (z+2)] [true,true,false,true,false,false,true,true,false,false,false,false,false,false,true,false,false,true,true,false,false,false,false,false,false,true,false,false,true,true,true,false,true,false,false,false,false,false,false] [(1,Ac p),(2,pt z),(AL z),(AU z),(14,.agg (Ai.arr c)),(15,Ac p),(17,Ac p),(21,i6 y8.Dx),(28,Ac p),(32,i6 y8.F7),(39,Ac p),(QT y8),(46,Ac p)] ⟨rfl,rfl,rfl,rfl,rfl,rfl,rfl,rfl,rfl,rfl,Ae⟩ ?_
   refine Qo (fun x:{p:Nat×Nat×Nat // z+3≤p.1∧z+3≤p.2.1∧z+3≤p.2.2}=>([(1,Ac p),(2,pt z),(AL z),(AU z),(6,pt x.1.2.2)],⟨w,x.1.1,[(Ak w),(Bh c z),(Bj z),(Bi y8 z),(.blk x.1.2.1 (.cells #[i6 ((Af (AP c p) 405 ⟨(p:Int), -1⟩).e),i6 ((Af (AP c p) 405 ⟨(p:Int), -1⟩).Ag.First),i6 ((Af (AP c p) 405 ⟨(p:Int), -1⟩).Ag.Second),i6 ((Af false 406 ⟨(p:Int), -1⟩).e),i6 ((Af false 406 ⟨(p:Int), -1⟩).Ag.First),i6 ((Af false 406 ⟨(p:Int), -1⟩).Ag.Second),i6 ((Af (win y8.AV 0 16) 407 ⟨(p:Int), -1⟩).e),i6 ((Af (win y8.AV 0 16) 407 ⟨(p:Int), -1⟩).Ag.First),i6 ((Af (win y8.AV 0 16) 407 ⟨(p:Int), -1⟩).Ag.Second),i6 ((Af (win (y8.Ah.xs.length:Int) 1 8) 408 ⟨(p:Int), -1⟩).e),i6 ((Af (win (y8.Ah.xs.length:Int) 1 8) 408 ⟨(p:Int), -1⟩).Ag.First),i6 ((Af (win (y8.Ah.xs.length:Int) 1 8) 408 ⟨(p:Int), -1⟩).Ag.Second)] 132 (0,0)) true),(.blk x.1.2.2 (.cells (Am.arr (AY [(Af (AP c p) 405 ⟨(p:Int), -1⟩),(Af false 406 ⟨(p:Int), -1⟩),(Af (win y8.AV 0 16) 407 ⟨(p:Int), -1⟩),(Af (win (y8.Ah.xs.length:Int) 1 8) 408 ⟨(p:Int), -1⟩)])) 132 (0,0)) true)]⟩)) (fun hK => ?_) ?_
   ·refine P6 37 6 [.cl 2 (.bool (AP c p)),.cl 4 (.agg #[(Ac p),i6 (-1)]),.cl 5 (.agg (Am.arr (Af (AP c p) 405 ⟨(p:Int), -1⟩))),.cl 8 (.bool (win y8.Dx 0 2)),.tk 9 (ov (.bool false)),.tk 10 o0,.tk 11 o0,.tk 12 o0,.tk 13 o0,.cl 15 (.agg #[(Ac p),i6 (-1)]),.cl 16 (.agg (Am.arr (Af false 406 ⟨(p:Int), -1⟩))),.cl 19 (.bool (win y8.F7 0 16)),.tk 20 (ov (.bool true)),.tk 21 o0,.tk 22 (a1 3),.cl 23 (.bool (win y8.AV 0 16)),.tk 24 o0,.cl 26 (.agg #[(Ac p),i6 (-1)]),.cl 27 (.agg (Am.arr (Af (win y8.AV 0 16) 407 ⟨(p:Int), -1⟩))),.cl 31 (.bool (win (y8.Ah.xs.length:Int) 1 8)),.cl 33 (.agg #[(Ac p),i6 (-1)]),.cl 34 (.agg (Am.arr (Af (win (y8.Ah.xs.length:Int) 1 8) 408 ⟨(p:Int), -1⟩)))] [1,2,4,5,19,30,41,48] [(88,#[.agg (Ai.arr c),Ac p],.bool (AP c p)),(89,#[(Ac p)],.agg #[(Ac p),i6 (-1)]),(63,#[.bool (AP c p),i6 405,.agg #[(Ac p),i6 (-1)]],.agg (Am.arr (Af (AP c p) 405 ⟨(p:Int), -1⟩))),(64,#[i6 y8.Dx,i6 0,i6 2],.bool (win y8.Dx 0 2)),(89,#[(Ac p)],.agg #[(Ac p),i6 (-1)]),(63,#[.bool false,i6 406,.agg #[(Ac p),i6 (-1)]],.agg (Am.arr (Af false 406 ⟨(p:Int), -1⟩))),(64,#[i6 y8.F7,i6 0,i6 16],.bool (win y8.F7 0 16)),(64,#[i6 y8.AV,i6 0,i6 16],.bool (win y8.AV 0 16)),(89,#[(Ac p)],.agg #[(Ac p),i6 (-1)]),(63,#[.bool (win y8.AV 0 16),i6 407,.agg #[(Ac p),i6 (-1)]],.agg (Am.arr (Af (win y8.AV 0 16) 407 ⟨(p:Int), -1⟩))),(64,#[(Ac y8.Ah.xs.length),i6 1,i6 8],.bool (win (y8.Ah.xs.length:Int) 1 8)),(89,#[(Ac p)],.agg #[(Ac p),i6 (-1)]),(63,#[.bool (win (y8.Ah.xs.length:Int) 1 8),i6 408,.agg #[(Ac p),i6 (-1)]],.agg (Am.arr (Af (win (y8.Ah.xs.length:Int) 1 8) 408 ⟨(p:Int), -1⟩)))] (Dw 35 4) [Value.bool (win y8.Dx 0 2)=Value.bool false,Value.bool (win y8.F7 0 16)=Value.bool true,Qb (z+2)] [(1,Ac p),(2,pt z),(AL z),(AU z),(KP c p),(QO p),(Pg p y8),(KQ p y8)] (.cells #[i6 0,i6 0,i6 0] 132 (0,0)) [0,1,2,3] ⟨(congrArg Value.bool (Bool.eq_false_iff.2 h11)),(congrArg Value.bool h102),rfl,Ae⟩ ⟨fun w107 hw107=>SV w107 c (hc.ext (hw107.ext rfl) (fun _ h=>h)) p hp,fun w108 hw108=>D6 w108 (p:Int),fun w109 hw109=>Bo w109 (hL.ext (hw109.ext rfl)) (AP c p) 405 (p:Int) (-1),fun w110 hw110=>BZ w110 y8.Dx 0 2,fun w111 hw111=>D6 w111 (p:Int),fun w112 hw112=>Bo w112 (hL.ext (hw112.ext rfl)) false 406 (p:Int) (-1),fun w113 hw113=>BZ w113 y8.F7 0 16,fun w114 hw114=>BZ w114 y8.AV 0 16,fun w115 hw115=>D6 w115 (p:Int),fun w116 hw116=>Bo w116 (hL.ext (hw116.ext rfl)) (win y8.AV 0 16) 407 (p:Int) (-1),fun w117 hw117=>BZ w117 (y8.Ah.xs.length:Int) 1 8,fun w118 hw118=>D6 w118 (p:Int),fun w119 hw119=>Bo w119 (hL.ext (hw119.ext rfl)) (win (y8.Ah.xs.length:Int) 1 8) 408 (p:Int) (-1),Ae⟩ ?_ (fun hv122 n120 hn121 => ?_)
    ·rintro⟨⟨n123,b124⟩,hb125⟩
     simp only at hb125
     refine Bq 35 ?_
     refine BC o0 [6,1,2,4,5,49] [] [(6,pt b124),(1,Ac p),(2,pt z),(AL z),(AU z),(49,.slice (some ⟨n123,0,none⟩) 4 4)] ⟨w,n123+1,[(Ak w),(Bh c z),(Bj z),(Bi y8 z),(bk b124 #[i6 0,i6 0,i6 0] 132),(MS c p y8 n123)]⟩ [0,1,2,3] Ae (.inr rfl) ?_
     refine Bq 36 ?_
     refine GZ 87 #[.slice (some ⟨n123,0,none⟩) 4 4] (some 50) (.agg (Am.arr (AY [(Af (AP c p) 405 ⟨(p:Int), -1⟩),(Af false 406 ⟨(p:Int), -1⟩),(Af (win y8.AV 0 16) 407 ⟨(p:Int), -1⟩),(Af (win (y8.Ah.xs.length:Int) 1 8) 408 ⟨(p:Int), -1⟩)]))) [6,1,2,4,5,50] [(6,pt b124),(1,Ac p),(2,pt z),(AL z),(AU z),(QP c p y8)] [0,1,2,3] (fun w126 hw126=>DD w126 (hL.ext (hw126.ext rfl)) ⟨some ⟨n123,0,none⟩,4,[(Af (AP c p) 405 ⟨(p:Int), -1⟩),(Af false 406 ⟨(p:Int), -1⟩),(Af (win y8.AV 0 16) 407 ⟨(p:Int), -1⟩),(Af (win (y8.Ah.xs.length:Int) 1 8) 408 ⟨(p:Int), -1⟩)]⟩ (E8 hw126 (i:=5) [(Af (AP c p) 405 ⟨(p:Int), -1⟩),(Af false 406 ⟨(p:Int), -1⟩),(Af (win y8.AV 0 16) 407 ⟨(p:Int), -1⟩),(Af (win (y8.Ah.xs.length:Int) 1 8) 408 ⟨(p:Int), -1⟩)]) (show 4≤1000 by decide)) (fun n127 hn128 => ?_)
     replace hn128:n123+1≤n127:=hn128
     refine Bq 38 ?_
     refine BC (an 3 4) [6,1,2,4,5] [Qb b124,Qb b124,Qb b124] [(6,pt b124),(1,Ac p),(2,pt z),(AL z),(AU z)] ⟨w,n127,[(Ak w),(Bh c z),(Bj z),(Bi y8 z),(Zaw c p y8 b124),(MS c p y8 n123)]⟩ [] ⟨rfl,rfl,rfl,Ae⟩ (.inl rfl) ?_
     refine DX 39 [0,1,2,3,4,5] [(Ak w),(Bh c z),(Bj z),(Bi y8 z),(Zaw c p y8 b124),(MS c p y8 n123)] rfl rfl ?_
     refine CE ?_
     refine BI [1,2,4,5,6] [(1,Ac p),(2,pt z),(AL z),(AU z),(6,pt b124)] ?_
     refine Cc [0,1,2,3,5,4] [(Ak w),(Bh c z),(Bj z),(Bi y8 z),(MS c p y8 n123),(Zaw c p y8 b124)] rfl rfl ?_
     exact hK ⟨(n127,n123,b124),by first | omega | (dsimp only;omega)⟩
    replace hn121:z+3≤n120:=hn121
    refine Oe (fun x:{p:Nat×Nat×Nat // n120≤p.1∧n120≤p.2.1∧n120≤p.2.2}=>[(1,Ac p),(2,pt z),(AL z),(AU z),(6,pt x.1.2.1),(QP c p y8)]) (fun x=>⟨w,x.1.1,[(Ak w),(Bh c z),(Bj z),(Bi y8 z),(.blk x.1.2.1 (.cells #[i6 0,i6 0,i6 0] 132 (0,0)) true),(.blk x.1.2.2 (.cells #[i6 ((Af (AP c p) 405 ⟨(p:Int), -1⟩).e),i6 ((Af (AP c p) 405 ⟨(p:Int), -1⟩).Ag.First),i6 ((Af (AP c p) 405 ⟨(p:Int), -1⟩).Ag.Second),i6 ((Af false 406 ⟨(p:Int), -1⟩).e),i6 ((Af false 406 ⟨(p:Int), -1⟩).Ag.First),i6 ((Af false 406 ⟨(p:Int), -1⟩).Ag.Second),i6 ((Af (win y8.AV 0 16) 407 ⟨(p:Int), -1⟩).e),i6 ((Af (win y8.AV 0 16) 407 ⟨(p:Int), -1⟩).Ag.First),i6 ((Af (win y8.AV 0 16) 407 ⟨(p:Int), -1⟩).Ag.Second),i6 ((Af (win (y8.Ah.xs.length:Int) 1 8) 408 ⟨(p:Int), -1⟩).e),i6 ((Af (win (y8.Ah.xs.length:Int) 1 8) 408 ⟨(p:Int), -1⟩).Ag.First),i6 ((Af (win (y8.Ah.xs.length:Int) 1 8) 408 ⟨(p:Int), -1⟩).Ag.Second)] 132 (0,0)) true)]⟩) 1 (Dw 38 1) ?_ (fun hv132 => ?_)
    ·rintro⟨⟨n129,b130,b131⟩,hb133⟩
     simp only at hb133
     show Wg _ _ [(1,Ac p),(2,pt z),(AL z),(AU z),(6,pt b130),(QP c p y8)] _ ⟨w,n129,[(Ak w),(Bh c z),(Bj z),(Bi y8 z),(bk b130 #[i6 0,i6 0,i6 0] 132),(KY c p y8 b131)]⟩ _ _ _ _ _ _ _
     refine Bq 38 ?_
     refine BC (an 3 4) [1,2,4,5,6] [Qb b130,Qb b130,Qb b130] [(1,Ac p),(2,pt z),(AL z),(AU z),(6,pt b130)] ⟨w,n129,[(Ak w),(Bh c z),(Bj z),(Bi y8 z),(Za7 c p y8 b130),(KY c p y8 b131)]⟩ [] ⟨rfl,rfl,rfl,Ae⟩ (.inl rfl) ?_
     refine DX 39 [0,1,2,3,4,5] [(Ak w),(Bh c z),(Bj z),(Bi y8 z),(Za7 c p y8 b130),(KY c p y8 b131)] rfl rfl ?_
     refine CE ?_
     refine BI [1,2,4,5,6] [(1,Ac p),(2,pt z),(AL z),(AU z),(6,pt b130)] ?_
     refine Cc [0,1,2,3,5,4] [(Ak w),(Bh c z),(Bj z),(Bi y8 z),(KY c p y8 b131),(Za7 c p y8 b130)] rfl rfl ?_
     exact hK ⟨(n129,b131,b130),by first | omega | (dsimp only;omega)⟩
    refine Oe (fun x:{p:Nat×Nat×Nat // n120≤p.1∧n120≤p.2.1∧n120≤p.2.2}=>[(1,Ac p),(2,pt z),(AL z),(AU z),(6,pt x.1.2.1),(49,.slice (some ⟨x.1.2.2,0,none⟩) 4 4)]) (fun x=>⟨w,x.1.1,[(Ak w),(Bh c z),(Bj z),(Bi y8 z),(.blk x.1.2.1 (.cells #[i6 0,i6 0,i6 0] 132 (0,0)) true),(.blk x.1.2.2 (.cells #[i6 ((Af (AP c p) 405 ⟨(p:Int), -1⟩).e),i6 ((Af (AP c p) 405 ⟨(p:Int), -1⟩).Ag.First),i6 ((Af (AP c p) 405 ⟨(p:Int), -1⟩).Ag.Second),i6 ((Af false 406 ⟨(p:Int), -1⟩).e),i6 ((Af false 406 ⟨(p:Int), -1⟩).Ag.First),i6 ((Af false 406 ⟨(p:Int), -1⟩).Ag.Second),i6 ((Af (win y8.AV 0 16) 407 ⟨(p:Int), -1⟩).e),i6 ((Af (win y8.AV 0 16) 407 ⟨(p:Int), -1⟩).Ag.First),i6 ((Af (win y8.AV 0 16) 407 ⟨(p:Int), -1⟩).Ag.Second),i6 ((Af (win (y8.Ah.xs.length:Int) 1 8) 408 ⟨(p:Int), -1⟩).e),i6 ((Af (win (y8.Ah.xs.length:Int) 1 8) 408 ⟨(p:Int), -1⟩).Ag.First),i6 ((Af (win (y8.Ah.xs.length:Int) 1 8) 408 ⟨(p:Int), -1⟩).Ag.Second)] 132 (0,0)) true)]⟩) 2 [true,true,true,true,true,true,true,true,true,true,true,true,true,true,true,true,true,true,true,true,true,true,true,true,true,true,true,true,true,true,true,true,true,true,true,true,false,true,false] ?_ (fun hv137 => ?_)
    ·rintro⟨⟨n134,b135,b136⟩,hb138⟩
     simp only at hb138
     show Wg _ _ [(1,Ac p),(2,pt z),(AL z),(AU z),(6,pt b135),(49,.slice (some ⟨b136,0,none⟩) 4 4)] _ ⟨w,n134,[(Ak w),(Bh c z),(Bj z),(Bi y8 z),(bk b135 #[i6 0,i6 0,i6 0] 132),(bk b136 #[i6 ((Af (AP c p) 405 ⟨(p:Int), -1⟩).e),i6 ((Af (AP c p) 405 ⟨(p:Int), -1⟩).Ag.First),i6 ((Af (AP c p) 405 ⟨(p:Int), -1⟩).Ag.Second),i6 ((Af false 406 ⟨(p:Int), -1⟩).e),i6 ((Af false 406 ⟨(p:Int), -1⟩).Ag.First),i6 ((Af false 406 ⟨(p:Int), -1⟩).Ag.Second),i6 ((Af (win y8.AV 0 16) 407 ⟨(p:Int), -1⟩).e),i6 ((Af (win y8.AV 0 16) 407 ⟨(p:Int), -1⟩).Ag.First),i6 ((Af (win y8.AV 0 16) 407 ⟨(p:Int), -1⟩).Ag.Second),i6 ((Af (win (y8.Ah.xs.length:Int) 1 8) 408 ⟨(p:Int), -1⟩).e),i6 ((Af (win (y8.Ah.xs.length:Int) 1 8) 408 ⟨(p:Int), -1⟩).Ag.First),i6 ((Af (win (y8.Ah.xs.length:Int) 1 8) 408 ⟨(p:Int), -1⟩).Ag.Second)] 132)]⟩ _ _ _ _ _ _ _
     refine Bq 36 ?_
     refine GZ 87 #[.slice (some ⟨b136,0,none⟩) 4 4] (some 50) (.agg (Am.arr (AY [(Af (AP c p) 405 ⟨(p:Int), -1⟩),(Af false 406 ⟨(p:Int), -1⟩),(Af (win y8.AV 0 16) 407 ⟨(p:Int), -1⟩),(Af (win (y8.Ah.xs.length:Int) 1 8) 408 ⟨(p:Int), -1⟩)]))) [1,2,4,5,6,50] [(1,Ac p),(2,pt z),(AL z),(AU z),(6,pt b135),(QP c p y8)] [0,1,2,3] (fun w139 hw139=>DD w139 (hL.ext (hw139.ext rfl)) ⟨some ⟨b136,0,none⟩,4,[(Af (AP c p) 405 ⟨(p:Int), -1⟩),(Af false 406 ⟨(p:Int), -1⟩),(Af (win y8.AV 0 16) 407 ⟨(p:Int), -1⟩),(Af (win (y8.Ah.xs.length:Int) 1 8) 408 ⟨(p:Int), -1⟩)]⟩ (E8 hw139 (i:=5) [(Af (AP c p) 405 ⟨(p:Int), -1⟩),(Af false 406 ⟨(p:Int), -1⟩),(Af (win y8.AV 0 16) 407 ⟨(p:Int), -1⟩),(Af (win (y8.Ah.xs.length:Int) 1 8) 408 ⟨(p:Int), -1⟩)]) (show 4≤1000 by decide)) (fun n140 hn141 => ?_)
     replace hn141:n134≤n140:=hn141
     refine CY [1,2,4,5,6,50] [(1,Ac p),(2,pt z),(AL z),(AU z),(6,pt b135),(QP c p y8)] ?_
     exact hv132 ⟨(n140,b135,b136),by first | omega | (dsimp only;omega)⟩
    refine Jr [35,37] ?_
    refine List.forall_mem_cons.2 ⟨?_,List.forall_mem_cons.2 ⟨?_,fun _ h=>absurd h List.not_mem_nil⟩⟩
    ·refine BC o0 [1,2,4,5,49] [] [(1,Ac p),(2,pt z),(AL z),(AU z),(49,.slice (some ⟨n120,0,none⟩) 4 4)] ⟨w,n120+1,[(Ak w),(Bh c z),(Bj z),(Bi y8 z),(Xx c p y8 n120)]⟩ [0,1,2,3] Ae (.inr rfl) ?_
     refine Jr [36,37] ?_
     refine List.forall_mem_cons.2 ⟨?_,List.forall_mem_cons.2 ⟨?_,fun _ h=>absurd h List.not_mem_nil⟩⟩
     ·refine GZ 87 #[.slice (some ⟨n120,0,none⟩) 4 4] (some 50) (.agg (Am.arr (AY [(Af (AP c p) 405 ⟨(p:Int), -1⟩),(Af false 406 ⟨(p:Int), -1⟩),(Af (win y8.AV 0 16) 407 ⟨(p:Int), -1⟩),(Af (win (y8.Ah.xs.length:Int) 1 8) 408 ⟨(p:Int), -1⟩)]))) [1,2,4,5,50] [(1,Ac p),(2,pt z),(AL z),(AU z),(QP c p y8)] [0,1,2,3] (fun w142 hw142=>DD w142 (hL.ext (hw142.ext rfl)) ⟨some ⟨n120,0,none⟩,4,[(Af (AP c p) 405 ⟨(p:Int), -1⟩),(Af false 406 ⟨(p:Int), -1⟩),(Af (win y8.AV 0 16) 407 ⟨(p:Int), -1⟩),(Af (win (y8.Ah.xs.length:Int) 1 8) 408 ⟨(p:Int), -1⟩)]⟩ (E8 hw142 (i:=4) [(Af (AP c p) 405 ⟨(p:Int), -1⟩),(Af false 406 ⟨(p:Int), -1⟩),(Af (win y8.AV 0 16) 407 ⟨(p:Int), -1⟩),(Af (win (y8.Ah.xs.length:Int) 1 8) 408 ⟨(p:Int), -1⟩)]) (show 4≤1000 by decide)) (fun n143 hn144 => ?_)
      replace hn144:n120+1≤n143:=hn144
      refine Bq 37 ?_
      refine BC o0 [1,2,4,5,50,6] [] [(1,Ac p),(2,pt z),(AL z),(AU z),(QP c p y8),(6,pt n143)] ⟨w,n143+1,[(Ak w),(Bh c z),(Bj z),(Bi y8 z),(Xx c p y8 n120),(bk n143 #[i6 0,i6 0,i6 0] 132)]⟩ [0,1,2,3] Ae (.inr rfl) ?_
      refine MF [0,1,2,3,5,4] [(Ak w),(Bh c z),(Bj z),(Bi y8 z),(bk n143 #[i6 0,i6 0,i6 0] 132),(Xx c p y8 n120)] rfl rfl ?_
      refine CY [1,2,4,5,6,50] [(1,Ac p),(2,pt z),(AL z),(AU z),(6,pt n143),(QP c p y8)] ?_
      exact hv132 ⟨(n143+1,n143,n120),by first | omega | (dsimp only;omega)⟩
     refine BC o0 [1,2,4,5,49,6] [] [(1,Ac p),(2,pt z),(AL z),(AU z),(49,.slice (some ⟨n120,0,none⟩) 4 4),(6,pt (n120+1))] ⟨w,n120+2,[(Ak w),(Bh c z),(Bj z),(Bi y8 z),(Xx c p y8 n120),(bk (n120+1) #[i6 0,i6 0,i6 0] 132)]⟩ [0,1,2,3] Ae (.inr rfl) ?_
     refine MF [0,1,2,3,5,4] [(Ak w),(Bh c z),(Bj z),(Bi y8 z),(bk (n120+1) #[i6 0,i6 0,i6 0] 132),(Xx c p y8 n120)] rfl rfl ?_
     refine CY [1,2,4,5,6,49] [(1,Ac p),(2,pt z),(AL z),(AU z),(6,pt (n120+1)),(49,.slice (some ⟨n120,0,none⟩) 4 4)] ?_
     exact hv137 ⟨(n120+2,n120+1,n120),by first | omega | (dsimp only;omega)⟩
    refine BC o0 [1,2,4,5,19,30,41,48,6] [] [(1,Ac p),(2,pt z),(AL z),(AU z),(KP c p),(QO p),(Pg p y8),(KQ p y8),(6,pt n120)] ⟨w,n120+1,[(Ak w),(Bh c z),(Bj z),(Bi y8 z),(bk n120 #[i6 0,i6 0,i6 0] 132)]⟩ [0,1,2,3] Ae (.inr rfl) ?_
    refine CY [6,1,2,4,5,19,30,41,48] [(6,pt n120),(1,Ac p),(2,pt z),(AL z),(AU z),(KP c p),(QO p),(Pg p y8),(KQ p y8)] ?_
    exact hv122 ⟨(n120+1,n120),by first | omega | (dsimp only;omega)⟩
   rintro⟨⟨n104,b105,b106⟩,hJ145⟩
   simp only at hJ145
   show E _ _ [(1,Ac p),(2,pt z),(AL z),(AU z),(6,pt b106)] _ ⟨w,n104,[(Ak w),(Bh c z),(Bj z),(Bi y8 z),(bk b105 #[i6 ((Af (AP c p) 405 ⟨(p:Int), -1⟩).e),i6 ((Af (AP c p) 405 ⟨(p:Int), -1⟩).Ag.First),i6 ((Af (AP c p) 405 ⟨(p:Int), -1⟩).Ag.Second),i6 ((Af false 406 ⟨(p:Int), -1⟩).e),i6 ((Af false 406 ⟨(p:Int), -1⟩).Ag.First),i6 ((Af false 406 ⟨(p:Int), -1⟩).Ag.Second),i6 ((Af (win y8.AV 0 16) 407 ⟨(p:Int), -1⟩).e),i6 ((Af (win y8.AV 0 16) 407 ⟨(p:Int), -1⟩).Ag.First),i6 ((Af (win y8.AV 0 16) 407 ⟨(p:Int), -1⟩).Ag.Second),i6 ((Af (win (y8.Ah.xs.length:Int) 1 8) 408 ⟨(p:Int), -1⟩).e),i6 ((Af (win (y8.Ah.xs.length:Int) 1 8) 408 ⟨(p:Int), -1⟩).Ag.First),i6 ((Af (win (y8.Ah.xs.length:Int) 1 8) 408 ⟨(p:Int), -1⟩).Ag.Second)] 132),(Y7 c p y8 b106)]⟩ _ _ _
   refine Cc [0,1,2,3,5] [(Ak w),(Bh c z),(Bj z),(Bi y8 z),(Y7 c p y8 b106)] rfl rfl ?_
   have eA:AY (Gw c p)=(AY [(Af (AP c p) 405 ⟨(p:Int), -1⟩),(Af false 406 ⟨(p:Int), -1⟩),(Af (win y8.AV 0 16) 407 ⟨(p:Int), -1⟩),(Af (win (y8.Ah.xs.length:Int) 1 8) 408 ⟨(p:Int), -1⟩)]):=by have e0:Es c p=y8:=hy8.symm;unfold Gw;simp only[e0];simp[h11,h102]
   refine BI [1,2,4,5,6] [(1,Ac p),(2,pt z),(AL z),(AU z),(6,pt b106)] ?_
   refine BR (fun a w' hs=>⟨n104,b106,by omega,(by(try dsimp only[Y7,Bj,Bi,Bh,KQ,Pg,KP,QO,QT,AL,AU,Dv]at hs ⊢);rw[eA];exact hs)⟩)
  have hd146:=FI h102
  refine DZ 38 [0,1,2,3] [(Ak w),(Bh c z),(Bj z),(Bi y8 z)] rfl rfl ?_
  refine Ci [(0,(an 7 1)),(1,o0),(3,o0),(6,o0),(7,(a1 3)),(14,o0),(17,o0),(18,(a1 3)),(25,o0),(28,o0),(29,(a1 3)),(30,o0),(32,o0)] [1,2,4,5,14,15,17,21,28,32,39,44,46] [Qb z,Qb z,Qb z,Qb z,Qb z,Qb z,Qb z,Qb (z+2),Qb (z+2),Qb (z+2)] [true,true,false,true,false,false,true,true,false,false,false,false,false,false,true,false,false,true,true,false,false,false,false,false,false,true,false,false,true,true,true,false,true,false,false,false,false,false,false] [(1,Ac p),(2,pt z),(AL z),(AU z),(14,.agg (Ai.arr c)),(15,Ac p),(17,Ac p),(21,i6 y8.Dx),(28,Ac p),(32,i6 y8.F7),(39,Ac p),(QT y8),(46,Ac p)] ⟨rfl,rfl,rfl,rfl,rfl,rfl,rfl,rfl,rfl,rfl,Ae⟩ ?_
  refine Qo (fun x:{p:Nat×Nat×Nat // z+3≤p.1∧z+3≤p.2.1∧z+3≤p.2.2}=>([(1,Ac p),(2,pt z),(AL z),(AU z),(6,pt x.1.2.2)],⟨w,x.1.1,[(Ak w),(Bh c z),(Bj z),(Bi y8 z),(.blk x.1.2.1 (.cells #[i6 ((Af (AP c p) 405 ⟨(p:Int), -1⟩).e),i6 ((Af (AP c p) 405 ⟨(p:Int), -1⟩).Ag.First),i6 ((Af (AP c p) 405 ⟨(p:Int), -1⟩).Ag.Second),i6 ((Af false 406 ⟨(p:Int), -1⟩).e),i6 ((Af false 406 ⟨(p:Int), -1⟩).Ag.First),i6 ((Af false 406 ⟨(p:Int), -1⟩).Ag.Second),i6 ((Af false 407 ⟨(p:Int), -1⟩).e),i6 ((Af false 407 ⟨(p:Int), -1⟩).Ag.First),i6 ((Af false 407 ⟨(p:Int), -1⟩).Ag.Second),i6 ((Af (win (y8.Ah.xs.length:Int) 1 8) 408 ⟨(p:Int), -1⟩).e),i6 ((Af (win (y8.Ah.xs.length:Int) 1 8) 408 ⟨(p:Int), -1⟩).Ag.First),i6 ((Af (win (y8.Ah.xs.length:Int) 1 8) 408 ⟨(p:Int), -1⟩).Ag.Second)] 132 (0,0)) true),(.blk x.1.2.2 (.cells (Am.arr (AY [(Af (AP c p) 405 ⟨(p:Int), -1⟩),(Af false 406 ⟨(p:Int), -1⟩),(Af false 407 ⟨(p:Int), -1⟩),(Af (win (y8.Ah.xs.length:Int) 1 8) 408 ⟨(p:Int), -1⟩)])) 132 (0,0)) true)]⟩)) (fun hK => ?_) ?_
  ·refine P6 37 6 [.cl 2 (.bool (AP c p)),.cl 4 (.agg #[(Ac p),i6 (-1)]),.cl 5 (.agg (Am.arr (Af (AP c p) 405 ⟨(p:Int), -1⟩))),.cl 8 (.bool (win y8.Dx 0 2)),.tk 9 (ov (.bool false)),.tk 10 o0,.tk 11 o0,.tk 12 o0,.tk 13 o0,.cl 15 (.agg #[(Ac p),i6 (-1)]),.cl 16 (.agg (Am.arr (Af false 406 ⟨(p:Int), -1⟩))),.cl 19 (.bool (win y8.F7 0 16)),.tk 20 (ov (.bool false)),.tk 21 o0,.tk 22 o0,.tk 23 o0,.tk 24 o0,.cl 26 (.agg #[(Ac p),i6 (-1)]),.cl 27 (.agg (Am.arr (Af false 407 ⟨(p:Int), -1⟩))),.cl 31 (.bool (win (y8.Ah.xs.length:Int) 1 8)),.cl 33 (.agg #[(Ac p),i6 (-1)]),.cl 34 (.agg (Am.arr (Af (win (y8.Ah.xs.length:Int) 1 8) 408 ⟨(p:Int), -1⟩)))] [1,2,4,5,19,30,41,48] [(88,#[.agg (Ai.arr c),Ac p],.bool (AP c p)),(89,#[(Ac p)],.agg #[(Ac p),i6 (-1)]),(63,#[.bool (AP c p),i6 405,.agg #[(Ac p),i6 (-1)]],.agg (Am.arr (Af (AP c p) 405 ⟨(p:Int), -1⟩))),(64,#[i6 y8.Dx,i6 0,i6 2],.bool (win y8.Dx 0 2)),(89,#[(Ac p)],.agg #[(Ac p),i6 (-1)]),(63,#[.bool false,i6 406,.agg #[(Ac p),i6 (-1)]],.agg (Am.arr (Af false 406 ⟨(p:Int), -1⟩))),(64,#[i6 y8.F7,i6 0,i6 16],.bool (win y8.F7 0 16)),(89,#[(Ac p)],.agg #[(Ac p),i6 (-1)]),(63,#[.bool false,i6 407,.agg #[(Ac p),i6 (-1)]],.agg (Am.arr (Af false 407 ⟨(p:Int), -1⟩))),(64,#[(Ac y8.Ah.xs.length),i6 1,i6 8],.bool (win (y8.Ah.xs.length:Int) 1 8)),(89,#[(Ac p)],.agg #[(Ac p),i6 (-1)]),(63,#[.bool (win (y8.Ah.xs.length:Int) 1 8),i6 408,.agg #[(Ac p),i6 (-1)]],.agg (Am.arr (Af (win (y8.Ah.xs.length:Int) 1 8) 408 ⟨(p:Int), -1⟩)))] (Dw 35 4) [Value.bool (win y8.Dx 0 2)=Value.bool false,Value.bool (win y8.F7 0 16)=Value.bool false] [(1,Ac p),(2,pt z),(AL z),(AU z),(KP c p),(QO p),(QC p),(KQ p y8)] (.cells #[i6 0,i6 0,i6 0] 132 (0,0)) [0,1,2,3] ⟨(congrArg Value.bool (Bool.eq_false_iff.2 h11)),(congrArg Value.bool (Bool.eq_false_iff.2 h102)),Ae⟩ ⟨fun w150 hw150=>SV w150 c (hc.ext (hw150.ext rfl) (fun _ h=>h)) p hp,fun w151 hw151=>D6 w151 (p:Int),fun w152 hw152=>Bo w152 (hL.ext (hw152.ext rfl)) (AP c p) 405 (p:Int) (-1),fun w153 hw153=>BZ w153 y8.Dx 0 2,fun w154 hw154=>D6 w154 (p:Int),fun w155 hw155=>Bo w155 (hL.ext (hw155.ext rfl)) false 406 (p:Int) (-1),fun w156 hw156=>BZ w156 y8.F7 0 16,fun w157 hw157=>D6 w157 (p:Int),fun w158 hw158=>Bo w158 (hL.ext (hw158.ext rfl)) false 407 (p:Int) (-1),fun w159 hw159=>BZ w159 (y8.Ah.xs.length:Int) 1 8,fun w160 hw160=>D6 w160 (p:Int),fun w161 hw161=>Bo w161 (hL.ext (hw161.ext rfl)) (win (y8.Ah.xs.length:Int) 1 8) 408 (p:Int) (-1),Ae⟩ ?_ (fun hv164 n162 hn163 => ?_)
   ·rintro⟨⟨n165,b166⟩,hb167⟩
    simp only at hb167
    refine Bq 35 ?_
    refine BC o0 [6,1,2,4,5,49] [] [(6,pt b166),(1,Ac p),(2,pt z),(AL z),(AU z),(49,.slice (some ⟨n165,0,none⟩) 4 4)] ⟨w,n165+1,[(Ak w),(Bh c z),(Bj z),(Bi y8 z),(bk b166 #[i6 0,i6 0,i6 0] 132),(ZW c p y8 n165)]⟩ [0,1,2,3] Ae (.inr rfl) ?_
    refine Bq 36 ?_
    refine GZ 87 #[.slice (some ⟨n165,0,none⟩) 4 4] (some 50) (.agg (Am.arr (AY [(Af (AP c p) 405 ⟨(p:Int), -1⟩),(Af false 406 ⟨(p:Int), -1⟩),(Af false 407 ⟨(p:Int), -1⟩),(Af (win (y8.Ah.xs.length:Int) 1 8) 408 ⟨(p:Int), -1⟩)]))) [6,1,2,4,5,50] [(6,pt b166),(1,Ac p),(2,pt z),(AL z),(AU z),(Qy c p y8)] [0,1,2,3] (fun w168 hw168=>DD w168 (hL.ext (hw168.ext rfl)) ⟨some ⟨n165,0,none⟩,4,[(Af (AP c p) 405 ⟨(p:Int), -1⟩),(Af false 406 ⟨(p:Int), -1⟩),(Af false 407 ⟨(p:Int), -1⟩),(Af (win (y8.Ah.xs.length:Int) 1 8) 408 ⟨(p:Int), -1⟩)]⟩ (E8 hw168 (i:=5) [(Af (AP c p) 405 ⟨(p:Int), -1⟩),(Af false 406 ⟨(p:Int), -1⟩),(Af false 407 ⟨(p:Int), -1⟩),(Af (win (y8.Ah.xs.length:Int) 1 8) 408 ⟨(p:Int), -1⟩)]) (show 4≤1000 by decide)) (fun n169 hn170 => ?_)
    replace hn170:n165+1≤n169:=hn170
    refine Bq 38 ?_
    refine BC (an 3 4) [6,1,2,4,5] [Qb b166,Qb b166,Qb b166] [(6,pt b166),(1,Ac p),(2,pt z),(AL z),(AU z)] ⟨w,n169,[(Ak w),(Bh c z),(Bj z),(Bi y8 z),(ZaV c p y8 b166),(ZW c p y8 n165)]⟩ [] ⟨rfl,rfl,rfl,Ae⟩ (.inl rfl) ?_
    refine DX 39 [0,1,2,3,4,5] [(Ak w),(Bh c z),(Bj z),(Bi y8 z),(ZaV c p y8 b166),(ZW c p y8 n165)] rfl rfl ?_
    refine CE ?_
    refine BI [1,2,4,5,6] [(1,Ac p),(2,pt z),(AL z),(AU z),(6,pt b166)] ?_
    refine Cc [0,1,2,3,5,4] [(Ak w),(Bh c z),(Bj z),(Bi y8 z),(ZW c p y8 n165),(ZaV c p y8 b166)] rfl rfl ?_
    exact hK ⟨(n169,n165,b166),by first | omega | (dsimp only;omega)⟩
   replace hn163:z+3≤n162:=hn163
   refine Oe (fun x:{p:Nat×Nat×Nat // n162≤p.1∧n162≤p.2.1∧n162≤p.2.2}=>[(1,Ac p),(2,pt z),(AL z),(AU z),(6,pt x.1.2.1),(Qy c p y8)]) (fun x=>⟨w,x.1.1,[(Ak w),(Bh c z),(Bj z),(Bi y8 z),(.blk x.1.2.1 (.cells #[i6 0,i6 0,i6 0] 132 (0,0)) true),(.blk x.1.2.2 (.cells #[i6 ((Af (AP c p) 405 ⟨(p:Int), -1⟩).e),i6 ((Af (AP c p) 405 ⟨(p:Int), -1⟩).Ag.First),i6 ((Af (AP c p) 405 ⟨(p:Int), -1⟩).Ag.Second),i6 ((Af false 406 ⟨(p:Int), -1⟩).e),i6 ((Af false 406 ⟨(p:Int), -1⟩).Ag.First),i6 ((Af false 406 ⟨(p:Int), -1⟩).Ag.Second),i6 ((Af false 407 ⟨(p:Int), -1⟩).e),i6 ((Af false 407 ⟨(p:Int), -1⟩).Ag.First),i6 ((Af false 407 ⟨(p:Int), -1⟩).Ag.Second),i6 ((Af (win (y8.Ah.xs.length:Int) 1 8) 408 ⟨(p:Int), -1⟩).e),i6 ((Af (win (y8.Ah.xs.length:Int) 1 8) 408 ⟨(p:Int), -1⟩).Ag.First),i6 ((Af (win (y8.Ah.xs.length:Int) 1 8) 408 ⟨(p:Int), -1⟩).Ag.Second)] 132 (0,0)) true)]⟩) 1 (Dw 38 1) ?_ (fun hv174 => ?_)
   ·rintro⟨⟨n171,b172,b173⟩,hb175⟩
    simp only at hb175
    show Wg _ _ [(1,Ac p),(2,pt z),(AL z),(AU z),(6,pt b172),(Qy c p y8)] _ ⟨w,n171,[(Ak w),(Bh c z),(Bj z),(Bi y8 z),(bk b172 #[i6 0,i6 0,i6 0] 132),(Yu c p y8 b173)]⟩ _ _ _ _ _ _ _
    refine Bq 38 ?_
    refine BC (an 3 4) [1,2,4,5,6] [Qb b172,Qb b172,Qb b172] [(1,Ac p),(2,pt z),(AL z),(AU z),(6,pt b172)] ⟨w,n171,[(Ak w),(Bh c z),(Bj z),(Bi y8 z),(Za0 c p y8 b172),(Yu c p y8 b173)]⟩ [] ⟨rfl,rfl,rfl,Ae⟩ (.inl rfl) ?_
    refine DX 39 [0,1,2,3,4,5] [(Ak w),(Bh c z),(Bj z),(Bi y8 z),(Za0 c p y8 b172),(Yu c p y8 b173)] rfl rfl ?_
    refine CE ?_
    refine BI [1,2,4,5,6] [(1,Ac p),(2,pt z),(AL z),(AU z),(6,pt b172)] ?_
    refine Cc [0,1,2,3,5,4] [(Ak w),(Bh c z),(Bj z),(Bi y8 z),(Yu c p y8 b173),(Za0 c p y8 b172)] rfl rfl ?_
    exact hK ⟨(n171,b173,b172),by first | omega | (dsimp only;omega)⟩
   refine Oe (fun x:{p:Nat×Nat×Nat // n162≤p.1∧n162≤p.2.1∧n162≤p.2.2}=>[(1,Ac p),(2,pt z),(AL z),(AU z),(6,pt x.1.2.1),(49,.slice (some ⟨x.1.2.2,0,none⟩) 4 4)]) (fun x=>⟨w,x.1.1,[(Ak w),(Bh c z),(Bj z),(Bi y8 z),(.blk x.1.2.1 (.cells #[i6 0,i6 0,i6 0] 132 (0,0)) true),(.blk x.1.2.2 (.cells #[i6 ((Af (AP c p) 405 ⟨(p:Int), -1⟩).e),i6 ((Af (AP c p) 405 ⟨(p:Int), -1⟩).Ag.First),i6 ((Af (AP c p) 405 ⟨(p:Int), -1⟩).Ag.Second),i6 ((Af false 406 ⟨(p:Int), -1⟩).e),i6 ((Af false 406 ⟨(p:Int), -1⟩).Ag.First),i6 ((Af false 406 ⟨(p:Int), -1⟩).Ag.Second),i6 ((Af false 407 ⟨(p:Int), -1⟩).e),i6 ((Af false 407 ⟨(p:Int), -1⟩).Ag.First),i6 ((Af false 407 ⟨(p:Int), -1⟩).Ag.Second),i6 ((Af (win (y8.Ah.xs.length:Int) 1 8) 408 ⟨(p:Int), -1⟩).e),i6 ((Af (win (y8.Ah.xs.length:Int) 1 8) 408 ⟨(p:Int), -1⟩).Ag.First),i6 ((Af (win (y8.Ah.xs.length:Int) 1 8) 408 ⟨(p:Int), -1⟩).Ag.Second)] 132 (0,0)) true)]⟩) 2 [true,true,true,true,true,true,true,true,true,true,true,true,true,true,true,true,true,true,true,true,true,true,true,true,true,true,true,true,true,true,true,true,true,true,true,true,false,true,false] ?_ (fun hv179 => ?_)
   ·rintro⟨⟨n176,b177,b178⟩,hb180⟩
    simp only at hb180
    show Wg _ _ [(1,Ac p),(2,pt z),(AL z),(AU z),(6,pt b177),(49,.slice (some ⟨b178,0,none⟩) 4 4)] _ ⟨w,n176,[(Ak w),(Bh c z),(Bj z),(Bi y8 z),(bk b177 #[i6 0,i6 0,i6 0] 132),(bk b178 #[i6 ((Af (AP c p) 405 ⟨(p:Int), -1⟩).e),i6 ((Af (AP c p) 405 ⟨(p:Int), -1⟩).Ag.First),i6 ((Af (AP c p) 405 ⟨(p:Int), -1⟩).Ag.Second),i6 ((Af false 406 ⟨(p:Int), -1⟩).e),i6 ((Af false 406 ⟨(p:Int), -1⟩).Ag.First),i6 ((Af false 406 ⟨(p:Int), -1⟩).Ag.Second),i6 ((Af false 407 ⟨(p:Int), -1⟩).e),i6 ((Af false 407 ⟨(p:Int), -1⟩).Ag.First),i6 ((Af false 407 ⟨(p:Int), -1⟩).Ag.Second),i6 ((Af (win (y8.Ah.xs.length:Int) 1 8) 408 ⟨(p:Int), -1⟩).e),i6 ((Af (win (y8.Ah.xs.length:Int) 1 8) 408 ⟨(p:Int), -1⟩).Ag.First),i6 ((Af (win (y8.Ah.xs.length:Int) 1 8) 408 ⟨(p:Int), -1⟩).Ag.Second)] 132)]⟩ _ _ _ _ _ _ _
    refine Bq 36 ?_
    refine GZ 87 #[.slice (some ⟨b178,0,none⟩) 4 4] (some 50) (.agg (Am.arr (AY [(Af (AP c p) 405 ⟨(p:Int), -1⟩),(Af false 406 ⟨(p:Int), -1⟩),(Af false 407 ⟨(p:Int), -1⟩),(Af (win (y8.Ah.xs.length:Int) 1 8) 408 ⟨(p:Int), -1⟩)]))) [1,2,4,5,6,50] [(1,Ac p),(2,pt z),(AL z),(AU z),(6,pt b177),(Qy c p y8)] [0,1,2,3] (fun w181 hw181=>DD w181 (hL.ext (hw181.ext rfl)) ⟨some ⟨b178,0,none⟩,4,[(Af (AP c p) 405 ⟨(p:Int), -1⟩),(Af false 406 ⟨(p:Int), -1⟩),(Af false 407 ⟨(p:Int), -1⟩),(Af (win (y8.Ah.xs.length:Int) 1 8) 408 ⟨(p:Int), -1⟩)]⟩ (E8 hw181 (i:=5) [(Af (AP c p) 405 ⟨(p:Int), -1⟩),(Af false 406 ⟨(p:Int), -1⟩),(Af false 407 ⟨(p:Int), -1⟩),(Af (win (y8.Ah.xs.length:Int) 1 8) 408 ⟨(p:Int), -1⟩)]) (show 4≤1000 by decide)) (fun n182 hn183 => ?_)
    replace hn183:n176≤n182:=hn183
    refine CY [1,2,4,5,6,50] [(1,Ac p),(2,pt z),(AL z),(AU z),(6,pt b177),(Qy c p y8)] ?_
    exact hv174 ⟨(n182,b177,b178),by first | omega | (dsimp only;omega)⟩
   refine Jr [35,37] ?_
   refine List.forall_mem_cons.2 ⟨?_,List.forall_mem_cons.2 ⟨?_,fun _ h=>absurd h List.not_mem_nil⟩⟩
   ·refine BC o0 [1,2,4,5,49] [] [(1,Ac p),(2,pt z),(AL z),(AU z),(49,.slice (some ⟨n162,0,none⟩) 4 4)] ⟨w,n162+1,[(Ak w),(Bh c z),(Bj z),(Bi y8 z),(VP c p y8 n162)]⟩ [0,1,2,3] Ae (.inr rfl) ?_
    refine Jr [36,37] ?_
    refine List.forall_mem_cons.2 ⟨?_,List.forall_mem_cons.2 ⟨?_,fun _ h=>absurd h List.not_mem_nil⟩⟩
    ·refine GZ 87 #[.slice (some ⟨n162,0,none⟩) 4 4] (some 50) (.agg (Am.arr (AY [(Af (AP c p) 405 ⟨(p:Int), -1⟩),(Af false 406 ⟨(p:Int), -1⟩),(Af false 407 ⟨(p:Int), -1⟩),(Af (win (y8.Ah.xs.length:Int) 1 8) 408 ⟨(p:Int), -1⟩)]))) [1,2,4,5,50] [(1,Ac p),(2,pt z),(AL z),(AU z),(Qy c p y8)] [0,1,2,3] (fun w184 hw184=>DD w184 (hL.ext (hw184.ext rfl)) ⟨some ⟨n162,0,none⟩,4,[(Af (AP c p) 405 ⟨(p:Int), -1⟩),(Af false 406 ⟨(p:Int), -1⟩),(Af false 407 ⟨(p:Int), -1⟩),(Af (win (y8.Ah.xs.length:Int) 1 8) 408 ⟨(p:Int), -1⟩)]⟩ (E8 hw184 (i:=4) [(Af (AP c p) 405 ⟨(p:Int), -1⟩),(Af false 406 ⟨(p:Int), -1⟩),(Af false 407 ⟨(p:Int), -1⟩),(Af (win (y8.Ah.xs.length:Int) 1 8) 408 ⟨(p:Int), -1⟩)]) (show 4≤1000 by decide)) (fun n185 hn186 => ?_)
     replace hn186:n162+1≤n185:=hn186
     refine Bq 37 ?_
     refine BC o0 [1,2,4,5,50,6] [] [(1,Ac p),(2,pt z),(AL z),(AU z),(Qy c p y8),(6,pt n185)] ⟨w,n185+1,[(Ak w),(Bh c z),(Bj z),(Bi y8 z),(VP c p y8 n162),(bk n185 #[i6 0,i6 0,i6 0] 132)]⟩ [0,1,2,3] Ae (.inr rfl) ?_
     refine MF [0,1,2,3,5,4] [(Ak w),(Bh c z),(Bj z),(Bi y8 z),(bk n185 #[i6 0,i6 0,i6 0] 132),(VP c p y8 n162)] rfl rfl ?_
     refine CY [1,2,4,5,6,50] [(1,Ac p),(2,pt z),(AL z),(AU z),(6,pt n185),(Qy c p y8)] ?_
     exact hv174 ⟨(n185+1,n185,n162),by first | omega | (dsimp only;omega)⟩
    refine BC o0 [1,2,4,5,49,6] [] [(1,Ac p),(2,pt z),(AL z),(AU z),(49,.slice (some ⟨n162,0,none⟩) 4 4),(6,pt (n162+1))] ⟨w,n162+2,[(Ak w),(Bh c z),(Bj z),(Bi y8 z),(VP c p y8 n162),(bk (n162+1) #[i6 0,i6 0,i6 0] 132)]⟩ [0,1,2,3] Ae (.inr rfl) ?_
    refine MF [0,1,2,3,5,4] [(Ak w),(Bh c z),(Bj z),(Bi y8 z),(bk (n162+1) #[i6 0,i6 0,i6 0] 132),(VP c p y8 n162)] rfl rfl ?_
    refine CY [1,2,4,5,6,49] [(1,Ac p),(2,pt z),(AL z),(AU z),(6,pt (n162+1)),(49,.slice (some ⟨n162,0,none⟩) 4 4)] ?_
    exact hv179 ⟨(n162+2,n162+1,n162),by first | omega | (dsimp only;omega)⟩
   refine BC o0 [1,2,4,5,19,30,41,48,6] [] [(1,Ac p),(2,pt z),(AL z),(AU z),(KP c p),(QO p),(QC p),(KQ p y8),(6,pt n162)] ⟨w,n162+1,[(Ak w),(Bh c z),(Bj z),(Bi y8 z),(bk n162 #[i6 0,i6 0,i6 0] 132)]⟩ [0,1,2,3] Ae (.inr rfl) ?_
   refine CY [6,1,2,4,5,19,30,41,48] [(6,pt n162),(1,Ac p),(2,pt z),(AL z),(AU z),(KP c p),(QO p),(QC p),(KQ p y8)] ?_
   exact hv164 ⟨(n162+1,n162),by first | omega | (dsimp only;omega)⟩
  rintro⟨⟨n147,b148,b149⟩,hJ187⟩
  simp only at hJ187
  show E _ _ [(1,Ac p),(2,pt z),(AL z),(AU z),(6,pt b149)] _ ⟨w,n147,[(Ak w),(Bh c z),(Bj z),(Bi y8 z),(bk b148 #[i6 ((Af (AP c p) 405 ⟨(p:Int), -1⟩).e),i6 ((Af (AP c p) 405 ⟨(p:Int), -1⟩).Ag.First),i6 ((Af (AP c p) 405 ⟨(p:Int), -1⟩).Ag.Second),i6 ((Af false 406 ⟨(p:Int), -1⟩).e),i6 ((Af false 406 ⟨(p:Int), -1⟩).Ag.First),i6 ((Af false 406 ⟨(p:Int), -1⟩).Ag.Second),i6 ((Af false 407 ⟨(p:Int), -1⟩).e),i6 ((Af false 407 ⟨(p:Int), -1⟩).Ag.First),i6 ((Af false 407 ⟨(p:Int), -1⟩).Ag.Second),i6 ((Af (win (y8.Ah.xs.length:Int) 1 8) 408 ⟨(p:Int), -1⟩).e),i6 ((Af (win (y8.Ah.xs.length:Int) 1 8) 408 ⟨(p:Int), -1⟩).Ag.First),i6 ((Af (win (y8.Ah.xs.length:Int) 1 8) 408 ⟨(p:Int), -1⟩).Ag.Second)] 132),(ZaS c p y8 b149)]⟩ _ _ _
  refine Cc [0,1,2,3,5] [(Ak w),(Bh c z),(Bj z),(Bi y8 z),(ZaS c p y8 b149)] rfl rfl ?_
  have eA:AY (Gw c p)=(AY [(Af (AP c p) 405 ⟨(p:Int), -1⟩),(Af false 406 ⟨(p:Int), -1⟩),(Af false 407 ⟨(p:Int), -1⟩),(Af (win (y8.Ah.xs.length:Int) 1 8) 408 ⟨(p:Int), -1⟩)]):=by have e0:Es c p=y8:=hy8.symm;unfold Gw;simp only[e0];simp[h11,h102]
  refine BI [1,2,4,5,6] [(1,Ac p),(2,pt z),(AL z),(AU z),(6,pt b149)] ?_
  refine BR (fun a w' hs=>⟨n147,b149,by omega,(by(try dsimp only[Y7,ZaS,Bj,Bi,Bh,KQ,Pg,KP,QC,QO,QT,AL,AU,Dv]at hs ⊢);rw[eA];exact hs)⟩)
 rintro a w' ⟨n9,b6,hn10,hs⟩
 refine(?_:G Tryd.prog 118 [(1,Ac p),(2,pt z),(AL z),(AU z),(Dv b6)] [] ⟨w,n9,[(Ak w),(Bh c z),(Bj z),(Bi y8 z),(.blk b6 (.cells (Am.arr (AY (Gw c p))) 132 (0,0)) true)]⟩ _ _ _) a w' hs
 clear hs a w'
 refine UU (fun a w'=>∃ (n188:Nat),n9≤n188∧St 118 [(1,Ac p),(2,pt z),(AL z),(AU z),(Dv b6)] [] ⟨w,n188,(JI c p y8 b6 z w)⟩ a w') ?_ ?_
 ·refine Au 5 0 [] [[o0]] [] [(1,Ac p),(2,pt z),(AL z),(AU z),(Dv b6),(7,i6 0)] rfl Ae ?_
  refine D8 (fun m a w'=>∃ (n191:Nat) (k:Nat),m=y8.Ah.xs.length - k∧n9≤n191∧(k≤y8.Ah.xs.length)∧St 118 [(1,Ac p),(2,pt z),(AL z),(AU z),(Dv b6),(7,Ac k)] [] ⟨w,n191,[(Ak w),(Bh c z),(Bj z),(Bi y8 z),(.blk b6 (.cells (Am.arr (Fv (AY (Gw c p)) (EK c p) k)) 132 (0,0)) true)]⟩ a w') (y8.Ah.xs.length - 0) ?_ ?_
  ·intro a w' hs;exact⟨n9,0,rfl,Nat.le_refl _,Nat.zero_le _,(by(try dsimp only[Bj,JK,Bi,Bh,AL,AU,Dv,JI]at hs ⊢);rw[MH];exact hs)⟩
  rintro m a w' ⟨n191,k,rfl,hn190,hkk,hs⟩
  refine(?_:G Tryd.prog 118 [(1,Ac p),(2,pt z),(AL z),(AU z),(Dv b6),(7,Ac k)] [] ⟨w,n191,[(Ak w),(Bh c z),(Bj z),(Bi y8 z),(.blk b6 (.cells (Am.arr (Fv (AY (Gw c p)) (EK c p) k)) 132 (0,0)) true)]⟩ _ _ _) a w' hs
  clear hs a w'
  refine CW <| CW ?_
  by_cases h192:(k:Int)<(y8.Ah.xs.length:Int)
  ·by_cases h193:(((Fv (AY (Gw c p)) (EK c p) k).e:Int)==(0:Int)&&((((Fv (AY (Gw c p)) (EK c p) k).Ag.First:Int)==(0:Int)&&(((Fv (AY (Gw c p)) (EK c p) k).Ag.Second:Int)==(0:Int)&&true))&&true))=true
   ·refine Au 9 3 [1] [[o0,o0,(a1 3),o0,oT,o0,(an 3 4),(oa [.via 0 (i6 0),.via 0 (i6 0),.via 0 (i6 0)]),⟨.seq true,none⟩,o0],[(an 7 1),o0,o0]] [Qb (z+2),BT ((k:Int)<(y8.Ah.xs.length:Int)),Qb b6,Qb b6,Qb b6,Old w 0 0 (i6 0),Old w 0 1 (i6 0),Old w 0 2 (i6 0),(((Fv (AY (Gw c p)) (EK c p) k).e:Int)==(0:Int)&&((((Fv (AY (Gw c p)) (EK c p) k).Ag.First:Int)==(0:Int)&&(((Fv (AY (Gw c p)) (EK c p) k).Ag.Second:Int)==(0:Int)&&true))&&true))=true,Qb z,Qb z,Qb z,Qb z,Qb z,Qb z,Qb z] [(1,Ac p),(2,pt z),(AL z),(AU z),(Dv b6),(7,Ac k),(63,.agg (Ai.arr c)),(64,Ac p),(65,Ac k)] rfl ⟨rfl,bt,rfl,rfl,rfl,Aw (hL.2 0 _ rfl),Aw (hL.2 1 _ rfl),Aw (hL.2 2 _ rfl),h193,rfl,rfl,rfl,rfl,rfl,rfl,rfl,Ae⟩ ?_
    refine Ba 90 #[.agg (Ai.arr c),Ac p,Ac k] (some 66) (.agg (Am.arr (EK c p k))) (fun w194 hw194=>region_calls w194 (hL.ext (hw194.ext rfl)) c (hc.ext (hw194.ext rfl) (fun _ h=>h)) p k hp (by rw[←hy8];omega) hFr (bd_all hFr hpf (MJ (G9.1 h193)).2)) (fun n195 (hn196:n191≤n195) => ?_)
    refine EI 5 0 [] [[(an 3 4)],[o0,(ov (i6 ((k+1:Nat):Int))),o0]] [Qb b6,Qb b6,Qb b6,Wr ((k:Int)+1) (((k+1:Nat):Int))] [(1,Ac p),(2,pt z),(AL z),(AU z),(Dv b6),(7,i6 ((k+1:Nat):Int))] ⟨w,n195,[(Ak w),(Bh c z),(Bj z),(Bi y8 z),(bk b6 (Am.arr (EK c p k)) 132)]⟩ rfl ⟨rfl,rfl,rfl,BP,Ae⟩ ?_
    have eS:=PS (G9.1 h193)
    refine BI [1,2,4,5,6,7] [(1,Ac p),(2,pt z),(AL z),(AU z),(Dv b6),(7,i6 ((k+1:Nat):Int))] ?_
    refine BR (fun a w' hs=>⟨y8.Ah.xs.length - (k+1),by omega,n195,(k+1),rfl,by omega,by omega,(by(try dsimp only[Bj,JK,Bi,Bh,AL,AU,Dv,JI]at hs ⊢);rw[eS];exact hs)⟩)
   refine Au 8 0 [0] [[o0,o0,(a1 3),o0,oT,o0,(an 3 4),(oa [.via 0 (i6 0),.via 0 (i6 0),.via 0 (i6 0)]),⟨.seq false,none⟩,o0]] [Qb (z+2),BT ((k:Int)<(y8.Ah.xs.length:Int)),Qb b6,Qb b6,Qb b6,Old w 0 0 (i6 0),Old w 0 1 (i6 0),Old w 0 2 (i6 0),(((Fv (AY (Gw c p)) (EK c p) k).e:Int)==(0:Int)&&((((Fv (AY (Gw c p)) (EK c p) k).Ag.First:Int)==(0:Int)&&(((Fv (AY (Gw c p)) (EK c p) k).Ag.Second:Int)==(0:Int)&&true))&&true))=false] [(1,Ac p),(2,pt z),(AL z),(AU z),(Dv b6),(7,Ac k),(60,.bool false)] rfl ⟨rfl,bt,rfl,rfl,rfl,Aw (hL.2 0 _ rfl),Aw (hL.2 1 _ rfl),Aw (hL.2 2 _ rfl),(Bool.eq_false_iff.2 h193),Ae⟩ ?_
   have eB:(Jd c p)=(Fv (AY (Gw c p)) (EK c p) k):=Lr (fun e=>h193 (G9.2 e)) (by dsimp only[Es];rw[←hy8];omega)
   refine BI [1,2,4,5,6] [(1,Ac p),(2,pt z),(AL z),(AU z),(Dv b6)] ?_
   refine BR (fun a w' hs=>⟨n191,by omega,(by(try dsimp only[Bj,JK,Bi,Bh,AL,AU,Dv,JI]at hs ⊢);rw[eB];exact hs)⟩)
  refine Au 8 0 [0] [[o0,o0,(a1 3),o0,oF,o0,o0]] [Qb (z+2),BF ((k:Int)<(y8.Ah.xs.length:Int))] [(1,Ac p),(2,pt z),(AL z),(AU z),(Dv b6),(7,Ac k),(60,.bool false)] rfl ⟨rfl,bf,Ae⟩ ?_
  have eB:(Jd c p)=(Fv (AY (Gw c p)) (EK c p) k):=congrArg (Fv _ _) (by dsimp only[Es];rw[←hy8];omega)
  refine BI [1,2,4,5,6] [(1,Ac p),(2,pt z),(AL z),(AU z),(Dv b6)] ?_
  refine BR (fun a w' hs=>⟨n191,by omega,(by(try dsimp only[Bj,JK,Bi,Bh,AL,AU,Dv,JI]at hs ⊢);rw[eB];exact hs)⟩)
 rintro a w' ⟨n188,hn189,hs⟩
 refine(?_:G Tryd.prog 118 [(1,Ac p),(2,pt z),(AL z),(AU z),(Dv b6)] [] ⟨w,n188,(JI c p y8 b6 z w)⟩ _ _ _) a w' hs
 clear hs a w'
 refine CW <| CW ?_
 by_cases h197:(((Jd c p).e:Int)==(0:Int)&&((((Jd c p).Ag.First:Int)==(0:Int)&&(((Jd c p).Ag.Second:Int)==(0:Int)&&true))&&true))=true
 ·have hB0:=G9.1 h197
  refine Au 6 0 [0] [[(an 3 4),(oa [.via 0 (i6 0),.via 0 (i6 0),.via 0 (i6 0)]),⟨.seq true,none⟩]] [Qb b6,Qb b6,Qb b6,Old w 0 0 (i6 0),Old w 0 1 (i6 0),Old w 0 2 (i6 0),(((Jd c p).e:Int)==(0:Int)&&((((Jd c p).Ag.First:Int)==(0:Int)&&(((Jd c p).Ag.Second:Int)==(0:Int)&&true))&&true))=true] [(1,Ac p),(2,pt z),(AL z),(AU z),(Dv b6),(69,.bool false)] rfl ⟨rfl,rfl,rfl,Aw (hL.2 0 _ rfl),Aw (hL.2 1 _ rfl),Aw (hL.2 2 _ rfl),h197,Ae⟩ ?_
  refine UU (fun a w'=>∃ (n198:Nat),n188≤n198∧St 118 [(1,Ac p),(2,pt z),(AL z),(AU z),(Dv b6)] [] ⟨w,n198,[(Ak w),(Bh c z),(Bj z),(Bi y8 z),(.blk b6 (.cells (Am.arr (AY (H8 c p))) 132 (0,0)) true)]⟩ a w') ?_ ?_
  ·by_cases h200:(win y8.Entry 0 4095)=true
   ·have hd201:=Dz h200
    by_cases h202:(8:Int)<(y8.Ap.xs.length:Int)
    ·refine DZ 19 [0,1,2,3,4] (JI c p y8 b6 z w) rfl rfl ?_
     refine Ll [.tk 0 o0,.tk 1 (a1 3),.tk 7 o0,.tk 10 o0,.tk 11 (a1 3),.tk 12 o0,.tk 13 oF,.tk 14 o0,.cl 2 (.bool (win y8.Entry 0 4095)),.tk 3 (ov (.bool true)),.tk 4 (an 8 3),.cl 5 (.bool (Gh y8)),.tk 6 o0,.cl 8 (.agg #[(Ac p),i6 (-1)]),.cl 9 (.agg (Am.arr (Af (Gh y8) 412 ⟨(p:Int), -1⟩))),.cl 15 (.agg #[(Ac p),i6 (-1)]),.cl 16 (.agg (Am.arr (Af false 413 ⟨(p:Int), -1⟩)))] [1,2,4,5,6,80,87] [(64,#[i6 y8.Entry,i6 0,i6 4095],.bool (win y8.Entry 0 4095)),(91,#[.agg (Aq.arr y8)],.bool (Gh y8)),(89,#[(Ac p)],.agg #[(Ac p),i6 (-1)]),(63,#[.bool (Gh y8),i6 412,.agg #[(Ac p),i6 (-1)]],.agg (Am.arr (Af (Gh y8) 412 ⟨(p:Int), -1⟩))),(89,#[(Ac p)],.agg #[(Ac p),i6 (-1)]),(63,#[.bool false,i6 413,.agg #[(Ac p),i6 (-1)]],.agg (Am.arr (Af false 413 ⟨(p:Int), -1⟩)))] (Dw 17 3) [Qb (z+2),Qb (z+2),BF ((y8.Ap.xs.length:Int)≤8),Value.bool (win y8.Entry 0 4095)=Value.bool true,Qb (z+2),Qb (z+2),Qb (z+2),Qb (z+2),Qb (z+2),Qb (z+2),Qb (z+2),Qb (z+2)] [(1,Ac p),(2,pt z),(AL z),(AU z),(Dv b6),(80,.agg (Am.arr (Af (Gh y8) 412 ⟨(p:Int), -1⟩))),(87,.agg (Am.arr (Af false 413 ⟨(p:Int), -1⟩)))] [0,1,2,3,4] ⟨rfl,rfl,bf,(congrArg Value.bool h200),rfl,rfl,rfl,rfl,rfl,rfl,rfl,rfl,Ae⟩ ⟨fun w203 hw203=>BZ w203 y8.Entry 0 4095,fun w204 hw204=>Zw w204 y8 (he7.ext (hw204.ext rfl) (fun _ h=>h)) (by omega) (fun k hk=>by have hz:=Uy hFr.2 hB0 k (by dsimp only[Es];rw[←hy8];exact hk);dsimp only[DV]at hz;rw[←hy8]at hz;exact⟨hz.1,hz.2.1⟩),fun w205 hw205=>D6 w205 (p:Int),fun w206 hw206=>Bo w206 (hL.ext (hw206.ext rfl)) (Gh y8) 412 (p:Int) (-1),fun w207 hw207=>D6 w207 (p:Int),fun w208 hw208=>Bo w208 (hL.ext (hw208.ext rfl)) false 413 (p:Int) (-1),Ae⟩ (fun n209 hn210 => ?_)
     replace hn210:n188≤n209:=hn210
     refine Bq 17 ?_
     refine BC o0 [1,2,4,5,6,88] [] [(1,Ac p),(2,pt z),(AL z),(AU z),(Dv b6),(88,.slice (some ⟨n209,0,none⟩) 2 2)] ⟨w,n209+1,[(Ak w),(Bh c z),(Bj z),(Bi y8 z),(JK c p b6),(XR p y8 n209)]⟩ [0,1,2,3,4] Ae (.inr rfl) ?_
     refine Bq 18 ?_
     refine GZ 87 #[.slice (some ⟨n209,0,none⟩) 2 2] (some 89) (.agg (Am.arr (AY [(Af (Gh y8) 412 ⟨(p:Int), -1⟩),(Af false 413 ⟨(p:Int), -1⟩)]))) [1,2,4,5,6,89] [(1,Ac p),(2,pt z),(AL z),(AU z),(Dv b6),(89,.agg (Am.arr (AY [(Af (Gh y8) 412 ⟨(p:Int), -1⟩),(Af false 413 ⟨(p:Int), -1⟩)])))] [0,1,2,3,4] (fun w211 hw211=>DD w211 (hL.ext (hw211.ext rfl)) ⟨some ⟨n209,0,none⟩,2,[(Af (Gh y8) 412 ⟨(p:Int), -1⟩),(Af false 413 ⟨(p:Int), -1⟩)]⟩ (E8 hw211 (i:=5) [(Af (Gh y8) 412 ⟨(p:Int), -1⟩),(Af false 413 ⟨(p:Int), -1⟩)]) (show 2≤1000 by decide)) (fun n212 hn213 => ?_)
     replace hn213:n209+1≤n212:=hn213
     refine Bq 19 ?_
     refine BC (an 3 4) [1,2,4,5,6] [Qb b6,Qb b6,Qb b6] [(1,Ac p),(2,pt z),(AL z),(AU z),(Dv b6)] ⟨w,n212,[(Ak w),(Bh c z),(Bj z),(Bi y8 z),(YD p y8 b6),(XR p y8 n209)]⟩ [] ⟨rfl,rfl,rfl,Ae⟩ (.inl rfl) ?_
     refine DX 20 [0,1,2,3,4,5] [(Ak w),(Bh c z),(Bj z),(Bi y8 z),(YD p y8 b6),(XR p y8 n209)] rfl rfl ?_
     refine CE ?_
     refine BI [1,2,4,5,6] [(1,Ac p),(2,pt z),(AL z),(AU z),(Dv b6)] ?_
     refine Cc [0,1,2,3,4] [(Ak w),(Bh c z),(Bj z),(Bi y8 z),(YD p y8 b6)] rfl rfl ?_
     have eB:(AY (H8 c p))=(AY [(Af (Gh y8) 412 ⟨(p:Int), -1⟩),(Af false 413 ⟨(p:Int), -1⟩)]):=by have e0:Es c p=y8:=hy8.symm;unfold H8;simp only[e0];first | simp[h200,show ¬ y8.Ap.xs.length≤8 by omega] | simp[h200,show y8.Ap.xs.length≤8 by omega]
     refine BI [1,2,4,5,6] [(1,Ac p),(2,pt z),(AL z),(AU z),(Dv b6)] ?_
     refine BR (fun a w' hs=>⟨n212,by omega,(by(try dsimp only[XR,YD,Bj,JK,Bi,Bh,AL,AU,Dv,JI]at hs ⊢);rw[eB];exact hs)⟩)
    refine DZ 19 [0,1,2,3,4] (JI c p y8 b6 z w) rfl rfl ?_
    refine Ll [.tk 0 o0,.tk 1 (a1 3),.tk 7 o0,.tk 10 o0,.tk 11 (a1 3),.tk 12 o0,.tk 13 oT,.tk 14 o0,.cl 2 (.bool (win y8.Entry 0 4095)),.tk 3 (ov (.bool true)),.tk 4 (an 8 3),.cl 5 (.bool (Gh y8)),.tk 6 o0,.cl 8 (.agg #[(Ac p),i6 (-1)]),.cl 9 (.agg (Am.arr (Af (Gh y8) 412 ⟨(p:Int), -1⟩))),.cl 15 (.agg #[(Ac p),i6 (-1)]),.cl 16 (.agg (Am.arr (Af true 413 ⟨(p:Int), -1⟩)))] [1,2,4,5,6,80,87] [(64,#[i6 y8.Entry,i6 0,i6 4095],.bool (win y8.Entry 0 4095)),(91,#[.agg (Aq.arr y8)],.bool (Gh y8)),(89,#[(Ac p)],.agg #[(Ac p),i6 (-1)]),(63,#[.bool (Gh y8),i6 412,.agg #[(Ac p),i6 (-1)]],.agg (Am.arr (Af (Gh y8) 412 ⟨(p:Int), -1⟩))),(89,#[(Ac p)],.agg #[(Ac p),i6 (-1)]),(63,#[.bool true,i6 413,.agg #[(Ac p),i6 (-1)]],.agg (Am.arr (Af true 413 ⟨(p:Int), -1⟩)))] (Dw 17 3) [Qb (z+2),Qb (z+2),BT ((y8.Ap.xs.length:Int)≤8),Value.bool (win y8.Entry 0 4095)=Value.bool true,Qb (z+2),Qb (z+2),Qb (z+2),Qb (z+2),Qb (z+2),Qb (z+2),Qb (z+2),Qb (z+2)] [(1,Ac p),(2,pt z),(AL z),(AU z),(Dv b6),(80,.agg (Am.arr (Af (Gh y8) 412 ⟨(p:Int), -1⟩))),(87,.agg (Am.arr (Af true 413 ⟨(p:Int), -1⟩)))] [0,1,2,3,4] ⟨rfl,rfl,bt,(congrArg Value.bool h200),rfl,rfl,rfl,rfl,rfl,rfl,rfl,rfl,Ae⟩ ⟨fun w214 hw214=>BZ w214 y8.Entry 0 4095,fun w215 hw215=>Zw w215 y8 (he7.ext (hw215.ext rfl) (fun _ h=>h)) (by omega) (fun k hk=>by have hz:=Uy hFr.2 hB0 k (by dsimp only[Es];rw[←hy8];exact hk);dsimp only[DV]at hz;rw[←hy8]at hz;exact⟨hz.1,hz.2.1⟩),fun w216 hw216=>D6 w216 (p:Int),fun w217 hw217=>Bo w217 (hL.ext (hw217.ext rfl)) (Gh y8) 412 (p:Int) (-1),fun w218 hw218=>D6 w218 (p:Int),fun w219 hw219=>Bo w219 (hL.ext (hw219.ext rfl)) true 413 (p:Int) (-1),Ae⟩ (fun n220 hn221 => ?_)
    replace hn221:n188≤n220:=hn221
    refine Bq 17 ?_
    refine BC o0 [1,2,4,5,6,88] [] [(1,Ac p),(2,pt z),(AL z),(AU z),(Dv b6),(88,.slice (some ⟨n220,0,none⟩) 2 2)] ⟨w,n220+1,[(Ak w),(Bh c z),(Bj z),(Bi y8 z),(JK c p b6),(XZ p y8 n220)]⟩ [0,1,2,3,4] Ae (.inr rfl) ?_
    refine Bq 18 ?_
    refine GZ 87 #[.slice (some ⟨n220,0,none⟩) 2 2] (some 89) (.agg (Am.arr (AY [(Af (Gh y8) 412 ⟨(p:Int), -1⟩),(Af true 413 ⟨(p:Int), -1⟩)]))) [1,2,4,5,6,89] [(1,Ac p),(2,pt z),(AL z),(AU z),(Dv b6),(89,.agg (Am.arr (AY [(Af (Gh y8) 412 ⟨(p:Int), -1⟩),(Af true 413 ⟨(p:Int), -1⟩)])))] [0,1,2,3,4] (fun w222 hw222=>DD w222 (hL.ext (hw222.ext rfl)) ⟨some ⟨n220,0,none⟩,2,[(Af (Gh y8) 412 ⟨(p:Int), -1⟩),(Af true 413 ⟨(p:Int), -1⟩)]⟩ (E8 hw222 (i:=5) [(Af (Gh y8) 412 ⟨(p:Int), -1⟩),(Af true 413 ⟨(p:Int), -1⟩)]) (show 2≤1000 by decide)) (fun n223 hn224 => ?_)
    replace hn224:n220+1≤n223:=hn224
    refine Bq 19 ?_
    refine BC (an 3 4) [1,2,4,5,6] [Qb b6,Qb b6,Qb b6] [(1,Ac p),(2,pt z),(AL z),(AU z),(Dv b6)] ⟨w,n223,[(Ak w),(Bh c z),(Bj z),(Bi y8 z),(Yi p y8 b6),(XZ p y8 n220)]⟩ [] ⟨rfl,rfl,rfl,Ae⟩ (.inl rfl) ?_
    refine DX 20 [0,1,2,3,4,5] [(Ak w),(Bh c z),(Bj z),(Bi y8 z),(Yi p y8 b6),(XZ p y8 n220)] rfl rfl ?_
    refine CE ?_
    refine BI [1,2,4,5,6] [(1,Ac p),(2,pt z),(AL z),(AU z),(Dv b6)] ?_
    refine Cc [0,1,2,3,4] [(Ak w),(Bh c z),(Bj z),(Bi y8 z),(Yi p y8 b6)] rfl rfl ?_
    have eB:(AY (H8 c p))=(AY [(Af (Gh y8) 412 ⟨(p:Int), -1⟩),(Af true 413 ⟨(p:Int), -1⟩)]):=by have e0:Es c p=y8:=hy8.symm;unfold H8;simp only[e0];first | simp[h200,show ¬ y8.Ap.xs.length≤8 by omega] | simp[h200,show y8.Ap.xs.length≤8 by omega]
    refine BI [1,2,4,5,6] [(1,Ac p),(2,pt z),(AL z),(AU z),(Dv b6)] ?_
    refine BR (fun a w' hs=>⟨n223,by omega,(by(try dsimp only[XZ,Yi,Bj,JK,Bi,Bh,AL,AU,Dv,JI]at hs ⊢);rw[eB];exact hs)⟩)
   have hd225:=FI h200
   by_cases h226:(8:Int)<(y8.Ap.xs.length:Int)
   ·refine DZ 19 [0,1,2,3,4] (JI c p y8 b6 z w) rfl rfl ?_
    refine Ll [.tk 0 o0,.tk 1 (a1 3),.tk 7 o0,.tk 10 o0,.tk 11 (a1 3),.tk 12 o0,.tk 13 oF,.tk 14 o0,.cl 2 (.bool (win y8.Entry 0 4095)),.tk 3 (ov (.bool false)),.tk 4 o0,.tk 5 o0,.tk 6 o0,.cl 8 (.agg #[(Ac p),i6 (-1)]),.cl 9 (.agg (Am.arr (Af false 412 ⟨(p:Int), -1⟩))),.cl 15 (.agg #[(Ac p),i6 (-1)]),.cl 16 (.agg (Am.arr (Af false 413 ⟨(p:Int), -1⟩)))] [1,2,4,5,6,80,87] [(64,#[i6 y8.Entry,i6 0,i6 4095],.bool (win y8.Entry 0 4095)),(89,#[(Ac p)],.agg #[(Ac p),i6 (-1)]),(63,#[.bool false,i6 412,.agg #[(Ac p),i6 (-1)]],.agg (Am.arr (Af false 412 ⟨(p:Int), -1⟩))),(89,#[(Ac p)],.agg #[(Ac p),i6 (-1)]),(63,#[.bool false,i6 413,.agg #[(Ac p),i6 (-1)]],.agg (Am.arr (Af false 413 ⟨(p:Int), -1⟩)))] (Dw 17 3) [Qb (z+2),Qb (z+2),BF ((y8.Ap.xs.length:Int)≤8),Value.bool (win y8.Entry 0 4095)=Value.bool false] [(1,Ac p),(2,pt z),(AL z),(AU z),(Dv b6),(80,.agg (Am.arr (Af false 412 ⟨(p:Int), -1⟩))),(87,.agg (Am.arr (Af false 413 ⟨(p:Int), -1⟩)))] [0,1,2,3,4] ⟨rfl,rfl,bf,(congrArg Value.bool (Bool.eq_false_iff.2 h200)),Ae⟩ ⟨fun w227 hw227=>BZ w227 y8.Entry 0 4095,fun w228 hw228=>D6 w228 (p:Int),fun w229 hw229=>Bo w229 (hL.ext (hw229.ext rfl)) false 412 (p:Int) (-1),fun w230 hw230=>D6 w230 (p:Int),fun w231 hw231=>Bo w231 (hL.ext (hw231.ext rfl)) false 413 (p:Int) (-1),Ae⟩ (fun n232 hn233 => ?_)
    replace hn233:n188≤n232:=hn233
    refine Bq 17 ?_
    refine BC o0 [1,2,4,5,6,88] [] [(1,Ac p),(2,pt z),(AL z),(AU z),(Dv b6),(88,.slice (some ⟨n232,0,none⟩) 2 2)] ⟨w,n232+1,[(Ak w),(Bh c z),(Bj z),(Bi y8 z),(JK c p b6),(Ye p n232)]⟩ [0,1,2,3,4] Ae (.inr rfl) ?_
    refine Bq 18 ?_
    refine GZ 87 #[.slice (some ⟨n232,0,none⟩) 2 2] (some 89) (.agg (Am.arr (AY [(Af false 412 ⟨(p:Int), -1⟩),(Af false 413 ⟨(p:Int), -1⟩)]))) [1,2,4,5,6,89] [(1,Ac p),(2,pt z),(AL z),(AU z),(Dv b6),(89,.agg (Am.arr (AY [(Af false 412 ⟨(p:Int), -1⟩),(Af false 413 ⟨(p:Int), -1⟩)])))] [0,1,2,3,4] (fun w234 hw234=>DD w234 (hL.ext (hw234.ext rfl)) ⟨some ⟨n232,0,none⟩,2,[(Af false 412 ⟨(p:Int), -1⟩),(Af false 413 ⟨(p:Int), -1⟩)]⟩ (E8 hw234 (i:=5) [(Af false 412 ⟨(p:Int), -1⟩),(Af false 413 ⟨(p:Int), -1⟩)]) (show 2≤1000 by decide)) (fun n235 hn236 => ?_)
    replace hn236:n232+1≤n235:=hn236
    refine Bq 19 ?_
    refine BC (an 3 4) [1,2,4,5,6] [Qb b6,Qb b6,Qb b6] [(1,Ac p),(2,pt z),(AL z),(AU z),(Dv b6)] ⟨w,n235,[(Ak w),(Bh c z),(Bj z),(Bi y8 z),(Yv p b6),(Ye p n232)]⟩ [] ⟨rfl,rfl,rfl,Ae⟩ (.inl rfl) ?_
    refine DX 20 [0,1,2,3,4,5] [(Ak w),(Bh c z),(Bj z),(Bi y8 z),(Yv p b6),(Ye p n232)] rfl rfl ?_
    refine CE ?_
    refine BI [1,2,4,5,6] [(1,Ac p),(2,pt z),(AL z),(AU z),(Dv b6)] ?_
    refine Cc [0,1,2,3,4] [(Ak w),(Bh c z),(Bj z),(Bi y8 z),(Yv p b6)] rfl rfl ?_
    have eB:(AY (H8 c p))=(AY [(Af false 412 ⟨(p:Int), -1⟩),(Af false 413 ⟨(p:Int), -1⟩)]):=by have e0:Es c p=y8:=hy8.symm;unfold H8;simp only[e0];first | simp[h200,show ¬ y8.Ap.xs.length≤8 by omega] | simp[h200,show y8.Ap.xs.length≤8 by omega]
    refine BI [1,2,4,5,6] [(1,Ac p),(2,pt z),(AL z),(AU z),(Dv b6)] ?_
    refine BR (fun a w' hs=>⟨n235,by omega,(by(try dsimp only[Ye,Yv,Bj,JK,Bi,Bh,AL,AU,Dv,JI]at hs ⊢);rw[eB];exact hs)⟩)
   refine DZ 19 [0,1,2,3,4] (JI c p y8 b6 z w) rfl rfl ?_
   refine Ll [.tk 0 o0,.tk 1 (a1 3),.tk 7 o0,.tk 10 o0,.tk 11 (a1 3),.tk 12 o0,.tk 13 oT,.tk 14 o0,.cl 2 (.bool (win y8.Entry 0 4095)),.tk 3 (ov (.bool false)),.tk 4 o0,.tk 5 o0,.tk 6 o0,.cl 8 (.agg #[(Ac p),i6 (-1)]),.cl 9 (.agg (Am.arr (Af false 412 ⟨(p:Int), -1⟩))),.cl 15 (.agg #[(Ac p),i6 (-1)]),.cl 16 (.agg (Am.arr (Af true 413 ⟨(p:Int), -1⟩)))] [1,2,4,5,6,80,87] [(64,#[i6 y8.Entry,i6 0,i6 4095],.bool (win y8.Entry 0 4095)),(89,#[(Ac p)],.agg #[(Ac p),i6 (-1)]),(63,#[.bool false,i6 412,.agg #[(Ac p),i6 (-1)]],.agg (Am.arr (Af false 412 ⟨(p:Int), -1⟩))),(89,#[(Ac p)],.agg #[(Ac p),i6 (-1)]),(63,#[.bool true,i6 413,.agg #[(Ac p),i6 (-1)]],.agg (Am.arr (Af true 413 ⟨(p:Int), -1⟩)))] (Dw 17 3) [Qb (z+2),Qb (z+2),BT ((y8.Ap.xs.length:Int)≤8),Value.bool (win y8.Entry 0 4095)=Value.bool false] [(1,Ac p),(2,pt z),(AL z),(AU z),(Dv b6),(80,.agg (Am.arr (Af false 412 ⟨(p:Int), -1⟩))),(87,.agg (Am.arr (Af true 413 ⟨(p:Int), -1⟩)))] [0,1,2,3,4] ⟨rfl,rfl,bt,(congrArg Value.bool (Bool.eq_false_iff.2 h200)),Ae⟩ ⟨fun w237 hw237=>BZ w237 y8.Entry 0 4095,fun w238 hw238=>D6 w238 (p:Int),fun w239 hw239=>Bo w239 (hL.ext (hw239.ext rfl)) false 412 (p:Int) (-1),fun w240 hw240=>D6 w240 (p:Int),fun w241 hw241=>Bo w241 (hL.ext (hw241.ext rfl)) true 413 (p:Int) (-1),Ae⟩ (fun n242 hn243 => ?_)
   replace hn243:n188≤n242:=hn243
   refine Bq 17 ?_
   refine BC o0 [1,2,4,5,6,88] [] [(1,Ac p),(2,pt z),(AL z),(AU z),(Dv b6),(88,.slice (some ⟨n242,0,none⟩) 2 2)] ⟨w,n242+1,[(Ak w),(Bh c z),(Bj z),(Bi y8 z),(JK c p b6),(Y2 p n242)]⟩ [0,1,2,3,4] Ae (.inr rfl) ?_
   refine Bq 18 ?_
   refine GZ 87 #[.slice (some ⟨n242,0,none⟩) 2 2] (some 89) (.agg (Am.arr (AY [(Af false 412 ⟨(p:Int), -1⟩),(Af true 413 ⟨(p:Int), -1⟩)]))) [1,2,4,5,6,89] [(1,Ac p),(2,pt z),(AL z),(AU z),(Dv b6),(89,.agg (Am.arr (AY [(Af false 412 ⟨(p:Int), -1⟩),(Af true 413 ⟨(p:Int), -1⟩)])))] [0,1,2,3,4] (fun w244 hw244=>DD w244 (hL.ext (hw244.ext rfl)) ⟨some ⟨n242,0,none⟩,2,[(Af false 412 ⟨(p:Int), -1⟩),(Af true 413 ⟨(p:Int), -1⟩)]⟩ (E8 hw244 (i:=5) [(Af false 412 ⟨(p:Int), -1⟩),(Af true 413 ⟨(p:Int), -1⟩)]) (show 2≤1000 by decide)) (fun n245 hn246 => ?_)
   replace hn246:n242+1≤n245:=hn246
   refine Bq 19 ?_
   refine BC (an 3 4) [1,2,4,5,6] [Qb b6,Qb b6,Qb b6] [(1,Ac p),(2,pt z),(AL z),(AU z),(Dv b6)] ⟨w,n245,[(Ak w),(Bh c z),(Bj z),(Bi y8 z),(Yw p b6),(Y2 p n242)]⟩ [] ⟨rfl,rfl,rfl,Ae⟩ (.inl rfl) ?_
   refine DX 20 [0,1,2,3,4,5] [(Ak w),(Bh c z),(Bj z),(Bi y8 z),(Yw p b6),(Y2 p n242)] rfl rfl ?_
   refine CE ?_
   refine BI [1,2,4,5,6] [(1,Ac p),(2,pt z),(AL z),(AU z),(Dv b6)] ?_
   refine Cc [0,1,2,3,4] [(Ak w),(Bh c z),(Bj z),(Bi y8 z),(Yw p b6)] rfl rfl ?_
   have eB:(AY (H8 c p))=(AY [(Af false 412 ⟨(p:Int), -1⟩),(Af true 413 ⟨(p:Int), -1⟩)]):=by have e0:Es c p=y8:=hy8.symm;unfold H8;simp only[e0];first | simp[h200,show ¬ y8.Ap.xs.length≤8 by omega] | simp[h200,show y8.Ap.xs.length≤8 by omega]
   refine BI [1,2,4,5,6] [(1,Ac p),(2,pt z),(AL z),(AU z),(Dv b6)] ?_
   refine BR (fun a w' hs=>⟨n245,by omega,(by(try dsimp only[Y2,Yw,Bj,JK,Bi,Bh,AL,AU,Dv,JI]at hs ⊢);rw[eB];exact hs)⟩)
  rintro a w' ⟨n198,hn199,hs⟩
  refine(?_:G Tryd.prog 118 [(1,Ac p),(2,pt z),(AL z),(AU z),(Dv b6)] [] ⟨w,n198,[(Ak w),(Bh c z),(Bj z),(Bi y8 z),(.blk b6 (.cells (Am.arr (AY (H8 c p))) 132 (0,0)) true)]⟩ _ _ _) a w' hs
  clear hs a w'
  refine UU (fun a w'=>∃ (n247:Nat),n198≤n247∧St 118 [(AL z),(Dv b6)] [] ⟨w,n247,[(Ak w),(Bh c z),(Bj z),(Bi y8 z),(bk b6 (Am.arr (CP c p)) 132)]⟩ a w') ?_ ?_
  ·refine Au 5 0 [] [[o0]] [] [(1,Ac p),(2,pt z),(AL z),(AU z),(Dv b6),(8,i6 0)] rfl Ae ?_
   refine D8 (fun m a w'=>∃ (n250:Nat) (k:Nat),m=y8.Ap.xs.length - k∧n198≤n250∧(k≤y8.Ap.xs.length)∧St 118 [(1,Ac p),(2,pt z),(AL z),(AU z),(Dv b6),(8,Ac k)] [] ⟨w,n250,[(Ak w),(Bh c z),(Bj z),(Bi y8 z),(Su c p b6 k)]⟩ a w') (y8.Ap.xs.length - 0) ?_ ?_
   ·intro a w' hs;exact⟨n198,0,rfl,Nat.le_refl _,Nat.zero_le _,(by(try dsimp only[Su,Bj,JK,Bi,Bh,AL,AU,Dv,JI]at hs ⊢);rw[MH];exact hs)⟩
   rintro m a w' ⟨n250,k,rfl,hn249,hkk,hs⟩
   refine(?_:G Tryd.prog 118 [(1,Ac p),(2,pt z),(AL z),(AU z),(Dv b6),(8,Ac k)] [] ⟨w,n250,[(Ak w),(Bh c z),(Bj z),(Bi y8 z),(Su c p b6 k)]⟩ _ _ _) a w' hs
   clear hs a w'
   refine CW <| CW ?_
   by_cases h251:(k:Int)<(y8.Ap.xs.length:Int)
   ·by_cases h252:(((Fv (AY (H8 c p)) (JH c p) k).e:Int)==(0:Int)&&((((Fv (AY (H8 c p)) (JH c p) k).Ag.First:Int)==(0:Int)&&(((Fv (AY (H8 c p)) (JH c p) k).Ag.Second:Int)==(0:Int)&&true))&&true))=true
    ·refine Au 8 0 [1] [[o0,o0,(a1 3),o0,oT,o0,(an 3 4),(oa [.via 0 (i6 0),.via 0 (i6 0),.via 0 (i6 0)]),⟨.seq true,none⟩,o0]] [Qb (z+2),BT ((k:Int)<(y8.Ap.xs.length:Int)),Qb b6,Qb b6,Qb b6,Old w 0 0 (i6 0),Old w 0 1 (i6 0),Old w 0 2 (i6 0),(((Fv (AY (H8 c p)) (JH c p) k).e:Int)==(0:Int)&&((((Fv (AY (H8 c p)) (JH c p) k).Ag.First:Int)==(0:Int)&&(((Fv (AY (H8 c p)) (JH c p) k).Ag.Second:Int)==(0:Int)&&true))&&true))=true] [(1,Ac p),(2,pt z),(AL z),(AU z),(Dv b6),(8,Ac k),(99,.bool true)] rfl ⟨rfl,bt,rfl,rfl,rfl,Aw (hL.2 0 _ rfl),Aw (hL.2 1 _ rfl),Aw (hL.2 2 _ rfl),h252,Ae⟩ ?_
     obtain⟨b253,o254,ha255,hF257,hc256⟩:=(he7.Ap).1.all (show 0<y8.Ap.xs.length by omega)
     replace ha255:y8.Ap.a=some ⟨b253,o254,none⟩:=ha255
     have hc258:=hc256 k (show k<y8.Ap.xs.length by omega)
     have he259:=(he7.Ap).2 k (show k<y8.Ap.xs.length by omega)
     obtain⟨y260,hy260⟩:∃ y_,y_=gd y8.Ap.xs k:=⟨_,rfl⟩
     rw[←hy260]at he259 hc258
     refine DZ 15 [0,1,2,3,4] [(Ak w),(Bh c z),(Bj z),(Bi y8 z),(Su c p b6 k)] rfl rfl ?_
     refine Ll [.tk 0 o0,.tk 1 (EM 3 b253 o254 y8.Ap),.tk 2 o0,.tk 3 (oi k),.tk 4 o0,.tk 5 (oa [.via 0 (i6 y260.Channel)]),.tk 6 o0,.tk 7 (a1 1),.tk 8 o0,.tk 9 (ov (i6 ((c.Aj.xs.length:Int) - 1))),.tk 11 o0,.tk 12 o0,.cl 10 (.bool (win y260.Channel 0 ((c.Aj.xs.length:Int) - 1))),.cl 13 (.agg #[(Ac p),Ac k]),.cl 14 (.agg (Am.arr (Af (win y260.Channel 0 ((c.Aj.xs.length:Int) - 1)) 414 ⟨(p:Int),(k:Int)⟩)))] [1,2,4,5,6,8,116] [(64,#[i6 y260.Channel,i6 0,i6 ((c.Aj.xs.length:Int) - 1)],.bool (win y260.Channel 0 ((c.Aj.xs.length:Int) - 1))),(92,#[(Ac p),Ac k],.agg #[(Ac p),Ac k]),(63,#[.bool (win y260.Channel 0 ((c.Aj.xs.length:Int) - 1)),i6 414,.agg #[(Ac p),Ac k]],.agg (Am.arr (Af (win y260.Channel 0 ((c.Aj.xs.length:Int) - 1)) 414 ⟨(p:Int),(k:Int)⟩)))] (Dw 15 1) [Qb (z+2),Ej b253 o254 y8.Ap,Dc k,k<y8.Ap.xs.length,BM,Old w b253 (o254+k*2) (i6 y260.Channel),Qb z,Wr ((c.Aj.xs.length:Int) - 1) ((c.Aj.xs.length:Int) - 1)] [(1,Ac p),(2,pt z),(AL z),(AU z),(Dv b6),(8,Ac k),(116,.agg (Am.arr (Af (win y260.Channel 0 ((c.Aj.xs.length:Int) - 1)) 414 ⟨(p:Int),(k:Int)⟩)))] [0,1,2,3,4] ⟨rfl,Eg ha255,rfl,(by omega),rfl,Aw (hc258 0 _ rfl),rfl,BP,Ae⟩ ⟨fun w261 hw261=>BZ w261 y260.Channel 0 ((c.Aj.xs.length:Int) - 1),fun w262 hw262=>G7 w262 (p:Int) (k:Int),fun w263 hw263=>Bo w263 (hL.ext (hw263.ext rfl)) (win y260.Channel 0 ((c.Aj.xs.length:Int) - 1)) 414 (p:Int) (k:Int),Ae⟩ (fun n264 hn265 => ?_)
     replace hn265:n250≤n264:=hn265
     refine Bq 15 ?_
     refine BC (an 3 4) [1,2,4,5,6,8] [Qb b6,Qb b6,Qb b6] [(1,Ac p),(2,pt z),(AL z),(AU z),(Dv b6),(8,Ac k)] ⟨w,n264,(Yh c p y8 b6 k z w y260)⟩ [] ⟨rfl,rfl,rfl,Ae⟩ (.inl rfl) ?_
     refine DX 16 [0,1,2,3,4] (Yh c p y8 b6 k z w y260) rfl rfl ?_
     refine CE ?_
     refine NU 4 0 [] [[o0,(ov (i6 ((k+1:Nat):Int))),o0]] [Wr ((k:Int)+1) (((k+1:Nat):Int))] [(1,Ac p),(2,pt z),(AL z),(AU z),(Dv b6),(8,i6 ((k+1:Nat):Int))] rfl ⟨BP,Ae⟩ ?_
     have eS:=PS (G9.1 h252)
     have eP:JH c p k=(Af (win y260.Channel 0 ((c.Aj.xs.length:Int) - 1)) 414 ⟨(p:Int),(k:Int)⟩):=by have e0:Zk c p k=y260:=(by dsimp only[Zk];rw[←hy8,←hy260]);unfold JH;rw[e0]
     refine BI [1,2,4,5,6,8] [(1,Ac p),(2,pt z),(AL z),(AU z),(Dv b6),(8,i6 ((k+1:Nat):Int))] ?_
     refine BR (fun a w' hs=>⟨y8.Ap.xs.length - (k+1),by omega,n264,(k+1),rfl,by omega,by omega,(by(try dsimp only[Su,Bj,JK,Bi,Bh,AL,AU,Dv,Yh,JI]at hs ⊢);rw[eS,eP];exact hs)⟩)
    refine Au 8 0 [0] [[o0,o0,(a1 3),o0,oT,o0,(an 3 4),(oa [.via 0 (i6 0),.via 0 (i6 0),.via 0 (i6 0)]),⟨.seq false,none⟩,o0]] [Qb (z+2),BT ((k:Int)<(y8.Ap.xs.length:Int)),Qb b6,Qb b6,Qb b6,Old w 0 0 (i6 0),Old w 0 1 (i6 0),Old w 0 2 (i6 0),(((Fv (AY (H8 c p)) (JH c p) k).e:Int)==(0:Int)&&((((Fv (AY (H8 c p)) (JH c p) k).Ag.First:Int)==(0:Int)&&(((Fv (AY (H8 c p)) (JH c p) k).Ag.Second:Int)==(0:Int)&&true))&&true))=false] [(1,Ac p),(2,pt z),(AL z),(AU z),(Dv b6),(8,Ac k),(99,.bool false)] rfl ⟨rfl,bt,rfl,rfl,rfl,Aw (hL.2 0 _ rfl),Aw (hL.2 1 _ rfl),Aw (hL.2 2 _ rfl),(Bool.eq_false_iff.2 h252),Ae⟩ ?_
    have eB:(CP c p)=(Fv (AY (H8 c p)) (JH c p) k):=(if_pos hB0).trans (Lr (fun e=>h252 (G9.2 e)) (by dsimp only[Es];rw[←hy8];omega))
    refine BI [4,6] [(AL z),(Dv b6)] ?_
    refine BR (fun a w' hs=>⟨n250,by omega,(by(try dsimp only[Su,Bj,JK,Bi,Bh,AL,AU,Dv,Yh,JI]at hs ⊢);rw[eB];exact hs)⟩)
   refine Au 8 0 [0] [[o0,o0,(a1 3),o0,oF,o0,o0]] [Qb (z+2),BF ((k:Int)<(y8.Ap.xs.length:Int))] [(1,Ac p),(2,pt z),(AL z),(AU z),(Dv b6),(8,Ac k),(99,.bool false)] rfl ⟨rfl,bf,Ae⟩ ?_
   have eB:(CP c p)=(Fv (AY (H8 c p)) (JH c p) k):=(if_pos hB0).trans (congrArg (Fv _ _) (by dsimp only[Es];rw[←hy8];omega))
   refine BI [4,6] [(AL z),(Dv b6)] ?_
   refine BR (fun a w' hs=>⟨n250,by omega,(by(try dsimp only[Su,Bj,JK,Bi,Bh,AL,AU,Dv,JI]at hs ⊢);rw[eB];exact hs)⟩)
  rintro a w' ⟨n247,hn248,hs⟩
  refine(?_:G Tryd.prog 118 [(AL z),(Dv b6)] [] ⟨w,n247,[(Ak w),(Bh c z),(Bj z),(Bi y8 z),(bk b6 (Am.arr (CP c p)) 132)]⟩ _ _ _) a w' hs
  clear hs a w'
  refine q_c 5 0 [] [[(an 3 4),(an 3 2)]] [Qb b6,Qb b6,Qb b6,Qb (z+1),Qb (z+1),Qb (z+1)] [(AL z)] ⟨w,n247,[(Ak w),(Bh c z),(bk (z+1) (Am.arr (CP c p)) 132),(Bi y8 z),(bk b6 (Am.arr (CP c p)) 132)]⟩ rfl ⟨rfl,rfl,rfl,rfl,rfl,rfl,Ae⟩ ?_
  refine Az [.at 2,.at 2,.at 2] [Qb (z+1),Qb (z+1),Qb (z+1)] (.agg #[i6 ((CP c p).e),i6 ((CP c p).Ag.First),i6 ((CP c p).Ag.Second)]) ⟨rfl,rfl,rfl,Ae⟩ ?_
  intro w266 hw266
  exact⟨rfl,AB hw266⟩
 refine q_c 9 0 [1] [[(an 3 4),(oa [.via 0 (i6 0),.via 0 (i6 0),.via 0 (i6 0)]),⟨.seq false,none⟩],[(an 3 4),(an 3 2)]] [Qb b6,Qb b6,Qb b6,Old w 0 0 (i6 0),Old w 0 1 (i6 0),Old w 0 2 (i6 0),(((Jd c p).e:Int)==(0:Int)&&((((Jd c p).Ag.First:Int)==(0:Int)&&(((Jd c p).Ag.Second:Int)==(0:Int)&&true))&&true))=false,Qb b6,Qb b6,Qb b6,Qb (z+1),Qb (z+1),Qb (z+1)] [(AL z)] ⟨w,n188,[(Ak w),(Bh c z),(bk (z+1) (Am.arr (Jd c p)) 132),(Bi y8 z),(JK c p b6)]⟩ rfl ⟨rfl,rfl,rfl,Aw (hL.2 0 _ rfl),Aw (hL.2 1 _ rfl),Aw (hL.2 2 _ rfl),(Bool.eq_false_iff.2 h197),rfl,rfl,rfl,rfl,rfl,rfl,Ae⟩ ?_
 refine Az [.at 2,.at 2,.at 2] [Qb (z+1),Qb (z+1),Qb (z+1)] (.agg #[i6 ((Jd c p).e),i6 ((Jd c p).Ag.First),i6 ((Jd c p).Ag.Second)]) ⟨rfl,rfl,rfl,Ae⟩ ?_
 intro w267 hw267
 exact⟨by rw[show CP c p=Jd c p from if_neg (fun e=>h197 (G9.2 e))],AB hw267⟩
abbrev LD(c:Ai)(h:Nat):Be:=gd c.Aj.xs h
def Eb(x:Be):Bool:=if x.Kind=2 then win x.Dy 1 8 else decide (x.Dy=0)
def A8(x:Be):Int:=if x.Kind=2 then 1 else 4
def Dp(c:Ai)(h:Nat):Am:=AY [Af (win (LD c h).Kind 1 2&&win (LD c h).Words 1 16&&Eb (LD c h)) 415 ⟨(h:Int), -1⟩,Af (decide ((IP c h:Nat)=(1:Int))) 416 ⟨(h:Int), -1⟩,Af (win (Bz c h:Nat) 1 (A8 (LD c h))) 417 ⟨(h:Int), -1⟩]
section
variable (n224:Nat)(y8:Be)(h:Nat)(c:Ai)(n68 n205:Nat)(n49 n114:Nat)(n160 n270:Nat)(n316 n141:Nat)(n251 n297:Nat)(n95 z:Nat)
abbrev qt5j_0:=bk n224 #[i6 ((Af (Eb y8) 415 ⟨(h:Int), -1⟩).e),i6 ((Af (Eb y8) 415 ⟨(h:Int), -1⟩).Ag.First),i6 ((Af (Eb y8) 415 ⟨(h:Int), -1⟩).Ag.Second),i6 ((Af false 416 ⟨(h:Int), -1⟩).e),i6 ((Af false 416 ⟨(h:Int), -1⟩).Ag.First),i6 ((Af false 416 ⟨(h:Int), -1⟩).Ag.Second),i6 ((Af (win ((Bz c (h:Int):Nat):Int) 1 (A8 y8)) 417 ⟨(h:Int), -1⟩).e),i6 ((Af (win ((Bz c (h:Int):Nat):Int) 1 (A8 y8)) 417 ⟨(h:Int), -1⟩).Ag.First),i6 ((Af (win ((Bz c (h:Int):Nat):Int) 1 (A8 y8)) 417 ⟨(h:Int), -1⟩).Ag.Second)] 132
abbrev qt5j_1:=bk n68 #[i6 ((Af (Eb y8) 415 ⟨(h:Int), -1⟩).e),i6 ((Af (Eb y8) 415 ⟨(h:Int), -1⟩).Ag.First),i6 ((Af (Eb y8) 415 ⟨(h:Int), -1⟩).Ag.Second),i6 ((Af false 416 ⟨(h:Int), -1⟩).e),i6 ((Af false 416 ⟨(h:Int), -1⟩).Ag.First),i6 ((Af false 416 ⟨(h:Int), -1⟩).Ag.Second),i6 ((Af (win ((Bz c (h:Int):Nat):Int) 1 (A8 y8)) 417 ⟨(h:Int), -1⟩).e),i6 ((Af (win ((Bz c (h:Int):Nat):Int) 1 (A8 y8)) 417 ⟨(h:Int), -1⟩).Ag.First),i6 ((Af (win ((Bz c (h:Int):Nat):Int) 1 (A8 y8)) 417 ⟨(h:Int), -1⟩).Ag.Second)] 132
abbrev qt5j_2:=bk n205 #[i6 ((Af (Eb y8) 415 ⟨(h:Int), -1⟩).e),i6 ((Af (Eb y8) 415 ⟨(h:Int), -1⟩).Ag.First),i6 ((Af (Eb y8) 415 ⟨(h:Int), -1⟩).Ag.Second),i6 ((Af true 416 ⟨(h:Int), -1⟩).e),i6 ((Af true 416 ⟨(h:Int), -1⟩).Ag.First),i6 ((Af true 416 ⟨(h:Int), -1⟩).Ag.Second),i6 ((Af (win ((Bz c (h:Int):Nat):Int) 1 (A8 y8)) 417 ⟨(h:Int), -1⟩).e),i6 ((Af (win ((Bz c (h:Int):Nat):Int) 1 (A8 y8)) 417 ⟨(h:Int), -1⟩).Ag.First),i6 ((Af (win ((Bz c (h:Int):Nat):Int) 1 (A8 y8)) 417 ⟨(h:Int), -1⟩).Ag.Second)] 132
abbrev qt5j_3:=bk n49 #[i6 ((Af (Eb y8) 415 ⟨(h:Int), -1⟩).e),i6 ((Af (Eb y8) 415 ⟨(h:Int), -1⟩).Ag.First),i6 ((Af (Eb y8) 415 ⟨(h:Int), -1⟩).Ag.Second),i6 ((Af true 416 ⟨(h:Int), -1⟩).e),i6 ((Af true 416 ⟨(h:Int), -1⟩).Ag.First),i6 ((Af true 416 ⟨(h:Int), -1⟩).Ag.Second),i6 ((Af (win ((Bz c (h:Int):Nat):Int) 1 (A8 y8)) 417 ⟨(h:Int), -1⟩).e),i6 ((Af (win ((Bz c (h:Int):Nat):Int) 1 (A8 y8)) 417 ⟨(h:Int), -1⟩).Ag.First),i6 ((Af (win ((Bz c (h:Int):Nat):Int) 1 (A8 y8)) 417 ⟨(h:Int), -1⟩).Ag.Second)] 132
abbrev qt5j_4:=bk n114 #[i6 ((Af false 415 ⟨(h:Int), -1⟩).e),i6 ((Af false 415 ⟨(h:Int), -1⟩).Ag.First),i6 ((Af false 415 ⟨(h:Int), -1⟩).Ag.Second),i6 ((Af false 416 ⟨(h:Int), -1⟩).e),i6 ((Af false 416 ⟨(h:Int), -1⟩).Ag.First),i6 ((Af false 416 ⟨(h:Int), -1⟩).Ag.Second),i6 ((Af (win ((Bz c (h:Int):Nat):Int) 1 (A8 y8)) 417 ⟨(h:Int), -1⟩).e),i6 ((Af (win ((Bz c (h:Int):Nat):Int) 1 (A8 y8)) 417 ⟨(h:Int), -1⟩).Ag.First),i6 ((Af (win ((Bz c (h:Int):Nat):Int) 1 (A8 y8)) 417 ⟨(h:Int), -1⟩).Ag.Second)] 132
abbrev qt5j_5:=bk n160 #[i6 ((Af false 415 ⟨(h:Int), -1⟩).e),i6 ((Af false 415 ⟨(h:Int), -1⟩).Ag.First),i6 ((Af false 415 ⟨(h:Int), -1⟩).Ag.Second),i6 ((Af false 416 ⟨(h:Int), -1⟩).e),i6 ((Af false 416 ⟨(h:Int), -1⟩).Ag.First),i6 ((Af false 416 ⟨(h:Int), -1⟩).Ag.Second),i6 ((Af (win ((Bz c (h:Int):Nat):Int) 1 (A8 y8)) 417 ⟨(h:Int), -1⟩).e),i6 ((Af (win ((Bz c (h:Int):Nat):Int) 1 (A8 y8)) 417 ⟨(h:Int), -1⟩).Ag.First),i6 ((Af (win ((Bz c (h:Int):Nat):Int) 1 (A8 y8)) 417 ⟨(h:Int), -1⟩).Ag.Second)] 132
abbrev qt5j_6:=bk n270 #[i6 ((Af false 415 ⟨(h:Int), -1⟩).e),i6 ((Af false 415 ⟨(h:Int), -1⟩).Ag.First),i6 ((Af false 415 ⟨(h:Int), -1⟩).Ag.Second),i6 ((Af false 416 ⟨(h:Int), -1⟩).e),i6 ((Af false 416 ⟨(h:Int), -1⟩).Ag.First),i6 ((Af false 416 ⟨(h:Int), -1⟩).Ag.Second),i6 ((Af (win ((Bz c (h:Int):Nat):Int) 1 (A8 y8)) 417 ⟨(h:Int), -1⟩).e),i6 ((Af (win ((Bz c (h:Int):Nat):Int) 1 (A8 y8)) 417 ⟨(h:Int), -1⟩).Ag.First),i6 ((Af (win ((Bz c (h:Int):Nat):Int) 1 (A8 y8)) 417 ⟨(h:Int), -1⟩).Ag.Second)] 132
abbrev qt5j_7:=bk n316 #[i6 ((Af false 415 ⟨(h:Int), -1⟩).e),i6 ((Af false 415 ⟨(h:Int), -1⟩).Ag.First),i6 ((Af false 415 ⟨(h:Int), -1⟩).Ag.Second),i6 ((Af false 416 ⟨(h:Int), -1⟩).e),i6 ((Af false 416 ⟨(h:Int), -1⟩).Ag.First),i6 ((Af false 416 ⟨(h:Int), -1⟩).Ag.Second),i6 ((Af (win ((Bz c (h:Int):Nat):Int) 1 (A8 y8)) 417 ⟨(h:Int), -1⟩).e),i6 ((Af (win ((Bz c (h:Int):Nat):Int) 1 (A8 y8)) 417 ⟨(h:Int), -1⟩).Ag.First),i6 ((Af (win ((Bz c (h:Int):Nat):Int) 1 (A8 y8)) 417 ⟨(h:Int), -1⟩).Ag.Second)] 132
abbrev qt5j_8:=bk n141 #[i6 ((Af false 415 ⟨(h:Int), -1⟩).e),i6 ((Af false 415 ⟨(h:Int), -1⟩).Ag.First),i6 ((Af false 415 ⟨(h:Int), -1⟩).Ag.Second),i6 ((Af true 416 ⟨(h:Int), -1⟩).e),i6 ((Af true 416 ⟨(h:Int), -1⟩).Ag.First),i6 ((Af true 416 ⟨(h:Int), -1⟩).Ag.Second),i6 ((Af (win ((Bz c (h:Int):Nat):Int) 1 (A8 y8)) 417 ⟨(h:Int), -1⟩).e),i6 ((Af (win ((Bz c (h:Int):Nat):Int) 1 (A8 y8)) 417 ⟨(h:Int), -1⟩).Ag.First),i6 ((Af (win ((Bz c (h:Int):Nat):Int) 1 (A8 y8)) 417 ⟨(h:Int), -1⟩).Ag.Second)] 132
abbrev qt5j_9:=bk n251 #[i6 ((Af false 415 ⟨(h:Int), -1⟩).e),i6 ((Af false 415 ⟨(h:Int), -1⟩).Ag.First),i6 ((Af false 415 ⟨(h:Int), -1⟩).Ag.Second),i6 ((Af true 416 ⟨(h:Int), -1⟩).e),i6 ((Af true 416 ⟨(h:Int), -1⟩).Ag.First),i6 ((Af true 416 ⟨(h:Int), -1⟩).Ag.Second),i6 ((Af (win ((Bz c (h:Int):Nat):Int) 1 (A8 y8)) 417 ⟨(h:Int), -1⟩).e),i6 ((Af (win ((Bz c (h:Int):Nat):Int) 1 (A8 y8)) 417 ⟨(h:Int), -1⟩).Ag.First),i6 ((Af (win ((Bz c (h:Int):Nat):Int) 1 (A8 y8)) 417 ⟨(h:Int), -1⟩).Ag.Second)] 132
abbrev qt5j_10:=bk n297 #[i6 ((Af false 415 ⟨(h:Int), -1⟩).e),i6 ((Af false 415 ⟨(h:Int), -1⟩).Ag.First),i6 ((Af false 415 ⟨(h:Int), -1⟩).Ag.Second),i6 ((Af true 416 ⟨(h:Int), -1⟩).e),i6 ((Af true 416 ⟨(h:Int), -1⟩).Ag.First),i6 ((Af true 416 ⟨(h:Int), -1⟩).Ag.Second),i6 ((Af (win ((Bz c (h:Int):Nat):Int) 1 (A8 y8)) 417 ⟨(h:Int), -1⟩).e),i6 ((Af (win ((Bz c (h:Int):Nat):Int) 1 (A8 y8)) 417 ⟨(h:Int), -1⟩).Ag.First),i6 ((Af (win ((Bz c (h:Int):Nat):Int) 1 (A8 y8)) 417 ⟨(h:Int), -1⟩).Ag.Second)] 132
abbrev qt5j_11:=bk n95 #[i6 ((Af false 415 ⟨(h:Int), -1⟩).e),i6 ((Af false 415 ⟨(h:Int), -1⟩).Ag.First),i6 ((Af false 415 ⟨(h:Int), -1⟩).Ag.Second),i6 ((Af true 416 ⟨(h:Int), -1⟩).e),i6 ((Af true 416 ⟨(h:Int), -1⟩).Ag.First),i6 ((Af true 416 ⟨(h:Int), -1⟩).Ag.Second),i6 ((Af (win ((Bz c (h:Int):Nat):Int) 1 (A8 y8)) 417 ⟨(h:Int), -1⟩).e),i6 ((Af (win ((Bz c (h:Int):Nat):Int) 1 (A8 y8)) 417 ⟨(h:Int), -1⟩).Ag.First),i6 ((Af (win ((Bz c (h:Int):Nat):Int) 1 (A8 y8)) 417 ⟨(h:Int), -1⟩).Ag.Second)] 132
abbrev qt5j_12:Ch:= .blk (z+1) (.cells (Am.arr (AY [(Af (Eb y8) 415 ⟨(h:Int), -1⟩),(Af false 416 ⟨(h:Int), -1⟩),(Af (win ((Bz c (h:Int):Nat):Int) 1 (A8 y8)) 417 ⟨(h:Int), -1⟩)])) 132 (0,0)) true
abbrev qt5j_13:Ch:= .blk (z+1) (.cells (Am.arr (AY [(Af (Eb y8) 415 ⟨(h:Int), -1⟩),(Af true 416 ⟨(h:Int), -1⟩),(Af (win ((Bz c (h:Int):Nat):Int) 1 (A8 y8)) 417 ⟨(h:Int), -1⟩)])) 132 (0,0)) true
abbrev XU:Ch:= .blk (z+1) (.cells (Am.arr (AY [(Af false 415 ⟨(h:Int), -1⟩),(Af false 416 ⟨(h:Int), -1⟩),(Af (win ((Bz c (h:Int):Nat):Int) 1 (A8 y8)) 417 ⟨(h:Int), -1⟩)])) 132 (0,0)) true
abbrev Yj:Ch:= .blk (z+1) (.cells (Am.arr (AY [(Af false 415 ⟨(h:Int), -1⟩),(Af true 416 ⟨(h:Int), -1⟩),(Af (win ((Bz c (h:Int):Nat):Int) 1 (A8 y8)) 417 ⟨(h:Int), -1⟩)])) 132 (0,0)) true
abbrev IK:=bk (z+1) #[i6 0,i6 0,i6 0] 132
abbrev FY:=bk (z+2) (Be.arr y8) 123
abbrev FM:=bk z (Ai.arr c) 26
abbrev Il:D7:=(51,.bool (win ((Bz c (h:Int):Nat):Int) 1 (A8 y8)))
abbrev II:D7:=(43,.agg (Am.arr (Af (Eb y8) 415 ⟨(h:Int), -1⟩)))
abbrev JJ:D7:=(48,.agg (Am.arr (Af false 416 ⟨(h:Int), -1⟩)))
abbrev EG:D7:=(43,.agg (Am.arr (Af false 415 ⟨(h:Int), -1⟩)))
abbrev JR:D7:=(48,.agg (Am.arr (Af true 416 ⟨(h:Int), -1⟩)))
abbrev TS:D7:=(42,.agg #[(Ac h),i6 (-1)])
abbrev Nq:D7:=(47,.agg #[(Ac h),i6 (-1)])
abbrev Ny:D7:=(53,.agg #[(Ac h),i6 (-1)])
abbrev Nl:=(49,i6 ((Bz c (h:Int):Nat):Int))
abbrev Hu:=(8,i6 ((IP c (h:Int):Nat):Int))
abbrev En:=(9,i6 ((Bz c (h:Int):Nat):Int))
abbrev Bg:=(4,pt (z+1))
abbrev Hm:=(5,pt (z+2))
end
theorem channel_calls(w:World)(hL:Js w)(c:Ai)(hc:Ai.ok Any w c)(h:Nat)(hh:h<c.Aj.xs.length)(hm:c.Aa.xs.length≤1024)(hq:∀ p,p<c.Aa.xs.length→(gd c.Aa.xs p).Ap.xs.length≤1024):Calls Tryd.prog 72 #[.agg (Ai.arr c),.int .i64 (h:Int)] w fun e w'=>e = .returned (.agg (Am.arr (Dp c h)))∧Ce (fun _=>False) w w':=by
 obtain⟨z,hz⟩:∃ z,z=w.heap.size:=⟨_,rfl⟩
 refine Bf (args:=[.agg (Ai.arr c),Ac h]) 57 ⟨w,z,[(Ak w)]⟩ Tryd.func72 rfl (by kernel_rfl) (by kernel_rfl) (Ed hz) ?_
 have hpl:=hc.Aj.1.len
 refine Di [0,1] [(0,.agg (Ai.arr c)),(1,Ac h)] ?_
 refine q_c 5 0 [] [[o0,o0]] [] [(1,Ac h),(2,pt z),(Bg z)] ⟨w,z+2,[(Ak w),(FM c z),(IK z)]⟩ rfl Ae ?_
 obtain⟨b1,o2,ha3,hF5,hc4⟩:=(hc.Aj).1.all (show 0<c.Aj.xs.length by omega)
 replace ha3:c.Aj.a=some ⟨b1,o2,none⟩:=ha3
 have hc6:=hc4 h (show h<c.Aj.xs.length by omega)
 have he7:=(hc.Aj).2 h (show h<c.Aj.xs.length by omega)
 obtain⟨y8,hy8⟩:∃ y_,y_=gd c.Aj.xs h:=⟨_,rfl⟩
 rw[←hy8]at he7 hc6
 refine q_c 4 0 [] [[o0,(EM 1 b1 o2 c.Aj),o0,(oi h),(ol 0 (Be.arr y8)),o0,(an 3 3)]] [Qb z,Ej b1 o2 c.Aj,Dc h,h<c.Aj.xs.length,BM,GN w b1 (o2+h*3) (Be.arr y8),Qb (z+2),Qb (z+2),Qb (z+2)] [(1,Ac h),(2,pt z),(Bg z),(Hm z)] ⟨w,z+3,[(Ak w),(FM c z),(IK z),(FY y8 z)]⟩ rfl ⟨rfl,Eg ha3,rfl,(by omega),rfl,Em hc6,rfl,rfl,rfl,Ae⟩ ?_
 by_cases h9:(y8.Dy:Int)=0
 ·refine Au 3 0 [] [[o0,(a1 3),oT,o0,o0]] [Qb (z+2),ET y8.Dy 0] [(1,Ac h),(2,pt z),(Bg z),(Hm z),(6,.bool true),(7,i6 4)] rfl ⟨rfl,et,Ae⟩ ?_
  refine UU (fun a w'=>∃ (n10:Nat),z+3≤n10∧St 57 [(1,Ac h),(2,pt z),(Bg z),(Hm z),(6,.bool (Eb y8)),(7,i6 (A8 y8))] [] ⟨w,n10,[(Ak w),(FM c z),(IK z),(FY y8 z)]⟩ a w') ?_ ?_
  ·refine CW ?_
   by_cases h12:(y8.Kind:Int)=2
   ·refine Au 5 2 [1] [[o0,(a1 3),oT],[o0,(a1 3)]] [Qb (z+2),ET y8.Kind 2,Qb (z+2)] [(1,Ac h),(2,pt z),(Bg z),(Hm z),(22,i6 y8.Dy)] rfl ⟨rfl,et,rfl,Ae⟩ ?_
    refine Ba 64 #[i6 y8.Dy,i6 1,i6 8] (some 23) (.bool (win y8.Dy 1 8)) (fun w13 hw13=>BZ w13 y8.Dy 1 8) (fun n14 (hn15:z+3≤n14) => ?_)
    refine AZ 1 0 [] [[o0,o0]] [] [(1,Ac h),(2,pt z),(Bg z),(Hm z),(6,.bool (win y8.Dy 1 8)),(7,i6 1)] rfl Ae ?_
    have e6:Eb y8=win y8.Dy 1 8:=(if_pos h12).trans (by first | rfl | exact decide_eq_true (by assumption) | exact decide_eq_false (by assumption))
    have e7:A8 y8=1:=if_pos h12
    refine BI [1,2,4,5,6,7] [(1,Ac h),(2,pt z),(Bg z),(Hm z),(6,.bool (win y8.Dy 1 8)),(7,i6 1)] ?_
    refine BR (fun a w' hs=>⟨n14,by omega,(by(try dsimp only[IK,FY,FM,Bg,Hm]at hs ⊢);rw[e6,e7];exact hs)⟩)
   refine Au 5 0 [0] [[o0,(a1 3),oF]] [Qb (z+2),EF y8.Kind 2] [(1,Ac h),(2,pt z),(Bg z),(Hm z),(6,.bool true),(7,i6 4),(20,.bool false)] rfl ⟨rfl,ef,Ae⟩ ?_
   have e6:Eb y8=true:=(if_neg h12).trans (by first | rfl | exact decide_eq_true (by assumption) | exact decide_eq_false (by assumption))
   have e7:A8 y8=4:=if_neg h12
   refine BI [1,2,4,5,6,7] [(1,Ac h),(2,pt z),(Bg z),(Hm z),(6,.bool true),(7,i6 4)] ?_
   refine BR (fun a w' hs=>⟨(z+3),by omega,(by(try dsimp only[IK,FY,FM,Bg,Hm]at hs ⊢);rw[e6,e7];exact hs)⟩)
  rintro a w' ⟨n10,hn11,hs⟩
  refine(?_:G Tryd.prog 57 [(1,Ac h),(2,pt z),(Bg z),(Hm z),(6,.bool (Eb y8)),(7,i6 (A8 y8))] [] ⟨w,n10,[(Ak w),(FM c z),(IK z),(FY y8 z)]⟩ _ _ _) a w' hs
  clear hs a w'
  refine Au 2 2 [] [[(an 7 1),o0]] [Qb z,Qb z,Qb z,Qb z,Qb z,Qb z,Qb z] [(1,Ac h),(Bg z),(Hm z),(6,.bool (Eb y8)),(7,i6 (A8 y8)),(25,.agg (Ai.arr c)),(26,Ac h)] rfl ⟨rfl,rfl,rfl,rfl,rfl,rfl,rfl,Ae⟩ ?_
  refine Ba 93 #[.agg (Ai.arr c),Ac h] (some 27) (.tuple #[i6 ((IP c (h:Int):Nat):Int),i6 ((Bz c (h:Int):Nat):Int)]) (fun w16 hw16=>RQ w16 c (hc.ext (hw16.ext rfl) (fun _ h=>h)) (h:Int) hm hq) (fun n17 (hn18:n10≤n17) => ?_)
  refine AZ 4 2 [] [[o0,o0,o0,o0,o0],[o0,(a1 3)]] [Qb (z+2)] [(1,Ac h),(Bg z),(Hm z),(6,.bool (Eb y8)),(7,i6 (A8 y8)),(Hu h c),(En h c),(31,i6 y8.Kind)] rfl ⟨rfl,Ae⟩ ?_
  refine Ba 64 #[i6 y8.Kind,i6 1,i6 2] (some 32) (.bool (win y8.Kind 1 2)) (fun w19 hw19=>BZ w19 y8.Kind 1 2) (fun n20 (hn21:n17≤n20) => ?_)
  refine Dh [1,4,5,6,7,8,9,32] [(1,Ac h),(Bg z),(Hm z),(6,.bool (Eb y8)),(7,i6 (A8 y8)),(Hu h c),(En h c),(32,.bool (win y8.Kind 1 2))] ?_
  by_cases h22:(win y8.Kind 1 2)=true
  ·have hd23:=Dz h22
   refine AZ 0 3 [] [[(ov (.bool true)),o0,(a1 3)]] [Value.bool (win y8.Kind 1 2)=Value.bool true,Qb (z+2)] [(1,Ac h),(Bg z),(6,.bool (Eb y8)),(7,i6 (A8 y8)),(Hu h c),(En h c),(33,.bool true),(35,i6 y8.Words)] rfl ⟨(congrArg Value.bool h22),rfl,Ae⟩ ?_
   refine Ba 64 #[i6 y8.Words,i6 1,i6 16] (some 36) (.bool (win y8.Words 1 16)) (fun w24 hw24=>BZ w24 y8.Words 1 16) (fun n25 (hn26:n20≤n25) => ?_)
   refine Dh [1,4,6,7,8,9,33,36] [(1,Ac h),(Bg z),(6,.bool (Eb y8)),(7,i6 (A8 y8)),(Hu h c),(En h c),(33,.bool true),(36,.bool (win y8.Words 1 16))] ?_
   by_cases h27:(win y8.Words 1 16)=true
   ·have hd28:=Dz h27
    refine AZ 0 5 [] [[o0,(ov (.bool true)),o0,o0,o0]] [Value.bool (win y8.Words 1 16)=Value.bool true] [(1,Ac h),(Bg z),(7,i6 (A8 y8)),(Hu h c),(En h c),(40,.bool (Eb y8)),(41,Ac h)] rfl ⟨(congrArg Value.bool h27),Ae⟩ ?_
    refine Ba 89 #[(Ac h)] (some 42) (.agg #[(Ac h),i6 (-1)]) (fun w29 hw29=>D6 w29 (h:Int)) (fun n30 (hn31:n25≤n30) => ?_)
    refine Dh [1,4,7,8,9,40,42] [(1,Ac h),(Bg z),(7,i6 (A8 y8)),(Hu h c),(En h c),(40,.bool (Eb y8)),(TS h)] ?_
    refine Ba 63 #[.bool (Eb y8),i6 415,.agg #[(Ac h),i6 (-1)]] (some 43) (.agg (Am.arr (Af (Eb y8) 415 ⟨(h:Int), -1⟩))) (fun w32 hw32=>Bo w32 (hL.ext (hw32.ext rfl)) (Eb y8) 415 (h:Int) (-1)) (fun n33 (hn34:n30≤n33) => ?_)
    refine Dh [1,4,7,8,9,43] [(1,Ac h),(Bg z),(7,i6 (A8 y8)),(Hu h c),(En h c),(II y8 h)] ?_
    by_cases h35:(((IP c (h:Int):Nat):Int):Int)=1
    ·refine AZ 0 3 [] [[o0,oT,o0]] [ET ((IP c (h:Int):Nat):Int) 1] [(1,Ac h),(Bg z),(7,i6 (A8 y8)),(En h c),(II y8 h),(45,.bool true),(46,Ac h)] rfl ⟨et,Ae⟩ ?_
     refine Ba 89 #[(Ac h)] (some 47) (.agg #[(Ac h),i6 (-1)]) (fun w36 hw36=>D6 w36 (h:Int)) (fun n37 (hn38:n33≤n37) => ?_)
     refine Dh [1,4,7,9,43,45,47] [(1,Ac h),(Bg z),(7,i6 (A8 y8)),(En h c),(II y8 h),(45,.bool true),(Nq h)] ?_
     refine Ba 63 #[.bool true,i6 416,.agg #[(Ac h),i6 (-1)]] (some 48) (.agg (Am.arr (Af true 416 ⟨(h:Int), -1⟩))) (fun w39 hw39=>Bo w39 (hL.ext (hw39.ext rfl)) true 416 (h:Int) (-1)) (fun n40 (hn41:n37≤n40) => ?_)
     refine AZ 0 2 [] [[o0,o0]] [] [(1,Ac h),(Bg z),(II y8 h),(JR h),(Nl h c),(50,i6 (A8 y8))] rfl Ae ?_
     refine Ba 64 #[i6 ((Bz c (h:Int):Nat):Int),i6 1,i6 (A8 y8)] (some 51) (.bool (win ((Bz c (h:Int):Nat):Int) 1 (A8 y8))) (fun w42 hw42=>BZ w42 ((Bz c (h:Int):Nat):Int) 1 (A8 y8)) (fun n43 (hn44:n40≤n43) => ?_)
     refine AZ 0 1 [] [[o0]] [] [(Bg z),(II y8 h),(JR h),(Il y8 h c),(52,Ac h)] rfl Ae ?_
     refine Ba 89 #[(Ac h)] (some 53) (.agg #[(Ac h),i6 (-1)]) (fun w45 hw45=>D6 w45 (h:Int)) (fun n46 (hn47:n43≤n46) => ?_)
     refine Dh [4,43,48,51,53] [(Bg z),(II y8 h),(JR h),(Il y8 h c),(Ny h)] ?_
     refine Ba 63 #[.bool (win ((Bz c (h:Int):Nat):Int) 1 (A8 y8)),i6 417,.agg #[(Ac h),i6 (-1)]] (some 54) (.agg (Am.arr (Af (win ((Bz c (h:Int):Nat):Int) 1 (A8 y8)) 417 ⟨(h:Int), -1⟩))) (fun w48 hw48=>Bo w48 (hL.ext (hw48.ext rfl)) (win ((Bz c (h:Int):Nat):Int) 1 (A8 y8)) 417 (h:Int) (-1)) (fun n49 (hn50:n46≤n49) => ?_)
     refine EI 0 1 [] [[o0]] [] [(Bg z),(55,.slice (some ⟨n49,0,none⟩) 3 3)] ⟨w,n49+1,[(Ak w),(FM c z),(IK z),(FY y8 z),(qt5j_3 y8 h c n49)]⟩ rfl Ae ?_
     refine Ba 87 #[.slice (some ⟨n49,0,none⟩) 3 3] (some 56) (.agg (Am.arr (AY [(Af (Eb y8) 415 ⟨(h:Int), -1⟩),(Af true 416 ⟨(h:Int), -1⟩),(Af (win ((Bz c (h:Int):Nat):Int) 1 (A8 y8)) 417 ⟨(h:Int), -1⟩)]))) (fun w51 hw51=>DD w51 (hL.ext (hw51.ext rfl)) ⟨some ⟨n49,0,none⟩,3,[(Af (Eb y8) 415 ⟨(h:Int), -1⟩),(Af true 416 ⟨(h:Int), -1⟩),(Af (win ((Bz c (h:Int):Nat):Int) 1 (A8 y8)) 417 ⟨(h:Int), -1⟩)]⟩ (E8 hw51 (i:=4) [(Af (Eb y8) 415 ⟨(h:Int), -1⟩),(Af true 416 ⟨(h:Int), -1⟩),(Af (win ((Bz c (h:Int):Nat):Int) 1 (A8 y8)) 417 ⟨(h:Int), -1⟩)]) (show 3≤1000 by decide)) (fun n52 (hn53:n49+1≤n52) => ?_)
     refine EI 3 0 [] [[(an 3 2)]] [Qb (z+1),Qb (z+1),Qb (z+1)] [(Bg z)] ⟨w,n52,[(Ak w),(FM c z),(qt5j_13 y8 h c z),(FY y8 z),(qt5j_3 y8 h c n49)]⟩ rfl ⟨rfl,rfl,rfl,Ae⟩ ?_
     refine Az [.at 2,.at 2,.at 2] [Qb (z+1),Qb (z+1),Qb (z+1)] (.agg #[i6 ((AY [(Af (Eb y8) 415 ⟨(h:Int), -1⟩),(Af true 416 ⟨(h:Int), -1⟩),(Af (win ((Bz c (h:Int):Nat):Int) 1 (A8 y8)) 417 ⟨(h:Int), -1⟩)]).e),i6 ((AY [(Af (Eb y8) 415 ⟨(h:Int), -1⟩),(Af true 416 ⟨(h:Int), -1⟩),(Af (win ((Bz c (h:Int):Nat):Int) 1 (A8 y8)) 417 ⟨(h:Int), -1⟩)]).Ag.First),i6 ((AY [(Af (Eb y8) 415 ⟨(h:Int), -1⟩),(Af true 416 ⟨(h:Int), -1⟩),(Af (win ((Bz c (h:Int):Nat):Int) 1 (A8 y8)) 417 ⟨(h:Int), -1⟩)]).Ag.Second)]) ⟨rfl,rfl,rfl,Ae⟩ ?_
     intro w54 hw54
     have e0:LD c h=y8:=hy8.symm
     have eC:Dp c h=(AY [(Af (Eb y8) 415 ⟨(h:Int), -1⟩),(Af true 416 ⟨(h:Int), -1⟩),(Af (win ((Bz c (h:Int):Nat):Int) 1 (A8 y8)) 417 ⟨(h:Int), -1⟩)]):=by unfold Dp;simp only[e0];simp[h22,h27,h35]
     exact⟨congrArg (fun t=>Ending.returned (Value.agg (Am.arr t))) eC.symm,AB hw54⟩
    refine AZ 0 3 [] [[o0,oF,o0]] [EF ((IP c (h:Int):Nat):Int) 1] [(1,Ac h),(Bg z),(7,i6 (A8 y8)),(En h c),(II y8 h),(45,.bool false),(46,Ac h)] rfl ⟨ef,Ae⟩ ?_
    refine Ba 89 #[(Ac h)] (some 47) (.agg #[(Ac h),i6 (-1)]) (fun w55 hw55=>D6 w55 (h:Int)) (fun n56 (hn57:n33≤n56) => ?_)
    refine Dh [1,4,7,9,43,45,47] [(1,Ac h),(Bg z),(7,i6 (A8 y8)),(En h c),(II y8 h),(45,.bool false),(Nq h)] ?_
    refine Ba 63 #[.bool false,i6 416,.agg #[(Ac h),i6 (-1)]] (some 48) (.agg (Am.arr (Af false 416 ⟨(h:Int), -1⟩))) (fun w58 hw58=>Bo w58 (hL.ext (hw58.ext rfl)) false 416 (h:Int) (-1)) (fun n59 (hn60:n56≤n59) => ?_)
    refine AZ 0 2 [] [[o0,o0]] [] [(1,Ac h),(Bg z),(II y8 h),(JJ h),(Nl h c),(50,i6 (A8 y8))] rfl Ae ?_
    refine Ba 64 #[i6 ((Bz c (h:Int):Nat):Int),i6 1,i6 (A8 y8)] (some 51) (.bool (win ((Bz c (h:Int):Nat):Int) 1 (A8 y8))) (fun w61 hw61=>BZ w61 ((Bz c (h:Int):Nat):Int) 1 (A8 y8)) (fun n62 (hn63:n59≤n62) => ?_)
    refine AZ 0 1 [] [[o0]] [] [(Bg z),(II y8 h),(JJ h),(Il y8 h c),(52,Ac h)] rfl Ae ?_
    refine Ba 89 #[(Ac h)] (some 53) (.agg #[(Ac h),i6 (-1)]) (fun w64 hw64=>D6 w64 (h:Int)) (fun n65 (hn66:n62≤n65) => ?_)
    refine Dh [4,43,48,51,53] [(Bg z),(II y8 h),(JJ h),(Il y8 h c),(Ny h)] ?_
    refine Ba 63 #[.bool (win ((Bz c (h:Int):Nat):Int) 1 (A8 y8)),i6 417,.agg #[(Ac h),i6 (-1)]] (some 54) (.agg (Am.arr (Af (win ((Bz c (h:Int):Nat):Int) 1 (A8 y8)) 417 ⟨(h:Int), -1⟩))) (fun w67 hw67=>Bo w67 (hL.ext (hw67.ext rfl)) (win ((Bz c (h:Int):Nat):Int) 1 (A8 y8)) 417 (h:Int) (-1)) (fun n68 (hn69:n65≤n68) => ?_)
    refine EI 0 1 [] [[o0]] [] [(Bg z),(55,.slice (some ⟨n68,0,none⟩) 3 3)] ⟨w,n68+1,[(Ak w),(FM c z),(IK z),(FY y8 z),(qt5j_1 y8 h c n68)]⟩ rfl Ae ?_
    refine Ba 87 #[.slice (some ⟨n68,0,none⟩) 3 3] (some 56) (.agg (Am.arr (AY [(Af (Eb y8) 415 ⟨(h:Int), -1⟩),(Af false 416 ⟨(h:Int), -1⟩),(Af (win ((Bz c (h:Int):Nat):Int) 1 (A8 y8)) 417 ⟨(h:Int), -1⟩)]))) (fun w70 hw70=>DD w70 (hL.ext (hw70.ext rfl)) ⟨some ⟨n68,0,none⟩,3,[(Af (Eb y8) 415 ⟨(h:Int), -1⟩),(Af false 416 ⟨(h:Int), -1⟩),(Af (win ((Bz c (h:Int):Nat):Int) 1 (A8 y8)) 417 ⟨(h:Int), -1⟩)]⟩ (E8 hw70 (i:=4) [(Af (Eb y8) 415 ⟨(h:Int), -1⟩),(Af false 416 ⟨(h:Int), -1⟩),(Af (win ((Bz c (h:Int):Nat):Int) 1 (A8 y8)) 417 ⟨(h:Int), -1⟩)]) (show 3≤1000 by decide)) (fun n71 (hn72:n68+1≤n71) => ?_)
    refine EI 3 0 [] [[(an 3 2)]] [Qb (z+1),Qb (z+1),Qb (z+1)] [(Bg z)] ⟨w,n71,[(Ak w),(FM c z),(qt5j_12 y8 h c z),(FY y8 z),(qt5j_1 y8 h c n68)]⟩ rfl ⟨rfl,rfl,rfl,Ae⟩ ?_
    refine Az [.at 2,.at 2,.at 2] [Qb (z+1),Qb (z+1),Qb (z+1)] (.agg #[i6 ((AY [(Af (Eb y8) 415 ⟨(h:Int), -1⟩),(Af false 416 ⟨(h:Int), -1⟩),(Af (win ((Bz c (h:Int):Nat):Int) 1 (A8 y8)) 417 ⟨(h:Int), -1⟩)]).e),i6 ((AY [(Af (Eb y8) 415 ⟨(h:Int), -1⟩),(Af false 416 ⟨(h:Int), -1⟩),(Af (win ((Bz c (h:Int):Nat):Int) 1 (A8 y8)) 417 ⟨(h:Int), -1⟩)]).Ag.First),i6 ((AY [(Af (Eb y8) 415 ⟨(h:Int), -1⟩),(Af false 416 ⟨(h:Int), -1⟩),(Af (win ((Bz c (h:Int):Nat):Int) 1 (A8 y8)) 417 ⟨(h:Int), -1⟩)]).Ag.Second)]) ⟨rfl,rfl,rfl,Ae⟩ ?_
    intro w73 hw73
    have e0:LD c h=y8:=hy8.symm
    have eC:Dp c h=(AY [(Af (Eb y8) 415 ⟨(h:Int), -1⟩),(Af false 416 ⟨(h:Int), -1⟩),(Af (win ((Bz c (h:Int):Nat):Int) 1 (A8 y8)) 417 ⟨(h:Int), -1⟩)]):=by unfold Dp;simp only[e0];simp[h22,h27,h35]
    exact⟨congrArg (fun t=>Ending.returned (Value.agg (Am.arr t))) eC.symm,AB hw73⟩
   have hd74:=FI h27
   refine AZ 0 5 [] [[o0,(ov (.bool false)),o0,o0]] [Value.bool (win y8.Words 1 16)=Value.bool false] [(1,Ac h),(Bg z),(7,i6 (A8 y8)),(Hu h c),(En h c),(40,.bool false),(41,Ac h)] rfl ⟨(congrArg Value.bool (Bool.eq_false_iff.2 h27)),Ae⟩ ?_
   refine Ba 89 #[(Ac h)] (some 42) (.agg #[(Ac h),i6 (-1)]) (fun w75 hw75=>D6 w75 (h:Int)) (fun n76 (hn77:n25≤n76) => ?_)
   refine Dh [1,4,7,8,9,40,42] [(1,Ac h),(Bg z),(7,i6 (A8 y8)),(Hu h c),(En h c),(40,.bool false),(TS h)] ?_
   refine Ba 63 #[.bool false,i6 415,.agg #[(Ac h),i6 (-1)]] (some 43) (.agg (Am.arr (Af false 415 ⟨(h:Int), -1⟩))) (fun w78 hw78=>Bo w78 (hL.ext (hw78.ext rfl)) false 415 (h:Int) (-1)) (fun n79 (hn80:n76≤n79) => ?_)
   refine Dh [1,4,7,8,9,43] [(1,Ac h),(Bg z),(7,i6 (A8 y8)),(Hu h c),(En h c),(EG h)] ?_
   by_cases h81:(((IP c (h:Int):Nat):Int):Int)=1
   ·refine AZ 0 3 [] [[o0,oT,o0]] [ET ((IP c (h:Int):Nat):Int) 1] [(1,Ac h),(Bg z),(7,i6 (A8 y8)),(En h c),(EG h),(45,.bool true),(46,Ac h)] rfl ⟨et,Ae⟩ ?_
    refine Ba 89 #[(Ac h)] (some 47) (.agg #[(Ac h),i6 (-1)]) (fun w82 hw82=>D6 w82 (h:Int)) (fun n83 (hn84:n79≤n83) => ?_)
    refine Dh [1,4,7,9,43,45,47] [(1,Ac h),(Bg z),(7,i6 (A8 y8)),(En h c),(EG h),(45,.bool true),(Nq h)] ?_
    refine Ba 63 #[.bool true,i6 416,.agg #[(Ac h),i6 (-1)]] (some 48) (.agg (Am.arr (Af true 416 ⟨(h:Int), -1⟩))) (fun w85 hw85=>Bo w85 (hL.ext (hw85.ext rfl)) true 416 (h:Int) (-1)) (fun n86 (hn87:n83≤n86) => ?_)
    refine AZ 0 2 [] [[o0,o0]] [] [(1,Ac h),(Bg z),(EG h),(JR h),(Nl h c),(50,i6 (A8 y8))] rfl Ae ?_
    refine Ba 64 #[i6 ((Bz c (h:Int):Nat):Int),i6 1,i6 (A8 y8)] (some 51) (.bool (win ((Bz c (h:Int):Nat):Int) 1 (A8 y8))) (fun w88 hw88=>BZ w88 ((Bz c (h:Int):Nat):Int) 1 (A8 y8)) (fun n89 (hn90:n86≤n89) => ?_)
    refine AZ 0 1 [] [[o0]] [] [(Bg z),(EG h),(JR h),(Il y8 h c),(52,Ac h)] rfl Ae ?_
    refine Ba 89 #[(Ac h)] (some 53) (.agg #[(Ac h),i6 (-1)]) (fun w91 hw91=>D6 w91 (h:Int)) (fun n92 (hn93:n89≤n92) => ?_)
    refine Dh [4,43,48,51,53] [(Bg z),(EG h),(JR h),(Il y8 h c),(Ny h)] ?_
    refine Ba 63 #[.bool (win ((Bz c (h:Int):Nat):Int) 1 (A8 y8)),i6 417,.agg #[(Ac h),i6 (-1)]] (some 54) (.agg (Am.arr (Af (win ((Bz c (h:Int):Nat):Int) 1 (A8 y8)) 417 ⟨(h:Int), -1⟩))) (fun w94 hw94=>Bo w94 (hL.ext (hw94.ext rfl)) (win ((Bz c (h:Int):Nat):Int) 1 (A8 y8)) 417 (h:Int) (-1)) (fun n95 (hn96:n92≤n95) => ?_)
    refine EI 0 1 [] [[o0]] [] [(Bg z),(55,.slice (some ⟨n95,0,none⟩) 3 3)] ⟨w,n95+1,[(Ak w),(FM c z),(IK z),(FY y8 z),(qt5j_11 y8 h c n95)]⟩ rfl Ae ?_
    refine Ba 87 #[.slice (some ⟨n95,0,none⟩) 3 3] (some 56) (.agg (Am.arr (AY [(Af false 415 ⟨(h:Int), -1⟩),(Af true 416 ⟨(h:Int), -1⟩),(Af (win ((Bz c (h:Int):Nat):Int) 1 (A8 y8)) 417 ⟨(h:Int), -1⟩)]))) (fun w97 hw97=>DD w97 (hL.ext (hw97.ext rfl)) ⟨some ⟨n95,0,none⟩,3,[(Af false 415 ⟨(h:Int), -1⟩),(Af true 416 ⟨(h:Int), -1⟩),(Af (win ((Bz c (h:Int):Nat):Int) 1 (A8 y8)) 417 ⟨(h:Int), -1⟩)]⟩ (E8 hw97 (i:=4) [(Af false 415 ⟨(h:Int), -1⟩),(Af true 416 ⟨(h:Int), -1⟩),(Af (win ((Bz c (h:Int):Nat):Int) 1 (A8 y8)) 417 ⟨(h:Int), -1⟩)]) (show 3≤1000 by decide)) (fun n98 (hn99:n95+1≤n98) => ?_)
    refine EI 3 0 [] [[(an 3 2)]] [Qb (z+1),Qb (z+1),Qb (z+1)] [(Bg z)] ⟨w,n98,[(Ak w),(FM c z),(Yj y8 h c z),(FY y8 z),(qt5j_11 y8 h c n95)]⟩ rfl ⟨rfl,rfl,rfl,Ae⟩ ?_
    refine Az [.at 2,.at 2,.at 2] [Qb (z+1),Qb (z+1),Qb (z+1)] (.agg #[i6 ((AY [(Af false 415 ⟨(h:Int), -1⟩),(Af true 416 ⟨(h:Int), -1⟩),(Af (win ((Bz c (h:Int):Nat):Int) 1 (A8 y8)) 417 ⟨(h:Int), -1⟩)]).e),i6 ((AY [(Af false 415 ⟨(h:Int), -1⟩),(Af true 416 ⟨(h:Int), -1⟩),(Af (win ((Bz c (h:Int):Nat):Int) 1 (A8 y8)) 417 ⟨(h:Int), -1⟩)]).Ag.First),i6 ((AY [(Af false 415 ⟨(h:Int), -1⟩),(Af true 416 ⟨(h:Int), -1⟩),(Af (win ((Bz c (h:Int):Nat):Int) 1 (A8 y8)) 417 ⟨(h:Int), -1⟩)]).Ag.Second)]) ⟨rfl,rfl,rfl,Ae⟩ ?_
    intro w100 hw100
    have e0:LD c h=y8:=hy8.symm
    have eC:Dp c h=(AY [(Af false 415 ⟨(h:Int), -1⟩),(Af true 416 ⟨(h:Int), -1⟩),(Af (win ((Bz c (h:Int):Nat):Int) 1 (A8 y8)) 417 ⟨(h:Int), -1⟩)]):=by unfold Dp;simp only[e0];simp[h22,h27,h81]
    exact⟨congrArg (fun t=>Ending.returned (Value.agg (Am.arr t))) eC.symm,AB hw100⟩
   refine AZ 0 3 [] [[o0,oF,o0]] [EF ((IP c (h:Int):Nat):Int) 1] [(1,Ac h),(Bg z),(7,i6 (A8 y8)),(En h c),(EG h),(45,.bool false),(46,Ac h)] rfl ⟨ef,Ae⟩ ?_
   refine Ba 89 #[(Ac h)] (some 47) (.agg #[(Ac h),i6 (-1)]) (fun w101 hw101=>D6 w101 (h:Int)) (fun n102 (hn103:n79≤n102) => ?_)
   refine Dh [1,4,7,9,43,45,47] [(1,Ac h),(Bg z),(7,i6 (A8 y8)),(En h c),(EG h),(45,.bool false),(Nq h)] ?_
   refine Ba 63 #[.bool false,i6 416,.agg #[(Ac h),i6 (-1)]] (some 48) (.agg (Am.arr (Af false 416 ⟨(h:Int), -1⟩))) (fun w104 hw104=>Bo w104 (hL.ext (hw104.ext rfl)) false 416 (h:Int) (-1)) (fun n105 (hn106:n102≤n105) => ?_)
   refine AZ 0 2 [] [[o0,o0]] [] [(1,Ac h),(Bg z),(EG h),(JJ h),(Nl h c),(50,i6 (A8 y8))] rfl Ae ?_
   refine Ba 64 #[i6 ((Bz c (h:Int):Nat):Int),i6 1,i6 (A8 y8)] (some 51) (.bool (win ((Bz c (h:Int):Nat):Int) 1 (A8 y8))) (fun w107 hw107=>BZ w107 ((Bz c (h:Int):Nat):Int) 1 (A8 y8)) (fun n108 (hn109:n105≤n108) => ?_)
   refine AZ 0 1 [] [[o0]] [] [(Bg z),(EG h),(JJ h),(Il y8 h c),(52,Ac h)] rfl Ae ?_
   refine Ba 89 #[(Ac h)] (some 53) (.agg #[(Ac h),i6 (-1)]) (fun w110 hw110=>D6 w110 (h:Int)) (fun n111 (hn112:n108≤n111) => ?_)
   refine Dh [4,43,48,51,53] [(Bg z),(EG h),(JJ h),(Il y8 h c),(Ny h)] ?_
   refine Ba 63 #[.bool (win ((Bz c (h:Int):Nat):Int) 1 (A8 y8)),i6 417,.agg #[(Ac h),i6 (-1)]] (some 54) (.agg (Am.arr (Af (win ((Bz c (h:Int):Nat):Int) 1 (A8 y8)) 417 ⟨(h:Int), -1⟩))) (fun w113 hw113=>Bo w113 (hL.ext (hw113.ext rfl)) (win ((Bz c (h:Int):Nat):Int) 1 (A8 y8)) 417 (h:Int) (-1)) (fun n114 (hn115:n111≤n114) => ?_)
   refine EI 0 1 [] [[o0]] [] [(Bg z),(55,.slice (some ⟨n114,0,none⟩) 3 3)] ⟨w,n114+1,[(Ak w),(FM c z),(IK z),(FY y8 z),(qt5j_4 y8 h c n114)]⟩ rfl Ae ?_
   refine Ba 87 #[.slice (some ⟨n114,0,none⟩) 3 3] (some 56) (.agg (Am.arr (AY [(Af false 415 ⟨(h:Int), -1⟩),(Af false 416 ⟨(h:Int), -1⟩),(Af (win ((Bz c (h:Int):Nat):Int) 1 (A8 y8)) 417 ⟨(h:Int), -1⟩)]))) (fun w116 hw116=>DD w116 (hL.ext (hw116.ext rfl)) ⟨some ⟨n114,0,none⟩,3,[(Af false 415 ⟨(h:Int), -1⟩),(Af false 416 ⟨(h:Int), -1⟩),(Af (win ((Bz c (h:Int):Nat):Int) 1 (A8 y8)) 417 ⟨(h:Int), -1⟩)]⟩ (E8 hw116 (i:=4) [(Af false 415 ⟨(h:Int), -1⟩),(Af false 416 ⟨(h:Int), -1⟩),(Af (win ((Bz c (h:Int):Nat):Int) 1 (A8 y8)) 417 ⟨(h:Int), -1⟩)]) (show 3≤1000 by decide)) (fun n117 (hn118:n114+1≤n117) => ?_)
   refine EI 3 0 [] [[(an 3 2)]] [Qb (z+1),Qb (z+1),Qb (z+1)] [(Bg z)] ⟨w,n117,[(Ak w),(FM c z),(XU y8 h c z),(FY y8 z),(qt5j_4 y8 h c n114)]⟩ rfl ⟨rfl,rfl,rfl,Ae⟩ ?_
   refine Az [.at 2,.at 2,.at 2] [Qb (z+1),Qb (z+1),Qb (z+1)] (.agg #[i6 ((AY [(Af false 415 ⟨(h:Int), -1⟩),(Af false 416 ⟨(h:Int), -1⟩),(Af (win ((Bz c (h:Int):Nat):Int) 1 (A8 y8)) 417 ⟨(h:Int), -1⟩)]).e),i6 ((AY [(Af false 415 ⟨(h:Int), -1⟩),(Af false 416 ⟨(h:Int), -1⟩),(Af (win ((Bz c (h:Int):Nat):Int) 1 (A8 y8)) 417 ⟨(h:Int), -1⟩)]).Ag.First),i6 ((AY [(Af false 415 ⟨(h:Int), -1⟩),(Af false 416 ⟨(h:Int), -1⟩),(Af (win ((Bz c (h:Int):Nat):Int) 1 (A8 y8)) 417 ⟨(h:Int), -1⟩)]).Ag.Second)]) ⟨rfl,rfl,rfl,Ae⟩ ?_
   intro w119 hw119
   have e0:LD c h=y8:=hy8.symm
   have eC:Dp c h=(AY [(Af false 415 ⟨(h:Int), -1⟩),(Af false 416 ⟨(h:Int), -1⟩),(Af (win ((Bz c (h:Int):Nat):Int) 1 (A8 y8)) 417 ⟨(h:Int), -1⟩)]):=by unfold Dp;simp only[e0];simp[h22,h27,h81]
   exact⟨congrArg (fun t=>Ending.returned (Value.agg (Am.arr t))) eC.symm,AB hw119⟩
  have hd120:=FI h22
  refine AZ 0 9 [] [[(ov (.bool false)),o0,o0,o0,o0]] [Value.bool (win y8.Kind 1 2)=Value.bool false] [(1,Ac h),(Bg z),(7,i6 (A8 y8)),(Hu h c),(En h c),(40,.bool false),(41,Ac h)] rfl ⟨(congrArg Value.bool (Bool.eq_false_iff.2 h22)),Ae⟩ ?_
  refine Ba 89 #[(Ac h)] (some 42) (.agg #[(Ac h),i6 (-1)]) (fun w121 hw121=>D6 w121 (h:Int)) (fun n122 (hn123:n20≤n122) => ?_)
  refine Dh [1,4,7,8,9,40,42] [(1,Ac h),(Bg z),(7,i6 (A8 y8)),(Hu h c),(En h c),(40,.bool false),(TS h)] ?_
  refine Ba 63 #[.bool false,i6 415,.agg #[(Ac h),i6 (-1)]] (some 43) (.agg (Am.arr (Af false 415 ⟨(h:Int), -1⟩))) (fun w124 hw124=>Bo w124 (hL.ext (hw124.ext rfl)) false 415 (h:Int) (-1)) (fun n125 (hn126:n122≤n125) => ?_)
  refine Dh [1,4,7,8,9,43] [(1,Ac h),(Bg z),(7,i6 (A8 y8)),(Hu h c),(En h c),(EG h)] ?_
  by_cases h127:(((IP c (h:Int):Nat):Int):Int)=1
  ·refine AZ 0 3 [] [[o0,oT,o0]] [ET ((IP c (h:Int):Nat):Int) 1] [(1,Ac h),(Bg z),(7,i6 (A8 y8)),(En h c),(EG h),(45,.bool true),(46,Ac h)] rfl ⟨et,Ae⟩ ?_
   refine Ba 89 #[(Ac h)] (some 47) (.agg #[(Ac h),i6 (-1)]) (fun w128 hw128=>D6 w128 (h:Int)) (fun n129 (hn130:n125≤n129) => ?_)
   refine Dh [1,4,7,9,43,45,47] [(1,Ac h),(Bg z),(7,i6 (A8 y8)),(En h c),(EG h),(45,.bool true),(Nq h)] ?_
   refine Ba 63 #[.bool true,i6 416,.agg #[(Ac h),i6 (-1)]] (some 48) (.agg (Am.arr (Af true 416 ⟨(h:Int), -1⟩))) (fun w131 hw131=>Bo w131 (hL.ext (hw131.ext rfl)) true 416 (h:Int) (-1)) (fun n132 (hn133:n129≤n132) => ?_)
   refine AZ 0 2 [] [[o0,o0]] [] [(1,Ac h),(Bg z),(EG h),(JR h),(Nl h c),(50,i6 (A8 y8))] rfl Ae ?_
   refine Ba 64 #[i6 ((Bz c (h:Int):Nat):Int),i6 1,i6 (A8 y8)] (some 51) (.bool (win ((Bz c (h:Int):Nat):Int) 1 (A8 y8))) (fun w134 hw134=>BZ w134 ((Bz c (h:Int):Nat):Int) 1 (A8 y8)) (fun n135 (hn136:n132≤n135) => ?_)
   refine AZ 0 1 [] [[o0]] [] [(Bg z),(EG h),(JR h),(Il y8 h c),(52,Ac h)] rfl Ae ?_
   refine Ba 89 #[(Ac h)] (some 53) (.agg #[(Ac h),i6 (-1)]) (fun w137 hw137=>D6 w137 (h:Int)) (fun n138 (hn139:n135≤n138) => ?_)
   refine Dh [4,43,48,51,53] [(Bg z),(EG h),(JR h),(Il y8 h c),(Ny h)] ?_
   refine Ba 63 #[.bool (win ((Bz c (h:Int):Nat):Int) 1 (A8 y8)),i6 417,.agg #[(Ac h),i6 (-1)]] (some 54) (.agg (Am.arr (Af (win ((Bz c (h:Int):Nat):Int) 1 (A8 y8)) 417 ⟨(h:Int), -1⟩))) (fun w140 hw140=>Bo w140 (hL.ext (hw140.ext rfl)) (win ((Bz c (h:Int):Nat):Int) 1 (A8 y8)) 417 (h:Int) (-1)) (fun n141 (hn142:n138≤n141) => ?_)
   refine EI 0 1 [] [[o0]] [] [(Bg z),(55,.slice (some ⟨n141,0,none⟩) 3 3)] ⟨w,n141+1,[(Ak w),(FM c z),(IK z),(FY y8 z),(qt5j_8 y8 h c n141)]⟩ rfl Ae ?_
   refine Ba 87 #[.slice (some ⟨n141,0,none⟩) 3 3] (some 56) (.agg (Am.arr (AY [(Af false 415 ⟨(h:Int), -1⟩),(Af true 416 ⟨(h:Int), -1⟩),(Af (win ((Bz c (h:Int):Nat):Int) 1 (A8 y8)) 417 ⟨(h:Int), -1⟩)]))) (fun w143 hw143=>DD w143 (hL.ext (hw143.ext rfl)) ⟨some ⟨n141,0,none⟩,3,[(Af false 415 ⟨(h:Int), -1⟩),(Af true 416 ⟨(h:Int), -1⟩),(Af (win ((Bz c (h:Int):Nat):Int) 1 (A8 y8)) 417 ⟨(h:Int), -1⟩)]⟩ (E8 hw143 (i:=4) [(Af false 415 ⟨(h:Int), -1⟩),(Af true 416 ⟨(h:Int), -1⟩),(Af (win ((Bz c (h:Int):Nat):Int) 1 (A8 y8)) 417 ⟨(h:Int), -1⟩)]) (show 3≤1000 by decide)) (fun n144 (hn145:n141+1≤n144) => ?_)
   refine EI 3 0 [] [[(an 3 2)]] [Qb (z+1),Qb (z+1),Qb (z+1)] [(Bg z)] ⟨w,n144,[(Ak w),(FM c z),(Yj y8 h c z),(FY y8 z),(qt5j_8 y8 h c n141)]⟩ rfl ⟨rfl,rfl,rfl,Ae⟩ ?_
   refine Az [.at 2,.at 2,.at 2] [Qb (z+1),Qb (z+1),Qb (z+1)] (.agg #[i6 ((AY [(Af false 415 ⟨(h:Int), -1⟩),(Af true 416 ⟨(h:Int), -1⟩),(Af (win ((Bz c (h:Int):Nat):Int) 1 (A8 y8)) 417 ⟨(h:Int), -1⟩)]).e),i6 ((AY [(Af false 415 ⟨(h:Int), -1⟩),(Af true 416 ⟨(h:Int), -1⟩),(Af (win ((Bz c (h:Int):Nat):Int) 1 (A8 y8)) 417 ⟨(h:Int), -1⟩)]).Ag.First),i6 ((AY [(Af false 415 ⟨(h:Int), -1⟩),(Af true 416 ⟨(h:Int), -1⟩),(Af (win ((Bz c (h:Int):Nat):Int) 1 (A8 y8)) 417 ⟨(h:Int), -1⟩)]).Ag.Second)]) ⟨rfl,rfl,rfl,Ae⟩ ?_
   intro w146 hw146
   have e0:LD c h=y8:=hy8.symm
   have eC:Dp c h=(AY [(Af false 415 ⟨(h:Int), -1⟩),(Af true 416 ⟨(h:Int), -1⟩),(Af (win ((Bz c (h:Int):Nat):Int) 1 (A8 y8)) 417 ⟨(h:Int), -1⟩)]):=by unfold Dp;simp only[e0];simp[h22,h127]
   exact⟨congrArg (fun t=>Ending.returned (Value.agg (Am.arr t))) eC.symm,AB hw146⟩
  refine AZ 0 3 [] [[o0,oF,o0]] [EF ((IP c (h:Int):Nat):Int) 1] [(1,Ac h),(Bg z),(7,i6 (A8 y8)),(En h c),(EG h),(45,.bool false),(46,Ac h)] rfl ⟨ef,Ae⟩ ?_
  refine Ba 89 #[(Ac h)] (some 47) (.agg #[(Ac h),i6 (-1)]) (fun w147 hw147=>D6 w147 (h:Int)) (fun n148 (hn149:n125≤n148) => ?_)
  refine Dh [1,4,7,9,43,45,47] [(1,Ac h),(Bg z),(7,i6 (A8 y8)),(En h c),(EG h),(45,.bool false),(Nq h)] ?_
  refine Ba 63 #[.bool false,i6 416,.agg #[(Ac h),i6 (-1)]] (some 48) (.agg (Am.arr (Af false 416 ⟨(h:Int), -1⟩))) (fun w150 hw150=>Bo w150 (hL.ext (hw150.ext rfl)) false 416 (h:Int) (-1)) (fun n151 (hn152:n148≤n151) => ?_)
  refine AZ 0 2 [] [[o0,o0]] [] [(1,Ac h),(Bg z),(EG h),(JJ h),(Nl h c),(50,i6 (A8 y8))] rfl Ae ?_
  refine Ba 64 #[i6 ((Bz c (h:Int):Nat):Int),i6 1,i6 (A8 y8)] (some 51) (.bool (win ((Bz c (h:Int):Nat):Int) 1 (A8 y8))) (fun w153 hw153=>BZ w153 ((Bz c (h:Int):Nat):Int) 1 (A8 y8)) (fun n154 (hn155:n151≤n154) => ?_)
  refine AZ 0 1 [] [[o0]] [] [(Bg z),(EG h),(JJ h),(Il y8 h c),(52,Ac h)] rfl Ae ?_
  refine Ba 89 #[(Ac h)] (some 53) (.agg #[(Ac h),i6 (-1)]) (fun w156 hw156=>D6 w156 (h:Int)) (fun n157 (hn158:n154≤n157) => ?_)
  refine Dh [4,43,48,51,53] [(Bg z),(EG h),(JJ h),(Il y8 h c),(Ny h)] ?_
  refine Ba 63 #[.bool (win ((Bz c (h:Int):Nat):Int) 1 (A8 y8)),i6 417,.agg #[(Ac h),i6 (-1)]] (some 54) (.agg (Am.arr (Af (win ((Bz c (h:Int):Nat):Int) 1 (A8 y8)) 417 ⟨(h:Int), -1⟩))) (fun w159 hw159=>Bo w159 (hL.ext (hw159.ext rfl)) (win ((Bz c (h:Int):Nat):Int) 1 (A8 y8)) 417 (h:Int) (-1)) (fun n160 (hn161:n157≤n160) => ?_)
  refine EI 0 1 [] [[o0]] [] [(Bg z),(55,.slice (some ⟨n160,0,none⟩) 3 3)] ⟨w,n160+1,[(Ak w),(FM c z),(IK z),(FY y8 z),(qt5j_5 y8 h c n160)]⟩ rfl Ae ?_
  refine Ba 87 #[.slice (some ⟨n160,0,none⟩) 3 3] (some 56) (.agg (Am.arr (AY [(Af false 415 ⟨(h:Int), -1⟩),(Af false 416 ⟨(h:Int), -1⟩),(Af (win ((Bz c (h:Int):Nat):Int) 1 (A8 y8)) 417 ⟨(h:Int), -1⟩)]))) (fun w162 hw162=>DD w162 (hL.ext (hw162.ext rfl)) ⟨some ⟨n160,0,none⟩,3,[(Af false 415 ⟨(h:Int), -1⟩),(Af false 416 ⟨(h:Int), -1⟩),(Af (win ((Bz c (h:Int):Nat):Int) 1 (A8 y8)) 417 ⟨(h:Int), -1⟩)]⟩ (E8 hw162 (i:=4) [(Af false 415 ⟨(h:Int), -1⟩),(Af false 416 ⟨(h:Int), -1⟩),(Af (win ((Bz c (h:Int):Nat):Int) 1 (A8 y8)) 417 ⟨(h:Int), -1⟩)]) (show 3≤1000 by decide)) (fun n163 (hn164:n160+1≤n163) => ?_)
  refine EI 3 0 [] [[(an 3 2)]] [Qb (z+1),Qb (z+1),Qb (z+1)] [(Bg z)] ⟨w,n163,[(Ak w),(FM c z),(XU y8 h c z),(FY y8 z),(qt5j_5 y8 h c n160)]⟩ rfl ⟨rfl,rfl,rfl,Ae⟩ ?_
  refine Az [.at 2,.at 2,.at 2] [Qb (z+1),Qb (z+1),Qb (z+1)] (.agg #[i6 ((AY [(Af false 415 ⟨(h:Int), -1⟩),(Af false 416 ⟨(h:Int), -1⟩),(Af (win ((Bz c (h:Int):Nat):Int) 1 (A8 y8)) 417 ⟨(h:Int), -1⟩)]).e),i6 ((AY [(Af false 415 ⟨(h:Int), -1⟩),(Af false 416 ⟨(h:Int), -1⟩),(Af (win ((Bz c (h:Int):Nat):Int) 1 (A8 y8)) 417 ⟨(h:Int), -1⟩)]).Ag.First),i6 ((AY [(Af false 415 ⟨(h:Int), -1⟩),(Af false 416 ⟨(h:Int), -1⟩),(Af (win ((Bz c (h:Int):Nat):Int) 1 (A8 y8)) 417 ⟨(h:Int), -1⟩)]).Ag.Second)]) ⟨rfl,rfl,rfl,Ae⟩ ?_
  intro w165 hw165
  have e0:LD c h=y8:=hy8.symm
  have eC:Dp c h=(AY [(Af false 415 ⟨(h:Int), -1⟩),(Af false 416 ⟨(h:Int), -1⟩),(Af (win ((Bz c (h:Int):Nat):Int) 1 (A8 y8)) 417 ⟨(h:Int), -1⟩)]):=by unfold Dp;simp only[e0];simp[h22,h127]
  exact⟨congrArg (fun t=>Ending.returned (Value.agg (Am.arr t))) eC.symm,AB hw165⟩
 refine Au 3 0 [] [[o0,(a1 3),oF,o0,o0]] [Qb (z+2),EF y8.Dy 0] [(1,Ac h),(2,pt z),(Bg z),(Hm z),(6,.bool false),(7,i6 4)] rfl ⟨rfl,ef,Ae⟩ ?_
 refine UU (fun a w'=>∃ (n166:Nat),z+3≤n166∧St 57 [(1,Ac h),(2,pt z),(Bg z),(Hm z),(6,.bool (Eb y8)),(7,i6 (A8 y8))] [] ⟨w,n166,[(Ak w),(FM c z),(IK z),(FY y8 z)]⟩ a w') ?_ ?_
 ·refine CW ?_
  by_cases h168:(y8.Kind:Int)=2
  ·refine Au 5 2 [1] [[o0,(a1 3),oT],[o0,(a1 3)]] [Qb (z+2),ET y8.Kind 2,Qb (z+2)] [(1,Ac h),(2,pt z),(Bg z),(Hm z),(22,i6 y8.Dy)] rfl ⟨rfl,et,rfl,Ae⟩ ?_
   refine Ba 64 #[i6 y8.Dy,i6 1,i6 8] (some 23) (.bool (win y8.Dy 1 8)) (fun w169 hw169=>BZ w169 y8.Dy 1 8) (fun n170 (hn171:z+3≤n170) => ?_)
   refine AZ 1 0 [] [[o0,o0]] [] [(1,Ac h),(2,pt z),(Bg z),(Hm z),(6,.bool (win y8.Dy 1 8)),(7,i6 1)] rfl Ae ?_
   have e6:Eb y8=win y8.Dy 1 8:=(if_pos h168).trans (by first | rfl | exact decide_eq_true (by assumption) | exact decide_eq_false (by assumption))
   have e7:A8 y8=1:=if_pos h168
   refine BI [1,2,4,5,6,7] [(1,Ac h),(2,pt z),(Bg z),(Hm z),(6,.bool (win y8.Dy 1 8)),(7,i6 1)] ?_
   refine BR (fun a w' hs=>⟨n170,by omega,(by(try dsimp only[IK,FY,FM,Bg,Hm]at hs ⊢);rw[e6,e7];exact hs)⟩)
  refine Au 5 0 [0] [[o0,(a1 3),oF]] [Qb (z+2),EF y8.Kind 2] [(1,Ac h),(2,pt z),(Bg z),(Hm z),(6,.bool false),(7,i6 4),(20,.bool false)] rfl ⟨rfl,ef,Ae⟩ ?_
  have e6:Eb y8=false:=(if_neg h168).trans (by first | rfl | exact decide_eq_true (by assumption) | exact decide_eq_false (by assumption))
  have e7:A8 y8=4:=if_neg h168
  refine BI [1,2,4,5,6,7] [(1,Ac h),(2,pt z),(Bg z),(Hm z),(6,.bool false),(7,i6 4)] ?_
  refine BR (fun a w' hs=>⟨(z+3),by omega,(by(try dsimp only[IK,FY,FM,Bg,Hm]at hs ⊢);rw[e6,e7];exact hs)⟩)
 rintro a w' ⟨n166,hn167,hs⟩
 refine(?_:G Tryd.prog 57 [(1,Ac h),(2,pt z),(Bg z),(Hm z),(6,.bool (Eb y8)),(7,i6 (A8 y8))] [] ⟨w,n166,[(Ak w),(FM c z),(IK z),(FY y8 z)]⟩ _ _ _) a w' hs
 clear hs a w'
 refine Au 2 2 [] [[(an 7 1),o0]] [Qb z,Qb z,Qb z,Qb z,Qb z,Qb z,Qb z] [(1,Ac h),(Bg z),(Hm z),(6,.bool (Eb y8)),(7,i6 (A8 y8)),(25,.agg (Ai.arr c)),(26,Ac h)] rfl ⟨rfl,rfl,rfl,rfl,rfl,rfl,rfl,Ae⟩ ?_
 refine Ba 93 #[.agg (Ai.arr c),Ac h] (some 27) (.tuple #[i6 ((IP c (h:Int):Nat):Int),i6 ((Bz c (h:Int):Nat):Int)]) (fun w172 hw172=>RQ w172 c (hc.ext (hw172.ext rfl) (fun _ h=>h)) (h:Int) hm hq) (fun n173 (hn174:n166≤n173) => ?_)
 refine AZ 4 2 [] [[o0,o0,o0,o0,o0],[o0,(a1 3)]] [Qb (z+2)] [(1,Ac h),(Bg z),(Hm z),(6,.bool (Eb y8)),(7,i6 (A8 y8)),(Hu h c),(En h c),(31,i6 y8.Kind)] rfl ⟨rfl,Ae⟩ ?_
 refine Ba 64 #[i6 y8.Kind,i6 1,i6 2] (some 32) (.bool (win y8.Kind 1 2)) (fun w175 hw175=>BZ w175 y8.Kind 1 2) (fun n176 (hn177:n173≤n176) => ?_)
 refine Dh [1,4,5,6,7,8,9,32] [(1,Ac h),(Bg z),(Hm z),(6,.bool (Eb y8)),(7,i6 (A8 y8)),(Hu h c),(En h c),(32,.bool (win y8.Kind 1 2))] ?_
 by_cases h178:(win y8.Kind 1 2)=true
 ·have hd179:=Dz h178
  refine AZ 0 3 [] [[(ov (.bool true)),o0,(a1 3)]] [Value.bool (win y8.Kind 1 2)=Value.bool true,Qb (z+2)] [(1,Ac h),(Bg z),(6,.bool (Eb y8)),(7,i6 (A8 y8)),(Hu h c),(En h c),(33,.bool true),(35,i6 y8.Words)] rfl ⟨(congrArg Value.bool h178),rfl,Ae⟩ ?_
  refine Ba 64 #[i6 y8.Words,i6 1,i6 16] (some 36) (.bool (win y8.Words 1 16)) (fun w180 hw180=>BZ w180 y8.Words 1 16) (fun n181 (hn182:n176≤n181) => ?_)
  refine Dh [1,4,6,7,8,9,33,36] [(1,Ac h),(Bg z),(6,.bool (Eb y8)),(7,i6 (A8 y8)),(Hu h c),(En h c),(33,.bool true),(36,.bool (win y8.Words 1 16))] ?_
  by_cases h183:(win y8.Words 1 16)=true
  ·have hd184:=Dz h183
   refine AZ 0 5 [] [[o0,(ov (.bool true)),o0,o0,o0]] [Value.bool (win y8.Words 1 16)=Value.bool true] [(1,Ac h),(Bg z),(7,i6 (A8 y8)),(Hu h c),(En h c),(40,.bool (Eb y8)),(41,Ac h)] rfl ⟨(congrArg Value.bool h183),Ae⟩ ?_
   refine Ba 89 #[(Ac h)] (some 42) (.agg #[(Ac h),i6 (-1)]) (fun w185 hw185=>D6 w185 (h:Int)) (fun n186 (hn187:n181≤n186) => ?_)
   refine Dh [1,4,7,8,9,40,42] [(1,Ac h),(Bg z),(7,i6 (A8 y8)),(Hu h c),(En h c),(40,.bool (Eb y8)),(TS h)] ?_
   refine Ba 63 #[.bool (Eb y8),i6 415,.agg #[(Ac h),i6 (-1)]] (some 43) (.agg (Am.arr (Af (Eb y8) 415 ⟨(h:Int), -1⟩))) (fun w188 hw188=>Bo w188 (hL.ext (hw188.ext rfl)) (Eb y8) 415 (h:Int) (-1)) (fun n189 (hn190:n186≤n189) => ?_)
   refine Dh [1,4,7,8,9,43] [(1,Ac h),(Bg z),(7,i6 (A8 y8)),(Hu h c),(En h c),(II y8 h)] ?_
   by_cases h191:(((IP c (h:Int):Nat):Int):Int)=1
   ·refine AZ 0 3 [] [[o0,oT,o0]] [ET ((IP c (h:Int):Nat):Int) 1] [(1,Ac h),(Bg z),(7,i6 (A8 y8)),(En h c),(II y8 h),(45,.bool true),(46,Ac h)] rfl ⟨et,Ae⟩ ?_
    refine Ba 89 #[(Ac h)] (some 47) (.agg #[(Ac h),i6 (-1)]) (fun w192 hw192=>D6 w192 (h:Int)) (fun n193 (hn194:n189≤n193) => ?_)
    refine Dh [1,4,7,9,43,45,47] [(1,Ac h),(Bg z),(7,i6 (A8 y8)),(En h c),(II y8 h),(45,.bool true),(Nq h)] ?_
    refine Ba 63 #[.bool true,i6 416,.agg #[(Ac h),i6 (-1)]] (some 48) (.agg (Am.arr (Af true 416 ⟨(h:Int), -1⟩))) (fun w195 hw195=>Bo w195 (hL.ext (hw195.ext rfl)) true 416 (h:Int) (-1)) (fun n196 (hn197:n193≤n196) => ?_)
    refine AZ 0 2 [] [[o0,o0]] [] [(1,Ac h),(Bg z),(II y8 h),(JR h),(Nl h c),(50,i6 (A8 y8))] rfl Ae ?_
    refine Ba 64 #[i6 ((Bz c (h:Int):Nat):Int),i6 1,i6 (A8 y8)] (some 51) (.bool (win ((Bz c (h:Int):Nat):Int) 1 (A8 y8))) (fun w198 hw198=>BZ w198 ((Bz c (h:Int):Nat):Int) 1 (A8 y8)) (fun n199 (hn200:n196≤n199) => ?_)
    refine AZ 0 1 [] [[o0]] [] [(Bg z),(II y8 h),(JR h),(Il y8 h c),(52,Ac h)] rfl Ae ?_
    refine Ba 89 #[(Ac h)] (some 53) (.agg #[(Ac h),i6 (-1)]) (fun w201 hw201=>D6 w201 (h:Int)) (fun n202 (hn203:n199≤n202) => ?_)
    refine Dh [4,43,48,51,53] [(Bg z),(II y8 h),(JR h),(Il y8 h c),(Ny h)] ?_
    refine Ba 63 #[.bool (win ((Bz c (h:Int):Nat):Int) 1 (A8 y8)),i6 417,.agg #[(Ac h),i6 (-1)]] (some 54) (.agg (Am.arr (Af (win ((Bz c (h:Int):Nat):Int) 1 (A8 y8)) 417 ⟨(h:Int), -1⟩))) (fun w204 hw204=>Bo w204 (hL.ext (hw204.ext rfl)) (win ((Bz c (h:Int):Nat):Int) 1 (A8 y8)) 417 (h:Int) (-1)) (fun n205 (hn206:n202≤n205) => ?_)
    refine EI 0 1 [] [[o0]] [] [(Bg z),(55,.slice (some ⟨n205,0,none⟩) 3 3)] ⟨w,n205+1,[(Ak w),(FM c z),(IK z),(FY y8 z),(qt5j_2 y8 h c n205)]⟩ rfl Ae ?_
    refine Ba 87 #[.slice (some ⟨n205,0,none⟩) 3 3] (some 56) (.agg (Am.arr (AY [(Af (Eb y8) 415 ⟨(h:Int), -1⟩),(Af true 416 ⟨(h:Int), -1⟩),(Af (win ((Bz c (h:Int):Nat):Int) 1 (A8 y8)) 417 ⟨(h:Int), -1⟩)]))) (fun w207 hw207=>DD w207 (hL.ext (hw207.ext rfl)) ⟨some ⟨n205,0,none⟩,3,[(Af (Eb y8) 415 ⟨(h:Int), -1⟩),(Af true 416 ⟨(h:Int), -1⟩),(Af (win ((Bz c (h:Int):Nat):Int) 1 (A8 y8)) 417 ⟨(h:Int), -1⟩)]⟩ (E8 hw207 (i:=4) [(Af (Eb y8) 415 ⟨(h:Int), -1⟩),(Af true 416 ⟨(h:Int), -1⟩),(Af (win ((Bz c (h:Int):Nat):Int) 1 (A8 y8)) 417 ⟨(h:Int), -1⟩)]) (show 3≤1000 by decide)) (fun n208 (hn209:n205+1≤n208) => ?_)
    refine EI 3 0 [] [[(an 3 2)]] [Qb (z+1),Qb (z+1),Qb (z+1)] [(Bg z)] ⟨w,n208,[(Ak w),(FM c z),(qt5j_13 y8 h c z),(FY y8 z),(qt5j_2 y8 h c n205)]⟩ rfl ⟨rfl,rfl,rfl,Ae⟩ ?_
    refine Az [.at 2,.at 2,.at 2] [Qb (z+1),Qb (z+1),Qb (z+1)] (.agg #[i6 ((AY [(Af (Eb y8) 415 ⟨(h:Int), -1⟩),(Af true 416 ⟨(h:Int), -1⟩),(Af (win ((Bz c (h:Int):Nat):Int) 1 (A8 y8)) 417 ⟨(h:Int), -1⟩)]).e),i6 ((AY [(Af (Eb y8) 415 ⟨(h:Int), -1⟩),(Af true 416 ⟨(h:Int), -1⟩),(Af (win ((Bz c (h:Int):Nat):Int) 1 (A8 y8)) 417 ⟨(h:Int), -1⟩)]).Ag.First),i6 ((AY [(Af (Eb y8) 415 ⟨(h:Int), -1⟩),(Af true 416 ⟨(h:Int), -1⟩),(Af (win ((Bz c (h:Int):Nat):Int) 1 (A8 y8)) 417 ⟨(h:Int), -1⟩)]).Ag.Second)]) ⟨rfl,rfl,rfl,Ae⟩ ?_
    intro w210 hw210
    have e0:LD c h=y8:=hy8.symm
    have eC:Dp c h=(AY [(Af (Eb y8) 415 ⟨(h:Int), -1⟩),(Af true 416 ⟨(h:Int), -1⟩),(Af (win ((Bz c (h:Int):Nat):Int) 1 (A8 y8)) 417 ⟨(h:Int), -1⟩)]):=by unfold Dp;simp only[e0];simp[h178,h183,h191]
    exact⟨congrArg (fun t=>Ending.returned (Value.agg (Am.arr t))) eC.symm,AB hw210⟩
   refine AZ 0 3 [] [[o0,oF,o0]] [EF ((IP c (h:Int):Nat):Int) 1] [(1,Ac h),(Bg z),(7,i6 (A8 y8)),(En h c),(II y8 h),(45,.bool false),(46,Ac h)] rfl ⟨ef,Ae⟩ ?_
   refine Ba 89 #[(Ac h)] (some 47) (.agg #[(Ac h),i6 (-1)]) (fun w211 hw211=>D6 w211 (h:Int)) (fun n212 (hn213:n189≤n212) => ?_)
   refine Dh [1,4,7,9,43,45,47] [(1,Ac h),(Bg z),(7,i6 (A8 y8)),(En h c),(II y8 h),(45,.bool false),(Nq h)] ?_
   refine Ba 63 #[.bool false,i6 416,.agg #[(Ac h),i6 (-1)]] (some 48) (.agg (Am.arr (Af false 416 ⟨(h:Int), -1⟩))) (fun w214 hw214=>Bo w214 (hL.ext (hw214.ext rfl)) false 416 (h:Int) (-1)) (fun n215 (hn216:n212≤n215) => ?_)
   refine AZ 0 2 [] [[o0,o0]] [] [(1,Ac h),(Bg z),(II y8 h),(JJ h),(Nl h c),(50,i6 (A8 y8))] rfl Ae ?_
   refine Ba 64 #[i6 ((Bz c (h:Int):Nat):Int),i6 1,i6 (A8 y8)] (some 51) (.bool (win ((Bz c (h:Int):Nat):Int) 1 (A8 y8))) (fun w217 hw217=>BZ w217 ((Bz c (h:Int):Nat):Int) 1 (A8 y8)) (fun n218 (hn219:n215≤n218) => ?_)
   refine AZ 0 1 [] [[o0]] [] [(Bg z),(II y8 h),(JJ h),(Il y8 h c),(52,Ac h)] rfl Ae ?_
   refine Ba 89 #[(Ac h)] (some 53) (.agg #[(Ac h),i6 (-1)]) (fun w220 hw220=>D6 w220 (h:Int)) (fun n221 (hn222:n218≤n221) => ?_)
   refine Dh [4,43,48,51,53] [(Bg z),(II y8 h),(JJ h),(Il y8 h c),(Ny h)] ?_
   refine Ba 63 #[.bool (win ((Bz c (h:Int):Nat):Int) 1 (A8 y8)),i6 417,.agg #[(Ac h),i6 (-1)]] (some 54) (.agg (Am.arr (Af (win ((Bz c (h:Int):Nat):Int) 1 (A8 y8)) 417 ⟨(h:Int), -1⟩))) (fun w223 hw223=>Bo w223 (hL.ext (hw223.ext rfl)) (win ((Bz c (h:Int):Nat):Int) 1 (A8 y8)) 417 (h:Int) (-1)) (fun n224 (hn225:n221≤n224) => ?_)
   refine EI 0 1 [] [[o0]] [] [(Bg z),(55,.slice (some ⟨n224,0,none⟩) 3 3)] ⟨w,n224+1,[(Ak w),(FM c z),(IK z),(FY y8 z),(qt5j_0 n224 y8 h c)]⟩ rfl Ae ?_
   refine Ba 87 #[.slice (some ⟨n224,0,none⟩) 3 3] (some 56) (.agg (Am.arr (AY [(Af (Eb y8) 415 ⟨(h:Int), -1⟩),(Af false 416 ⟨(h:Int), -1⟩),(Af (win ((Bz c (h:Int):Nat):Int) 1 (A8 y8)) 417 ⟨(h:Int), -1⟩)]))) (fun w226 hw226=>DD w226 (hL.ext (hw226.ext rfl)) ⟨some ⟨n224,0,none⟩,3,[(Af (Eb y8) 415 ⟨(h:Int), -1⟩),(Af false 416 ⟨(h:Int), -1⟩),(Af (win ((Bz c (h:Int):Nat):Int) 1 (A8 y8)) 417 ⟨(h:Int), -1⟩)]⟩ (E8 hw226 (i:=4) [(Af (Eb y8) 415 ⟨(h:Int), -1⟩),(Af false 416 ⟨(h:Int), -1⟩),(Af (win ((Bz c (h:Int):Nat):Int) 1 (A8 y8)) 417 ⟨(h:Int), -1⟩)]) (show 3≤1000 by decide)) (fun n227 (hn228:n224+1≤n227) => ?_)
   refine EI 3 0 [] [[(an 3 2)]] [Qb (z+1),Qb (z+1),Qb (z+1)] [(Bg z)] ⟨w,n227,[(Ak w),(FM c z),(qt5j_12 y8 h c z),(FY y8 z),(qt5j_0 n224 y8 h c)]⟩ rfl ⟨rfl,rfl,rfl,Ae⟩ ?_
   refine Az [.at 2,.at 2,.at 2] [Qb (z+1),Qb (z+1),Qb (z+1)] (.agg #[i6 ((AY [(Af (Eb y8) 415 ⟨(h:Int), -1⟩),(Af false 416 ⟨(h:Int), -1⟩),(Af (win ((Bz c (h:Int):Nat):Int) 1 (A8 y8)) 417 ⟨(h:Int), -1⟩)]).e),i6 ((AY [(Af (Eb y8) 415 ⟨(h:Int), -1⟩),(Af false 416 ⟨(h:Int), -1⟩),(Af (win ((Bz c (h:Int):Nat):Int) 1 (A8 y8)) 417 ⟨(h:Int), -1⟩)]).Ag.First),i6 ((AY [(Af (Eb y8) 415 ⟨(h:Int), -1⟩),(Af false 416 ⟨(h:Int), -1⟩),(Af (win ((Bz c (h:Int):Nat):Int) 1 (A8 y8)) 417 ⟨(h:Int), -1⟩)]).Ag.Second)]) ⟨rfl,rfl,rfl,Ae⟩ ?_
   intro w229 hw229
   have e0:LD c h=y8:=hy8.symm
   have eC:Dp c h=(AY [(Af (Eb y8) 415 ⟨(h:Int), -1⟩),(Af false 416 ⟨(h:Int), -1⟩),(Af (win ((Bz c (h:Int):Nat):Int) 1 (A8 y8)) 417 ⟨(h:Int), -1⟩)]):=by unfold Dp;simp only[e0];simp[h178,h183,h191]
   exact⟨congrArg (fun t=>Ending.returned (Value.agg (Am.arr t))) eC.symm,AB hw229⟩
  have hd230:=FI h183
  refine AZ 0 5 [] [[o0,(ov (.bool false)),o0,o0]] [Value.bool (win y8.Words 1 16)=Value.bool false] [(1,Ac h),(Bg z),(7,i6 (A8 y8)),(Hu h c),(En h c),(40,.bool false),(41,Ac h)] rfl ⟨(congrArg Value.bool (Bool.eq_false_iff.2 h183)),Ae⟩ ?_
  refine Ba 89 #[(Ac h)] (some 42) (.agg #[(Ac h),i6 (-1)]) (fun w231 hw231=>D6 w231 (h:Int)) (fun n232 (hn233:n181≤n232) => ?_)
  refine Dh [1,4,7,8,9,40,42] [(1,Ac h),(Bg z),(7,i6 (A8 y8)),(Hu h c),(En h c),(40,.bool false),(TS h)] ?_
  refine Ba 63 #[.bool false,i6 415,.agg #[(Ac h),i6 (-1)]] (some 43) (.agg (Am.arr (Af false 415 ⟨(h:Int), -1⟩))) (fun w234 hw234=>Bo w234 (hL.ext (hw234.ext rfl)) false 415 (h:Int) (-1)) (fun n235 (hn236:n232≤n235) => ?_)
  refine Dh [1,4,7,8,9,43] [(1,Ac h),(Bg z),(7,i6 (A8 y8)),(Hu h c),(En h c),(EG h)] ?_
  by_cases h237:(((IP c (h:Int):Nat):Int):Int)=1
  ·refine AZ 0 3 [] [[o0,oT,o0]] [ET ((IP c (h:Int):Nat):Int) 1] [(1,Ac h),(Bg z),(7,i6 (A8 y8)),(En h c),(EG h),(45,.bool true),(46,Ac h)] rfl ⟨et,Ae⟩ ?_
   refine Ba 89 #[(Ac h)] (some 47) (.agg #[(Ac h),i6 (-1)]) (fun w238 hw238=>D6 w238 (h:Int)) (fun n239 (hn240:n235≤n239) => ?_)
   refine Dh [1,4,7,9,43,45,47] [(1,Ac h),(Bg z),(7,i6 (A8 y8)),(En h c),(EG h),(45,.bool true),(Nq h)] ?_
   refine Ba 63 #[.bool true,i6 416,.agg #[(Ac h),i6 (-1)]] (some 48) (.agg (Am.arr (Af true 416 ⟨(h:Int), -1⟩))) (fun w241 hw241=>Bo w241 (hL.ext (hw241.ext rfl)) true 416 (h:Int) (-1)) (fun n242 (hn243:n239≤n242) => ?_)
   refine AZ 0 2 [] [[o0,o0]] [] [(1,Ac h),(Bg z),(EG h),(JR h),(Nl h c),(50,i6 (A8 y8))] rfl Ae ?_
   refine Ba 64 #[i6 ((Bz c (h:Int):Nat):Int),i6 1,i6 (A8 y8)] (some 51) (.bool (win ((Bz c (h:Int):Nat):Int) 1 (A8 y8))) (fun w244 hw244=>BZ w244 ((Bz c (h:Int):Nat):Int) 1 (A8 y8)) (fun n245 (hn246:n242≤n245) => ?_)
   refine AZ 0 1 [] [[o0]] [] [(Bg z),(EG h),(JR h),(Il y8 h c),(52,Ac h)] rfl Ae ?_
   refine Ba 89 #[(Ac h)] (some 53) (.agg #[(Ac h),i6 (-1)]) (fun w247 hw247=>D6 w247 (h:Int)) (fun n248 (hn249:n245≤n248) => ?_)
   refine Dh [4,43,48,51,53] [(Bg z),(EG h),(JR h),(Il y8 h c),(Ny h)] ?_
   refine Ba 63 #[.bool (win ((Bz c (h:Int):Nat):Int) 1 (A8 y8)),i6 417,.agg #[(Ac h),i6 (-1)]] (some 54) (.agg (Am.arr (Af (win ((Bz c (h:Int):Nat):Int) 1 (A8 y8)) 417 ⟨(h:Int), -1⟩))) (fun w250 hw250=>Bo w250 (hL.ext (hw250.ext rfl)) (win ((Bz c (h:Int):Nat):Int) 1 (A8 y8)) 417 (h:Int) (-1)) (fun n251 (hn252:n248≤n251) => ?_)
   refine EI 0 1 [] [[o0]] [] [(Bg z),(55,.slice (some ⟨n251,0,none⟩) 3 3)] ⟨w,n251+1,[(Ak w),(FM c z),(IK z),(FY y8 z),(qt5j_9 y8 h c n251)]⟩ rfl Ae ?_
   refine Ba 87 #[.slice (some ⟨n251,0,none⟩) 3 3] (some 56) (.agg (Am.arr (AY [(Af false 415 ⟨(h:Int), -1⟩),(Af true 416 ⟨(h:Int), -1⟩),(Af (win ((Bz c (h:Int):Nat):Int) 1 (A8 y8)) 417 ⟨(h:Int), -1⟩)]))) (fun w253 hw253=>DD w253 (hL.ext (hw253.ext rfl)) ⟨some ⟨n251,0,none⟩,3,[(Af false 415 ⟨(h:Int), -1⟩),(Af true 416 ⟨(h:Int), -1⟩),(Af (win ((Bz c (h:Int):Nat):Int) 1 (A8 y8)) 417 ⟨(h:Int), -1⟩)]⟩ (E8 hw253 (i:=4) [(Af false 415 ⟨(h:Int), -1⟩),(Af true 416 ⟨(h:Int), -1⟩),(Af (win ((Bz c (h:Int):Nat):Int) 1 (A8 y8)) 417 ⟨(h:Int), -1⟩)]) (show 3≤1000 by decide)) (fun n254 (hn255:n251+1≤n254) => ?_)
   refine EI 3 0 [] [[(an 3 2)]] [Qb (z+1),Qb (z+1),Qb (z+1)] [(Bg z)] ⟨w,n254,[(Ak w),(FM c z),(Yj y8 h c z),(FY y8 z),(qt5j_9 y8 h c n251)]⟩ rfl ⟨rfl,rfl,rfl,Ae⟩ ?_
   refine Az [.at 2,.at 2,.at 2] [Qb (z+1),Qb (z+1),Qb (z+1)] (.agg #[i6 ((AY [(Af false 415 ⟨(h:Int), -1⟩),(Af true 416 ⟨(h:Int), -1⟩),(Af (win ((Bz c (h:Int):Nat):Int) 1 (A8 y8)) 417 ⟨(h:Int), -1⟩)]).e),i6 ((AY [(Af false 415 ⟨(h:Int), -1⟩),(Af true 416 ⟨(h:Int), -1⟩),(Af (win ((Bz c (h:Int):Nat):Int) 1 (A8 y8)) 417 ⟨(h:Int), -1⟩)]).Ag.First),i6 ((AY [(Af false 415 ⟨(h:Int), -1⟩),(Af true 416 ⟨(h:Int), -1⟩),(Af (win ((Bz c (h:Int):Nat):Int) 1 (A8 y8)) 417 ⟨(h:Int), -1⟩)]).Ag.Second)]) ⟨rfl,rfl,rfl,Ae⟩ ?_
   intro w256 hw256
   have e0:LD c h=y8:=hy8.symm
   have eC:Dp c h=(AY [(Af false 415 ⟨(h:Int), -1⟩),(Af true 416 ⟨(h:Int), -1⟩),(Af (win ((Bz c (h:Int):Nat):Int) 1 (A8 y8)) 417 ⟨(h:Int), -1⟩)]):=by unfold Dp;simp only[e0];simp[h178,h183,h237]
   exact⟨congrArg (fun t=>Ending.returned (Value.agg (Am.arr t))) eC.symm,AB hw256⟩
  refine AZ 0 3 [] [[o0,oF,o0]] [EF ((IP c (h:Int):Nat):Int) 1] [(1,Ac h),(Bg z),(7,i6 (A8 y8)),(En h c),(EG h),(45,.bool false),(46,Ac h)] rfl ⟨ef,Ae⟩ ?_
  refine Ba 89 #[(Ac h)] (some 47) (.agg #[(Ac h),i6 (-1)]) (fun w257 hw257=>D6 w257 (h:Int)) (fun n258 (hn259:n235≤n258) => ?_)
  refine Dh [1,4,7,9,43,45,47] [(1,Ac h),(Bg z),(7,i6 (A8 y8)),(En h c),(EG h),(45,.bool false),(Nq h)] ?_
  refine Ba 63 #[.bool false,i6 416,.agg #[(Ac h),i6 (-1)]] (some 48) (.agg (Am.arr (Af false 416 ⟨(h:Int), -1⟩))) (fun w260 hw260=>Bo w260 (hL.ext (hw260.ext rfl)) false 416 (h:Int) (-1)) (fun n261 (hn262:n258≤n261) => ?_)
  refine AZ 0 2 [] [[o0,o0]] [] [(1,Ac h),(Bg z),(EG h),(JJ h),(Nl h c),(50,i6 (A8 y8))] rfl Ae ?_
  refine Ba 64 #[i6 ((Bz c (h:Int):Nat):Int),i6 1,i6 (A8 y8)] (some 51) (.bool (win ((Bz c (h:Int):Nat):Int) 1 (A8 y8))) (fun w263 hw263=>BZ w263 ((Bz c (h:Int):Nat):Int) 1 (A8 y8)) (fun n264 (hn265:n261≤n264) => ?_)
  refine AZ 0 1 [] [[o0]] [] [(Bg z),(EG h),(JJ h),(Il y8 h c),(52,Ac h)] rfl Ae ?_
  refine Ba 89 #[(Ac h)] (some 53) (.agg #[(Ac h),i6 (-1)]) (fun w266 hw266=>D6 w266 (h:Int)) (fun n267 (hn268:n264≤n267) => ?_)
  refine Dh [4,43,48,51,53] [(Bg z),(EG h),(JJ h),(Il y8 h c),(Ny h)] ?_
  refine Ba 63 #[.bool (win ((Bz c (h:Int):Nat):Int) 1 (A8 y8)),i6 417,.agg #[(Ac h),i6 (-1)]] (some 54) (.agg (Am.arr (Af (win ((Bz c (h:Int):Nat):Int) 1 (A8 y8)) 417 ⟨(h:Int), -1⟩))) (fun w269 hw269=>Bo w269 (hL.ext (hw269.ext rfl)) (win ((Bz c (h:Int):Nat):Int) 1 (A8 y8)) 417 (h:Int) (-1)) (fun n270 (hn271:n267≤n270) => ?_)
  refine EI 0 1 [] [[o0]] [] [(Bg z),(55,.slice (some ⟨n270,0,none⟩) 3 3)] ⟨w,n270+1,[(Ak w),(FM c z),(IK z),(FY y8 z),(qt5j_6 y8 h c n270)]⟩ rfl Ae ?_
  refine Ba 87 #[.slice (some ⟨n270,0,none⟩) 3 3] (some 56) (.agg (Am.arr (AY [(Af false 415 ⟨(h:Int), -1⟩),(Af false 416 ⟨(h:Int), -1⟩),(Af (win ((Bz c (h:Int):Nat):Int) 1 (A8 y8)) 417 ⟨(h:Int), -1⟩)]))) (fun w272 hw272=>DD w272 (hL.ext (hw272.ext rfl)) ⟨some ⟨n270,0,none⟩,3,[(Af false 415 ⟨(h:Int), -1⟩),(Af false 416 ⟨(h:Int), -1⟩),(Af (win ((Bz c (h:Int):Nat):Int) 1 (A8 y8)) 417 ⟨(h:Int), -1⟩)]⟩ (E8 hw272 (i:=4) [(Af false 415 ⟨(h:Int), -1⟩),(Af false 416 ⟨(h:Int), -1⟩),(Af (win ((Bz c (h:Int):Nat):Int) 1 (A8 y8)) 417 ⟨(h:Int), -1⟩)]) (show 3≤1000 by decide)) (fun n273 (hn274:n270+1≤n273) => ?_)
  refine EI 3 0 [] [[(an 3 2)]] [Qb (z+1),Qb (z+1),Qb (z+1)] [(Bg z)] ⟨w,n273,[(Ak w),(FM c z),(XU y8 h c z),(FY y8 z),(qt5j_6 y8 h c n270)]⟩ rfl ⟨rfl,rfl,rfl,Ae⟩ ?_
  refine Az [.at 2,.at 2,.at 2] [Qb (z+1),Qb (z+1),Qb (z+1)] (.agg #[i6 ((AY [(Af false 415 ⟨(h:Int), -1⟩),(Af false 416 ⟨(h:Int), -1⟩),(Af (win ((Bz c (h:Int):Nat):Int) 1 (A8 y8)) 417 ⟨(h:Int), -1⟩)]).e),i6 ((AY [(Af false 415 ⟨(h:Int), -1⟩),(Af false 416 ⟨(h:Int), -1⟩),(Af (win ((Bz c (h:Int):Nat):Int) 1 (A8 y8)) 417 ⟨(h:Int), -1⟩)]).Ag.First),i6 ((AY [(Af false 415 ⟨(h:Int), -1⟩),(Af false 416 ⟨(h:Int), -1⟩),(Af (win ((Bz c (h:Int):Nat):Int) 1 (A8 y8)) 417 ⟨(h:Int), -1⟩)]).Ag.Second)]) ⟨rfl,rfl,rfl,Ae⟩ ?_
  intro w275 hw275
  have e0:LD c h=y8:=hy8.symm
  have eC:Dp c h=(AY [(Af false 415 ⟨(h:Int), -1⟩),(Af false 416 ⟨(h:Int), -1⟩),(Af (win ((Bz c (h:Int):Nat):Int) 1 (A8 y8)) 417 ⟨(h:Int), -1⟩)]):=by unfold Dp;simp only[e0];simp[h178,h183,h237]
  exact⟨congrArg (fun t=>Ending.returned (Value.agg (Am.arr t))) eC.symm,AB hw275⟩
 have hd276:=FI h178
 refine AZ 0 9 [] [[(ov (.bool false)),o0,o0,o0,o0]] [Value.bool (win y8.Kind 1 2)=Value.bool false] [(1,Ac h),(Bg z),(7,i6 (A8 y8)),(Hu h c),(En h c),(40,.bool false),(41,Ac h)] rfl ⟨(congrArg Value.bool (Bool.eq_false_iff.2 h178)),Ae⟩ ?_
 refine Ba 89 #[(Ac h)] (some 42) (.agg #[(Ac h),i6 (-1)]) (fun w277 hw277=>D6 w277 (h:Int)) (fun n278 (hn279:n176≤n278) => ?_)
 refine Dh [1,4,7,8,9,40,42] [(1,Ac h),(Bg z),(7,i6 (A8 y8)),(Hu h c),(En h c),(40,.bool false),(TS h)] ?_
 refine Ba 63 #[.bool false,i6 415,.agg #[(Ac h),i6 (-1)]] (some 43) (.agg (Am.arr (Af false 415 ⟨(h:Int), -1⟩))) (fun w280 hw280=>Bo w280 (hL.ext (hw280.ext rfl)) false 415 (h:Int) (-1)) (fun n281 (hn282:n278≤n281) => ?_)
 refine Dh [1,4,7,8,9,43] [(1,Ac h),(Bg z),(7,i6 (A8 y8)),(Hu h c),(En h c),(EG h)] ?_
 by_cases h283:(((IP c (h:Int):Nat):Int):Int)=1
 ·refine AZ 0 3 [] [[o0,oT,o0]] [ET ((IP c (h:Int):Nat):Int) 1] [(1,Ac h),(Bg z),(7,i6 (A8 y8)),(En h c),(EG h),(45,.bool true),(46,Ac h)] rfl ⟨et,Ae⟩ ?_
  refine Ba 89 #[(Ac h)] (some 47) (.agg #[(Ac h),i6 (-1)]) (fun w284 hw284=>D6 w284 (h:Int)) (fun n285 (hn286:n281≤n285) => ?_)
  refine Dh [1,4,7,9,43,45,47] [(1,Ac h),(Bg z),(7,i6 (A8 y8)),(En h c),(EG h),(45,.bool true),(Nq h)] ?_
  refine Ba 63 #[.bool true,i6 416,.agg #[(Ac h),i6 (-1)]] (some 48) (.agg (Am.arr (Af true 416 ⟨(h:Int), -1⟩))) (fun w287 hw287=>Bo w287 (hL.ext (hw287.ext rfl)) true 416 (h:Int) (-1)) (fun n288 (hn289:n285≤n288) => ?_)
  refine AZ 0 2 [] [[o0,o0]] [] [(1,Ac h),(Bg z),(EG h),(JR h),(Nl h c),(50,i6 (A8 y8))] rfl Ae ?_
  refine Ba 64 #[i6 ((Bz c (h:Int):Nat):Int),i6 1,i6 (A8 y8)] (some 51) (.bool (win ((Bz c (h:Int):Nat):Int) 1 (A8 y8))) (fun w290 hw290=>BZ w290 ((Bz c (h:Int):Nat):Int) 1 (A8 y8)) (fun n291 (hn292:n288≤n291) => ?_)
  refine AZ 0 1 [] [[o0]] [] [(Bg z),(EG h),(JR h),(Il y8 h c),(52,Ac h)] rfl Ae ?_
  refine Ba 89 #[(Ac h)] (some 53) (.agg #[(Ac h),i6 (-1)]) (fun w293 hw293=>D6 w293 (h:Int)) (fun n294 (hn295:n291≤n294) => ?_)
  refine Dh [4,43,48,51,53] [(Bg z),(EG h),(JR h),(Il y8 h c),(Ny h)] ?_
  refine Ba 63 #[.bool (win ((Bz c (h:Int):Nat):Int) 1 (A8 y8)),i6 417,.agg #[(Ac h),i6 (-1)]] (some 54) (.agg (Am.arr (Af (win ((Bz c (h:Int):Nat):Int) 1 (A8 y8)) 417 ⟨(h:Int), -1⟩))) (fun w296 hw296=>Bo w296 (hL.ext (hw296.ext rfl)) (win ((Bz c (h:Int):Nat):Int) 1 (A8 y8)) 417 (h:Int) (-1)) (fun n297 (hn298:n294≤n297) => ?_)
  refine EI 0 1 [] [[o0]] [] [(Bg z),(55,.slice (some ⟨n297,0,none⟩) 3 3)] ⟨w,n297+1,[(Ak w),(FM c z),(IK z),(FY y8 z),(qt5j_10 y8 h c n297)]⟩ rfl Ae ?_
  refine Ba 87 #[.slice (some ⟨n297,0,none⟩) 3 3] (some 56) (.agg (Am.arr (AY [(Af false 415 ⟨(h:Int), -1⟩),(Af true 416 ⟨(h:Int), -1⟩),(Af (win ((Bz c (h:Int):Nat):Int) 1 (A8 y8)) 417 ⟨(h:Int), -1⟩)]))) (fun w299 hw299=>DD w299 (hL.ext (hw299.ext rfl)) ⟨some ⟨n297,0,none⟩,3,[(Af false 415 ⟨(h:Int), -1⟩),(Af true 416 ⟨(h:Int), -1⟩),(Af (win ((Bz c (h:Int):Nat):Int) 1 (A8 y8)) 417 ⟨(h:Int), -1⟩)]⟩ (E8 hw299 (i:=4) [(Af false 415 ⟨(h:Int), -1⟩),(Af true 416 ⟨(h:Int), -1⟩),(Af (win ((Bz c (h:Int):Nat):Int) 1 (A8 y8)) 417 ⟨(h:Int), -1⟩)]) (show 3≤1000 by decide)) (fun n300 (hn301:n297+1≤n300) => ?_)
  refine EI 3 0 [] [[(an 3 2)]] [Qb (z+1),Qb (z+1),Qb (z+1)] [(Bg z)] ⟨w,n300,[(Ak w),(FM c z),(Yj y8 h c z),(FY y8 z),(qt5j_10 y8 h c n297)]⟩ rfl ⟨rfl,rfl,rfl,Ae⟩ ?_
  refine Az [.at 2,.at 2,.at 2] [Qb (z+1),Qb (z+1),Qb (z+1)] (.agg #[i6 ((AY [(Af false 415 ⟨(h:Int), -1⟩),(Af true 416 ⟨(h:Int), -1⟩),(Af (win ((Bz c (h:Int):Nat):Int) 1 (A8 y8)) 417 ⟨(h:Int), -1⟩)]).e),i6 ((AY [(Af false 415 ⟨(h:Int), -1⟩),(Af true 416 ⟨(h:Int), -1⟩),(Af (win ((Bz c (h:Int):Nat):Int) 1 (A8 y8)) 417 ⟨(h:Int), -1⟩)]).Ag.First),i6 ((AY [(Af false 415 ⟨(h:Int), -1⟩),(Af true 416 ⟨(h:Int), -1⟩),(Af (win ((Bz c (h:Int):Nat):Int) 1 (A8 y8)) 417 ⟨(h:Int), -1⟩)]).Ag.Second)]) ⟨rfl,rfl,rfl,Ae⟩ ?_
  intro w302 hw302
  have e0:LD c h=y8:=hy8.symm
  have eC:Dp c h=(AY [(Af false 415 ⟨(h:Int), -1⟩),(Af true 416 ⟨(h:Int), -1⟩),(Af (win ((Bz c (h:Int):Nat):Int) 1 (A8 y8)) 417 ⟨(h:Int), -1⟩)]):=by unfold Dp;simp only[e0];simp[h178,h283]
  exact⟨congrArg (fun t=>Ending.returned (Value.agg (Am.arr t))) eC.symm,AB hw302⟩
 refine AZ 0 3 [] [[o0,oF,o0]] [EF ((IP c (h:Int):Nat):Int) 1] [(1,Ac h),(Bg z),(7,i6 (A8 y8)),(En h c),(EG h),(45,.bool false),(46,Ac h)] rfl ⟨ef,Ae⟩ ?_
 refine Ba 89 #[(Ac h)] (some 47) (.agg #[(Ac h),i6 (-1)]) (fun w303 hw303=>D6 w303 (h:Int)) (fun n304 (hn305:n281≤n304) => ?_)
 refine Dh [1,4,7,9,43,45,47] [(1,Ac h),(Bg z),(7,i6 (A8 y8)),(En h c),(EG h),(45,.bool false),(Nq h)] ?_
 refine Ba 63 #[.bool false,i6 416,.agg #[(Ac h),i6 (-1)]] (some 48) (.agg (Am.arr (Af false 416 ⟨(h:Int), -1⟩))) (fun w306 hw306=>Bo w306 (hL.ext (hw306.ext rfl)) false 416 (h:Int) (-1)) (fun n307 (hn308:n304≤n307) => ?_)
 refine AZ 0 2 [] [[o0,o0]] [] [(1,Ac h),(Bg z),(EG h),(JJ h),(Nl h c),(50,i6 (A8 y8))] rfl Ae ?_
 refine Ba 64 #[i6 ((Bz c (h:Int):Nat):Int),i6 1,i6 (A8 y8)] (some 51) (.bool (win ((Bz c (h:Int):Nat):Int) 1 (A8 y8))) (fun w309 hw309=>BZ w309 ((Bz c (h:Int):Nat):Int) 1 (A8 y8)) (fun n310 (hn311:n307≤n310) => ?_)
 refine AZ 0 1 [] [[o0]] [] [(Bg z),(EG h),(JJ h),(Il y8 h c),(52,Ac h)] rfl Ae ?_
 refine Ba 89 #[(Ac h)] (some 53) (.agg #[(Ac h),i6 (-1)]) (fun w312 hw312=>D6 w312 (h:Int)) (fun n313 (hn314:n310≤n313) => ?_)
 refine Dh [4,43,48,51,53] [(Bg z),(EG h),(JJ h),(Il y8 h c),(Ny h)] ?_
 refine Ba 63 #[.bool (win ((Bz c (h:Int):Nat):Int) 1 (A8 y8)),i6 417,.agg #[(Ac h),i6 (-1)]] (some 54) (.agg (Am.arr (Af (win ((Bz c (h:Int):Nat):Int) 1 (A8 y8)) 417 ⟨(h:Int), -1⟩))) (fun w315 hw315=>Bo w315 (hL.ext (hw315.ext rfl)) (win ((Bz c (h:Int):Nat):Int) 1 (A8 y8)) 417 (h:Int) (-1)) (fun n316 (hn317:n313≤n316) => ?_)
 refine EI 0 1 [] [[o0]] [] [(Bg z),(55,.slice (some ⟨n316,0,none⟩) 3 3)] ⟨w,n316+1,[(Ak w),(FM c z),(IK z),(FY y8 z),(qt5j_7 y8 h c n316)]⟩ rfl Ae ?_
 refine Ba 87 #[.slice (some ⟨n316,0,none⟩) 3 3] (some 56) (.agg (Am.arr (AY [(Af false 415 ⟨(h:Int), -1⟩),(Af false 416 ⟨(h:Int), -1⟩),(Af (win ((Bz c (h:Int):Nat):Int) 1 (A8 y8)) 417 ⟨(h:Int), -1⟩)]))) (fun w318 hw318=>DD w318 (hL.ext (hw318.ext rfl)) ⟨some ⟨n316,0,none⟩,3,[(Af false 415 ⟨(h:Int), -1⟩),(Af false 416 ⟨(h:Int), -1⟩),(Af (win ((Bz c (h:Int):Nat):Int) 1 (A8 y8)) 417 ⟨(h:Int), -1⟩)]⟩ (E8 hw318 (i:=4) [(Af false 415 ⟨(h:Int), -1⟩),(Af false 416 ⟨(h:Int), -1⟩),(Af (win ((Bz c (h:Int):Nat):Int) 1 (A8 y8)) 417 ⟨(h:Int), -1⟩)]) (show 3≤1000 by decide)) (fun n319 (hn320:n316+1≤n319) => ?_)
 refine EI 3 0 [] [[(an 3 2)]] [Qb (z+1),Qb (z+1),Qb (z+1)] [(Bg z)] ⟨w,n319,[(Ak w),(FM c z),(XU y8 h c z),(FY y8 z),(qt5j_7 y8 h c n316)]⟩ rfl ⟨rfl,rfl,rfl,Ae⟩ ?_
 refine Az [.at 2,.at 2,.at 2] [Qb (z+1),Qb (z+1),Qb (z+1)] (.agg #[i6 ((AY [(Af false 415 ⟨(h:Int), -1⟩),(Af false 416 ⟨(h:Int), -1⟩),(Af (win ((Bz c (h:Int):Nat):Int) 1 (A8 y8)) 417 ⟨(h:Int), -1⟩)]).e),i6 ((AY [(Af false 415 ⟨(h:Int), -1⟩),(Af false 416 ⟨(h:Int), -1⟩),(Af (win ((Bz c (h:Int):Nat):Int) 1 (A8 y8)) 417 ⟨(h:Int), -1⟩)]).Ag.First),i6 ((AY [(Af false 415 ⟨(h:Int), -1⟩),(Af false 416 ⟨(h:Int), -1⟩),(Af (win ((Bz c (h:Int):Nat):Int) 1 (A8 y8)) 417 ⟨(h:Int), -1⟩)]).Ag.Second)]) ⟨rfl,rfl,rfl,Ae⟩ ?_
 intro w321 hw321
 have e0:LD c h=y8:=hy8.symm
 have eC:Dp c h=(AY [(Af false 415 ⟨(h:Int), -1⟩),(Af false 416 ⟨(h:Int), -1⟩),(Af (win ((Bz c (h:Int):Nat):Int) 1 (A8 y8)) 417 ⟨(h:Int), -1⟩)]):=by unfold Dp;simp only[e0];simp[h178,h283]
 exact⟨congrArg (fun t=>Ending.returned (Value.agg (Am.arr t))) eC.symm,AB hw321⟩
end Go.Proofs.YtlccogilgegnfaaDoor.Ad
